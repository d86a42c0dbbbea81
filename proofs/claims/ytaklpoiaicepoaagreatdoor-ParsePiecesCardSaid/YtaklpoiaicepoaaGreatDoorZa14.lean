/- A part of the proof: see the row's text. -/
import Derived.Test.YtaklpoiaicepoaaGreatDoorZa12
import Derived.Test.YtaklpoiaicepoaaGreatDoorZa13
set_option linter.unusedVariables false
set_option linter.unusedSimpArgs false
noncomputable section
namespace Go.Sx.Tryz
open Go Go.Sx Go.Proofs
set_option maxRecDepth 100000
def Es{α:Type}(O:Ok [tI] α)(W:Int→Int→α)(V:Nat→α)(B:Bd α)(p:Fns)(T:TT)(K:KK)(U:Int→Int→List Nd→Int→Int→Int→List Int→α)(a d:Int)(A:List Nd):α:=(B (Fns.next p T K a d A ()) fun y7 a7 d7 A7=>(B (Fns.goIn p T K a7 d7 A7 ()) fun y11 a11 d11 A11=>(B (Fns.want p T K a11 d11 A11 ([123],())) fun y15 a15 d15 A15=>U a15 d15 A15 (ak y7.1) (ab y7.1) (tTo y7.1) [])))
def JG(p:Fns)(T:TT)(K:KK)(L0:Int→Int→List Nd→Int→Int→Int→List Int→PR (an [tI]))(a d:Int)(A:List Nd):PR (an [tI]):=Es oP PR.fault eP PR.bind p T K L0 a d A
theorem Sl(p:Fns)(T:TT)(K:KK)(J:Jump R0)(L0:Int→Int→List Nd→Int→Int→Int→List Int→PR (an [tI]))(h0:∀(a d:Int) (A:List Nd) (k f t:Int) (L:List Int),Ans [tI] T K (J 0 (Gt T K a d A k f t L)) (L0 a d A k f t L))(a d:Int)(A:List Nd):Ans [tI] T K (start (R:=R0) E (au (bg p)) F1 Hk J [.ref 0 0] (bsP T K a d A) .ok) (JG p T K L0 a d A):=mkA (x:=Es (oR T K) fl0 .err bR p T K (fun a d A k f t L=>J 0 (Gt T K a d A k f t L)) a d A) (by kernel_rfl) (by unfold JG Es;repeat (first|exact h0 _ _ _ _ _ _ _|exact Ans.bad|exact Ans.flt|exact⟨_,_,_,[],rfl,rfl,rfl⟩|exact⟨_,_,_,_,rfl,rfl,rfl⟩|refine Ans.bif (fun _=>?_) (fun _=>?_)|refine Ans.bind (fun _ _ _ _ _=>?_) (fun _ _=>Ans.flt)))
def CR{α:Type}(O:Ok [tI] α)(W:Int→Int→α)(V:Nat→α)(B:Bd α)(p:Fns)(T:TT)(K:KK)(U:Int→Int→List Nd→Int→Int→Int→List Int→α)(a d:Int)(A:List Nd)(k f t:Int)(L:List Int):α:=(B (Fns.isS p T K a d A ([125],())) fun y11 a11 d11 A11=>bif !y11.1 then(B (Fns.stat p T K a11 d11 A11 ()) fun y15 a15 d15 A15=>bif decide (List.length L+List.length [y15.1]<ao)then U a15 d15 A15 k f t (L++([y15.1]:List Int))else V 604)else(B (Fns.want p T K a11 d11 A11 ([125],())) fun y15 a15 d15 A15=>(B (Fns.add p T K a15 (IntKind.wrap IntKind.i64 (d15-1)) A15 ((mkN 8 0 0 L [] 0 [] 0 [] 0 0 0 []),f,())) fun y19 a19 d19 A19=>O 4 (Iz y19.1) [] (y19.1,()) a19 d19 A19)))
def GY(p:Fns)(T:TT)(K:KK)(L0:Int→Int→List Nd→Int→Int→Int→List Int→PR (an [tI]))(a d:Int)(A:List Nd)(k f t:Int)(L:List Int):PR (an [tI]):=CR oP PR.fault eP PR.bind p T K L0 a d A k f t L
theorem TM(p:Fns)(T:TT)(K:KK)(J:Jump R0)(L0:Int→Int→List Nd→Int→Int→Int→List Int→PR (an [tI]))(h0:∀(a d:Int) (A:List Nd) (k f t:Int) (L:List Int),Ans [tI] T K (J 0 (Gt T K a d A k f t L)) (L0 a d A k f t L))(a d:Int)(A:List Nd)(k f t:Int)(L:List Int):Ans [tI] T K (resume (R:=R0) E (au (bg p)) (aT 2 Hk 0) J [true,true,true,true,true,false,false,false] F1.code 1 (Gt T K a d A k f t L) (cv E 2 F1.results .ok)) (GY p T K L0 a d A k f t L):=mkA (x:=CR (oR T K) fl0 .err bR p T K (fun a d A k f t L=>J 0 (Gt T K a d A k f t L)) a d A k f t L) (by kernel_rfl) (by unfold GY CR;repeat (first|exact h0 _ _ _ _ _ _ _|exact Ans.bad|exact Ans.flt|exact⟨_,_,_,[],rfl,rfl,rfl⟩|exact⟨_,_,_,_,rfl,rfl,rfl⟩|refine Ans.bif (fun _=>?_) (fun _=>?_)|refine Ans.bind (fun _ _ _ _ _=>?_) (fun _ _=>Ans.flt)))
def Gl(p:Fns)(T:TT)(K:KK):Nat→Int→Int→List Nd→Int→Int→Int→List Int→PR (an [tI])
 |0=>fun _ _ _ _ _ _ _=>.bad
 |n+1=>GY p T K (Gl p T K n)
theorem Q9(p:Fns)(T:TT)(K:KK):∀(n:Nat) (a d:Int) (A:List Nd) (k f t:Int) (L:List Int),Ans [tI] T K (pieces (R:=R0) E (au (bg p)) F1 Hk 2 .ok n 0 (Gt T K a d A k f t L)) (Gl p T K n a d A k f t L)
 |0,_,_,_,_,_,_,_=>Ans.bad
 |n+1,a,d,A,k,f,t,L=>by
  rw[aU rfl]
  exact TM p T K _ _ (Q9 p T K n) a d A k f t L
def R8(p:Fns)(T:TT)(K:KK)(a d:Int)(A:NN):PR (an [tI]):=JG p T K (Gl p T K (K.length+2)) a d A
def Ep{α:Type}(O:Ok [tL] α)(W:Int→Int→α)(V:Nat→α)(B:Bd α)(p:Fns)(T:TT)(K:KK)(U:Int→Int→List Nd→List Int→α)(a d:Int)(A:List Nd):α:=(B (Fns.want p T K a d A ([40],())) fun y7 a7 d7 A7=>U a7 d7 A7 [])
def HC(p:Fns)(T:TT)(K:KK)(L0:Int→Int→List Nd→List Int→PR (an [tL]))(a d:Int)(A:List Nd):PR (an [tL]):=Ep oP PR.fault eP PR.bind p T K L0 a d A
theorem Sp(p:Fns)(T:TT)(K:KK)(J:Jump R0)(L0:Int→Int→List Nd→List Int→PR (an [tL]))(h0:∀(a d:Int) (A:List Nd) (L:List Int),ct [tL] kZ fy T K (J 0 (GH T K a d A L)) (L0 a d A L))(a d:Int)(A:List Nd):ct [tL] kZ fy T K (start (R:=R0) E (au (bg p)) FW HL J [.ref 0 0] (bsP T K a d A) .ok) (HC p T K L0 a d A):=mkG (x:=Ep (oR T K) fl0 .err bR p T K (fun a d A L=>J 0 (GH T K a d A L)) a d A) (by kernel_rfl) (by unfold HC Ep;repeat (first|exact h0 _ _ _ _|exact ct.bad|exact ct.flt|exact⟨_,rfl⟩|refine ct.bif (fun _=>?_) (fun _=>?_)|refine ct.bind (fun _ _ _ _ _=>?_) (fun _ _=>ct.flt)))
def CU{α:Type}(O:Ok [tL] α)(W:Int→Int→α)(V:Nat→α)(B:Bd α)(p:Fns)(T:TT)(K:KK)(U:Int→Int→List Nd→List Int→α)(a d:Int)(A:List Nd)(L:List Int):α:=(B (Fns.take p T K a d A ([41],())) fun y8 a8 d8 A8=>bif !y8.1 then bif decide ((↑(List.length L):Int)>0)then(B (Fns.want p T K a8 d8 A8 ([44],())) fun y12 a12 d12 A12=>(B (Fns.few p T K a12 d12 A12 (IntKind.wrap IntKind.i64 ((↑(List.length L):Int)+1),())) fun y16 a16 d16 A16=>(B (Fns.next p T K a16 d16 A16 ()) fun y20 a20 d20 A20=>(B (Fns.typed p T K a20 d20 A20 (false,())) fun y24 a24 d24 A24=>(B (Fns.name p T K a24 d24 A24 ()) fun y28 a28 d28 A28=>(B (Fns.add p T K a28 d28 A28 ((mkN 7 (nAt y24.1) (nTo y24.1) (ai y24.1) y28.1 (ar y24.1) (aB y24.1) (ah y24.1) (ag y24.1) (nN y24.1) (nW1 y24.1) (nW2 y24.1) (aI y24.1)),ab y20.1,())) fun y32 a32 d32 A32=>bif decide (List.length L+List.length [y32.1]<ao)then U a32 d32 A32 (L++([y32.1]:List Int))else V 1008))))))else(B (Fns.few p T K a8 d8 A8 (IntKind.wrap IntKind.i64 ((↑(List.length L):Int)+1),())) fun y12 a12 d12 A12=>(B (Fns.next p T K a12 d12 A12 ()) fun y16 a16 d16 A16=>(B (Fns.typed p T K a16 d16 A16 (false,())) fun y20 a20 d20 A20=>(B (Fns.name p T K a20 d20 A20 ()) fun y24 a24 d24 A24=>(B (Fns.add p T K a24 d24 A24 ((mkN 7 (nAt y20.1) (nTo y20.1) (ai y20.1) y24.1 (ar y20.1) (aB y20.1) (ah y20.1) (ag y20.1) (nN y20.1) (nW1 y20.1) (nW2 y20.1) (aI y20.1)),ab y16.1,())) fun y28 a28 d28 A28=>bif decide (List.length L+List.length [y28.1]<ao)then U a28 d28 A28 (L++([y28.1]:List Int))else V 1008)))))else O 2 (AV.own 2 0) [Blk.list 3 (Ty.int IntKind.i64) 0 false L] (L,()) a8 d8 A8)
def JU(p:Fns)(T:TT)(K:KK)(L0:Int→Int→List Nd→List Int→PR (an [tL]))(a d:Int)(A:List Nd)(L:List Int):PR (an [tL]):=CU oP PR.fault eP PR.bind p T K L0 a d A L
theorem RE(p:Fns)(T:TT)(K:KK)(J:Jump R0)(L0:Int→Int→List Nd→List Int→PR (an [tL]))(h0:∀(a d:Int) (A:List Nd) (L:List Int),ct [tL] kZ fy T K (J 0 (GH T K a d A L)) (L0 a d A L))(a d:Int)(A:List Nd)(L:List Int):ct [tL] kZ fy T K (resume (R:=R0) E (au (bg p)) (aT 2 HL 0) J [true,true,true,false,false,false] FW.code 1 (GH T K a d A L) (cv E 2 FW.results .ok)) (JU p T K L0 a d A L):=mkG (x:=CU (oR T K) fl0 .err bR p T K (fun a d A L=>J 0 (GH T K a d A L)) a d A L) (by kernel_rfl) (by unfold JU CU;repeat (first|exact h0 _ _ _ _|exact ct.bad|exact ct.flt|exact⟨_,rfl⟩|refine ct.bif (fun _=>?_) (fun _=>?_)|refine ct.bind (fun _ _ _ _ _=>?_) (fun _ _=>ct.flt)))
def BQ(p:Fns)(T:TT)(K:KK):Nat→Int→Int→List Nd→List Int→PR (an [tL])
 |0=>fun _ _ _ _=>.bad
 |n+1=>JU p T K (BQ p T K n)
theorem S9(p:Fns)(T:TT)(K:KK):∀(n:Nat) (a d:Int) (A:List Nd) (L:List Int),ct [tL] kZ fy T K (pieces (R:=R0) E (au (bg p)) FW HL 2 .ok n 0 (GH T K a d A L)) (BQ p T K n a d A L)
 |0,_,_,_,_=>ct.bad
 |n+1,a,d,A,L=>by
  rw[aU rfl]
  exact RE p T K _ _ (S9 p T K n) a d A L
def TC(p:Fns)(T:TT)(K:KK)(a d:Int)(A:NN):PR (an [tL]):=HC p T K (BQ p T K (K.length+2)) a d A
def xT{α:Type}(O:Ok [tL] α)(W:Int→Int→α)(V:Nat→α)(B:Bd α)(p:Fns)(T:TT)(K:KK)(U:Int→Int→List Nd→List Int→α)(a d:Int)(A:List Nd):α:=(B (Fns.want p T K a d A ([40],())) fun y7 a7 d7 A7=>U a7 d7 A7 [])
def Bb(p:Fns)(T:TT)(K:KK)(L0:Int→Int→List Nd→List Int→PR (an [tL]))(a d:Int)(A:List Nd):PR (an [tL]):=xT oP PR.fault eP PR.bind p T K L0 a d A
theorem QY(p:Fns)(T:TT)(K:KK)(J:Jump R0)(L0:Int→Int→List Nd→List Int→PR (an [tL]))(h0:∀(a d:Int) (A:List Nd) (L:List Int),ct [tL] kZ fy T K (J 0 (wF T K a d A L)) (L0 a d A L))(a d:Int)(A:List Nd):ct [tL] kZ fy T K (start (R:=R0) E (au (bg p)) wa BN J [.ref 0 0] (bsP T K a d A) .ok) (Bb p T K L0 a d A):=mkG (x:=xT (oR T K) fl0 .err bR p T K (fun a d A L=>J 0 (wF T K a d A L)) a d A) (by kernel_rfl) (by unfold Bb xT;repeat (first|exact h0 _ _ _ _|exact ct.bad|exact ct.flt|exact⟨_,rfl⟩|refine ct.bif (fun _=>?_) (fun _=>?_)|refine ct.bind (fun _ _ _ _ _=>?_) (fun _ _=>ct.flt)))
def yx{α:Type}(O:Ok [tL] α)(W:Int→Int→α)(V:Nat→α)(B:Bd α)(p:Fns)(T:TT)(K:KK)(U:Int→Int→List Nd→List Int→α)(a d:Int)(A:List Nd)(L:List Int):α:=(B (Fns.take p T K a d A ([41],())) fun y8 a8 d8 A8=>bif !y8.1 then bif decide ((↑(List.length L):Int)>0)then(B (Fns.want p T K a8 d8 A8 ([44],())) fun y12 a12 d12 A12=>(B (Fns.few p T K a12 d12 A12 (IntKind.wrap IntKind.i64 ((↑(List.length L):Int)+1),())) fun y16 a16 d16 A16=>(B (Fns.value p T K a16 d16 A16 ()) fun y20 a20 d20 A20=>bif decide (List.length L+List.length [y20.1]<ao)then U a20 d20 A20 (L++([y20.1]:List Int))else V 704)))else(B (Fns.few p T K a8 d8 A8 (IntKind.wrap IntKind.i64 ((↑(List.length L):Int)+1),())) fun y12 a12 d12 A12=>(B (Fns.value p T K a12 d12 A12 ()) fun y16 a16 d16 A16=>bif decide (List.length L+List.length [y16.1]<ao)then U a16 d16 A16 (L++([y16.1]:List Int))else V 704))else O 2 (AV.own 2 0) [Blk.list 3 (Ty.int IntKind.i64) 0 false L] (L,()) a8 d8 A8)
def AS(p:Fns)(T:TT)(K:KK)(L0:Int→Int→List Nd→List Int→PR (an [tL]))(a d:Int)(A:List Nd)(L:List Int):PR (an [tL]):=yx oP PR.fault eP PR.bind p T K L0 a d A L
theorem Pp(p:Fns)(T:TT)(K:KK)(J:Jump R0)(L0:Int→Int→List Nd→List Int→PR (an [tL]))(h0:∀(a d:Int) (A:List Nd) (L:List Int),ct [tL] kZ fy T K (J 0 (wF T K a d A L)) (L0 a d A L))(a d:Int)(A:List Nd)(L:List Int):ct [tL] kZ fy T K (resume (R:=R0) E (au (bg p)) (aT 2 BN 0) J [true,true,true,false,false,false] wa.code 1 (wF T K a d A L) (cv E 2 wa.results .ok)) (AS p T K L0 a d A L):=mkG (x:=yx (oR T K) fl0 .err bR p T K (fun a d A L=>J 0 (wF T K a d A L)) a d A L) (by kernel_rfl) (by unfold AS yx;repeat (first|exact h0 _ _ _ _|exact ct.bad|exact ct.flt|exact⟨_,rfl⟩|refine ct.bif (fun _=>?_) (fun _=>?_)|refine ct.bind (fun _ _ _ _ _=>?_) (fun _ _=>ct.flt)))
def rZ(p:Fns)(T:TT)(K:KK):Nat→Int→Int→List Nd→List Int→PR (an [tL])
 |0=>fun _ _ _ _=>.bad
 |n+1=>AS p T K (rZ p T K n)
theorem MF(p:Fns)(T:TT)(K:KK):∀(n:Nat) (a d:Int) (A:List Nd) (L:List Int),ct [tL] kZ fy T K (pieces (R:=R0) E (au (bg p)) wa BN 2 .ok n 0 (wF T K a d A L)) (rZ p T K n a d A L)
 |0,_,_,_,_=>ct.bad
 |n+1,a,d,A,L=>by
  rw[aU rfl]
  exact Pp p T K _ _ (MF p T K n) a d A L
def M1(p:Fns)(T:TT)(K:KK)(a d:Int)(A:NN):PR (an [tL]):=Bb p T K (rZ p T K (K.length+2)) a d A
def DB{α:Type}(O:Ok [] α)(W:Int→Int→α)(V:Nat→α)(B:Bd α)(p:Fns)(T:TT)(K:KK)(U:Int→Int→List Nd→List Int→α)(a d:Int)(A:List Nd):α:=U a d A []
def IZ(p:Fns)(T:TT)(K:KK)(L0:Int→Int→List Nd→List Int→PR (an []))(a d:Int)(A:List Nd):PR (an []):=DB oP PR.fault eP PR.bind p T K L0 a d A
theorem RG(p:Fns)(T:TT)(K:KK)(J:Jump R0)(L0:Int→Int→List Nd→List Int→PR (an []))(h0:∀(a d:Int) (A:List Nd) (L:List Int),Ans [] T K (J 0 (GF T K a d A L)) (L0 a d A L))(a d:Int)(A:List Nd):Ans [] T K (start (R:=R0) E (au (bg p)) FX GQ J [.ref 0 0] (bsP T K a d A) .ok) (IZ p T K L0 a d A):=mkA (x:=DB (oR T K) fl0 .err bR p T K (fun a d A L=>J 0 (GF T K a d A L)) a d A) (by kernel_rfl) (by unfold IZ DB;repeat (first|exact h0 _ _ _ _|exact Ans.bad|exact Ans.flt|exact⟨_,_,_,[],rfl,rfl,rfl⟩|exact⟨_,_,_,_,rfl,rfl,rfl⟩|refine Ans.bif (fun _=>?_) (fun _=>?_)|refine Ans.bind (fun _ _ _ _ _=>?_) (fun _ _=>Ans.flt)))
def ES{α:Type}(O:Ok [] α)(W:Int→Int→α)(V:Nat→α)(B:Bd α)(p:Fns)(T:TT)(K:KK)(U:Int→Int→List Nd→List Int→α)(a d:Int)(A:List Nd)(L:List Int):α:=(B (Fns.next p T K a d A ()) fun y8 a8 d8 A8=>bif ak y8.1==0 then(B (Fns.add p T K a8 d8 A8 ((mkN 1 0 0 L [] 0 [] 0 [] 0 0 0 []),0,())) fun y12 a12 d12 A12=>O 3 (AV.tup []) [] () a12 d12 A12)else(B (Fns.few p T K a8 d8 A8 (IntKind.wrap IntKind.i64 ((↑(List.length L):Int)+1),())) fun y12 a12 d12 A12=>(B (Fns.klass p T K a12 d12 A12 ()) fun y16 a16 d16 A16=>bif decide (List.length L+List.length [y16.1]<ao)then U a16 d16 A16 (L++([y16.1]:List Int))else V 404)))
def H6(p:Fns)(T:TT)(K:KK)(L0:Int→Int→List Nd→List Int→PR (an []))(a d:Int)(A:List Nd)(L:List Int):PR (an []):=ES oP PR.fault eP PR.bind p T K L0 a d A L
theorem TB(p:Fns)(T:TT)(K:KK)(J:Jump R0)(L0:Int→Int→List Nd→List Int→PR (an []))(h0:∀(a d:Int) (A:List Nd) (L:List Int),Ans [] T K (J 0 (GF T K a d A L)) (L0 a d A L))(a d:Int)(A:List Nd)(L:List Int):Ans [] T K (resume (R:=R0) E (au (bg p)) (aT 2 GQ 0) J [true,false,false,false] FX.code 1 (GF T K a d A L) (cv E 2 FX.results .ok)) (H6 p T K L0 a d A L):=mkA (x:=ES (oR T K) fl0 .err bR p T K (fun a d A L=>J 0 (GF T K a d A L)) a d A L) (by kernel_rfl) (by unfold H6 ES;repeat (first|exact h0 _ _ _ _|exact Ans.bad|exact Ans.flt|exact⟨_,_,_,[],rfl,rfl,rfl⟩|exact⟨_,_,_,_,rfl,rfl,rfl⟩|refine Ans.bif (fun _=>?_) (fun _=>?_)|refine Ans.bind (fun _ _ _ _ _=>?_) (fun _ _=>Ans.flt)))
def GL(p:Fns)(T:TT)(K:KK):Nat→Int→Int→List Nd→List Int→PR (an [])
 |0=>fun _ _ _ _=>.bad
 |n+1=>H6 p T K (GL p T K n)
theorem Rl(p:Fns)(T:TT)(K:KK):∀(n:Nat) (a d:Int) (A:List Nd) (L:List Int),Ans [] T K (pieces (R:=R0) E (au (bg p)) FX GQ 2 .ok n 0 (GF T K a d A L)) (GL p T K n a d A L)
 |0,_,_,_,_=>Ans.bad
 |n+1,a,d,A,L=>by
  rw[aU rfl]
  exact TB p T K _ _ (Rl p T K n) a d A L
def uU(p:Fns)(T:TT)(K:KK)(a d:Int)(A:NN):PR (an []):=IZ p T K (GL p T K (K.length+2)) a d A
def sO{α:Type}(O:Ok [tI] α)(W:Int→Int→α)(V:Nat→α)(B:Bd α)(p:Fns)(T:TT)(K:KK)(U:Int→Int→List Nd→Int→Int→Int→Int→Int→α)(a d:Int)(A:List Nd)(x1:Int):α:=(B (Fns.next p T K a d A ()) fun y8 a8 d8 A8=>bif decide (x1>5)then(B (Fns.unary p T K a8 d8 A8 ()) fun y12 a12 d12 A12=>O 2 (Iz y12.1) [] (y12.1,()) a12 d12 A12)else(B (Fns.chain p T K a8 d8 A8 (IntKind.wrap IntKind.i64 (x1+1),())) fun y12 a12 d12 A12=>U a12 d12 A12 x1 (ak y8.1) (ab y8.1) (tTo y8.1) y12.1))
def vO(p:Fns)(T:TT)(K:KK)(L0:Int→Int→List Nd→Int→Int→Int→Int→Int→PR (an [tI]))(a d:Int)(A:List Nd)(x1:Int):PR (an [tI]):=sO oP PR.fault eP PR.bind p T K L0 a d A x1
theorem Qt(p:Fns)(T:TT)(K:KK)(J:Jump R0)(L0:Int→Int→List Nd→Int→Int→Int→Int→Int→PR (an [tI]))(h0:∀(a d:Int) (A:List Nd) (l k f t x:Int),Ans [tI] T K (J 0 (va T K a d A l k f t x)) (L0 a d A l k f t x))(a d:Int)(A:List Nd)(x1:Int):Ans [tI] T K (start (R:=R0) E (au (bg p)) wE CJ J [.ref 0 0,.int .i64 x1] (bsP T K a d A) .ok) (vO p T K L0 a d A x1):=mkA (x:=sO (oR T K) fl0 .err bR p T K (fun a d A l k f t x=>J 0 (va T K a d A l k f t x)) a d A x1) (by kernel_rfl) (by unfold vO sO;repeat (first|exact h0 _ _ _ _ _ _ _ _|exact Ans.bad|exact Ans.flt|exact⟨_,_,_,[],rfl,rfl,rfl⟩|exact⟨_,_,_,_,rfl,rfl,rfl⟩|refine Ans.bif (fun _=>?_) (fun _=>?_)|refine Ans.bind (fun _ _ _ _ _=>?_) (fun _ _=>Ans.flt)))
def yE{α:Type}(O:Ok [tI] α)(W:Int→Int→α)(V:Nat→α)(B:Bd α)(p:Fns)(T:TT)(K:KK)(U:Int→Int→List Nd→Int→Int→Int→Int→Int→α)(a d:Int)(A:List Nd)(l k f t x:Int):α:=(B (Fns.next p T K a d A ()) fun y12 a12 d12 A12=>bif ak y12.1==5 then bif cU y12.2.1==l then(B (Fns.skip p T K a12 d12 A12 ()) fun y16 a16 d16 A16=>(B (Fns.chain p T K a16 d16 A16 (IntKind.wrap IntKind.i64 (l+1),())) fun y20 a20 d20 A20=>(B (Fns.add p T K a20 d20 A20 ((mkN 34 0 0 ([x,y20.1]) y12.2.1 0 [] 0 [] 0 0 0 []),f,())) fun y24 a24 d24 A24=>U a24 d24 A24 l k f t y24.1)))else bif l==3 then(B (Fns.take p T K a12 d12 A12 ([105,115],())) fun y16 a16 d16 A16=>bif y16.1 then(B (Fns.take p T K a16 d16 A16 ([115,111,109,101],())) fun y20 a20 d20 A20=>bif !y20.1 then(B (Fns.want p T K a20 d20 A20 ([110,111,110,101],())) fun y24 a24 d24 A24=>(B (Fns.add p T K a24 d24 A24 ((mkN 44 0 0 ([x]) [] 0 [] 0 [] 0 0 0 []),f,())) fun y28 a28 d28 A28=>U a28 d28 A28 l k f t y28.1))else(B (Fns.add p T K a20 d20 A20 ((mkN 43 0 0 ([x]) [] 0 [] 0 [] 0 0 0 []),f,())) fun y24 a24 d24 A24=>U a24 d24 A24 l k f t y24.1))else O 3 (Iz x) [] (x,()) a16 d16 A16)else O 2 (Iz x) [] (x,()) a12 d12 A12 else bif l==3 then(B (Fns.take p T K a12 d12 A12 ([105,115],())) fun y16 a16 d16 A16=>bif y16.1 then(B (Fns.take p T K a16 d16 A16 ([115,111,109,101],())) fun y20 a20 d20 A20=>bif !y20.1 then(B (Fns.want p T K a20 d20 A20 ([110,111,110,101],())) fun y24 a24 d24 A24=>(B (Fns.add p T K a24 d24 A24 ((mkN 44 0 0 ([x]) [] 0 [] 0 [] 0 0 0 []),f,())) fun y28 a28 d28 A28=>U a28 d28 A28 l k f t y28.1))else(B (Fns.add p T K a20 d20 A20 ((mkN 43 0 0 ([x]) [] 0 [] 0 [] 0 0 0 []),f,())) fun y24 a24 d24 A24=>U a24 d24 A24 l k f t y24.1))else O 3 (Iz x) [] (x,()) a16 d16 A16)else O 2 (Iz x) [] (x,()) a12 d12 A12)
def Ba(p:Fns)(T:TT)(K:KK)(L0:Int→Int→List Nd→Int→Int→Int→Int→Int→PR (an [tI]))(a d:Int)(A:List Nd)(l k f t x:Int):PR (an [tI]):=yE oP PR.fault eP PR.bind p T K L0 a d A l k f t x
theorem N6(p:Fns)(T:TT)(K:KK)(J:Jump R0)(L0:Int→Int→List Nd→Int→Int→Int→Int→Int→PR (an [tI]))(h0:∀(a d:Int) (A:List Nd) (l k f t x:Int),Ans [tI] T K (J 0 (va T K a d A l k f t x)) (L0 a d A l k f t x))(a d:Int)(A:List Nd)(l k f t x:Int):Ans [tI] T K (resume (R:=R0) E (au (bg p)) (aT 2 CJ 0) J [true,true,true,true,false,false] wE.code 1 (va T K a d A l k f t x) (cv E 2 wE.results .ok)) (Ba p T K L0 a d A l k f t x):=mkA (x:=yE (oR T K) fl0 .err bR p T K (fun a d A l k f t x=>J 0 (va T K a d A l k f t x)) a d A l k f t x) (by kernel_rfl) (by unfold Ba yE;repeat (first|exact h0 _ _ _ _ _ _ _ _|exact Ans.bad|exact Ans.flt|exact⟨_,_,_,[],rfl,rfl,rfl⟩|exact⟨_,_,_,_,rfl,rfl,rfl⟩|refine Ans.bif (fun _=>?_) (fun _=>?_)|refine Ans.bind (fun _ _ _ _ _=>?_) (fun _ _=>Ans.flt)))
def nW(p:Fns)(T:TT)(K:KK):Nat→Int→Int→List Nd→Int→Int→Int→Int→Int→PR (an [tI])
 |0=>fun _ _ _ _ _ _ _ _=>.bad
 |n+1=>Ba p T K (nW p T K n)
theorem MC(p:Fns)(T:TT)(K:KK):∀(n:Nat) (a d:Int) (A:List Nd) (l k f t x:Int),Ans [tI] T K (pieces (R:=R0) E (au (bg p)) wE CJ 2 .ok n 0 (va T K a d A l k f t x)) (nW p T K n a d A l k f t x)
 |0,_,_,_,_,_,_,_,_=>Ans.bad
 |n+1,a,d,A,l,k,f,t,x=>by
  rw[aU rfl]
  exact N6 p T K _ _ (MC p T K n) a d A l k f t x
def Em(p:Fns)(T:TT)(K:KK)(a d:Int)(A:NN)(x1:Int):PR (an [tI]):=vO p T K (nW p T K (K.length+2)) a d A x1
def xL{α:Type}(O:Ok [tI] α)(W:Int→Int→α)(V:Nat→α)(B:Bd α)(p:Fns)(T:TT)(K:KK)(U:Int→Int→List Nd→Int→Int→Int→Int→α)(a d:Int)(A:List Nd):α:=(B (Fns.next p T K a d A ()) fun y7 a7 d7 A7=>(B (Fns.primary p T K a7 d7 A7 ()) fun y11 a11 d11 A11=>U a11 d11 A11 (ak y7.1) (ab y7.1) (tTo y7.1) y11.1))
def zv(p:Fns)(T:TT)(K:KK)(L0:Int→Int→List Nd→Int→Int→Int→Int→PR (an [tI]))(a d:Int)(A:List Nd):PR (an [tI]):=xL oP PR.fault eP PR.bind p T K L0 a d A
theorem PU(p:Fns)(T:TT)(K:KK)(J:Jump R0)(L0:Int→Int→List Nd→Int→Int→Int→Int→PR (an [tI]))(h0:∀(a d:Int) (A:List Nd) (k f t x:Int),Ans [tI] T K (J 0 (wL T K a d A k f t x)) (L0 a d A k f t x))(a d:Int)(A:List Nd):Ans [tI] T K (start (R:=R0) E (au (bg p)) ve Cy J [.ref 0 0] (bsP T K a d A) .ok) (zv p T K L0 a d A):=mkA (x:=xL (oR T K) fl0 .err bR p T K (fun a d A k f t x=>J 0 (wL T K a d A k f t x)) a d A) (by kernel_rfl) (by unfold zv xL;repeat (first|exact h0 _ _ _ _ _ _ _|exact Ans.bad|exact Ans.flt|exact⟨_,_,_,[],rfl,rfl,rfl⟩|exact⟨_,_,_,_,rfl,rfl,rfl⟩|refine Ans.bif (fun _=>?_) (fun _=>?_)|refine Ans.bind (fun _ _ _ _ _=>?_) (fun _ _=>Ans.flt)))
def xp{α:Type}(O:Ok [tI] α)(W:Int→Int→α)(V:Nat→α)(B:Bd α)(p:Fns)(T:TT)(K:KK)(U:Int→Int→List Nd→Int→Int→Int→Int→α)(a d:Int)(A:List Nd)(k f t x:Int):α:=(B (Fns.take p T K a d A ([33],())) fun y11 a11 d11 A11=>bif y11.1 then(B (Fns.add p T K a11 d11 A11 ((mkN 40 0 0 ([x]) [] 0 [] 0 [] 0 0 0 []),f,())) fun y15 a15 d15 A15=>U a15 d15 A15 k f t y15.1)else(B (Fns.take p T K a11 d11 A11 ([91],())) fun y15 a15 d15 A15=>bif y15.1 then(B (Fns.value p T K a15 d15 A15 ()) fun y19 a19 d19 A19=>(B (Fns.want p T K a19 d19 A19 ([93],())) fun y23 a23 d23 A23=>(B (Fns.add p T K a23 d23 A23 ((mkN 27 0 0 ([x,y19.1]) [] 0 [] 0 [] 0 0 0 []),f,())) fun y27 a27 d27 A27=>U a27 d27 A27 k f t y27.1)))else(B (Fns.take p T K a15 d15 A15 ([46],())) fun y19 a19 d19 A19=>bif y19.1 then(B (Fns.part p T K a19 d19 A19 (x,f,())) fun y23 a23 d23 A23=>U a23 d23 A23 k f t y23.1)else O 4 (Iz x) [] (x,()) a19 d19 A19)))
def Aa(p:Fns)(T:TT)(K:KK)(L0:Int→Int→List Nd→Int→Int→Int→Int→PR (an [tI]))(a d:Int)(A:List Nd)(k f t x:Int):PR (an [tI]):=xp oP PR.fault eP PR.bind p T K L0 a d A k f t x
theorem Qs(p:Fns)(T:TT)(K:KK)(J:Jump R0)(L0:Int→Int→List Nd→Int→Int→Int→Int→PR (an [tI]))(h0:∀(a d:Int) (A:List Nd) (k f t x:Int),Ans [tI] T K (J 0 (wL T K a d A k f t x)) (L0 a d A k f t x))(a d:Int)(A:List Nd)(k f t x:Int):Ans [tI] T K (resume (R:=R0) E (au (bg p)) (aT 2 Cy 0) J [true,true,true,false,false] ve.code 1 (wL T K a d A k f t x) (cv E 2 ve.results .ok)) (Aa p T K L0 a d A k f t x):=mkA (x:=xp (oR T K) fl0 .err bR p T K (fun a d A k f t x=>J 0 (wL T K a d A k f t x)) a d A k f t x) (by kernel_rfl) (by unfold Aa xp;repeat (first|exact h0 _ _ _ _ _ _ _|exact Ans.bad|exact Ans.flt|exact⟨_,_,_,[],rfl,rfl,rfl⟩|exact⟨_,_,_,_,rfl,rfl,rfl⟩|refine Ans.bif (fun _=>?_) (fun _=>?_)|refine Ans.bind (fun _ _ _ _ _=>?_) (fun _ _=>Ans.flt)))
def sz(p:Fns)(T:TT)(K:KK):Nat→Int→Int→List Nd→Int→Int→Int→Int→PR (an [tI])
 |0=>fun _ _ _ _ _ _ _=>.bad
 |n+1=>Aa p T K (sz p T K n)
theorem NI(p:Fns)(T:TT)(K:KK):∀(n:Nat) (a d:Int) (A:List Nd) (k f t x:Int),Ans [tI] T K (pieces (R:=R0) E (au (bg p)) ve Cy 2 .ok n 0 (wL T K a d A k f t x)) (sz p T K n a d A k f t x)
 |0,_,_,_,_,_,_,_=>Ans.bad
 |n+1,a,d,A,k,f,t,x=>by
  rw[aU rfl]
  exact Qs p T K _ _ (NI p T K n) a d A k f t x
def Nc(p:Fns)(T:TT)(K:KK)(a d:Int)(A:NN):PR (an [tI]):=zv p T K (sz p T K (K.length+2)) a d A
def DG{α:Type}(O:Ok [tI] α)(W:Int→Int→α)(V:Nat→α)(B:Bd α)(p:Fns)(T:TT)(K:KK)(U:Int→Int→List Nd→Int→Int→Int→List UInt8→List Int→α)(a d:Int)(A:List Nd):α:=(B (Fns.next p T K a d A ()) fun y7 a7 d7 A7=>(B (Fns.want p T K a7 d7 A7 ([99,108,97,115,115],())) fun y11 a11 d11 A11=>(B (Fns.name p T K a11 d11 A11 ()) fun y15 a15 d15 A15=>(B (Fns.next p T K a15 d15 A15 ()) fun y19 a19 d19 A19=>(B (Fns.take p T K a19 d19 A19 ([101,120,116,101,110,100,115],())) fun y23 a23 d23 A23=>bif y23.1 then(B (Fns.name p T K a23 d23 A23 ()) fun y27 a27 d27 A27=>(B (Fns.add p T K a27 d27 A27 ((mkN 3 0 0 [] y27.1 0 [] 0 [] 0 0 0 []),ab y19.1,())) fun y31 a31 d31 A31=>(B (Fns.want p T K a31 d31 A31 ([123],())) fun y35 a35 d35 A35=>U a35 d35 A35 (ak y7.1) (ab y7.1) (tTo y7.1) y15.1 [y31.1])))else(B (Fns.want p T K a23 d23 A23 ([123],())) fun y27 a27 d27 A27=>U a27 d27 A27 (ak y7.1) (ab y7.1) (tTo y7.1) y15.1 []))))))
def IY(p:Fns)(T:TT)(K:KK)(L0:Int→Int→List Nd→Int→Int→Int→List UInt8→List Int→PR (an [tI]))(a d:Int)(A:List Nd):PR (an [tI]):=DG oP PR.fault eP PR.bind p T K L0 a d A
theorem Ry(p:Fns)(T:TT)(K:KK)(J:Jump R0)(L0:Int→Int→List Nd→Int→Int→Int→List UInt8→List Int→PR (an [tI]))(h0:∀(a d:Int) (A:List Nd) (k f t:Int) (s:List UInt8) (L:List Int),Ans [tI] T K (J 0 (Gc T K a d A k f t s L)) (L0 a d A k f t s L))(a d:Int)(A:List Nd):Ans [tI] T K (start (R:=R0) E (au (bg p)) Gm IW J [.ref 0 0] (bsP T K a d A) .ok) (IY p T K L0 a d A):=mkA (x:=DG (oR T K) fl0 .err bR p T K (fun a d A k f t s L=>J 0 (Gc T K a d A k f t s L)) a d A) (by kernel_rfl) (by unfold IY DG;repeat (first|exact h0 _ _ _ _ _ _ _ _|exact Ans.bad|exact Ans.flt|exact⟨_,_,_,[],rfl,rfl,rfl⟩|exact⟨_,_,_,_,rfl,rfl,rfl⟩|refine Ans.bif (fun _=>?_) (fun _=>?_)|refine Ans.bind (fun _ _ _ _ _=>?_) (fun _ _=>Ans.flt)))
def Eh{α:Type}(O:Ok [tI] α)(W:Int→Int→α)(V:Nat→α)(B:Bd α)(p:Fns)(T:TT)(K:KK)(U:Int→Int→List Nd→Int→Int→Int→List UInt8→List Int→α)(a d:Int)(A:List Nd)(k f t:Int)(s:List UInt8)(L:List Int):α:=(B (Fns.isS p T K a d A ([125],())) fun y12 a12 d12 A12=>bif !y12.1 then(B (Fns.few p T K a12 d12 A12 (IntKind.wrap IntKind.i64 ((↑(List.length L):Int)+1),())) fun y16 a16 d16 A16=>(B (Fns.member p T K a16 d16 A16 ()) fun y20 a20 d20 A20=>bif decide (List.length L+List.length [y20.1]<ao)then U a20 d20 A20 k f t s (L++([y20.1]:List Int))else V 1005))else(B (Fns.want p T K a12 d12 A12 ([125],())) fun y16 a16 d16 A16=>(B (Fns.add p T K a16 d16 A16 ((mkN 2 0 0 L s 0 [] 0 [] 0 0 0 []),f,())) fun y20 a20 d20 A20=>O 4 (Iz y20.1) [] (y20.1,()) a20 d20 A20)))
def JQ(p:Fns)(T:TT)(K:KK)(L0:Int→Int→List Nd→Int→Int→Int→List UInt8→List Int→PR (an [tI]))(a d:Int)(A:List Nd)(k f t:Int)(s:List UInt8)(L:List Int):PR (an [tI]):=Eh oP PR.fault eP PR.bind p T K L0 a d A k f t s L
theorem RD(p:Fns)(T:TT)(K:KK)(J:Jump R0)(L0:Int→Int→List Nd→Int→Int→Int→List UInt8→List Int→PR (an [tI]))(h0:∀(a d:Int) (A:List Nd) (k f t:Int) (s:List UInt8) (L:List Int),Ans [tI] T K (J 0 (Gc T K a d A k f t s L)) (L0 a d A k f t s L))(a d:Int)(A:List Nd)(k f t:Int)(s:List UInt8)(L:List Int):Ans [tI] T K (resume (R:=R0) E (au (bg p)) (aT 2 IW 0) J [true,true,true,true,true,true,false,false,false] Gm.code 1 (Gc T K a d A k f t s L) (cv E 2 Gm.results .ok)) (JQ p T K L0 a d A k f t s L):=mkA (x:=Eh (oR T K) fl0 .err bR p T K (fun a d A k f t s L=>J 0 (Gc T K a d A k f t s L)) a d A k f t s L) (by kernel_rfl) (by unfold JQ Eh;repeat (first|exact h0 _ _ _ _ _ _ _ _|exact Ans.bad|exact Ans.flt|exact⟨_,_,_,[],rfl,rfl,rfl⟩|exact⟨_,_,_,_,rfl,rfl,rfl⟩|refine Ans.bif (fun _=>?_) (fun _=>?_)|refine Ans.bind (fun _ _ _ _ _=>?_) (fun _ _=>Ans.flt)))
def FY(p:Fns)(T:TT)(K:KK):Nat→Int→Int→List Nd→Int→Int→Int→List UInt8→List Int→PR (an [tI])
 |0=>fun _ _ _ _ _ _ _ _=>.bad
 |n+1=>JQ p T K (FY p T K n)
theorem Rp(p:Fns)(T:TT)(K:KK):∀(n:Nat) (a d:Int) (A:List Nd) (k f t:Int) (s:List UInt8) (L:List Int),Ans [tI] T K (pieces (R:=R0) E (au (bg p)) Gm IW 2 .ok n 0 (Gc T K a d A k f t s L)) (FY p T K n a d A k f t s L)
 |0,_,_,_,_,_,_,_,_=>Ans.bad
 |n+1,a,d,A,k,f,t,s,L=>by
  rw[aU rfl]
  exact RD p T K _ _ (Rp p T K n) a d A k f t s L
def Sg(p:Fns)(T:TT)(K:KK)(a d:Int)(A:NN):PR (an [tI]):=IY p T K (FY p T K (K.length+2)) a d A
end Go.Sx.Tryz
namespace Go.Sx.Tryz
open Go Go.Sx Go.Proofs
set_option maxRecDepth 100000
def ym{α:Type}(O:Ok [tI] α)(W:Int→Int→α)(V:Nat→α)(B:Bd α)(p:Fns)(T:TT)(K:KK)(a d:Int)(A:NN)(x1:Int):α:=(B (Fns.value p T K a d A ()) fun y7 a7 d7 A7=>(B (Fns.next p T K a7 d7 A7 ()) fun y11 a11 d11 A11=>bif inI y7.1 (List.length A11)then bif Nat.ble (List.length (ai (af A11 (Int.toNat y7.1)))) 17592186044416 then bif Nat.ble (List.length (aI (af A11 (Int.toNat y7.1)))) 17592186044416 then(B (Fns.take p T K a11 d11 A11 ([61],())) fun y15 a15 d15 A15=>bif y15.1 then bif aj (af A11 (Int.toNat y7.1)) !=25 then bif aj (af A11 (Int.toNat y7.1)) !=26 then bif aj (af A11 (Int.toNat y7.1)) !=27 then W ((132:Int)) (ab y11.1)else(B (Fns.value p T K a15 d15 A15 ()) fun y19 a19 d19 A19=>(B (Fns.want p T K a19 d19 A19 ([59],())) fun y23 a23 d23 A23=>(B (Fns.add p T K a23 d23 A23 ((mkN 10 0 0 ([y7.1,y19.1]) [] 0 [] 0 [] 0 0 0 []),x1,())) fun y27 a27 d27 A27=>O 6 (Iz y27.1) [] (y27.1,()) a27 d27 A27)))else(B (Fns.value p T K a15 d15 A15 ()) fun y19 a19 d19 A19=>(B (Fns.want p T K a19 d19 A19 ([59],())) fun y23 a23 d23 A23=>(B (Fns.add p T K a23 d23 A23 ((mkN 10 0 0 ([y7.1,y19.1]) [] 0 [] 0 [] 0 0 0 []),x1,())) fun y27 a27 d27 A27=>O 6 (Iz y27.1) [] (y27.1,()) a27 d27 A27)))else(B (Fns.value p T K a15 d15 A15 ()) fun y19 a19 d19 A19=>(B (Fns.want p T K a19 d19 A19 ([59],())) fun y23 a23 d23 A23=>(B (Fns.add p T K a23 d23 A23 ((mkN 10 0 0 ([y7.1,y19.1]) [] 0 [] 0 [] 0 0 0 []),x1,())) fun y27 a27 d27 A27=>O 6 (Iz y27.1) [] (y27.1,()) a27 d27 A27)))else bif aj (af A11 (Int.toNat y7.1)) !=29 then bif aj (af A11 (Int.toNat y7.1)) !=30 then W ((132:Int)) x1 else(B (Fns.want p T K a15 d15 A15 ([59],())) fun y19 a19 d19 A19=>(B (Fns.add p T K a19 d19 A19 ((mkN 18 0 0 ([y7.1]) [] 0 [] 0 [] 0 0 0 []),x1,())) fun y23 a23 d23 A23=>O 5 (Iz y23.1) [] (y23.1,()) a23 d23 A23))else(B (Fns.want p T K a15 d15 A15 ([59],())) fun y19 a19 d19 A19=>(B (Fns.add p T K a19 d19 A19 ((mkN 18 0 0 ([y7.1]) [] 0 [] 0 [] 0 0 0 []),x1,())) fun y23 a23 d23 A23=>O 5 (Iz y23.1) [] (y23.1,()) a23 d23 A23)))else V 1000078 else V 1000078 else V 106))
def u7(p:Fns)(T:TT)(K:KK)(a d:Int)(A:NN)(x1:Int):PR (an [tI]):=ym oP PR.fault eP PR.bind p T K a d A x1
theorem QD(p:Fns)(T:TT)(K:KK)(a d:Int)(A:NN)(x1:Int):Ans [tI] T K (body (R:=R0) E (au (bg p)) IV [.ref 0 0,.int .i64 x1] (bsP T K a d A) .ok) (u7 p T K a d A x1):=mkA (x:=ym (oR T K) fl0 .err bR p T K a d A x1) (by kernel_rfl) (by unfold u7 ym;exact An)
def yy{α:Type}(O:Ok [tN] α)(W:Int→Int→α)(V:Nat→α)(B:Bd α)(p:Fns)(T:TT)(K:KK)(U:Int→Int→List Nd→Int→Int→Int→List UInt8→Int→List UInt8→Int→List UInt8→Int→Int→Int→List Int→α)(a d:Int)(A:List Nd):α:=(B (Fns.base p T K a d A ()) fun y7 a7 d7 A7=>U a7 d7 A7 (aj y7.1) (nAt y7.1) (nTo y7.1) (aF y7.1) (ar y7.1) (aB y7.1) (ah y7.1) (ag y7.1) (nN y7.1) (nW1 y7.1) (nW2 y7.1) (aI y7.1))
def AI(p:Fns)(T:TT)(K:KK)(L0:Int→Int→List Nd→Int→Int→Int→List UInt8→Int→List UInt8→Int→List UInt8→Int→Int→Int→List Int→PR (an [tN]))(a d:Int)(A:List Nd):PR (an [tN]):=yy oP PR.fault eP PR.bind p T K L0 a d A
theorem NV(p:Fns)(T:TT)(K:KK)(J:Jump R0)(L0:Int→Int→List Nd→Int→Int→Int→List UInt8→Int→List UInt8→Int→List UInt8→Int→Int→Int→List Int→PR (an [tN]))(h0:∀(a d:Int) (A:List Nd) (k0 a0 t0:Int) (s0:List UInt8) (b:Int) (nm:List UInt8) (dm:Int) (mr:List UInt8) (n0 w1 w2:Int) (L:List Int),Ans [tN] T K (J 0 (wB T K a d A k0 a0 t0 s0 b nm dm mr n0 w1 w2 L)) (L0 a d A k0 a0 t0 s0 b nm dm mr n0 w1 w2 L))(a d:Int)(A:List Nd):Ans [tN] T K (start (R:=R0) E (au (bg p)) vk Cc J [.ref 0 0] (bsP T K a d A) .ok) (AI p T K L0 a d A):=mkA (x:=yy (oR T K) fl0 .err bR p T K (fun a d A k0 a0 t0 s0 b nm dm mr n0 w1 w2 L=>J 0 (wB T K a d A k0 a0 t0 s0 b nm dm mr n0 w1 w2 L)) a d A) (by kernel_rfl) (by unfold AI yy;repeat (first|exact h0 _ _ _ _ _ _ _ _ _ _ _ _ _ _ _|exact Ans.bad|exact Ans.flt|exact⟨_,_,_,[],rfl,rfl,rfl⟩|exact⟨_,_,_,_,rfl,rfl,rfl⟩|refine Ans.bif (fun _=>?_) (fun _=>?_)|refine Ans.bind (fun _ _ _ _ _=>?_) (fun _ _=>Ans.flt)))
def xq{α:Type}(O:Ok [tN] α)(W:Int→Int→α)(V:Nat→α)(B:Bd α)(p:Fns)(T:TT)(K:KK)(U:Int→Int→List Nd→Int→Int→Int→List UInt8→Int→List UInt8→Int→List UInt8→Int→Int→Int→List Int→α)(a d:Int)(A:List Nd)(k0 a0 t0:Int)(s0:List UInt8)(b:Int)(nm:List UInt8)(dm:Int)(mr:List UInt8)(n0 w1 w2:Int)(L:List Int):α:=(B (Fns.next p T K a d A ()) fun y19 a19 d19 A19=>(B (Fns.isS p T K a19 d19 A19 ([63],())) fun y23 a23 d23 A23=>bif !y23.1 then(B (Fns.next p T K a23 d23 A23 ()) fun y27 a27 d27 A27=>(B (Fns.ahead p T K a27 d27 A27 (1,())) fun y31 a31 d31 A31=>(B (Fns.isS p T K a31 d31 A31 ([91],())) fun y35 a35 d35 A35=>bif !y35.1 then O 6 (AV.agg [Iz k0,Iz a0,Iz t0,AV.nils,AV.str s0,Iz b,AV.str nm,Iz dm,AV.str mr,Iz n0,Iz w1,Iz w2,AV.own 2 0]) [Blk.list 3 (Ty.int IntKind.i64) 0 false L] ((mkN k0 a0 t0 [] s0 b nm dm mr n0 w1 w2 L),()) a35 d35 A35 else bif !y31.2.1==[93]then O 6 (AV.agg [Iz k0,Iz a0,Iz t0,AV.nils,AV.str s0,Iz b,AV.str nm,Iz dm,AV.str mr,Iz n0,Iz w1,Iz w2,AV.own 2 0]) [Blk.list 3 (Ty.int IntKind.i64) 0 false L] ((mkN k0 a0 t0 [] s0 b nm dm mr n0 w1 w2 L),()) a35 d35 A35 else bif dm==4 then W ((2:Int)) (ab y27.1)else(B (Fns.skip p T K a35 d35 A35 ()) fun y39 a39 d39 A39=>(B (Fns.skip p T K a39 d39 A39 ()) fun y43 a43 d43 A43=>bif decide (List.length mr+List.length [32]<2^62)then bif decide (List.length L+List.length [y43.1]<ao)then U a43 d43 A43 k0 a0 t0 s0 b nm (IntKind.wrap IntKind.i64 (dm+1)) (mr++([32]:List UInt8)) n0 w1 y43.1 (L++([y43.1]:List Int))else V 1111 else V 1005)))))else bif b !=5 then bif dm==0 then W ((81:Int)) (ab y19.1)else bif inI dm (List.length mr)then bif (↑(UInt8.toNat (List.getD mr (Int.toNat dm) 0)):Int) !=32 then W ((81:Int)) (ab y19.1)else bif inB 0 dm (List.length mr)then bif decide (List.length (List.drop (Int.toNat 0) (List.take (Int.toNat dm) mr))+List.length [63]<2^62)then(B (Fns.skip p T K a23 d23 A23 ()) fun y27 a27 d27 A27=>U a27 d27 A27 k0 a0 t0 s0 b nm dm (List.drop (Int.toNat 0) (List.take (Int.toNat dm) mr)++([63]:List UInt8)) n0 w1 y27.1 L)else V 708 else V 707 else V 517 else bif inI dm (List.length mr)then bif (↑(UInt8.toNat (List.getD mr (Int.toNat dm) 0)):Int) !=32 then W ((81:Int)) (ab y19.1)else bif inB 0 dm (List.length mr)then bif decide (List.length (List.drop (Int.toNat 0) (List.take (Int.toNat dm) mr))+List.length [63]<2^62)then(B (Fns.skip p T K a23 d23 A23 ()) fun y27 a27 d27 A27=>U a27 d27 A27 k0 a0 t0 s0 b nm dm (List.drop (Int.toNat 0) (List.take (Int.toNat dm) mr)++([63]:List UInt8)) n0 w1 y27.1 L)else V 708 else V 707 else V 517))
def AF(p:Fns)(T:TT)(K:KK)(L0:Int→Int→List Nd→Int→Int→Int→List UInt8→Int→List UInt8→Int→List UInt8→Int→Int→Int→List Int→PR (an [tN]))(a d:Int)(A:List Nd)(k0 a0 t0:Int)(s0:List UInt8)(b:Int)(nm:List UInt8)(dm:Int)(mr:List UInt8)(n0 w1 w2:Int)(L:List Int):PR (an [tN]):=xq oP PR.fault eP PR.bind p T K L0 a d A k0 a0 t0 s0 b nm dm mr n0 w1 w2 L
theorem PD(p:Fns)(T:TT)(K:KK)(J:Jump R0)(L0:Int→Int→List Nd→Int→Int→Int→List UInt8→Int→List UInt8→Int→List UInt8→Int→Int→Int→List Int→PR (an [tN]))(h0:∀(a d:Int) (A:List Nd) (k0 a0 t0:Int) (s0:List UInt8) (b:Int) (nm:List UInt8) (dm:Int) (mr:List UInt8) (n0 w1 w2:Int) (L:List Int),Ans [tN] T K (J 0 (wB T K a d A k0 a0 t0 s0 b nm dm mr n0 w1 w2 L)) (L0 a d A k0 a0 t0 s0 b nm dm mr n0 w1 w2 L))(a d:Int)(A:List Nd)(k0 a0 t0:Int)(s0:List UInt8)(b:Int)(nm:List UInt8)(dm:Int)(mr:List UInt8)(n0 w1 w2:Int)(L:List Int):Ans [tN] T K (resume (R:=R0) E (au (bg p)) (aT 2 Cc 0) J [true,true,false,false,false] vk.code 1 (wB T K a d A k0 a0 t0 s0 b nm dm mr n0 w1 w2 L) (cv E 2 vk.results .ok)) (AF p T K L0 a d A k0 a0 t0 s0 b nm dm mr n0 w1 w2 L):=mkA (x:=xq (oR T K) fl0 .err bR p T K (fun a d A k0 a0 t0 s0 b nm dm mr n0 w1 w2 L=>J 0 (wB T K a d A k0 a0 t0 s0 b nm dm mr n0 w1 w2 L)) a d A k0 a0 t0 s0 b nm dm mr n0 w1 w2 L) (by kernel_rfl) (by unfold AF xq;repeat (first|exact h0 _ _ _ _ _ _ _ _ _ _ _ _ _ _ _|exact Ans.bad|exact Ans.flt|exact⟨_,_,_,[],rfl,rfl,rfl⟩|exact⟨_,_,_,_,rfl,rfl,rfl⟩|refine Ans.bif (fun _=>?_) (fun _=>?_)|refine Ans.bind (fun _ _ _ _ _=>?_) (fun _ _=>Ans.flt)))
def qT(p:Fns)(T:TT)(K:KK):Nat→Int→Int→List Nd→Int→Int→Int→List UInt8→Int→List UInt8→Int→List UInt8→Int→Int→Int→List Int→PR (an [tN])
 |0=>fun _ _ _ _ _ _ _ _ _ _ _ _ _ _ _=>.bad
 |n+1=>AF p T K (qT p T K n)
theorem Mw(p:Fns)(T:TT)(K:KK):∀(n:Nat) (a d:Int) (A:List Nd) (k0 a0 t0:Int) (s0:List UInt8) (b:Int) (nm:List UInt8) (dm:Int) (mr:List UInt8) (n0 w1 w2:Int) (L:List Int),Ans [tN] T K (pieces (R:=R0) E (au (bg p)) vk Cc 2 .ok n 0 (wB T K a d A k0 a0 t0 s0 b nm dm mr n0 w1 w2 L)) (qT p T K n a d A k0 a0 t0 s0 b nm dm mr n0 w1 w2 L)
 |0,_,_,_,_,_,_,_,_,_,_,_,_,_,_,_=>Ans.bad
 |n+1,a,d,A,k0,a0,t0,s0,b,nm,dm,mr,n0,w1,w2,L=>by
  rw[aU rfl]
  exact PD p T K _ _ (Mw p T K n) a d A k0 a0 t0 s0 b nm dm mr n0 w1 w2 L
def MH(p:Fns)(T:TT)(K:KK)(a d:Int)(A:NN):PR (an [tN]):=AI p T K (qT p T K (K.length+2)) a d A
def xc{α:Type}(O:Ok [tN] α)(W:Int→Int→α)(V:Nat→α)(B:Bd α)(p:Fns)(T:TT)(K:KK)(a d:Int)(A:NN):α:=(B (Fns.inner p T K a d A ()) fun y6 a6 d6 A6=>(B (Fns.isS p T K a6 d6 A6 ([40],())) fun y10 a10 d10 A10=>bif y10.1 then bif ar y6.1 !=5 then W ((5:Int)) (nW1 y6.1)else bif decide (ah y6.1>0)then W ((5:Int)) (nW1 y6.1)else bif decide (UInt8.toNat 32<128)&&Nat.ble (List.length (ag y6.1)) 9223372036854775807 then bif !Lib.trimB (ag y6.1) 32==[]then W ((5:Int)) (nW1 y6.1)else(B (Fns.args p T K a10 d10 A10 ()) fun y14 a14 d14 A14=>O 3 (AV.agg [Iz ((30:Int)),Iz (nAt y6.1),Iz (nTo y6.1),AV.own 2 0,AV.str (aF y6.1),Iz (ar y6.1),AV.str (aB y6.1),Iz (ah y6.1),AV.str (ag y6.1),Iz (nN y6.1),Iz (nW1 y6.1),Iz (nW2 y6.1),AV.sl (Ty.int IntKind.i64) (aI y6.1)]) [Blk.list 3 (Ty.int IntKind.i64) 0 false y14.1] ((mkN ((30:Int)) (nAt y6.1) (nTo y6.1) y14.1 (aF y6.1) (ar y6.1) (aB y6.1) (ah y6.1) (ag y6.1) (nN y6.1) (nW1 y6.1) (nW2 y6.1) (aI y6.1)),()) a14 d14 A14)else V 1000161 else(B (Fns.want p T K a10 d10 A10 ([91],())) fun y14 a14 d14 A14=>(B (Fns.value p T K a14 d14 A14 ()) fun y18 a18 d18 A18=>(B (Fns.want p T K a18 d18 A18 ([93],())) fun y22 a22 d22 A22=>O 5 (AV.agg [Iz ((31:Int)),Iz (nAt y6.1),Iz (nTo y6.1),AV.own 2 0,AV.str (aF y6.1),Iz (ar y6.1),AV.str (aB y6.1),Iz (ah y6.1),AV.str (ag y6.1),Iz (nN y6.1),Iz (nW1 y6.1),Iz (nW2 y6.1),AV.sl (Ty.int IntKind.i64) (aI y6.1)]) [Blk.list 3 (Ty.int IntKind.i64) 0 false [y18.1]] ((mkN ((31:Int)) (nAt y6.1) (nTo y6.1) ([y18.1]) (aF y6.1) (ar y6.1) (aB y6.1) (ah y6.1) (ag y6.1) (nN y6.1) (nW1 y6.1) (nW2 y6.1) (aI y6.1)),()) a22 d22 A22)))))
def wO(p:Fns)(T:TT)(K:KK)(a d:Int)(A:NN):PR (an [tN]):=xc oP PR.fault eP PR.bind p T K a d A
theorem Ol(p:Fns)(T:TT)(K:KK)(a d:Int)(A:NN):Ans [tN] T K (body (R:=R0) E (au (bg p)) JR [.ref 0 0] (bsP T K a d A) .ok) (wO p T K a d A):=mkA (x:=xc (oR T K) fl0 .err bR p T K a d A) (by kernel_rfl) (by unfold wO xc;exact An)
end Go.Sx.Tryz
namespace Go.Sx.Tryz
open Go Go.Sx Go.Proofs
set_option maxRecDepth 100000
variable{G:Nat→Obj→Prop}{p:Fns}
theorem ok45(hl:bw Tryz.prog G (bg p)):bU G 45 [] [tT,tS] (fun T K a d A x=>F5 p T K a d A):=cb TL hl fun T K a d A _=>Q0 p T K a d A
theorem SP(hl:bw Tryz.prog G (bg p)):bU G 125 [tI] [tI,tS] (fun T K a d A x=>vJ p T K a d A x.1):=cb MY hl fun T K a d A ⟨x1,_⟩=>NR p T K a d A x1
theorem ok90(hl:bw Tryz.prog G (bg p)):bU G 90 [] [tI] (fun T K a d A x=>Fv p T K a d A):=cb Tu hl fun T K a d A _=>SQ p T K a d A
theorem ok75(hl:bw Tryz.prog G (bg p)):bU G 75 [tS] [tB] (fun T K a d A x=>GD p T K a d A x.1):=cb Sd hl fun T K a d A ⟨x1,_⟩=>Rk p T K a d A x1
theorem ok74(hl:bw Tryz.prog G (bg p)):bU G 74 [tS] [tB] (fun T K a d A x=>GB p T K a d A x.1):=cb Tt hl fun T K a d A ⟨x1,_⟩=>Sq p T K a d A x1
theorem ok72(hl:bw Tryz.prog G (bg p)):bU G 72 [tS] [tI] (fun T K a d A x=>Fg p T K a d A x.1):=cb Tp hl fun T K a d A ⟨x1,_⟩=>Td p T K a d A x1
theorem ok73(hl:bw Tryz.prog G (bg p)):bU G 73 [] [tS] (fun T K a d A x=>Gz p T K a d A):=cb RA hl fun T K a d A _=>Sj p T K a d A
theorem ok48(hl:bw Tryz.prog G (bg p)):bU G 48 [tN,tI] [tI] (fun T K a d A x=>Fw p T K a d A x.1 x.2.1):=cb Si hl fun T K a d A ⟨x1,x2,_⟩=>Rt p T K a d A x1 x2
theorem RU(hl:bw Tryz.prog G (bg p)):bU G 104 [] [] (fun T K a d A x=>wA p T K a d A):=cb MX hl fun T K a d A _=>Qe p T K a d A
theorem ok46(hl:bw Tryz.prog G (bg p)):bU G 46 [tI] [] (fun T K a d A x=>E5 p T K a d A x.1):=cb SO hl fun T K a d A ⟨x1,_⟩=>Rz p T K a d A x1
theorem ok47(hl:bw Tryz.prog G (bg p)):bU G 47 [] [tI] (fun T K a d A x=>Sg p T K a d A):=jv S7 hl fun T K a d A _=>⟨_,Ry p T K _ _ (Rp p T K _) a d A⟩
theorem ok76(hl:bw Tryz.prog G (bg p)):bU G 76 [] [tI] (fun T K a d A x=>FF p T K a d A):=cb SX hl fun T K a d A _=>SJ p T K a d A
theorem ok92(hl:bw Tryz.prog G (bg p)):mB G 92 [] [tL] (fun T K a d A x=>TC p T K a d A) kZ fy:=vX Mz TO hl fun T K a d A _=>⟨_,Sp p T K _ _ (S9 p T K _) a d A⟩
theorem ok94(hl:bw Tryz.prog G (bg p)):bU G 94 [tB] [tN] (fun T K a d A x=>Fc p T K a d A x.1):=cb SV hl fun T K a d A ⟨x1,_⟩=>Sw p T K a d A x1
theorem Tx(hl:bw Tryz.prog G (bg p)):bU G 106 [] [tN] (fun T K a d A x=>MH p T K a d A):=jv M3 hl fun T K a d A _=>⟨_,NV p T K _ _ (Mw p T K _) a d A⟩
theorem So(hl:bw Tryz.prog G (bg p)):mB G 117 [] [tN] (fun T K a d A x=>vd p T K a d A) JF wh:=Jq TG MK hl fun T K a d A _=>P5 p T K a d A
theorem ok93(hl:bw Tryz.prog G (bg p)):bU G 93 [] [tI] (fun T K a d A x=>R8 p T K a d A):=jv RZ hl fun T K a d A _=>⟨_,Sl p T K _ _ (Q9 p T K _) a d A⟩
theorem RY(hl:bw Tryz.prog G (bg p)):bU G 113 [] [tB] (fun T K a d A x=>vx p T K a d A):=cb Nj hl fun T K a d A _=>PC p T K a d A
theorem Tq(hl:bw Tryz.prog G (bg p)):bU G 105 [] [tI] (fun T K a d A x=>wT p T K a d A):=cb Nw hl fun T K a d A _=>QR p T K a d A
theorem S2(hl:bw Tryz.prog G (bg p)):bU G 115 [tS] [tN,tB] (fun T K a d A x=>vN p T K a d A x.1):=cb MV hl fun T K a d A ⟨x1,_⟩=>NJ p T K a d A x1
theorem TF(hl:bw Tryz.prog G (bg p)):bU G 116 [tI] [tI] (fun T K a d A x=>u7 p T K a d A x.1):=cb M9 hl fun T K a d A ⟨x1,_⟩=>QD p T K a d A x1
theorem Ra(hl:bw Tryz.prog G (bg p)):bU G 127 [] [tI] (fun T K a d A x=>vZ p T K a d A):=cb Ni hl fun T K a d A _=>QB p T K a d A
theorem Ss(hl:bw Tryz.prog G (bg p)):mB G 128 [] [tL] (fun T K a d A x=>M1 p T K a d A) kZ fy:=vX Mz Np hl fun T K a d A _=>⟨_,QY p T K _ _ (MF p T K _) a d A⟩
theorem Ti(hl:bw Tryz.prog G (bg p)):bU G 114 [] [tI] (fun T K a d A x=>vQ p T K a d A):=cb Nn hl fun T K a d A _=>NS p T K a d A
theorem R5(hl:bw Tryz.prog G (bg p)):bU G 126 [tI] [tI] (fun T K a d A x=>Em p T K a d A x.1):=jv ME hl fun T K a d A ⟨x1,_⟩=>⟨_,Qt p T K _ _ (MC p T K _) a d A x1⟩
theorem TK(hl:bw Tryz.prog G (bg p)):bU G 133 [] [tI] (fun T K a d A x=>wg p T K a d A):=cb M6 hl fun T K a d A _=>Qa p T K a d A
theorem RQ(hl:bw Tryz.prog G (bg p)):bU G 135 [] [tI] (fun T K a d A x=>Nc p T K a d A):=jv Na hl fun T K a d A _=>⟨_,PU p T K _ _ (NI p T K _) a d A⟩
theorem TV(hl:bw Tryz.prog G (bg p)):bU G 136 [] [tI] (fun T K a d A x=>wy p T K a d A):=cb NF hl fun T K a d A _=>QS p T K a d A
theorem QZ(hl:bw Tryz.prog G (bg p)):bU G 137 [tI,tI] [tI] (fun T K a d A x=>wu p T K a d A x.1 x.2.1):=cb ND hl fun T K a d A ⟨x1,x2,_⟩=>O0 p T K a d A x1 x2
theorem Rh(hl:bw Tryz.prog G (bg p)):bU G 139 [tN,tI] [tI] (fun T K a d A x=>wx p T K a d A x.1 x.2.1):=cb MO hl fun T K a d A ⟨x1,x2,_⟩=>P4 p T K a d A x1 x2
theorem SW(hl:bw Tryz.prog G (bg p)):bU G 142 [tT,tS] [tI] (fun T K a d A x=>vG p T K a d A x.1 x.2.1):=cb Nt hl fun T K a d A ⟨x1,x2,_⟩=>QQ p T K a d A x1 x2
theorem S5(hl:bw Tryz.prog G (bg p)):bU G 148 [] [tN] (fun T K a d A x=>wO p T K a d A):=cb My hl fun T K a d A _=>Ol p T K a d A
theorem ok26(hl:bw Tryz.prog G (bg p)):bU G 26 [] [] (fun T K a d A x=>uU p T K a d A):=jv L7 hl fun T K a d A _=>⟨_,RG p T K _ _ (Rl p T K _) a d A⟩
def Ny(p:Fns):Fns where
 next:=fun T K a d A x=>F5 p T K a d A
 ahead:=fun T K a d A x=>vJ p T K a d A x.1
 skip:=fun T K a d A x=>Fv p T K a d A
 isS:=fun T K a d A x=>GD p T K a d A x.1
 take:=fun T K a d A x=>GB p T K a d A x.1
 want:=fun T K a d A x=>Fg p T K a d A x.1
 name:=fun T K a d A x=>Gz p T K a d A
 add:=fun T K a d A x=>Fw p T K a d A x.1 x.2.1
 goIn:=fun T K a d A x=>wA p T K a d A
 few:=fun T K a d A x=>E5 p T K a d A x.1
 klass:=fun T K a d A x=>Sg p T K a d A
 member:=fun T K a d A x=>FF p T K a d A
 params:=fun T K a d A x=>TC p T K a d A
 typed:=fun T K a d A x=>Fc p T K a d A x.1
 inner:=fun T K a d A x=>MH p T K a d A
 base:=fun T K a d A x=>vd p T K a d A
 block:=fun T K a d A x=>R8 p T K a d A
 declares:=fun T K a d A x=>vx p T K a d A
 stat:=fun T K a d A x=>wT p T K a d A
 word:=fun T K a d A x=>vN p T K a d A x.1
 plainS:=fun T K a d A x=>u7 p T K a d A x.1
 bracket:=fun T K a d A x=>vZ p T K a d A
 args:=fun T K a d A x=>M1 p T K a d A
 value:=fun T K a d A x=>vQ p T K a d A
 chain:=fun T K a d A x=>Em p T K a d A x.1
 unary:=fun T K a d A x=>wg p T K a d A
 behind:=fun T K a d A x=>Nc p T K a d A
 primary:=fun T K a d A x=>wy p T K a d A
 part:=fun T K a d A x=>wu p T K a d A x.1 x.2.1
 literal:=fun T K a d A x=>wx p T K a d A x.1 x.2.1
 kept:=fun T K a d A x=>vG p T K a d A x.1 x.2.1
 made:=fun T K a d A x=>wO p T K a d A
def RH:Fns where
 next:=fun _ _ _ _ _ _=>.bad
 ahead:=fun _ _ _ _ _ _=>.bad
 skip:=fun _ _ _ _ _ _=>.bad
 isS:=fun _ _ _ _ _ _=>.bad
 take:=fun _ _ _ _ _ _=>.bad
 want:=fun _ _ _ _ _ _=>.bad
 name:=fun _ _ _ _ _ _=>.bad
 add:=fun _ _ _ _ _ _=>.bad
 goIn:=fun _ _ _ _ _ _=>.bad
 few:=fun _ _ _ _ _ _=>.bad
 klass:=fun _ _ _ _ _ _=>.bad
 member:=fun _ _ _ _ _ _=>.bad
 params:=fun _ _ _ _ _ _=>.bad
 typed:=fun _ _ _ _ _ _=>.bad
 inner:=fun _ _ _ _ _ _=>.bad
 base:=fun _ _ _ _ _ _=>.bad
 block:=fun _ _ _ _ _ _=>.bad
 declares:=fun _ _ _ _ _ _=>.bad
 stat:=fun _ _ _ _ _ _=>.bad
 word:=fun _ _ _ _ _ _=>.bad
 plainS:=fun _ _ _ _ _ _=>.bad
 bracket:=fun _ _ _ _ _ _=>.bad
 args:=fun _ _ _ _ _ _=>.bad
 value:=fun _ _ _ _ _ _=>.bad
 chain:=fun _ _ _ _ _ _=>.bad
 unary:=fun _ _ _ _ _ _=>.bad
 behind:=fun _ _ _ _ _ _=>.bad
 primary:=fun _ _ _ _ _ _=>.bad
 part:=fun _ _ _ _ _ _=>.bad
 literal:=fun _ _ _ _ _ _=>.bad
 kept:=fun _ _ _ _ _ _=>.bad
 made:=fun _ _ _ _ _ _=>.bad
def fns:Nat→Fns
 |0=>RH
 |n+1=>Ny (fns n)
structure FnsOK(G:Nat→Obj→Prop)(p:Fns):Prop where
 o45:bU G 45 _ _ p.next
 o125:bU G 125 _ _ p.ahead
 o90:bU G 90 _ _ p.skip
 o75:bU G 75 _ _ p.isS
 o74:bU G 74 _ _ p.take
 o72:bU G 72 _ _ p.want
 o73:bU G 73 _ _ p.name
 o48:bU G 48 _ _ p.add
 o104:bU G 104 _ _ p.goIn
 o46:bU G 46 _ _ p.few
 o47:bU G 47 _ _ p.klass
 o76:bU G 76 _ _ p.member
 o92:mB G 92 _ _ p.params kZ fy
 o94:bU G 94 _ _ p.typed
 o106:bU G 106 _ _ p.inner
 o117:mB G 117 _ _ p.base JF wh
 o93:bU G 93 _ _ p.block
 o113:bU G 113 _ _ p.declares
 o105:bU G 105 _ _ p.stat
 o115:bU G 115 _ _ p.word
 o116:bU G 116 _ _ p.plainS
 o127:bU G 127 _ _ p.bracket
 o128:mB G 128 _ _ p.args kZ fy
 o114:bU G 114 _ _ p.value
 o126:bU G 126 _ _ p.chain
 o133:bU G 133 _ _ p.unary
 o135:bU G 135 _ _ p.behind
 o136:bU G 136 _ _ p.primary
 o137:bU G 137 _ _ p.part
 o139:bU G 139 _ _ p.literal
 o142:bU G 142 _ _ p.kept
 o148:bU G 148 _ _ p.made
theorem Lb:FnsOK G RH where
 o45:=fun _ _ _ _ _ _=>trivial
 o125:=fun _ _ _ _ _ _=>trivial
 o90:=fun _ _ _ _ _ _=>trivial
 o75:=fun _ _ _ _ _ _=>trivial
 o74:=fun _ _ _ _ _ _=>trivial
 o72:=fun _ _ _ _ _ _=>trivial
 o73:=fun _ _ _ _ _ _=>trivial
 o48:=fun _ _ _ _ _ _=>trivial
 o104:=fun _ _ _ _ _ _=>trivial
 o46:=fun _ _ _ _ _ _=>trivial
 o47:=fun _ _ _ _ _ _=>trivial
 o76:=fun _ _ _ _ _ _=>trivial
 o92:=fun _ _ _ _ _ _=>trivial
 o94:=fun _ _ _ _ _ _=>trivial
 o106:=fun _ _ _ _ _ _=>trivial
 o117:=fun _ _ _ _ _ _=>trivial
 o93:=fun _ _ _ _ _ _=>trivial
 o113:=fun _ _ _ _ _ _=>trivial
 o105:=fun _ _ _ _ _ _=>trivial
 o115:=fun _ _ _ _ _ _=>trivial
 o116:=fun _ _ _ _ _ _=>trivial
 o127:=fun _ _ _ _ _ _=>trivial
 o128:=fun _ _ _ _ _ _=>trivial
 o114:=fun _ _ _ _ _ _=>trivial
 o126:=fun _ _ _ _ _ _=>trivial
 o133:=fun _ _ _ _ _ _=>trivial
 o135:=fun _ _ _ _ _ _=>trivial
 o136:=fun _ _ _ _ _ _=>trivial
 o137:=fun _ _ _ _ _ _=>trivial
 o139:=fun _ _ _ _ _ _=>trivial
 o142:=fun _ _ _ _ _ _=>trivial
 o148:=fun _ _ _ _ _ _=>trivial
theorem Hy(hl:bw Tryz.prog G (bg p)):FnsOK G (Ny p)where
 o45:=ok45 hl
 o125:=SP hl
 o90:=ok90 hl
 o75:=ok75 hl
 o74:=ok74 hl
 o72:=ok72 hl
 o73:=ok73 hl
 o48:=ok48 hl
 o104:=RU hl
 o46:=ok46 hl
 o47:=ok47 hl
 o76:=ok76 hl
 o92:=ok92 hl
 o94:=ok94 hl
 o106:=Tx hl
 o117:=So hl
 o93:=ok93 hl
 o113:=RY hl
 o105:=Tq hl
 o115:=S2 hl
 o116:=TF hl
 o127:=Ra hl
 o128:=Ss hl
 o114:=Ti hl
 o126:=R5 hl
 o133:=TK hl
 o135:=RQ hl
 o136:=TV hl
 o137:=QZ hl
 o139:=Rh hl
 o142:=SW hl
 o148:=S5 hl
end Go.Sx.Tryz
