/- A part of the proof: see the row's text. -/
import Derived.Test.YtehaoepopklboaaGreatDoorZh13
set_option linter.unusedVariables false
set_option linter.unusedSimpArgs false
noncomputable section
namespace Go.Sx.Tryz
open Go Go.Sx Go.Proofs
set_option maxRecDepth 100000
def za{α:Type}(O:Ok [tI] α)(W:Int→Int→α)(V:Nat→α)(B:Bd α)(p:Fns)(T:TT)(K:KK)(U:Int→Int→List Nd→Int→Int→Int→List Int→α)(a d:Int)(A:List Nd):α:=(B (Fns.next p T K a d A ()) fun y7 a7 d7 A7=>(B (Fns.goIn p T K a7 d7 A7 ()) fun y11 a11 d11 A11=>(B (Fns.want p T K a11 d11 A11 ([123],())) fun y15 a15 d15 A15=>U a15 d15 A15 (az y7.1) (ag y7.1) (tTo y7.1) [])))
def Dl(p:Fns)(T:TT)(K:KK)(L0:Int→Int→List Nd→Int→Int→Int→List Int→PR (ai [tI]))(a d:Int)(A:List Nd):PR (ai [tI]):=za oP PR.fault eP PR.bind p T K L0 a d A
theorem Np(p:Fns)(T:TT)(K:KK)(J:Jump R0)(L0:Int→Int→List Nd→Int→Int→Int→List Int→PR (ai [tI]))(h0:∀(a d:Int) (A:List Nd) (k f t:Int) (L:List Int),Ans [tI] T K (J 0 (zT T K a d A k f t L)) (L0 a d A k f t L))(a d:Int)(A:List Nd):Ans [tI] T K (start (R:=R0) E (an (aY p)) ra CL J [.ref 0 0] (bsP T K a d A) .ok) (Dl p T K L0 a d A):=mkA (x:=za (oR T K) fl0 .err bR p T K (fun a d A k f t L=>J 0 (zT T K a d A k f t L)) a d A) (by kernel_rfl) (by unfold Dl za;repeat (first|exact h0 _ _ _ _ _ _ _|exact Ans.bad|exact Ans.flt|exact⟨_,_,_,[],rfl,rfl,rfl⟩|exact⟨_,_,_,_,rfl,rfl,rfl⟩|refine Ans.bif (fun _=>?_) (fun _=>?_)|refine Ans.bind (fun _ _ _ _ _=>?_) (fun _ _=>Ans.flt)))
def yb{α:Type}(O:Ok [tI] α)(W:Int→Int→α)(V:Nat→α)(B:Bd α)(p:Fns)(T:TT)(K:KK)(U:Int→Int→List Nd→Int→Int→Int→List Int→α)(a d:Int)(A:List Nd)(k f t:Int)(L:List Int):α:=(B (Fns.isS p T K a d A ([125],())) fun y11 a11 d11 A11=>bif !y11.1 then(B (Fns.stat p T K a11 d11 A11 ()) fun y15 a15 d15 A15=>bif decide (List.length L+List.length [y15.1]<ar)then U a15 d15 A15 k f t (L++([y15.1]:List Int))else V 604)else(B (Fns.want p T K a11 d11 A11 ([125],())) fun y15 a15 d15 A15=>(B (Fns.add p T K a15 (IntKind.wrap IntKind.i64 (d15-1)) A15 ((mkN 8 0 0 L [] 0 [] 0 [] 0 0 0 []),f,())) fun y19 a19 d19 A19=>O 4 (Iz y19.1) [] (y19.1,()) a19 d19 A19)))
def Dy(p:Fns)(T:TT)(K:KK)(L0:Int→Int→List Nd→Int→Int→Int→List Int→PR (ai [tI]))(a d:Int)(A:List Nd)(k f t:Int)(L:List Int):PR (ai [tI]):=yb oP PR.fault eP PR.bind p T K L0 a d A k f t L
theorem LF(p:Fns)(T:TT)(K:KK)(J:Jump R0)(L0:Int→Int→List Nd→Int→Int→Int→List Int→PR (ai [tI]))(h0:∀(a d:Int) (A:List Nd) (k f t:Int) (L:List Int),Ans [tI] T K (J 0 (zT T K a d A k f t L)) (L0 a d A k f t L))(a d:Int)(A:List Nd)(k f t:Int)(L:List Int):Ans [tI] T K (resume (R:=R0) E (an (aY p)) (aR 2 CL 0) J [true,true,true,true,true,false,false,false] ra.code 1 (zT T K a d A k f t L) (bX E 2 ra.results .ok)) (Dy p T K L0 a d A k f t L):=mkA (x:=yb (oR T K) fl0 .err bR p T K (fun a d A k f t L=>J 0 (zT T K a d A k f t L)) a d A k f t L) (by kernel_rfl) (by unfold Dy yb;repeat (first|exact h0 _ _ _ _ _ _ _|exact Ans.bad|exact Ans.flt|exact⟨_,_,_,[],rfl,rfl,rfl⟩|exact⟨_,_,_,_,rfl,rfl,rfl⟩|refine Ans.bif (fun _=>?_) (fun _=>?_)|refine Ans.bind (fun _ _ _ _ _=>?_) (fun _ _=>Ans.flt)))
def Aa(p:Fns)(T:TT)(K:KK):Nat→Int→Int→List Nd→Int→Int→Int→List Int→PR (ai [tI])
 |0=>fun _ _ _ _ _ _ _=>.bad
 |n+1=>Dy p T K (Aa p T K n)
theorem MW(p:Fns)(T:TT)(K:KK):∀(n:Nat) (a d:Int) (A:List Nd) (k f t:Int) (L:List Int),Ans [tI] T K (pieces (R:=R0) E (an (aY p)) ra CL 2 .ok n 0 (zT T K a d A k f t L)) (Aa p T K n a d A k f t L)
 |0,_,_,_,_,_,_,_=>Ans.bad
 |n+1,a,d,A,k,f,t,L=>by
  rw[aW rfl]
  exact LF p T K _ _ (MW p T K n) a d A k f t L
def LS(p:Fns)(T:TT)(K:KK)(a d:Int)(A:NN):PR (ai [tI]):=Dl p T K (Aa p T K (K.length+2)) a d A
def yS{α:Type}(O:Ok [tL] α)(W:Int→Int→α)(V:Nat→α)(B:Bd α)(p:Fns)(T:TT)(K:KK)(U:Int→Int→List Nd→List Int→α)(a d:Int)(A:List Nd):α:=(B (Fns.want p T K a d A ([40],())) fun y7 a7 d7 A7=>U a7 d7 A7 [])
def DD(p:Fns)(T:TT)(K:KK)(L0:Int→Int→List Nd→List Int→PR (ai [tL]))(a d:Int)(A:List Nd):PR (ai [tL]):=yS oP PR.fault eP PR.bind p T K L0 a d A
theorem KR(p:Fns)(T:TT)(K:KK)(J:Jump R0)(L0:Int→Int→List Nd→List Int→PR (ai [tL]))(h0:∀(a d:Int) (A:List Nd) (L:List Int),bU [tL] iy dI T K (J 0 (AU T K a d A L)) (L0 a d A L))(a d:Int)(A:List Nd):bU [tL] iy dI T K (start (R:=R0) E (an (aY p)) p7 B8 J [.ref 0 0] (bsP T K a d A) .ok) (DD p T K L0 a d A):=mkG (x:=yS (oR T K) fl0 .err bR p T K (fun a d A L=>J 0 (AU T K a d A L)) a d A) (by kernel_rfl) (by unfold DD yS;repeat (first|exact h0 _ _ _ _|exact bU.bad|exact bU.flt|exact⟨_,rfl⟩|refine bU.bif (fun _=>?_) (fun _=>?_)|refine bU.bind (fun _ _ _ _ _=>?_) (fun _ _=>bU.flt)))
def yN{α:Type}(O:Ok [tL] α)(W:Int→Int→α)(V:Nat→α)(B:Bd α)(p:Fns)(T:TT)(K:KK)(U:Int→Int→List Nd→List Int→α)(a d:Int)(A:List Nd)(L:List Int):α:=(B (Fns.take p T K a d A ([41],())) fun y8 a8 d8 A8=>bif !y8.1 then bif decide ((↑(List.length L):Int)>0)then(B (Fns.want p T K a8 d8 A8 ([44],())) fun y12 a12 d12 A12=>(B (Fns.few p T K a12 d12 A12 (IntKind.wrap IntKind.i64 ((↑(List.length L):Int)+1),())) fun y16 a16 d16 A16=>(B (Fns.next p T K a16 d16 A16 ()) fun y20 a20 d20 A20=>(B (Fns.typed p T K a20 d20 A20 (false,())) fun y24 a24 d24 A24=>(B (Fns.name p T K a24 d24 A24 ()) fun y28 a28 d28 A28=>(B (Fns.add p T K a28 d28 A28 ((mkN 7 (nAt y24.1) (nTo y24.1) (aa y24.1) y28.1 (ax y24.1) (aA y24.1) (ak y24.1) (ah y24.1) (nN y24.1) (nW1 y24.1) (nW2 y24.1) (aF y24.1)),ag y20.1,())) fun y32 a32 d32 A32=>bif decide (List.length L+List.length [y32.1]<ar)then U a32 d32 A32 (L++([y32.1]:List Int))else V 1008))))))else(B (Fns.few p T K a8 d8 A8 (IntKind.wrap IntKind.i64 ((↑(List.length L):Int)+1),())) fun y12 a12 d12 A12=>(B (Fns.next p T K a12 d12 A12 ()) fun y16 a16 d16 A16=>(B (Fns.typed p T K a16 d16 A16 (false,())) fun y20 a20 d20 A20=>(B (Fns.name p T K a20 d20 A20 ()) fun y24 a24 d24 A24=>(B (Fns.add p T K a24 d24 A24 ((mkN 7 (nAt y20.1) (nTo y20.1) (aa y20.1) y24.1 (ax y20.1) (aA y20.1) (ak y20.1) (ah y20.1) (nN y20.1) (nW1 y20.1) (nW2 y20.1) (aF y20.1)),ag y16.1,())) fun y28 a28 d28 A28=>bif decide (List.length L+List.length [y28.1]<ar)then U a28 d28 A28 (L++([y28.1]:List Int))else V 1008)))))else O 2 (AV.own 2 0) [Blk.list 3 (Ty.int IntKind.i64) 0 false L] (L,()) a8 d8 A8)
def Cq(p:Fns)(T:TT)(K:KK)(L0:Int→Int→List Nd→List Int→PR (ai [tL]))(a d:Int)(A:List Nd)(L:List Int):PR (ai [tL]):=yN oP PR.fault eP PR.bind p T K L0 a d A L
theorem LB(p:Fns)(T:TT)(K:KK)(J:Jump R0)(L0:Int→Int→List Nd→List Int→PR (ai [tL]))(h0:∀(a d:Int) (A:List Nd) (L:List Int),bU [tL] iy dI T K (J 0 (AU T K a d A L)) (L0 a d A L))(a d:Int)(A:List Nd)(L:List Int):bU [tL] iy dI T K (resume (R:=R0) E (an (aY p)) (aR 2 B8 0) J [true,true,true,false,false,false] p7.code 1 (AU T K a d A L) (bX E 2 p7.results .ok)) (Cq p T K L0 a d A L):=mkG (x:=yN (oR T K) fl0 .err bR p T K (fun a d A L=>J 0 (AU T K a d A L)) a d A L) (by kernel_rfl) (by unfold Cq yN;repeat (first|exact h0 _ _ _ _|exact bU.bad|exact bU.flt|exact⟨_,rfl⟩|refine bU.bif (fun _=>?_) (fun _=>?_)|refine bU.bind (fun _ _ _ _ _=>?_) (fun _ _=>bU.flt)))
def wk(p:Fns)(T:TT)(K:KK):Nat→Int→Int→List Nd→List Int→PR (ai [tL])
 |0=>fun _ _ _ _=>.bad
 |n+1=>Cq p T K (wk p T K n)
theorem NO(p:Fns)(T:TT)(K:KK):∀(n:Nat) (a d:Int) (A:List Nd) (L:List Int),bU [tL] iy dI T K (pieces (R:=R0) E (an (aY p)) p7 B8 2 .ok n 0 (AU T K a d A L)) (wk p T K n a d A L)
 |0,_,_,_,_=>bU.bad
 |n+1,a,d,A,L=>by
  rw[aW rfl]
  exact LB p T K _ _ (NO p T K n) a d A L
def Nz(p:Fns)(T:TT)(K:KK)(a d:Int)(A:NN):PR (ai [tL]):=DD p T K (wk p T K (K.length+2)) a d A
def rR{α:Type}(O:Ok [tL] α)(W:Int→Int→α)(V:Nat→α)(B:Bd α)(p:Fns)(T:TT)(K:KK)(U:Int→Int→List Nd→List Int→α)(a d:Int)(A:List Nd):α:=(B (Fns.want p T K a d A ([40],())) fun y7 a7 d7 A7=>U a7 d7 A7 [])
def um(p:Fns)(T:TT)(K:KK)(L0:Int→Int→List Nd→List Int→PR (ai [tL]))(a d:Int)(A:List Nd):PR (ai [tL]):=rR oP PR.fault eP PR.bind p T K L0 a d A
theorem KL(p:Fns)(T:TT)(K:KK)(J:Jump R0)(L0:Int→Int→List Nd→List Int→PR (ai [tL]))(h0:∀(a d:Int) (A:List Nd) (L:List Int),bU [tL] iy dI T K (J 0 (qm T K a d A L)) (L0 a d A L))(a d:Int)(A:List Nd):bU [tL] iy dI T K (start (R:=R0) E (an (aY p)) qo xF J [.ref 0 0] (bsP T K a d A) .ok) (um p T K L0 a d A):=mkG (x:=rR (oR T K) fl0 .err bR p T K (fun a d A L=>J 0 (qm T K a d A L)) a d A) (by kernel_rfl) (by unfold um rR;repeat (first|exact h0 _ _ _ _|exact bU.bad|exact bU.flt|exact⟨_,rfl⟩|refine bU.bif (fun _=>?_) (fun _=>?_)|refine bU.bind (fun _ _ _ _ _=>?_) (fun _ _=>bU.flt)))
def rU{α:Type}(O:Ok [tL] α)(W:Int→Int→α)(V:Nat→α)(B:Bd α)(p:Fns)(T:TT)(K:KK)(U:Int→Int→List Nd→List Int→α)(a d:Int)(A:List Nd)(L:List Int):α:=(B (Fns.take p T K a d A ([41],())) fun y8 a8 d8 A8=>bif !y8.1 then bif decide ((↑(List.length L):Int)>0)then(B (Fns.want p T K a8 d8 A8 ([44],())) fun y12 a12 d12 A12=>(B (Fns.few p T K a12 d12 A12 (IntKind.wrap IntKind.i64 ((↑(List.length L):Int)+1),())) fun y16 a16 d16 A16=>(B (Fns.value p T K a16 d16 A16 ()) fun y20 a20 d20 A20=>bif decide (List.length L+List.length [y20.1]<ar)then U a20 d20 A20 (L++([y20.1]:List Int))else V 704)))else(B (Fns.few p T K a8 d8 A8 (IntKind.wrap IntKind.i64 ((↑(List.length L):Int)+1),())) fun y12 a12 d12 A12=>(B (Fns.value p T K a12 d12 A12 ()) fun y16 a16 d16 A16=>bif decide (List.length L+List.length [y16.1]<ar)then U a16 d16 A16 (L++([y16.1]:List Int))else V 704))else O 2 (AV.own 2 0) [Blk.list 3 (Ty.int IntKind.i64) 0 false L] (L,()) a8 d8 A8)
def uy(p:Fns)(T:TT)(K:KK)(L0:Int→Int→List Nd→List Int→PR (ai [tL]))(a d:Int)(A:List Nd)(L:List Int):PR (ai [tL]):=rU oP PR.fault eP PR.bind p T K L0 a d A L
theorem KM(p:Fns)(T:TT)(K:KK)(J:Jump R0)(L0:Int→Int→List Nd→List Int→PR (ai [tL]))(h0:∀(a d:Int) (A:List Nd) (L:List Int),bU [tL] iy dI T K (J 0 (qm T K a d A L)) (L0 a d A L))(a d:Int)(A:List Nd)(L:List Int):bU [tL] iy dI T K (resume (R:=R0) E (an (aY p)) (aR 2 xF 0) J [true,true,true,false,false,false] qo.code 1 (qm T K a d A L) (bX E 2 qo.results .ok)) (uy p T K L0 a d A L):=mkG (x:=rU (oR T K) fl0 .err bR p T K (fun a d A L=>J 0 (qm T K a d A L)) a d A L) (by kernel_rfl) (by unfold uy rU;repeat (first|exact h0 _ _ _ _|exact bU.bad|exact bU.flt|exact⟨_,rfl⟩|refine bU.bif (fun _=>?_) (fun _=>?_)|refine bU.bind (fun _ _ _ _ _=>?_) (fun _ _=>bU.flt)))
def ow(p:Fns)(T:TT)(K:KK):Nat→Int→Int→List Nd→List Int→PR (ai [tL])
 |0=>fun _ _ _ _=>.bad
 |n+1=>uy p T K (ow p T K n)
theorem Hn(p:Fns)(T:TT)(K:KK):∀(n:Nat) (a d:Int) (A:List Nd) (L:List Int),bU [tL] iy dI T K (pieces (R:=R0) E (an (aY p)) qo xF 2 .ok n 0 (qm T K a d A L)) (ow p T K n a d A L)
 |0,_,_,_,_=>bU.bad
 |n+1,a,d,A,L=>by
  rw[aW rfl]
  exact KM p T K _ _ (Hn p T K n) a d A L
def G0(p:Fns)(T:TT)(K:KK)(a d:Int)(A:NN):PR (ai [tL]):=um p T K (ow p T K (K.length+2)) a d A
def xT{α:Type}(O:Ok [] α)(W:Int→Int→α)(V:Nat→α)(B:Bd α)(p:Fns)(T:TT)(K:KK)(U:Int→Int→List Nd→List Int→α)(a d:Int)(A:List Nd):α:=U a d A []
def DY(p:Fns)(T:TT)(K:KK)(L0:Int→Int→List Nd→List Int→PR (ai []))(a d:Int)(A:List Nd):PR (ai []):=xT oP PR.fault eP PR.bind p T K L0 a d A
theorem MN(p:Fns)(T:TT)(K:KK)(J:Jump R0)(L0:Int→Int→List Nd→List Int→PR (ai []))(h0:∀(a d:Int) (A:List Nd) (L:List Int),Ans [] T K (J 0 (Af T K a d A L)) (L0 a d A L))(a d:Int)(A:List Nd):Ans [] T K (start (R:=R0) E (an (aY p)) zK Cg J [.ref 0 0] (bsP T K a d A) .ok) (DY p T K L0 a d A):=mkA (x:=xT (oR T K) fl0 .err bR p T K (fun a d A L=>J 0 (Af T K a d A L)) a d A) (by kernel_rfl) (by unfold DY xT;repeat (first|exact h0 _ _ _ _|exact Ans.bad|exact Ans.flt|exact⟨_,_,_,[],rfl,rfl,rfl⟩|exact⟨_,_,_,_,rfl,rfl,rfl⟩|refine Ans.bif (fun _=>?_) (fun _=>?_)|refine Ans.bind (fun _ _ _ _ _=>?_) (fun _ _=>Ans.flt)))
def yQ{α:Type}(O:Ok [] α)(W:Int→Int→α)(V:Nat→α)(B:Bd α)(p:Fns)(T:TT)(K:KK)(U:Int→Int→List Nd→List Int→α)(a d:Int)(A:List Nd)(L:List Int):α:=(B (Fns.next p T K a d A ()) fun y8 a8 d8 A8=>bif az y8.1==0 then(B (Fns.add p T K a8 d8 A8 ((mkN 1 0 0 L [] 0 [] 0 [] 0 0 0 []),0,())) fun y12 a12 d12 A12=>O 3 (AV.tup []) [] () a12 d12 A12)else(B (Fns.few p T K a8 d8 A8 (IntKind.wrap IntKind.i64 ((↑(List.length L):Int)+1),())) fun y12 a12 d12 A12=>(B (Fns.klass p T K a12 d12 A12 ()) fun y16 a16 d16 A16=>bif decide (List.length L+List.length [y16.1]<ar)then U a16 d16 A16 (L++([y16.1]:List Int))else V 404)))
def Bt(p:Fns)(T:TT)(K:KK)(L0:Int→Int→List Nd→List Int→PR (ai []))(a d:Int)(A:List Nd)(L:List Int):PR (ai []):=yQ oP PR.fault eP PR.bind p T K L0 a d A L
theorem LA(p:Fns)(T:TT)(K:KK)(J:Jump R0)(L0:Int→Int→List Nd→List Int→PR (ai []))(h0:∀(a d:Int) (A:List Nd) (L:List Int),Ans [] T K (J 0 (Af T K a d A L)) (L0 a d A L))(a d:Int)(A:List Nd)(L:List Int):Ans [] T K (resume (R:=R0) E (an (aY p)) (aR 2 Cg 0) J [true,false,false,false] zK.code 1 (Af T K a d A L) (bX E 2 zK.results .ok)) (Bt p T K L0 a d A L):=mkA (x:=yQ (oR T K) fl0 .err bR p T K (fun a d A L=>J 0 (Af T K a d A L)) a d A L) (by kernel_rfl) (by unfold Bt yQ;repeat (first|exact h0 _ _ _ _|exact Ans.bad|exact Ans.flt|exact⟨_,_,_,[],rfl,rfl,rfl⟩|exact⟨_,_,_,_,rfl,rfl,rfl⟩|refine Ans.bif (fun _=>?_) (fun _=>?_)|refine Ans.bind (fun _ _ _ _ _=>?_) (fun _ _=>Ans.flt)))
def zA(p:Fns)(T:TT)(K:KK):Nat→Int→Int→List Nd→List Int→PR (ai [])
 |0=>fun _ _ _ _=>.bad
 |n+1=>Bt p T K (zA p T K n)
theorem Mu(p:Fns)(T:TT)(K:KK):∀(n:Nat) (a d:Int) (A:List Nd) (L:List Int),Ans [] T K (pieces (R:=R0) E (an (aY p)) zK Cg 2 .ok n 0 (Af T K a d A L)) (zA p T K n a d A L)
 |0,_,_,_,_=>Ans.bad
 |n+1,a,d,A,L=>by
  rw[aW rfl]
  exact LA p T K _ _ (Mu p T K n) a d A L
def pU(p:Fns)(T:TT)(K:KK)(a d:Int)(A:NN):PR (ai []):=DY p T K (zA p T K (K.length+2)) a d A
def oC{α:Type}(O:Ok [tI] α)(W:Int→Int→α)(V:Nat→α)(B:Bd α)(p:Fns)(T:TT)(K:KK)(U:Int→Int→List Nd→Int→Int→Int→Int→Int→α)(a d:Int)(A:List Nd)(x1:Int):α:=(B (Fns.next p T K a d A ()) fun y8 a8 d8 A8=>bif decide (x1>5)then(B (Fns.unary p T K a8 d8 A8 ()) fun y12 a12 d12 A12=>O 2 (Iz y12.1) [] (y12.1,()) a12 d12 A12)else(B (Fns.chain p T K a8 d8 A8 (IntKind.wrap IntKind.i64 (x1+1),())) fun y12 a12 d12 A12=>U a12 d12 A12 x1 (az y8.1) (ag y8.1) (tTo y8.1) y12.1))
def rD(p:Fns)(T:TT)(K:KK)(L0:Int→Int→List Nd→Int→Int→Int→Int→Int→PR (ai [tI]))(a d:Int)(A:List Nd)(x1:Int):PR (ai [tI]):=oC oP PR.fault eP PR.bind p T K L0 a d A x1
theorem H3(p:Fns)(T:TT)(K:KK)(J:Jump R0)(L0:Int→Int→List Nd→Int→Int→Int→Int→Int→PR (ai [tI]))(h0:∀(a d:Int) (A:List Nd) (l k f t x:Int),Ans [tI] T K (J 0 (qy T K a d A l k f t x)) (L0 a d A l k f t x))(a d:Int)(A:List Nd)(x1:Int):Ans [tI] T K (start (R:=R0) E (an (aY p)) qV xb J [.ref 0 0,.int .i64 x1] (bsP T K a d A) .ok) (rD p T K L0 a d A x1):=mkA (x:=oC (oR T K) fl0 .err bR p T K (fun a d A l k f t x=>J 0 (qy T K a d A l k f t x)) a d A x1) (by kernel_rfl) (by unfold rD oC;repeat (first|exact h0 _ _ _ _ _ _ _ _|exact Ans.bad|exact Ans.flt|exact⟨_,_,_,[],rfl,rfl,rfl⟩|exact⟨_,_,_,_,rfl,rfl,rfl⟩|refine Ans.bif (fun _=>?_) (fun _=>?_)|refine Ans.bind (fun _ _ _ _ _=>?_) (fun _ _=>Ans.flt)))
def sS{α:Type}(O:Ok [tI] α)(W:Int→Int→α)(V:Nat→α)(B:Bd α)(p:Fns)(T:TT)(K:KK)(U:Int→Int→List Nd→Int→Int→Int→Int→Int→α)(a d:Int)(A:List Nd)(l k f t x:Int):α:=(B (Fns.next p T K a d A ()) fun y12 a12 d12 A12=>bif az y12.1==5 then bif eY y12.2.1==l then(B (Fns.skip p T K a12 d12 A12 ()) fun y16 a16 d16 A16=>(B (Fns.chain p T K a16 d16 A16 (IntKind.wrap IntKind.i64 (l+1),())) fun y20 a20 d20 A20=>(B (Fns.add p T K a20 d20 A20 ((mkN 34 0 0 ([x,y20.1]) y12.2.1 0 [] 0 [] 0 0 0 []),f,())) fun y24 a24 d24 A24=>U a24 d24 A24 l k f t y24.1)))else bif l==3 then(B (Fns.take p T K a12 d12 A12 ([105,115],())) fun y16 a16 d16 A16=>bif y16.1 then(B (Fns.take p T K a16 d16 A16 ([115,111,109,101],())) fun y20 a20 d20 A20=>bif !y20.1 then(B (Fns.want p T K a20 d20 A20 ([110,111,110,101],())) fun y24 a24 d24 A24=>(B (Fns.add p T K a24 d24 A24 ((mkN 44 0 0 ([x]) [] 0 [] 0 [] 0 0 0 []),f,())) fun y28 a28 d28 A28=>U a28 d28 A28 l k f t y28.1))else(B (Fns.add p T K a20 d20 A20 ((mkN 43 0 0 ([x]) [] 0 [] 0 [] 0 0 0 []),f,())) fun y24 a24 d24 A24=>U a24 d24 A24 l k f t y24.1))else O 3 (Iz x) [] (x,()) a16 d16 A16)else O 2 (Iz x) [] (x,()) a12 d12 A12 else bif l==3 then(B (Fns.take p T K a12 d12 A12 ([105,115],())) fun y16 a16 d16 A16=>bif y16.1 then(B (Fns.take p T K a16 d16 A16 ([115,111,109,101],())) fun y20 a20 d20 A20=>bif !y20.1 then(B (Fns.want p T K a20 d20 A20 ([110,111,110,101],())) fun y24 a24 d24 A24=>(B (Fns.add p T K a24 d24 A24 ((mkN 44 0 0 ([x]) [] 0 [] 0 [] 0 0 0 []),f,())) fun y28 a28 d28 A28=>U a28 d28 A28 l k f t y28.1))else(B (Fns.add p T K a20 d20 A20 ((mkN 43 0 0 ([x]) [] 0 [] 0 [] 0 0 0 []),f,())) fun y24 a24 d24 A24=>U a24 d24 A24 l k f t y24.1))else O 3 (Iz x) [] (x,()) a16 d16 A16)else O 2 (Iz x) [] (x,()) a12 d12 A12)
def ug(p:Fns)(T:TT)(K:KK)(L0:Int→Int→List Nd→Int→Int→Int→Int→Int→PR (ai [tI]))(a d:Int)(A:List Nd)(l k f t x:Int):PR (ai [tI]):=sS oP PR.fault eP PR.bind p T K L0 a d A l k f t x
theorem IN(p:Fns)(T:TT)(K:KK)(J:Jump R0)(L0:Int→Int→List Nd→Int→Int→Int→Int→Int→PR (ai [tI]))(h0:∀(a d:Int) (A:List Nd) (l k f t x:Int),Ans [tI] T K (J 0 (qy T K a d A l k f t x)) (L0 a d A l k f t x))(a d:Int)(A:List Nd)(l k f t x:Int):Ans [tI] T K (resume (R:=R0) E (an (aY p)) (aR 2 xb 0) J [true,true,true,true,false,false] qV.code 1 (qy T K a d A l k f t x) (bX E 2 qV.results .ok)) (ug p T K L0 a d A l k f t x):=mkA (x:=sS (oR T K) fl0 .err bR p T K (fun a d A l k f t x=>J 0 (qy T K a d A l k f t x)) a d A l k f t x) (by kernel_rfl) (by unfold ug sS;repeat (first|exact h0 _ _ _ _ _ _ _ _|exact Ans.bad|exact Ans.flt|exact⟨_,_,_,[],rfl,rfl,rfl⟩|exact⟨_,_,_,_,rfl,rfl,rfl⟩|refine Ans.bif (fun _=>?_) (fun _=>?_)|refine Ans.bind (fun _ _ _ _ _=>?_) (fun _ _=>Ans.flt)))
def lq(p:Fns)(T:TT)(K:KK):Nat→Int→Int→List Nd→Int→Int→Int→Int→Int→PR (ai [tI])
 |0=>fun _ _ _ _ _ _ _ _=>.bad
 |n+1=>ug p T K (lq p T K n)
theorem Hc(p:Fns)(T:TT)(K:KK):∀(n:Nat) (a d:Int) (A:List Nd) (l k f t x:Int),Ans [tI] T K (pieces (R:=R0) E (an (aY p)) qV xb 2 .ok n 0 (qy T K a d A l k f t x)) (lq p T K n a d A l k f t x)
 |0,_,_,_,_,_,_,_,_=>Ans.bad
 |n+1,a,d,A,l,k,f,t,x=>by
  rw[aW rfl]
  exact IN p T K _ _ (Hc p T K n) a d A l k f t x
def x7(p:Fns)(T:TT)(K:KK)(a d:Int)(A:NN)(x1:Int):PR (ai [tI]):=rD p T K (lq p T K (K.length+2)) a d A x1
def sz{α:Type}(O:Ok [tI] α)(W:Int→Int→α)(V:Nat→α)(B:Bd α)(p:Fns)(T:TT)(K:KK)(U:Int→Int→List Nd→Int→Int→Int→Int→α)(a d:Int)(A:List Nd):α:=(B (Fns.next p T K a d A ()) fun y7 a7 d7 A7=>(B (Fns.primary p T K a7 d7 A7 ()) fun y11 a11 d11 A11=>U a11 d11 A11 (az y7.1) (ag y7.1) (tTo y7.1) y11.1))
def vh(p:Fns)(T:TT)(K:KK)(L0:Int→Int→List Nd→Int→Int→Int→Int→PR (ai [tI]))(a d:Int)(A:List Nd):PR (ai [tI]):=sz oP PR.fault eP PR.bind p T K L0 a d A
theorem H6(p:Fns)(T:TT)(K:KK)(J:Jump R0)(L0:Int→Int→List Nd→Int→Int→Int→Int→PR (ai [tI]))(h0:∀(a d:Int) (A:List Nd) (k f t x:Int),Ans [tI] T K (J 0 (qU T K a d A k f t x)) (L0 a d A k f t x))(a d:Int)(A:List Nd):Ans [tI] T K (start (R:=R0) E (an (aY p)) rz xw J [.ref 0 0] (bsP T K a d A) .ok) (vh p T K L0 a d A):=mkA (x:=sz (oR T K) fl0 .err bR p T K (fun a d A k f t x=>J 0 (qU T K a d A k f t x)) a d A) (by kernel_rfl) (by unfold vh sz;repeat (first|exact h0 _ _ _ _ _ _ _|exact Ans.bad|exact Ans.flt|exact⟨_,_,_,[],rfl,rfl,rfl⟩|exact⟨_,_,_,_,rfl,rfl,rfl⟩|refine Ans.bif (fun _=>?_) (fun _=>?_)|refine Ans.bind (fun _ _ _ _ _=>?_) (fun _ _=>Ans.flt)))
def sb{α:Type}(O:Ok [tI] α)(W:Int→Int→α)(V:Nat→α)(B:Bd α)(p:Fns)(T:TT)(K:KK)(U:Int→Int→List Nd→Int→Int→Int→Int→α)(a d:Int)(A:List Nd)(k f t x:Int):α:=(B (Fns.take p T K a d A ([33],())) fun y11 a11 d11 A11=>bif y11.1 then(B (Fns.add p T K a11 d11 A11 ((mkN 40 0 0 ([x]) [] 0 [] 0 [] 0 0 0 []),f,())) fun y15 a15 d15 A15=>U a15 d15 A15 k f t y15.1)else(B (Fns.take p T K a11 d11 A11 ([91],())) fun y15 a15 d15 A15=>bif y15.1 then(B (Fns.value p T K a15 d15 A15 ()) fun y19 a19 d19 A19=>(B (Fns.want p T K a19 d19 A19 ([93],())) fun y23 a23 d23 A23=>(B (Fns.add p T K a23 d23 A23 ((mkN 27 0 0 ([x,y19.1]) [] 0 [] 0 [] 0 0 0 []),f,())) fun y27 a27 d27 A27=>U a27 d27 A27 k f t y27.1)))else(B (Fns.take p T K a15 d15 A15 ([46],())) fun y19 a19 d19 A19=>bif y19.1 then(B (Fns.part p T K a19 d19 A19 (x,f,())) fun y23 a23 d23 A23=>U a23 d23 A23 k f t y23.1)else O 4 (Iz x) [] (x,()) a19 d19 A19)))
def uZ(p:Fns)(T:TT)(K:KK)(L0:Int→Int→List Nd→Int→Int→Int→Int→PR (ai [tI]))(a d:Int)(A:List Nd)(k f t x:Int):PR (ai [tI]):=sb oP PR.fault eP PR.bind p T K L0 a d A k f t x
theorem Ix(p:Fns)(T:TT)(K:KK)(J:Jump R0)(L0:Int→Int→List Nd→Int→Int→Int→Int→PR (ai [tI]))(h0:∀(a d:Int) (A:List Nd) (k f t x:Int),Ans [tI] T K (J 0 (qU T K a d A k f t x)) (L0 a d A k f t x))(a d:Int)(A:List Nd)(k f t x:Int):Ans [tI] T K (resume (R:=R0) E (an (aY p)) (aR 2 xw 0) J [true,true,true,false,false] rz.code 1 (qU T K a d A k f t x) (bX E 2 rz.results .ok)) (uZ p T K L0 a d A k f t x):=mkA (x:=sb (oR T K) fl0 .err bR p T K (fun a d A k f t x=>J 0 (qU T K a d A k f t x)) a d A k f t x) (by kernel_rfl) (by unfold uZ sb;repeat (first|exact h0 _ _ _ _ _ _ _|exact Ans.bad|exact Ans.flt|exact⟨_,_,_,[],rfl,rfl,rfl⟩|exact⟨_,_,_,_,rfl,rfl,rfl⟩|refine Ans.bif (fun _=>?_) (fun _=>?_)|refine Ans.bind (fun _ _ _ _ _=>?_) (fun _ _=>Ans.flt)))
def nG(p:Fns)(T:TT)(K:KK):Nat→Int→Int→List Nd→Int→Int→Int→Int→PR (ai [tI])
 |0=>fun _ _ _ _ _ _ _=>.bad
 |n+1=>uZ p T K (nG p T K n)
theorem GA(p:Fns)(T:TT)(K:KK):∀(n:Nat) (a d:Int) (A:List Nd) (k f t x:Int),Ans [tI] T K (pieces (R:=R0) E (an (aY p)) rz xw 2 .ok n 0 (qU T K a d A k f t x)) (nG p T K n a d A k f t x)
 |0,_,_,_,_,_,_,_=>Ans.bad
 |n+1,a,d,A,k,f,t,x=>by
  rw[aW rfl]
  exact Ix p T K _ _ (GA p T K n) a d A k f t x
def GV(p:Fns)(T:TT)(K:KK)(a d:Int)(A:NN):PR (ai [tI]):=vh p T K (nG p T K (K.length+2)) a d A
def xU{α:Type}(O:Ok [tI] α)(W:Int→Int→α)(V:Nat→α)(B:Bd α)(p:Fns)(T:TT)(K:KK)(U:Int→Int→List Nd→Int→Int→Int→List UInt8→List Int→α)(a d:Int)(A:List Nd):α:=(B (Fns.next p T K a d A ()) fun y7 a7 d7 A7=>(B (Fns.want p T K a7 d7 A7 ([99,108,97,115,115],())) fun y11 a11 d11 A11=>(B (Fns.name p T K a11 d11 A11 ()) fun y15 a15 d15 A15=>(B (Fns.next p T K a15 d15 A15 ()) fun y19 a19 d19 A19=>(B (Fns.take p T K a19 d19 A19 ([101,120,116,101,110,100,115],())) fun y23 a23 d23 A23=>bif y23.1 then(B (Fns.name p T K a23 d23 A23 ()) fun y27 a27 d27 A27=>(B (Fns.add p T K a27 d27 A27 ((mkN 3 0 0 [] y27.1 0 [] 0 [] 0 0 0 []),ag y19.1,())) fun y31 a31 d31 A31=>(B (Fns.want p T K a31 d31 A31 ([123],())) fun y35 a35 d35 A35=>U a35 d35 A35 (az y7.1) (ag y7.1) (tTo y7.1) y15.1 [y31.1])))else(B (Fns.want p T K a23 d23 A23 ([123],())) fun y27 a27 d27 A27=>U a27 d27 A27 (az y7.1) (ag y7.1) (tTo y7.1) y15.1 []))))))
def DI(p:Fns)(T:TT)(K:KK)(L0:Int→Int→List Nd→Int→Int→Int→List UInt8→List Int→PR (ai [tI]))(a d:Int)(A:List Nd):PR (ai [tI]):=xU oP PR.fault eP PR.bind p T K L0 a d A
theorem MK(p:Fns)(T:TT)(K:KK)(J:Jump R0)(L0:Int→Int→List Nd→Int→Int→Int→List UInt8→List Int→PR (ai [tI]))(h0:∀(a d:Int) (A:List Nd) (k f t:Int) (s:List UInt8) (L:List Int),Ans [tI] T K (J 0 (zw T K a d A k f t s L)) (L0 a d A k f t s L))(a d:Int)(A:List Nd):Ans [tI] T K (start (R:=R0) E (an (aY p)) z8 CU J [.ref 0 0] (bsP T K a d A) .ok) (DI p T K L0 a d A):=mkA (x:=xU (oR T K) fl0 .err bR p T K (fun a d A k f t s L=>J 0 (zw T K a d A k f t s L)) a d A) (by kernel_rfl) (by unfold DI xU;repeat (first|exact h0 _ _ _ _ _ _ _ _|exact Ans.bad|exact Ans.flt|exact⟨_,_,_,[],rfl,rfl,rfl⟩|exact⟨_,_,_,_,rfl,rfl,rfl⟩|refine Ans.bif (fun _=>?_) (fun _=>?_)|refine Ans.bind (fun _ _ _ _ _=>?_) (fun _ _=>Ans.flt)))
def yG{α:Type}(O:Ok [tI] α)(W:Int→Int→α)(V:Nat→α)(B:Bd α)(p:Fns)(T:TT)(K:KK)(U:Int→Int→List Nd→Int→Int→Int→List UInt8→List Int→α)(a d:Int)(A:List Nd)(k f t:Int)(s:List UInt8)(L:List Int):α:=(B (Fns.isS p T K a d A ([125],())) fun y12 a12 d12 A12=>bif !y12.1 then(B (Fns.few p T K a12 d12 A12 (IntKind.wrap IntKind.i64 ((↑(List.length L):Int)+1),())) fun y16 a16 d16 A16=>(B (Fns.member p T K a16 d16 A16 ()) fun y20 a20 d20 A20=>bif decide (List.length L+List.length [y20.1]<ar)then U a20 d20 A20 k f t s (L++([y20.1]:List Int))else V 1005))else(B (Fns.want p T K a12 d12 A12 ([125],())) fun y16 a16 d16 A16=>(B (Fns.add p T K a16 d16 A16 ((mkN 2 0 0 L s 0 [] 0 [] 0 0 0 []),f,())) fun y20 a20 d20 A20=>O 4 (Iz y20.1) [] (y20.1,()) a20 d20 A20)))
def DH(p:Fns)(T:TT)(K:KK)(L0:Int→Int→List Nd→Int→Int→Int→List UInt8→List Int→PR (ai [tI]))(a d:Int)(A:List Nd)(k f t:Int)(s:List UInt8)(L:List Int):PR (ai [tI]):=yG oP PR.fault eP PR.bind p T K L0 a d A k f t s L
theorem Me(p:Fns)(T:TT)(K:KK)(J:Jump R0)(L0:Int→Int→List Nd→Int→Int→Int→List UInt8→List Int→PR (ai [tI]))(h0:∀(a d:Int) (A:List Nd) (k f t:Int) (s:List UInt8) (L:List Int),Ans [tI] T K (J 0 (zw T K a d A k f t s L)) (L0 a d A k f t s L))(a d:Int)(A:List Nd)(k f t:Int)(s:List UInt8)(L:List Int):Ans [tI] T K (resume (R:=R0) E (an (aY p)) (aR 2 CU 0) J [true,true,true,true,true,true,false,false,false] z8.code 1 (zw T K a d A k f t s L) (bX E 2 z8.results .ok)) (DH p T K L0 a d A k f t s L):=mkA (x:=yG (oR T K) fl0 .err bR p T K (fun a d A k f t s L=>J 0 (zw T K a d A k f t s L)) a d A k f t s L) (by kernel_rfl) (by unfold DH yG;repeat (first|exact h0 _ _ _ _ _ _ _ _|exact Ans.bad|exact Ans.flt|exact⟨_,_,_,[],rfl,rfl,rfl⟩|exact⟨_,_,_,_,rfl,rfl,rfl⟩|refine Ans.bif (fun _=>?_) (fun _=>?_)|refine Ans.bind (fun _ _ _ _ _=>?_) (fun _ _=>Ans.flt)))
def zP(p:Fns)(T:TT)(K:KK):Nat→Int→Int→List Nd→Int→Int→Int→List UInt8→List Int→PR (ai [tI])
 |0=>fun _ _ _ _ _ _ _ _=>.bad
 |n+1=>DH p T K (zP p T K n)
theorem NF(p:Fns)(T:TT)(K:KK):∀(n:Nat) (a d:Int) (A:List Nd) (k f t:Int) (s:List UInt8) (L:List Int),Ans [tI] T K (pieces (R:=R0) E (an (aY p)) z8 CU 2 .ok n 0 (zw T K a d A k f t s L)) (zP p T K n a d A k f t s L)
 |0,_,_,_,_,_,_,_,_=>Ans.bad
 |n+1,a,d,A,k,f,t,s,L=>by
  rw[aW rfl]
  exact Me p T K _ _ (NF p T K n) a d A k f t s L
def Ls(p:Fns)(T:TT)(K:KK)(a d:Int)(A:NN):PR (ai [tI]):=DI p T K (zP p T K (K.length+2)) a d A
end Go.Sx.Tryz
namespace Go.Sx.Tryz
open Go Go.Sx Go.Proofs
set_option maxRecDepth 100000
def tq{α:Type}(O:Ok [tI] α)(W:Int→Int→α)(V:Nat→α)(B:Bd α)(p:Fns)(T:TT)(K:KK)(a d:Int)(A:NN)(x1:Int):α:=(B (Fns.value p T K a d A ()) fun y7 a7 d7 A7=>(B (Fns.next p T K a7 d7 A7 ()) fun y11 a11 d11 A11=>bif inI y7.1 (List.length A11)then bif Nat.ble (List.length (aa (aj A11 (Int.toNat y7.1)))) 17592186044416 then bif Nat.ble (List.length (aF (aj A11 (Int.toNat y7.1)))) 17592186044416 then(B (Fns.take p T K a11 d11 A11 ([61],())) fun y15 a15 d15 A15=>bif y15.1 then bif ae (aj A11 (Int.toNat y7.1)) !=25 then bif ae (aj A11 (Int.toNat y7.1)) !=26 then bif ae (aj A11 (Int.toNat y7.1)) !=27 then W ((132:Int)) (ag y11.1)else(B (Fns.value p T K a15 d15 A15 ()) fun y19 a19 d19 A19=>(B (Fns.want p T K a19 d19 A19 ([59],())) fun y23 a23 d23 A23=>(B (Fns.add p T K a23 d23 A23 ((mkN 10 0 0 ([y7.1,y19.1]) [] 0 [] 0 [] 0 0 0 []),x1,())) fun y27 a27 d27 A27=>O 6 (Iz y27.1) [] (y27.1,()) a27 d27 A27)))else(B (Fns.value p T K a15 d15 A15 ()) fun y19 a19 d19 A19=>(B (Fns.want p T K a19 d19 A19 ([59],())) fun y23 a23 d23 A23=>(B (Fns.add p T K a23 d23 A23 ((mkN 10 0 0 ([y7.1,y19.1]) [] 0 [] 0 [] 0 0 0 []),x1,())) fun y27 a27 d27 A27=>O 6 (Iz y27.1) [] (y27.1,()) a27 d27 A27)))else(B (Fns.value p T K a15 d15 A15 ()) fun y19 a19 d19 A19=>(B (Fns.want p T K a19 d19 A19 ([59],())) fun y23 a23 d23 A23=>(B (Fns.add p T K a23 d23 A23 ((mkN 10 0 0 ([y7.1,y19.1]) [] 0 [] 0 [] 0 0 0 []),x1,())) fun y27 a27 d27 A27=>O 6 (Iz y27.1) [] (y27.1,()) a27 d27 A27)))else bif ae (aj A11 (Int.toNat y7.1)) !=29 then bif ae (aj A11 (Int.toNat y7.1)) !=30 then W ((132:Int)) x1 else(B (Fns.want p T K a15 d15 A15 ([59],())) fun y19 a19 d19 A19=>(B (Fns.add p T K a19 d19 A19 ((mkN 18 0 0 ([y7.1]) [] 0 [] 0 [] 0 0 0 []),x1,())) fun y23 a23 d23 A23=>O 5 (Iz y23.1) [] (y23.1,()) a23 d23 A23))else(B (Fns.want p T K a15 d15 A15 ([59],())) fun y19 a19 d19 A19=>(B (Fns.add p T K a19 d19 A19 ((mkN 18 0 0 ([y7.1]) [] 0 [] 0 [] 0 0 0 []),x1,())) fun y23 a23 d23 A23=>O 5 (Iz y23.1) [] (y23.1,()) a23 d23 A23)))else V 1000066 else V 1000066 else V 106))
def qD(p:Fns)(T:TT)(K:KK)(a d:Int)(A:NN)(x1:Int):PR (ai [tI]):=tq oP PR.fault eP PR.bind p T K a d A x1
theorem Io(p:Fns)(T:TT)(K:KK)(a d:Int)(A:NN)(x1:Int):Ans [tI] T K (body (R:=R0) E (an (aY p)) CC [.ref 0 0,.int .i64 x1] (bsP T K a d A) .ok) (qD p T K a d A x1):=mkA (x:=tq (oR T K) fl0 .err bR p T K a d A x1) (by kernel_rfl) (by unfold qD tq;exact An)
def rW{α:Type}(O:Ok [tN] α)(W:Int→Int→α)(V:Nat→α)(B:Bd α)(p:Fns)(T:TT)(K:KK)(U:Int→Int→List Nd→Int→Int→Int→List UInt8→Int→List UInt8→Int→List UInt8→Int→Int→Int→List Int→α)(a d:Int)(A:List Nd):α:=(B (Fns.base p T K a d A ()) fun y7 a7 d7 A7=>U a7 d7 A7 (ae y7.1) (nAt y7.1) (nTo y7.1) (aw y7.1) (ax y7.1) (aA y7.1) (ak y7.1) (ah y7.1) (nN y7.1) (nW1 y7.1) (nW2 y7.1) (aF y7.1))
def ue(p:Fns)(T:TT)(K:KK)(L0:Int→Int→List Nd→Int→Int→Int→List UInt8→Int→List UInt8→Int→List UInt8→Int→Int→Int→List Int→PR (ai [tN]))(a d:Int)(A:List Nd):PR (ai [tN]):=rW oP PR.fault eP PR.bind p T K L0 a d A
theorem Il(p:Fns)(T:TT)(K:KK)(J:Jump R0)(L0:Int→Int→List Nd→Int→Int→Int→List UInt8→Int→List UInt8→Int→List UInt8→Int→Int→Int→List Int→PR (ai [tN]))(h0:∀(a d:Int) (A:List Nd) (k0 a0 t0:Int) (s0:List UInt8) (b:Int) (nm:List UInt8) (dm:Int) (mr:List UInt8) (n0 w1 w2:Int) (L:List Int),Ans [tN] T K (J 0 (rn T K a d A k0 a0 t0 s0 b nm dm mr n0 w1 w2 L)) (L0 a d A k0 a0 t0 s0 b nm dm mr n0 w1 w2 L))(a d:Int)(A:List Nd):Ans [tN] T K (start (R:=R0) E (an (aY p)) rG wo J [.ref 0 0] (bsP T K a d A) .ok) (ue p T K L0 a d A):=mkA (x:=rW (oR T K) fl0 .err bR p T K (fun a d A k0 a0 t0 s0 b nm dm mr n0 w1 w2 L=>J 0 (rn T K a d A k0 a0 t0 s0 b nm dm mr n0 w1 w2 L)) a d A) (by kernel_rfl) (by unfold ue rW;repeat (first|exact h0 _ _ _ _ _ _ _ _ _ _ _ _ _ _ _|exact Ans.bad|exact Ans.flt|exact⟨_,_,_,[],rfl,rfl,rfl⟩|exact⟨_,_,_,_,rfl,rfl,rfl⟩|refine Ans.bif (fun _=>?_) (fun _=>?_)|refine Ans.bind (fun _ _ _ _ _=>?_) (fun _ _=>Ans.flt)))
def rK{α:Type}(O:Ok [tN] α)(W:Int→Int→α)(V:Nat→α)(B:Bd α)(p:Fns)(T:TT)(K:KK)(U:Int→Int→List Nd→Int→Int→Int→List UInt8→Int→List UInt8→Int→List UInt8→Int→Int→Int→List Int→α)(a d:Int)(A:List Nd)(k0 a0 t0:Int)(s0:List UInt8)(b:Int)(nm:List UInt8)(dm:Int)(mr:List UInt8)(n0 w1 w2:Int)(L:List Int):α:=(B (Fns.next p T K a d A ()) fun y19 a19 d19 A19=>(B (Fns.isS p T K a19 d19 A19 ([63],())) fun y23 a23 d23 A23=>bif !y23.1 then(B (Fns.next p T K a23 d23 A23 ()) fun y27 a27 d27 A27=>(B (Fns.ahead p T K a27 d27 A27 (1,())) fun y31 a31 d31 A31=>(B (Fns.isS p T K a31 d31 A31 ([91],())) fun y35 a35 d35 A35=>bif !y35.1 then O 6 (AV.agg [Iz k0,Iz a0,Iz t0,AV.nils,AV.str s0,Iz b,AV.str nm,Iz dm,AV.str mr,Iz n0,Iz w1,Iz w2,AV.own 2 0]) [Blk.list 3 (Ty.int IntKind.i64) 0 false L] ((mkN k0 a0 t0 [] s0 b nm dm mr n0 w1 w2 L),()) a35 d35 A35 else bif !y31.2.1==[93]then O 6 (AV.agg [Iz k0,Iz a0,Iz t0,AV.nils,AV.str s0,Iz b,AV.str nm,Iz dm,AV.str mr,Iz n0,Iz w1,Iz w2,AV.own 2 0]) [Blk.list 3 (Ty.int IntKind.i64) 0 false L] ((mkN k0 a0 t0 [] s0 b nm dm mr n0 w1 w2 L),()) a35 d35 A35 else bif dm==4 then W ((2:Int)) (ag y27.1)else(B (Fns.skip p T K a35 d35 A35 ()) fun y39 a39 d39 A39=>(B (Fns.skip p T K a39 d39 A39 ()) fun y43 a43 d43 A43=>bif decide (List.length mr+List.length [32]<2^62)then bif decide (List.length L+List.length [y43.1]<ar)then U a43 d43 A43 k0 a0 t0 s0 b nm (IntKind.wrap IntKind.i64 (dm+1)) (mr++([32]:List UInt8)) n0 w1 y43.1 (L++([y43.1]:List Int))else V 1111 else V 1005)))))else bif b !=5 then bif dm==0 then W ((81:Int)) (ag y19.1)else bif inI dm (List.length mr)then bif (↑(UInt8.toNat (List.getD mr (Int.toNat dm) 0)):Int) !=32 then W ((81:Int)) (ag y19.1)else bif inB 0 dm (List.length mr)then bif decide (List.length (List.drop (Int.toNat 0) (List.take (Int.toNat dm) mr))+List.length [63]<2^62)then(B (Fns.skip p T K a23 d23 A23 ()) fun y27 a27 d27 A27=>U a27 d27 A27 k0 a0 t0 s0 b nm dm (List.drop (Int.toNat 0) (List.take (Int.toNat dm) mr)++([63]:List UInt8)) n0 w1 y27.1 L)else V 708 else V 707 else V 517 else bif inI dm (List.length mr)then bif (↑(UInt8.toNat (List.getD mr (Int.toNat dm) 0)):Int) !=32 then W ((81:Int)) (ag y19.1)else bif inB 0 dm (List.length mr)then bif decide (List.length (List.drop (Int.toNat 0) (List.take (Int.toNat dm) mr))+List.length [63]<2^62)then(B (Fns.skip p T K a23 d23 A23 ()) fun y27 a27 d27 A27=>U a27 d27 A27 k0 a0 t0 s0 b nm dm (List.drop (Int.toNat 0) (List.take (Int.toNat dm) mr)++([63]:List UInt8)) n0 w1 y27.1 L)else V 708 else V 707 else V 517))
def vw(p:Fns)(T:TT)(K:KK)(L0:Int→Int→List Nd→Int→Int→Int→List UInt8→Int→List UInt8→Int→List UInt8→Int→Int→Int→List Int→PR (ai [tN]))(a d:Int)(A:List Nd)(k0 a0 t0:Int)(s0:List UInt8)(b:Int)(nm:List UInt8)(dm:Int)(mr:List UInt8)(n0 w1 w2:Int)(L:List Int):PR (ai [tN]):=rK oP PR.fault eP PR.bind p T K L0 a d A k0 a0 t0 s0 b nm dm mr n0 w1 w2 L
theorem IW(p:Fns)(T:TT)(K:KK)(J:Jump R0)(L0:Int→Int→List Nd→Int→Int→Int→List UInt8→Int→List UInt8→Int→List UInt8→Int→Int→Int→List Int→PR (ai [tN]))(h0:∀(a d:Int) (A:List Nd) (k0 a0 t0:Int) (s0:List UInt8) (b:Int) (nm:List UInt8) (dm:Int) (mr:List UInt8) (n0 w1 w2:Int) (L:List Int),Ans [tN] T K (J 0 (rn T K a d A k0 a0 t0 s0 b nm dm mr n0 w1 w2 L)) (L0 a d A k0 a0 t0 s0 b nm dm mr n0 w1 w2 L))(a d:Int)(A:List Nd)(k0 a0 t0:Int)(s0:List UInt8)(b:Int)(nm:List UInt8)(dm:Int)(mr:List UInt8)(n0 w1 w2:Int)(L:List Int):Ans [tN] T K (resume (R:=R0) E (an (aY p)) (aR 2 wo 0) J [true,true,false,false,false] rG.code 1 (rn T K a d A k0 a0 t0 s0 b nm dm mr n0 w1 w2 L) (bX E 2 rG.results .ok)) (vw p T K L0 a d A k0 a0 t0 s0 b nm dm mr n0 w1 w2 L):=mkA (x:=rK (oR T K) fl0 .err bR p T K (fun a d A k0 a0 t0 s0 b nm dm mr n0 w1 w2 L=>J 0 (rn T K a d A k0 a0 t0 s0 b nm dm mr n0 w1 w2 L)) a d A k0 a0 t0 s0 b nm dm mr n0 w1 w2 L) (by kernel_rfl) (by unfold vw rK;repeat (first|exact h0 _ _ _ _ _ _ _ _ _ _ _ _ _ _ _|exact Ans.bad|exact Ans.flt|exact⟨_,_,_,[],rfl,rfl,rfl⟩|exact⟨_,_,_,_,rfl,rfl,rfl⟩|refine Ans.bif (fun _=>?_) (fun _=>?_)|refine Ans.bind (fun _ _ _ _ _=>?_) (fun _ _=>Ans.flt)))
def mw(p:Fns)(T:TT)(K:KK):Nat→Int→Int→List Nd→Int→Int→Int→List UInt8→Int→List UInt8→Int→List UInt8→Int→Int→Int→List Int→PR (ai [tN])
 |0=>fun _ _ _ _ _ _ _ _ _ _ _ _ _ _ _=>.bad
 |n+1=>vw p T K (mw p T K n)
theorem HU(p:Fns)(T:TT)(K:KK):∀(n:Nat) (a d:Int) (A:List Nd) (k0 a0 t0:Int) (s0:List UInt8) (b:Int) (nm:List UInt8) (dm:Int) (mr:List UInt8) (n0 w1 w2:Int) (L:List Int),Ans [tN] T K (pieces (R:=R0) E (an (aY p)) rG wo 2 .ok n 0 (rn T K a d A k0 a0 t0 s0 b nm dm mr n0 w1 w2 L)) (mw p T K n a d A k0 a0 t0 s0 b nm dm mr n0 w1 w2 L)
 |0,_,_,_,_,_,_,_,_,_,_,_,_,_,_,_=>Ans.bad
 |n+1,a,d,A,k0,a0,t0,s0,b,nm,dm,mr,n0,w1,w2,L=>by
  rw[aW rfl]
  exact IW p T K _ _ (HU p T K n) a d A k0 a0 t0 s0 b nm dm mr n0 w1 w2 L
def HD(p:Fns)(T:TT)(K:KK)(a d:Int)(A:NN):PR (ai [tN]):=ue p T K (mw p T K (K.length+2)) a d A
def sw{α:Type}(O:Ok [tN] α)(W:Int→Int→α)(V:Nat→α)(B:Bd α)(p:Fns)(T:TT)(K:KK)(a d:Int)(A:NN):α:=(B (Fns.inner p T K a d A ()) fun y6 a6 d6 A6=>(B (Fns.isS p T K a6 d6 A6 ([40],())) fun y10 a10 d10 A10=>bif y10.1 then bif ax y6.1 !=5 then W ((5:Int)) (nW1 y6.1)else bif decide (ak y6.1>0)then W ((5:Int)) (nW1 y6.1)else bif decide (UInt8.toNat 32<128)&&Nat.ble (List.length (ah y6.1)) 9223372036854775807 then bif !Lib.trimB (ah y6.1) 32==[]then W ((5:Int)) (nW1 y6.1)else(B (Fns.args p T K a10 d10 A10 ()) fun y14 a14 d14 A14=>O 3 (AV.agg [Iz ((30:Int)),Iz (nAt y6.1),Iz (nTo y6.1),AV.own 2 0,AV.str (aw y6.1),Iz (ax y6.1),AV.str (aA y6.1),Iz (ak y6.1),AV.str (ah y6.1),Iz (nN y6.1),Iz (nW1 y6.1),Iz (nW2 y6.1),AV.sl (Ty.int IntKind.i64) (aF y6.1)]) [Blk.list 3 (Ty.int IntKind.i64) 0 false y14.1] ((mkN ((30:Int)) (nAt y6.1) (nTo y6.1) y14.1 (aw y6.1) (ax y6.1) (aA y6.1) (ak y6.1) (ah y6.1) (nN y6.1) (nW1 y6.1) (nW2 y6.1) (aF y6.1)),()) a14 d14 A14)else V 1000135 else(B (Fns.want p T K a10 d10 A10 ([91],())) fun y14 a14 d14 A14=>(B (Fns.value p T K a14 d14 A14 ()) fun y18 a18 d18 A18=>(B (Fns.want p T K a18 d18 A18 ([93],())) fun y22 a22 d22 A22=>O 5 (AV.agg [Iz ((31:Int)),Iz (nAt y6.1),Iz (nTo y6.1),AV.own 2 0,AV.str (aw y6.1),Iz (ax y6.1),AV.str (aA y6.1),Iz (ak y6.1),AV.str (ah y6.1),Iz (nN y6.1),Iz (nW1 y6.1),Iz (nW2 y6.1),AV.sl (Ty.int IntKind.i64) (aF y6.1)]) [Blk.list 3 (Ty.int IntKind.i64) 0 false [y18.1]] ((mkN ((31:Int)) (nAt y6.1) (nTo y6.1) ([y18.1]) (aw y6.1) (ax y6.1) (aA y6.1) (ak y6.1) (ah y6.1) (nN y6.1) (nW1 y6.1) (nW2 y6.1) (aF y6.1)),()) a22 d22 A22)))))
def rh(p:Fns)(T:TT)(K:KK)(a d:Int)(A:NN):PR (ai [tN]):=sw oP PR.fault eP PR.bind p T K a d A
theorem Jl(p:Fns)(T:TT)(K:KK)(a d:Int)(A:NN):Ans [tN] T K (body (R:=R0) E (an (aY p)) BL [.ref 0 0] (bsP T K a d A) .ok) (rh p T K a d A):=mkA (x:=sw (oR T K) fl0 .err bR p T K a d A) (by kernel_rfl) (by unfold rh sw;exact An)
end Go.Sx.Tryz
namespace Go.Sx.Tryz
open Go Go.Sx Go.Proofs
set_option maxRecDepth 100000
variable{G:Nat→Obj→Prop}{p:Fns}
theorem ok45(hl:aT Tryz.prog G (aY p)):bG G 69 [] [tT,tS] (fun T K a d A x=>z6 p T K a d A):=bK Lv hl fun T K a d A _=>KV p T K a d A
theorem Nu(hl:aT Tryz.prog G (aY p)):bG G 169 [tI] [tI,tS] (fun T K a d A x=>qa p T K a d A x.1):=bK Hv hl fun T K a d A ⟨x1,_⟩=>I7 p T K a d A x1
theorem ok90(hl:aT Tryz.prog G (aY p)):bG G 122 [] [tI] (fun T K a d A x=>Ay p T K a d A):=bK Gz hl fun T K a d A _=>Lp p T K a d A
theorem ok75(hl:aT Tryz.prog G (aY p)):bG G 101 [tS] [tB] (fun T K a d A x=>AJ p T K a d A x.1):=bK He hl fun T K a d A ⟨x1,_⟩=>ML p T K a d A x1
theorem ok74(hl:aT Tryz.prog G (aY p)):bG G 100 [tS] [tB] (fun T K a d A x=>zN p T K a d A x.1):=bK HX hl fun T K a d A ⟨x1,_⟩=>Lr p T K a d A x1
theorem ok72(hl:aT Tryz.prog G (aY p)):bG G 98 [tS] [tI] (fun T K a d A x=>zz p T K a d A x.1):=bK Ms hl fun T K a d A ⟨x1,_⟩=>NJ p T K a d A x1
theorem ok73(hl:aT Tryz.prog G (aY p)):bG G 99 [] [tS] (fun T K a d A x=>zJ p T K a d A):=bK Mf hl fun T K a d A _=>NX p T K a d A
theorem ok48(hl:aT Tryz.prog G (aY p)):bG G 72 [tN,tI] [tI] (fun T K a d A x=>zX p T K a d A x.1 x.2.1):=bK K4 hl fun T K a d A ⟨x1,x2,_⟩=>NV p T K a d A x1 x2
theorem LR(hl:aT Tryz.prog G (aY p)):bG G 132 [] [] (fun T K a d A x=>re p T K a d A):=bK GO hl fun T K a d A _=>KI p T K a d A
theorem ok46(hl:aT Tryz.prog G (aY p)):bG G 70 [tI] [] (fun T K a d A x=>AQ p T K a d A x.1):=bK NB hl fun T K a d A ⟨x1,_⟩=>Ll p T K a d A x1
theorem ok47(hl:aT Tryz.prog G (aY p)):bG G 71 [] [tI] (fun T K a d A x=>Ls p T K a d A):=gd Nk hl fun T K a d A _=>⟨_,MK p T K _ _ (NF p T K _) a d A⟩
theorem ok76(hl:aT Tryz.prog G (aY p)):bG G 102 [] [tI] (fun T K a d A x=>Az p T K a d A):=bK HH hl fun T K a d A _=>LM p T K a d A
theorem ok92(hl:aT Tryz.prog G (aY p)):jH G 123 [] [tL] (fun T K a d A x=>Nz p T K a d A) iy dI:=rp HM GC hl fun T K a d A _=>⟨_,KR p T K _ _ (NO p T K _) a d A⟩
theorem ok94(hl:aT Tryz.prog G (aY p)):bG G 125 [tB] [tN] (fun T K a d A x=>Ah p T K a d A x.1):=bK G7 hl fun T K a d A ⟨x1,_⟩=>Mt p T K a d A x1
theorem Nv(hl:aT Tryz.prog G (aY p)):bG G 134 [] [tN] (fun T K a d A x=>HD p T K a d A):=gd HN hl fun T K a d A _=>⟨_,Il p T K _ _ (HU p T K _) a d A⟩
theorem LH(hl:aT Tryz.prog G (aY p)):jH G 149 [] [tN] (fun T K a d A x=>p9 p T K a d A) Dh rv:=BS MM Ho hl fun T K a d A _=>Jv p T K a d A
theorem ok93(hl:aT Tryz.prog G (aY p)):bG G 124 [] [tI] (fun T K a d A x=>LS p T K a d A):=gd HP hl fun T K a d A _=>⟨_,Np p T K _ _ (MW p T K _) a d A⟩
theorem KP(hl:aT Tryz.prog G (aY p)):bG G 145 [] [tB] (fun T K a d A x=>qg p T K a d A):=bK GG hl fun T K a d A _=>JC p T K a d A
theorem Mz(hl:aT Tryz.prog G (aY p)):bG G 133 [] [tI] (fun T K a d A x=>qh p T K a d A):=bK GQ hl fun T K a d A _=>IQ p T K a d A
theorem MD(hl:aT Tryz.prog G (aY p)):bG G 147 [tS] [tN,tB] (fun T K a d A x=>qJ p T K a d A x.1):=bK Hq hl fun T K a d A ⟨x1,_⟩=>Iy p T K a d A x1
theorem MP(hl:aT Tryz.prog G (aY p)):bG G 148 [tI] [tI] (fun T K a d A x=>qD p T K a d A x.1):=bK HY hl fun T K a d A ⟨x1,_⟩=>Io p T K a d A x1
theorem MI(hl:aT Tryz.prog G (aY p)):bG G 171 [] [tI] (fun T K a d A x=>qv p T K a d A):=bK Hi hl fun T K a d A _=>Jb p T K a d A
theorem Ny(hl:aT Tryz.prog G (aY p)):jH G 172 [] [tL] (fun T K a d A x=>G0 p T K a d A) iy dI:=rp HM HG hl fun T K a d A _=>⟨_,KL p T K _ _ (Hn p T K _) a d A⟩
theorem LK(hl:aT Tryz.prog G (aY p)):bG G 146 [] [tI] (fun T K a d A x=>qF p T K a d A):=bK Hg hl fun T K a d A _=>Je p T K a d A
theorem L6(hl:aT Tryz.prog G (aY p)):bG G 170 [tI] [tI] (fun T K a d A x=>x7 p T K a d A x.1):=gd HK hl fun T K a d A ⟨x1,_⟩=>⟨_,H3 p T K _ _ (Hc p T K _) a d A x1⟩
theorem KT(hl:aT Tryz.prog G (aY p)):bG G 188 [] [tI] (fun T K a d A x=>rA p T K a d A):=bK GL hl fun T K a d A _=>JF p T K a d A
theorem LZ(hl:aT Tryz.prog G (aY p)):bG G 200 [] [tI] (fun T K a d A x=>GV p T K a d A):=gd HC hl fun T K a d A _=>⟨_,H6 p T K _ _ (GA p T K _) a d A⟩
theorem LG(hl:aT Tryz.prog G (aY p)):bG G 215 [] [tI] (fun T K a d A x=>qZ p T K a d A):=bK G3 hl fun T K a d A _=>Kj p T K a d A
theorem M3(hl:aT Tryz.prog G (aY p)):bG G 216 [tI,tI] [tI] (fun T K a d A x=>rC p T K a d A x.1 x.2.1):=bK GZ hl fun T K a d A ⟨x1,x2,_⟩=>IJ p T K a d A x1 x2
theorem MQ(hl:aT Tryz.prog G (aY p)):bG G 232 [tN,tI] [tI] (fun T K a d A x=>qS p T K a d A x.1 x.2.1):=bK HB hl fun T K a d A ⟨x1,x2,_⟩=>IC p T K a d A x1 x2
theorem Nt(hl:aT Tryz.prog G (aY p)):bG G 234 [tT,tS] [tI] (fun T K a d A x=>rm p T K a d A x.1 x.2.1):=bK Hw hl fun T K a d A ⟨x1,x2,_⟩=>JU p T K a d A x1 x2
theorem Lb(hl:aT Tryz.prog G (aY p)):bG G 239 [] [tN] (fun T K a d A x=>rh p T K a d A):=bK G9 hl fun T K a d A _=>Jl p T K a d A
theorem ok26(hl:aT Tryz.prog G (aY p)):bG G 41 [] [] (fun T K a d A x=>pU p T K a d A):=gd Fy hl fun T K a d A _=>⟨_,MN p T K _ _ (Mu p T K _) a d A⟩
def Hl(p:Fns):Fns where
 next:=fun T K a d A x=>z6 p T K a d A
 ahead:=fun T K a d A x=>qa p T K a d A x.1
 skip:=fun T K a d A x=>Ay p T K a d A
 isS:=fun T K a d A x=>AJ p T K a d A x.1
 take:=fun T K a d A x=>zN p T K a d A x.1
 want:=fun T K a d A x=>zz p T K a d A x.1
 name:=fun T K a d A x=>zJ p T K a d A
 add:=fun T K a d A x=>zX p T K a d A x.1 x.2.1
 goIn:=fun T K a d A x=>re p T K a d A
 few:=fun T K a d A x=>AQ p T K a d A x.1
 klass:=fun T K a d A x=>Ls p T K a d A
 member:=fun T K a d A x=>Az p T K a d A
 params:=fun T K a d A x=>Nz p T K a d A
 typed:=fun T K a d A x=>Ah p T K a d A x.1
 inner:=fun T K a d A x=>HD p T K a d A
 base:=fun T K a d A x=>p9 p T K a d A
 block:=fun T K a d A x=>LS p T K a d A
 declares:=fun T K a d A x=>qg p T K a d A
 stat:=fun T K a d A x=>qh p T K a d A
 word:=fun T K a d A x=>qJ p T K a d A x.1
 plainS:=fun T K a d A x=>qD p T K a d A x.1
 bracket:=fun T K a d A x=>qv p T K a d A
 args:=fun T K a d A x=>G0 p T K a d A
 value:=fun T K a d A x=>qF p T K a d A
 chain:=fun T K a d A x=>x7 p T K a d A x.1
 unary:=fun T K a d A x=>rA p T K a d A
 behind:=fun T K a d A x=>GV p T K a d A
 primary:=fun T K a d A x=>qZ p T K a d A
 part:=fun T K a d A x=>rC p T K a d A x.1 x.2.1
 literal:=fun T K a d A x=>qS p T K a d A x.1 x.2.1
 kept:=fun T K a d A x=>rm p T K a d A x.1 x.2.1
 made:=fun T K a d A x=>rh p T K a d A
def Lh:Fns where
 next:=fun _ _ _ _ _ _=>.bad
 ahead:=fun _ _ _ _ _ _=>.bad
 skip:=fun _ _ _ _ _ _=>.bad
 isS:=fun _ _ _ _ _ _=>.bad
 take:=fun _ _ _ _ _ _=>.bad
 want:=fun _ _ _ _ _ _=>.bad
 name:=fun _ _ _ _ _ _=>.bad
 add:=fun _ _ _ _ _ _=>.bad
 goIn:=fun _ _ _ _ _ _=>.bad
 few:=fun _ _ _ _ _ _=>.bad
 klass:=fun _ _ _ _ _ _=>.bad
 member:=fun _ _ _ _ _ _=>.bad
 params:=fun _ _ _ _ _ _=>.bad
 typed:=fun _ _ _ _ _ _=>.bad
 inner:=fun _ _ _ _ _ _=>.bad
 base:=fun _ _ _ _ _ _=>.bad
 block:=fun _ _ _ _ _ _=>.bad
 declares:=fun _ _ _ _ _ _=>.bad
 stat:=fun _ _ _ _ _ _=>.bad
 word:=fun _ _ _ _ _ _=>.bad
 plainS:=fun _ _ _ _ _ _=>.bad
 bracket:=fun _ _ _ _ _ _=>.bad
 args:=fun _ _ _ _ _ _=>.bad
 value:=fun _ _ _ _ _ _=>.bad
 chain:=fun _ _ _ _ _ _=>.bad
 unary:=fun _ _ _ _ _ _=>.bad
 behind:=fun _ _ _ _ _ _=>.bad
 primary:=fun _ _ _ _ _ _=>.bad
 part:=fun _ _ _ _ _ _=>.bad
 literal:=fun _ _ _ _ _ _=>.bad
 kept:=fun _ _ _ _ _ _=>.bad
 made:=fun _ _ _ _ _ _=>.bad
def fns:Nat→Fns
 |0=>Lh
 |n+1=>Hl (fns n)
structure FnsOK(G:Nat→Obj→Prop)(p:Fns):Prop where
 o45:bG G 69 _ _ p.next
 o125:bG G 169 _ _ p.ahead
 o90:bG G 122 _ _ p.skip
 o75:bG G 101 _ _ p.isS
 o74:bG G 100 _ _ p.take
 o72:bG G 98 _ _ p.want
 o73:bG G 99 _ _ p.name
 o48:bG G 72 _ _ p.add
 o104:bG G 132 _ _ p.goIn
 o46:bG G 70 _ _ p.few
 o47:bG G 71 _ _ p.klass
 o76:bG G 102 _ _ p.member
 o92:jH G 123 _ _ p.params iy dI
 o94:bG G 125 _ _ p.typed
 o106:bG G 134 _ _ p.inner
 o117:jH G 149 _ _ p.base Dh rv
 o93:bG G 124 _ _ p.block
 o113:bG G 145 _ _ p.declares
 o105:bG G 133 _ _ p.stat
 o115:bG G 147 _ _ p.word
 o116:bG G 148 _ _ p.plainS
 o127:bG G 171 _ _ p.bracket
 o128:jH G 172 _ _ p.args iy dI
 o114:bG G 146 _ _ p.value
 o126:bG G 170 _ _ p.chain
 o133:bG G 188 _ _ p.unary
 o135:bG G 200 _ _ p.behind
 o136:bG G 215 _ _ p.primary
 o137:bG G 216 _ _ p.part
 o139:bG G 232 _ _ p.literal
 o142:bG G 234 _ _ p.kept
 o148:bG G 239 _ _ p.made
theorem Fb:FnsOK G Lh where
 o45:=fun _ _ _ _ _ _=>trivial
 o125:=fun _ _ _ _ _ _=>trivial
 o90:=fun _ _ _ _ _ _=>trivial
 o75:=fun _ _ _ _ _ _=>trivial
 o74:=fun _ _ _ _ _ _=>trivial
 o72:=fun _ _ _ _ _ _=>trivial
 o73:=fun _ _ _ _ _ _=>trivial
 o48:=fun _ _ _ _ _ _=>trivial
 o104:=fun _ _ _ _ _ _=>trivial
 o46:=fun _ _ _ _ _ _=>trivial
 o47:=fun _ _ _ _ _ _=>trivial
 o76:=fun _ _ _ _ _ _=>trivial
 o92:=fun _ _ _ _ _ _=>trivial
 o94:=fun _ _ _ _ _ _=>trivial
 o106:=fun _ _ _ _ _ _=>trivial
 o117:=fun _ _ _ _ _ _=>trivial
 o93:=fun _ _ _ _ _ _=>trivial
 o113:=fun _ _ _ _ _ _=>trivial
 o105:=fun _ _ _ _ _ _=>trivial
 o115:=fun _ _ _ _ _ _=>trivial
 o116:=fun _ _ _ _ _ _=>trivial
 o127:=fun _ _ _ _ _ _=>trivial
 o128:=fun _ _ _ _ _ _=>trivial
 o114:=fun _ _ _ _ _ _=>trivial
 o126:=fun _ _ _ _ _ _=>trivial
 o133:=fun _ _ _ _ _ _=>trivial
 o135:=fun _ _ _ _ _ _=>trivial
 o136:=fun _ _ _ _ _ _=>trivial
 o137:=fun _ _ _ _ _ _=>trivial
 o139:=fun _ _ _ _ _ _=>trivial
 o142:=fun _ _ _ _ _ _=>trivial
 o148:=fun _ _ _ _ _ _=>trivial
theorem Eh(hl:aT Tryz.prog G (aY p)):FnsOK G (Hl p)where
 o45:=ok45 hl
 o125:=Nu hl
 o90:=ok90 hl
 o75:=ok75 hl
 o74:=ok74 hl
 o72:=ok72 hl
 o73:=ok73 hl
 o48:=ok48 hl
 o104:=LR hl
 o46:=ok46 hl
 o47:=ok47 hl
 o76:=ok76 hl
 o92:=ok92 hl
 o94:=ok94 hl
 o106:=Nv hl
 o117:=LH hl
 o93:=ok93 hl
 o113:=KP hl
 o105:=Mz hl
 o115:=MD hl
 o116:=MP hl
 o127:=MI hl
 o128:=Ny hl
 o114:=LK hl
 o126:=L6 hl
 o133:=KT hl
 o135:=LZ hl
 o136:=LG hl
 o137:=M3 hl
 o139:=MQ hl
 o142:=Nt hl
 o148:=Lb hl
end Go.Sx.Tryz
