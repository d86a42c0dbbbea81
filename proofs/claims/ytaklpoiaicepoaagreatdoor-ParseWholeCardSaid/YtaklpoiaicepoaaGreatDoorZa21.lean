/- A part of the proof: see the row's text. -/
import Derived.Test.YtaklpoiaicepoaaGreatDoorZa20
import Derived.Test.YtaklpoiaicepoaaGreatDoorZa13
import Derived.Test.YtaklpoiaicepoaaGreatDoorZa19
import Derived.Test.YtaklpoiaicepoaaGreatDoorRows
import Derived.PinnedBridge
import Derived.Lib.LaidIn
import Derived.Lib.LaidSlice
import Derived.ProofKit
import Derived.SizedLaws
import Derived.Handed
import Derived.HandedShaped
import Derived.Shelf.Vars
set_option linter.unusedVariables false
set_option linter.unusedSimpArgs false
noncomputable section
namespace Go.Sx.Tryz
open Go Go.Sx
set_option maxRecDepth 100000
theorem Du{s:List UInt8}(h:(gH s).2.1=0):(gH s).1≠0:=by
 unfold gH at h⊢
 cases hL:isLet (at8 s 0)
 ·rw[hL]at h
  simp only[cond_false]at h⊢
  cases hD:aI (at8 s 0)
  ·rw[hD]at h
   simp only[cond_false]at h⊢
   cases hQ:at8 s 0==34
   ·simp
   ·rw[hQ]at h
    simp only[cond_true]at h⊢
    cases hc:((eV s).2==0&&decide (((eV s).1:Int)>256))<;>simp
  ·rw[hD]at h
   simp only[cond_true]at h⊢
   cases hc:(decide (((aF aI s:Nat):Int)+1<s.length)&&(at8 s (aF aI s)==46&&aI (at8 s (aF aI s+1))))
   ·rw[hc]at h
    simp only[cond_false]at h⊢
    cases hd:decide (((aF aI s:Nat):Int)>20)
    ·simp
    ·rw[hd]at h;simp at h
   ·rw[hc]at h
    simp only[cond_true]at h⊢
    cases hd:decide (((aF aI s+1+aF aI (s.drop (aF aI s+1)):Nat):Int)>20)
    ·simp
    ·rw[hd]at h;simp at h
 ·rw[hL]at h
  simp only[cond_true]at h⊢
  cases hd:decide (((aF fA s:Nat):Int)>64)
  ·simp
  ·rw[hd]at h;simp at h
theorem Bq(T:List UInt8):∀(n:Nat) (a:Int) (k:Nat),0≤a→a≤T.length→(T.length:Int)-a<n→k≤16384→(jM n T a k).1=0→
  ∃L,(jM n T a k).2.2=L++[tkn 0 T.length T.length]∧L.length+k≤16384∧∀t∈L,(0≤ab t∧a≤ab t)∧ab t<tTo t∧tTo t≤T.length∧ai t≠0
 |0,a,k,h0,h1,hn,hk,h=>by omega
 |n+1,a,k,h0,h1,hn,hk,h=>by
  unfold jM at h⊢
  cases hlt:decide (a<(T.length:Int))with
  |false=>exact⟨[],rfl,by simpa using hk,by simp⟩
  |true=>
   rw[hlt]at h
   have hlt:=of_decide_eq_true hlt
   simp only[cond_true]at h⊢
   cases h16:decide ((k:Int)≥16384)with
   |true=>rw[h16]at h;simp at h
   |false=>
    rw[h16]at h
    have h16:=of_decide_eq_false h16
    simp only[cond_false]at h⊢
    cases he:ic T a !=0 with
    |true=>
     rw[he]at h
     simp only[cond_true]at h
     rw[h]at he
     exact absurd he (by decide)
    |false=>
     rw[he]at h
     simp only[cond_false]at h⊢
     have he0:ic T a=0:=by simpa [bne]using he
     obtain⟨o1,o2⟩:=wW h0 hlt
     have o3:=o2 he0
     obtain⟨g1,g2⟩:=kK (T:=T) (a:=bN T a) (by omega) o1
     obtain⟨L,e1,e2,e3⟩:=Bq T n (fh T (bN T a)) (k+1) (by omega) g2 (by omega) (by omega) h
     refine⟨tkn (jN T a) a (bN T a)::L,by rw[e1];rfl,by simp only[List.length_cons];omega,fun t ht=>?_⟩
     rcases List.mem_cons.1 ht with rfl|ht
     ·exact⟨⟨h0,Int.le_refl _⟩,o3,o1,Du he0⟩
     ·obtain⟨f1,f2⟩:=e3 t ht
      exact⟨⟨f1.1,by omega⟩,f2⟩
theorem qj(T:List UInt8):cL T=(fG T).1:=by
 unfold cL mg
 cases h:(fG T).1==0 with
 |true=>
  have:(fG T).1=0:=by simpa using h
  rw[this]
  rfl
 |false=>rfl
theorem vR{T:List UInt8}(h:cL T=0):bJ T=(fG T).2.2:=by
 rw[qj]at h
 unfold bJ mg
 rw[h]
 rfl
theorem xj{T:List UInt8}(h:cL T=0):T.length≤65536∧∃L,bJ T=L++[tkn 0 T.length T.length]∧L.length≤16384∧∀t∈L,0≤ab t∧ab t<tTo t∧tTo t≤T.length∧ai t≠0:=by
 rw[vR h]
 rw[qj]at h
 unfold fG at h⊢
 cases h6:decide ((T.length:Int)>65536)with
 |true=>rw[h6]at h;simp at h
 |false=>
  rw[h6]at h
  have h6:=of_decide_eq_false h6
  obtain⟨g1,g2⟩:=kK (T:=T) (a:=0) (by omega) (by omega)
  obtain⟨L,e1,e2,e3⟩:=Bq T (T.length+1) (fh T 0) 0 (by omega) g2 (by omega) (by omega) h
  exact⟨by omega,L,e1,by omega,fun t ht=>⟨(e3 t ht).1.1,(e3 t ht).2⟩⟩
theorem DR{K:List Tok}{a:Int}(h0:0≤a)(h1:a<K.length):aa K a∈K:=by
 have:a.toNat<K.length:=by omega
 unfold aa
 rw[List.getD_eq_getElem?_getD,List.getElem?_eq_getElem this]
 exact List.getElem_mem _
theorem zZ{L R:List Tok}{a:Int}(h0:0≤a)(h1:a<L.length):aa (L++R) a=aa L a:=by
 unfold aa
 have:a.toNat<L.length:=by omega
 rw[List.getD_eq_getElem?_getD,List.getD_eq_getElem?_getD,List.getElem?_append_left this]
theorem zE{L:List Tok}{t:Tok}:aa (L++[t]) L.length=t:=by
 unfold aa
 simp[List.getD_eq_getElem?_getD]
theorem T0{T:List UInt8}{L:List Tok}(hT:T.length≤65536)(hL:L.length≤16384)(h:∀t∈L,0≤ab t∧ab t<tTo t∧tTo t≤T.length∧ai t≠0):WF T (L++[tkn 0 T.length T.length]):=by
 have hlen:(L++[tkn 0 T.length T.length]).length=L.length+1:=by simp
 have hcase:∀a:Int,0≤a→a<(L++[tkn 0 T.length T.length]).length→(a<L.length∧aa (L++[tkn 0 T.length T.length]) a∈L)∨(a=L.length∧aa (L++[tkn 0 T.length T.length]) a=tkn 0 T.length T.length):=fun a h0 h1=>by
  by_cases hl:a<L.length
  ·exact .inl ⟨hl,by rw[zZ h0 hl];exact DR h0 hl⟩
  ·have e:a=L.length:=by omega
   exact .inr ⟨e,by rw[e];exact zE⟩
 exact{
  len:=hT
  pos:=by omega
  most:=by omega
  span:=fun a h0 h1=>by
   rcases hcase a h0 h1 with⟨_,hm⟩|⟨_,e⟩
   ·obtain⟨f1,f2,f3,_⟩:=h _ hm
    exact⟨f1,by omega,f3⟩
   ·rw[e]
    show(0:Int)≤T.length∧(T.length:Int)≤T.length∧(T.length:Int)≤T.length
    omega
  last:=fun a h0 h1=>by
   rcases hcase a h0 h1 with⟨hl,hm⟩|⟨e1,e⟩
   ·have:=(h _ hm).2.2.2
    exact⟨fun hk=>absurd hk this,fun hk=>by omega⟩
   ·rw[e]
    exact⟨fun _=>by omega,fun _=>rfl⟩
  fin:=fun a h0 h1 hk=>by
   rcases hcase a h0 h1 with⟨hl,hm⟩|⟨e1,e⟩
   ·exact absurd hk (h _ hm).2.2.2
   ·rw[e]
    show List.drop (Int.toNat (T.length:Int)) (List.take (Int.toNat (T.length:Int)) T)=[]
    simp}
theorem lex_wf{T:List UInt8}(h:cL T=0):WF T (bJ T):=by
 obtain⟨h1,L,e,h2,h3⟩:=xj h
 rw[e]
 exact T0 h1 h2 h3
def iC:Nat:=40000
def u6:Nat:=1700000
def lZ(T:List UInt8):PR Unit:=mJ T (bJ T) (kns T (bJ T) iC) 0 0 []
theorem kZ{T:List UInt8}(h:cL T=0):EqH iU (fun _ a' d' A'=>Post (bJ T) 0 0 [] 0 a' d' A') (tj (fns u6) T (bJ T) 0 0 []) (lZ T):=by
 have wf:=lex_wf h
 have:=wf.most
 exact DX wf (by unfold iC u6;omega) (by unfold iC;omega)
def fC(T:List UInt8):aA rsP:=
 bif cL T !=0 then((([]:List Nd),(0:Int),()),(cL T,zW T,()),())
 else match lZ T with
  | .ok _ _ _ A=>((A,(A.length:Int)-1,()),((0:Int),(0:Int),()),())
  | .fault c p=>((([]:List Nd),(0:Int),()),(c,p,()),())
  | .bad=>((([]:List Nd),(0:Int),()),((0:Int),(0:Int),()),())
theorem DW{G:Nat→Obj→Prop}(ht:iG G)(hf:nZ G)(T:List UInt8):SAD Go.Proofs.Tryz.prog G 10 cK rsP (T,()) (fC T):=by
 have key:dk u6 T=fC T∧(cL T=0→qm u6 T=true):=by
  unfold dk fC qm
  cases hc:cL T !=0 with
  |true=>exact⟨rfl,fun h=>by rw[h]at hc;exact absurd hc (by decide)⟩
  |false=>
   have h:cL T=0:=by simpa [bne]using hc
   have hE:=kZ h
   cases e:lZ T with
   |ok y a d A=>
    rw[e]at hE
    obtain⟨h1,h2⟩:=hE
    rw[h1]
    have hl:=h2.inv.len
    refine⟨?_,fun _=>?_⟩
    ·have hw:IntKind.wrap .i64 ((A.length:Int)-1)=(A.length:Int)-1:=wrap64 (by omega) (by omega)
     show((A,IntKind.wrap .i64 ((A.length:Int)-1),()),((0:Int),(0:Int),()),())=((A,(A.length:Int)-1,()),((0:Int),(0:Int),()),())
     rw[hw]
    ·show(decide (A.length≤20000)&&A.all oy)=true
     rw[Bool.and_eq_true]
     refine⟨decide_eq_true (by omega),List.all_eq_true.2 fun x hx=>?_⟩
     obtain⟨n1,n2⟩:=h2.inv.nd x hx
     unfold oy
     rw[Bool.and_eq_true]
     exact⟨decide_eq_true (by omega),decide_eq_true (by omega)⟩
   |fault c p=>
    rw[e]at hE
    have hE:tj (fns u6) T (bJ T) 0 0 []= .fault c p:=hE
    rw[hE]
    exact⟨rfl,fun _=>rfl⟩
   |bad=>
    rw[e]at hE
    exact hE.elim
 rw[←key.1]
 exact EF ht hf u6 T key.2
end Go.Sx.Tryz
namespace Go.Sx.Tryz
open Go Go.Sx Go.Proofs
set_option maxRecDepth 100000
structure TabsW(w:World):Prop where
 t:TabsAt w
 f:FltAt w
 pt:Lib.PrintTabsAt 4 5 6 7 Lib.goPrintTabs w
 u8:Lib.Utf8Tabs 1 2 w
 p10:Lib.TabIs Tryz.prog w "internal/strconv.uint64pow10" .u64 Lib.pow10Tab
theorem cf{w0 w:World}(h:∀(k:Nat) (o:Obj),w0.heap[k]? =some o→w.heap[k]? =some o){a:Addr}{v:Value}(hc:w0.cell? a=some v):w.cell? a=some v:=by
 have key:∀o,w0.heap[a.block]? =some o→w.heap[a.block]? =w0.heap[a.block]? :=fun o ho=>by rw[h _ _ ho,ho]
 cases ho:w0.heap[a.block]? with
 |none=>simp[World.cell?,ho]at hc
 |some o=>rw[World.cell?_of_block (key o ho)];exact hc
theorem TabsW.old{w0 w:World}(h:∀(k:Nat) (o:Obj),w0.heap[k]? =some o→w.heap[k]? =some o)(t:TabsW w0):TabsW w where
 t:=⟨let⟨m,hm⟩:=t.t.mx;⟨m,cf h hm⟩,let⟨v,hv,hk⟩:=t.t.er;⟨v,cf h hv,hk⟩⟩
 f:=⟨cf h t.f.opt,cf h t.f.mb,let⟨a,n,c,h1,h2,h3⟩:=t.f.pw;⟨a,n,c,cf h h1,h2,fun i hi=>cf h (h3 i hi)⟩⟩
 pt:=by
  obtain⟨⟨R1,o1,c1,a1,b1⟩,⟨R2,o2,c2,a2,b2⟩,⟨R3,o3,c3,a3,b3⟩,⟨R4,o4,c4,a4,b4⟩,r⟩:=t.pt
  exact⟨⟨R1,o1,c1,cf h a1,fun j hj=>cf h (b1 j hj)⟩,⟨R2,o2,c2,cf h a2,fun j hj=>cf h (b2 j hj)⟩,⟨R3,o3,c3,cf h a3,fun j hj=>cf h (b3 j hj)⟩,⟨R4,o4,c4,cf h a4,fun j hj=>cf h (b4 j hj)⟩,r⟩
 u8:=⟨fun c hc=>cf h (t.u8.1 c hc),fun i hi=>⟨cf h (t.u8.2 i hi).1,cf h (t.u8.2 i hi).2⟩⟩
 p10:=by
  have:=t.p10
  unfold Lib.TabIs World.var? at this⊢
  cases hg:Tryz.prog.globalNamed "internal/strconv.uint64pow10" with
  |none=>rw[hg]at this;cases this
  |some g=>
   rw[hg]at this
   simp only[Option.bind_some]at this⊢
   cases ho:w0.heap[g]? with
   |none=>rw[ho]at this;cases this
   |some o=>rw[ho]at this;rw[h _ _ ho];exact this
theorem TabsW.at{w0:World}(t:TabsW w0){D:Ctx}(hG:D.gl=GW w0)(hs:SRel D):TabsW D.w:=
 t.old fun k o hk=>(hs.gl k o (by rw[hG];exact hk)).1
theorem TabsW.tabs{w0:World}(t:TabsW w0):iG (GW w0):=fun _ hG hs=>(t.at hG hs).t
theorem TabsW.flt{w0:World}(t:TabsW w0):nZ (GW w0):=Qs fun _ hG hs=>(t.at hG hs).f
theorem rY(w:World)(k:Nat)(os:Array Obj):RowKit.Below w.heap.size w (Sort.grow (w.drewN k) os):=by
 have h1:RowKit.Below w.heap.size w (w.drewN k):=by
  refine⟨rfl,rfl,rfl,Nat.le_refl _,fun _ _=>rfl⟩
 refine h1.trans ⟨rfl,rfl,rfl,by simp[Sort.grow],fun j hj=>?_⟩
 show(_++os)[j]? =_
 rw[Array.getElem?_append_left]
 exact Nat.lt_of_lt_of_le hj h1.size
theorem WD:FIOK Tryz.prog 52 fi52:=⟨⟨Tryz.f52,Tryz.func52,rfl,rfl,rfl,by kernel_rfl⟩,by kernel_rfl⟩
theorem RI:FIOK Tryz.prog 54 fi54:=⟨⟨Tryz.f54,Tryz.func54,rfl,rfl,rfl,by kernel_rfl⟩,by kernel_rfl⟩
theorem Qy{w0:World}(t:TabsW w0):aR Tryz.prog (GW w0) 52 (ofT 52 sr):=by
 refine kb ?_ (yz)
 exact tw WD fun D hG hs s hlen=>Any.strconv_Quote Tryz.lays177 (by kernel_rfl) Lib.goPrintTabs s D.w hlen (t.at hG hs).pt (t.at hG hs).u8
theorem Qu{w0:World}(t:TabsW w0):aR Tryz.prog (GW w0) 54 (ofT 54 nX):=by
 refine kb ?_ (ve)
 exact qT RI fun D hG hs n h0 h1=>Calls.mono (Any.strconv_FormatInt_10 Tryz.laysM173 n h0 h1 D.w (t.at hG hs).p10) fun e w' ⟨e1,k,os,e2⟩=>⟨e1,by rw[e2];exact rY _ _ _⟩
def Ap:aY:=cm 10 cK rsP (fun _=>true) fun x=>fC x.1
theorem GG{w0:World}(t:TabsW w0):aR Tryz.prog (GW w0) 10 Ap:=aZ fun x _=>by
 obtain⟨T,⟨⟩⟩:=x
 exact DW t.tabs t.flt T
end Go.Sx.Tryz
namespace Go.Sx.Tryz
open Go Go.Sx Go.Proofs Go.Shelf Go.Lib
open Go.Proofs.YtaklpoiaicepoaaGreatDoor
set_option maxRecDepth 100000
section
variable{H:Type}{enc:TypeId×Value→H}{P:Program}{w:World}{base:Nat}{spare:Nat→Bool}{held:Bool}{fuel:Nat}{t:TypeId}{cs:List Value}{x:DataW H×List MemPlace}
theorem Af{k:FloatKind}(ht:P.underlying t=some (.float k))(h:DataW.trod enc P w base spare held fuel t cs=some x):∃n,cs=[.float k n]∧x=(.lit (.float k n),[]):=by
 cases fuel with
 |zero=>simp[DataW.trod]at h
 |succ n=>
  unfold DataW.trod at h
  rw[ht]at h
  split at h<;>simp_all
theorem Ad{m:Array (String×TypeId)}(ht:P.underlying t=some (.interface m))(h:DataW.trod enc P w base spare held fuel t cs=some x):cs=[.nilIface]∨∃u v,cs=[.iface u v]:=by
 cases fuel with
 |zero=>simp[DataW.trod]at h
 |succ n=>
  unfold DataW.trod at h
  rw[ht]at h
  split at h<;>simp_all
end
theorem nr{P:Program}{w:World}{name:String}{g:Nat}{t e:TypeId}{l:List Nat}(hn:P.globalNamed name=some g)(hy:(P.globals[g]?).map (·.type)=some t)
  (ht:P.underlying t=some (.slice e)) (he:P.underlying e=some (.float .f64)) (hc:P.cellsOf e=1) (h:VarReads P w name (.slice (l.map fun x=>.lit (.float .f64 x)) [])):
  ∃(a:Addr) (cap:Nat),w.cell? ⟨g,0,none⟩=some (.slice (some a) l.length cap)∧∀i,i<l.length→w.cell? (a.add i)=some (.float .f64 (l.getD i 0)):=by
 obtain⟨g',t',cs,fuel,p,hg,hty,hvar,hd⟩:=h
 obtain rfl:=Option.some.inj (hn.symm.trans hg)
 obtain rfl:=Option.some.inj (hy.symm.trans hty)
 rcases DataW.trod_slice ht hd with⟨_,hx⟩|⟨a,len,cap,el,rs,m,rfl,hcs,hx,_,hlc,_,hel,helem,hsp,_⟩
 ·cases hx
 have e0:=congrArg Prod.fst hx
 simp only[DataW.slice.injEq]at e0
 obtain⟨eE,eR⟩:=e0
 have hlen:len=l.length:=by
  have:=congrArg List.length eE
  simp at this
  omega
 refine⟨a,cap,?_,fun i hi=>?_⟩
 ·rw[World.var?_cell hg hvar 0,←Array.getElem?_toList,hcs,hlen]
  rfl
 ·have h1:=helem i (by omega)
  rw[hc]at h1
  obtain⟨b,hb⟩:∃b,el[i]? =some b:=⟨el[i]'(by omega),List.getElem?_eq_getElem (by omega)⟩
  rw[hb]at h1
  obtain⟨ce,hce,hte⟩:=Option.bind_eq_some_iff.1 h1
  obtain⟨z,hz,hbz⟩:=Af he hte
  have hb1:b.1= .lit (.float .f64 (l.getD i 0)):=by
   have:=congrArg (·[i]?) eE
   simp[hb,hi,List.getD]at this
   have e2:l.getD i 0=l[i]:=by simp[List.getD,List.getElem?_eq_getElem hi]
   rw[e2]
   exact this.symm
  rw[hbz]at hb1
  simp only[DataW.lit.injEq,Lit.float.injEq,true_and]at hb1
  obtain⟨_,_,hcc⟩:=World.cells?_some hce
  have:=hcc 0 (by omega)
  rw[hz]at this
  simp only[Nat.mul_one]at this
  have e1:(a.add i).add 0=a.add i:=by simp[Addr.add]
  rw[e1]at this
  rw[this,←hb1]
  rfl
def cP:List (String×DataW Unit):=Rows.parseDeepRow.laid
theorem xK:(Rows.laid_internal_strconv_uint64pow10:DataW Unit)=tabData .u64 Lib.pow10Tab:=by kernel_rfl
def zq:List Nat:=ik++[4831355200913801216,4846369599423283200,4861130398305394688,4876203697187506176,4891288408196988160,4906019910204099648,4921056587992461136,4936209963552724370]
theorem xJ:(Rows.laid_internal_strconv_float64pow10:DataW Unit)= .slice (zq.map fun x=>.lit (.float .f64 x)) []:=by kernel_rfl
theorem dr{w:World}(h:laidMet Tryz.prog cP w){n:String}{d:DataW Unit}(hm:(n,d)∈cP):VarReads Tryz.prog w n d:=Lib.laidMet.reads h hm
end Go.Sx.Tryz
namespace Go.Sx.Tryz
open Go Go.Sx Go.Proofs Go.Shelf Go.Lib
open Go.Proofs.YtaklpoiaicepoaaGreatDoor
set_option maxRecDepth 100000
theorem UO:∃m,Tryz.prog.underlying 52=some (.interface m):=⟨_,rfl⟩
theorem RZ:Tryz.prog.underlying 4=some .bool:=by kernel_rfl
theorem wJ{w:World}(hsh:w.ShapedOpen Tryz.prog)(h:laidMet Tryz.prog cP w):TabsW w where
 t:={
  mx:=cell_of_shapedOpen_int (P:=Tryz.prog) (t:=3) (zero:= #[.int .i64 0]) hsh (of_decide_eq_true (by kernel_rfl)) (by kernel_rfl) rfl (by kernel_rfl) (by kernel_rfl) (by kernel_rfl)
  er:=by
   obtain⟨g,t,cs,fuel,p,hg,hty,hvar,hd⟩:=dr h (n:="strconv.ErrRange") (d:=Rows.laid_strconv_ErrRange) (by simp[cP,Rows.parseDeepRow])
   obtain rfl:=Option.some.inj ((show Tryz.prog.globalNamed "strconv.ErrRange"=some 13 by kernel_rfl).symm.trans hg)
   obtain rfl:=Option.some.inj ((show(Tryz.prog.globals[13]?).map (·.type)=some 52 by kernel_rfl).symm.trans hty)
   obtain⟨m,hm⟩:=UO
   have hc:=World.var?_cell hg hvar 0
   rw[←Array.getElem?_toList]at hc
   rcases Ad hm hd with e|⟨u,v,e⟩
   ·rw[e]at hc
    exact⟨_,hc,.inl rfl⟩
   ·rw[e]at hc
    exact⟨_,hc,.inr ⟨u,v,rfl⟩⟩}
 f:={
  opt:=by
   obtain⟨g,t,cs,fuel,p,hg,hty,hvar,hd⟩:=dr h (n:="internal/strconv.optimize") (d:=Rows.laid_internal_strconv_optimize) (by simp[cP,Rows.parseDeepRow])
   obtain rfl:=Option.some.inj ((show Tryz.prog.globalNamed "internal/strconv.optimize"=some 15 by kernel_rfl).symm.trans hg)
   obtain rfl:=Option.some.inj ((show(Tryz.prog.globals[15]?).map (·.type)=some 4 by kernel_rfl).symm.trans hty)
   have hc:=World.var?_cell hg hvar 0
   rw[←Array.getElem?_toList]at hc
   obtain⟨b,e,hb⟩:=DataW.trod_bool RZ hd
   have hb:=congrArg Prod.fst hb
   simp only[Rows.laid_internal_strconv_optimize,DataW.lit.injEq,Lit.bool.injEq]at hb
   rw[e,←hb]at hc
   exact hc
  mb:=by
   obtain⟨g,t,cs,fuel,p,hg,hty,hvar,hd⟩:=dr h (n:="internal/strconv.float64info") (d:=Rows.laid_internal_strconv_float64info) (by simp[cP,Rows.parseDeepRow])
   obtain rfl:=Option.some.inj ((show Tryz.prog.globalNamed "internal/strconv.float64info"=some 16 by kernel_rfl).symm.trans hg)
   obtain rfl:=Option.some.inj ((show(Tryz.prog.globals[16]?).map (·.type)=some 218 by kernel_rfl).symm.trans hty)
   have hc:=World.var?_cell hg hvar 0
   rw[←Array.getElem?_toList]at hc
   obtain⟨fs,hfs,hf0⟩:∃fs,Tryz.prog.underlying 218=some (.struct fs)∧∃f0,fs[0]? =some f0∧f0.type=94∧f0.offset=0:=⟨_,rfl,_,rfl,rfl,rfl⟩
   obtain⟨f0,hf0,hft,hfo⟩:=hf0
   obtain⟨xs,n,rfl,hx,hl,hxl,hall⟩:=DataW.trod_struct hfs hd
   have h1:=hall 0 f0 hf0
   have hx:=congrArg Prod.fst hx
   simp only[Rows.laid_internal_strconv_float64info,DataW.agg.injEq]at hx
   cases hxs:xs with
   |nil=>rw[hxs]at hx;cases hx
   |cons b r=>
    rw[hxs]at hx h1
    rw[hft,hfo,show Tryz.prog.cellsOf 94=1 by kernel_rfl]at h1
    obtain⟨z,hz,hbz,_⟩:=DataW.trod_int (show Tryz.prog.underlying 94=some (.int .u64) by kernel_rfl) h1
    simp only[List.map_cons,List.cons.injEq]at hx
    have h2:=hx.1
    have hb:b=(.lit (.int .u64 z),[]):=hbz
    rw[hb]at h2
    simp only[DataW.lit.injEq,Lit.int.injEq,true_and]at h2
    have h3:cs.toList[0]? =some (.int .u64 z):=by
     have:=congrArg (·[0]?) hz
     simpa [List.getElem?_take,List.getElem?_drop]using this
    rw[h3,←h2]at hc
    exact hc
  pw:=by
   have hr:=dr h (n:="internal/strconv.float64pow10") (d:=Rows.laid_internal_strconv_float64pow10) (by simp[cP,Rows.parseDeepRow])
   rw[xJ]at hr
   obtain⟨a,cap,h1,h2⟩:=nr (g:=19) (t:=247) (e:=184) (by kernel_rfl) (by kernel_rfl) (by kernel_rfl) (by kernel_rfl) (by kernel_rfl) hr
   refine⟨a,_,cap,h1,by decide,fun i hi=>?_⟩
   rw[h2 i (Nat.lt_of_lt_of_le hi (by decide))]
   have:∀i,i<15→zq.getD i 0=ik.getD i 0:=by decide
   rw[this i hi]}
 pt:=printTabs_of_reads (ρ:=Tryz.lays177_ren) {Tryz.lays177 with} ⟨by kernel_rfl,by kernel_rfl,by kernel_rfl,by kernel_rfl,by kernel_rfl,by kernel_rfl,by kernel_rfl,by kernel_rfl,by kernel_rfl,by kernel_rfl⟩
  (Pinned.isPrint16_eq▸dr h (n:="strconv.isPrint16") (d:=Go.Pinned.isPrint16) (by simp only[cP,Rows.parseDeepRow,Rows.laid_strconv_isPrint16];simp))
  (Pinned.isNotPrint16_eq▸dr h (n:="strconv.isNotPrint16") (d:=Go.Pinned.isNotPrint16) (by simp only[cP,Rows.parseDeepRow,Rows.laid_strconv_isNotPrint16];simp))
  (Pinned.isPrint32_eq▸dr h (n:="strconv.isPrint32") (d:=Go.Pinned.isPrint32) (by simp only[cP,Rows.parseDeepRow,Rows.laid_strconv_isPrint32];simp))
  (Pinned.isNotPrint32_eq▸dr h (n:="strconv.isNotPrint32") (d:=Go.Pinned.isNotPrint32) (by simp only[cP,Rows.parseDeepRow,Rows.laid_strconv_isNotPrint32];simp))
 u8:=utf8Tabs_of_readsT (ρ:=Tryz.lays177_ren) (U8Types.of260 {Tryz.lays177 with}) ⟨by kernel_rfl,by kernel_rfl,by kernel_rfl,by kernel_rfl,by kernel_rfl,by kernel_rfl,by kernel_rfl⟩
  (Pinned.utf8First_eq▸dr h (n:="unicode/utf8.first") (d:=Go.Pinned.utf8First) (by simp only[cP,Rows.parseDeepRow,Rows.laid_unicode_utf8_first];simp))
  ((show(Rows.laid_unicode_utf8_acceptRanges:DataW Unit)=Lib.acceptData by kernel_rfl)▸dr h (n:="unicode/utf8.acceptRanges") (d:=Rows.laid_unicode_utf8_acceptRanges) (by simp[cP,Rows.parseDeepRow]))
 p10:=by
  have hr:VarReads Tryz.prog w "internal/strconv.uint64pow10" Rows.laid_internal_strconv_uint64pow10:=dr h (by simp[cP,Rows.parseDeepRow])
  rw[xK]at hr
  obtain⟨g,t,cs,fuel,p,hg,hty,hvar,hd⟩:=hr
  obtain rfl:=Option.some.inj ((show Tryz.prog.globalNamed "internal/strconv.uint64pow10"=some 3 by kernel_rfl).symm.trans hg)
  obtain rfl:=Option.some.inj ((show(Tryz.prog.globals[3]?).map (·.type)=some 155 by kernel_rfl).symm.trans hty)
  have hcs:=cells_of_tab (P:=Tryz.prog) (e:=124) (n:=20) Tryz.underlying155 Tryz.underlying124 (by kernel_rfl) (by kernel_rfl) hd
  unfold Lib.TabIs
  rw[hvar]
  congr 1
  apply Array.ext'
  simpa using hcs
end Go.Sx.Tryz
