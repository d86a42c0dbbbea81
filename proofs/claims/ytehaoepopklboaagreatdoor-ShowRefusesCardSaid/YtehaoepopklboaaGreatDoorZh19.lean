/- A part of the proof: see the row's text. -/
import Derived.Test.YtehaoepopklboaaGreatDoorZh13
import Derived.Test.YtehaoepopklboaaGreatDoorZh16
import Derived.Test.YtehaoepopklboaaGreatDoorZh18
import Derived.Test.YtehaoepopklboaaGreatDoorRows
import Derived.PinnedBridge
import Derived.Lib.LaidIn
import Derived.Lib.LaidSlice
import Derived.ProofKit
import Derived.SizedLaws
import Derived.Handed
import Derived.HandedShaped
import Derived.Shelf.Vars
set_option linter.unusedVariables false
set_option linter.unusedSimpArgs false
noncomputable section
namespace Go.Sx.Tryz
open Go Go.Sx Go.Proofs
set_option maxRecDepth 100000
structure TabsW(w:World):Prop where
 t:TabsAt w
 f:FltAt w
 u8:Lib.Utf8Tabs 1 2 w
 p10:Lib.TabIs Tryz.prog w "internal/strconv.uint64pow10" .u64 Lib.pow10Tab
theorem dE{w0 w:World}(h:∀(k:Nat) (o:Obj),w0.heap[k]? =some o→w.heap[k]? =some o){a:Addr}{v:Value}(hc:w0.cell? a=some v):w.cell? a=some v:=by
 have key:∀o,w0.heap[a.block]? =some o→w.heap[a.block]? =w0.heap[a.block]? :=fun o ho=>by rw[h _ _ ho,ho]
 cases ho:w0.heap[a.block]? with
 |none=>simp[World.cell?,ho]at hc
 |some o=>rw[World.cell?_of_block (key o ho)];exact hc
theorem TabsW.old{w0 w:World}(h:∀(k:Nat) (o:Obj),w0.heap[k]? =some o→w.heap[k]? =some o)(t:TabsW w0):TabsW w where
 t:=⟨let⟨m,hm⟩:=t.t.mx;⟨m,dE h hm⟩,let⟨v,hv,hk⟩:=t.t.er;⟨v,dE h hv,hk⟩⟩
 f:=⟨dE h t.f.opt,dE h t.f.mb,let⟨a,n,c,h1,h2,h3⟩:=t.f.pw;⟨a,n,c,dE h h1,h2,fun i hi=>dE h (h3 i hi)⟩⟩
 u8:=⟨fun c hc=>dE h (t.u8.1 c hc),fun i hi=>⟨dE h (t.u8.2 i hi).1,dE h (t.u8.2 i hi).2⟩⟩
 p10:=by
  have:=t.p10
  unfold Lib.TabIs World.var? at this⊢
  cases hg:Tryz.prog.globalNamed "internal/strconv.uint64pow10" with
  |none=>rw[hg]at this;cases this
  |some g=>
   rw[hg]at this
   simp only[Option.bind_some]at this⊢
   cases ho:w0.heap[g]? with
   |none=>rw[ho]at this;cases this
   |some o=>rw[ho]at this;rw[h _ _ ho];exact this
theorem TabsW.at{w0:World}(t:TabsW w0){D:Ctx}(hG:D.gl=GW w0)(hs:SRel D):TabsW D.w:=
 t.old fun k o hk=>(hs.gl k o (by rw[hG];exact hk)).1
theorem TabsW.tabs{w0:World}(t:TabsW w0):fX (GW w0):=fun _ hG hs=>(t.at hG hs).t
theorem TabsW.flt{w0:World}(t:TabsW w0):kO (GW w0):=IU fun _ hG hs=>(t.at hG hs).f
theorem wh(w:World)(k:Nat)(os:Array Obj):RowKit.Below w.heap.size w (Sort.grow (w.drewN k) os):=by
 have h1:RowKit.Below w.heap.size w (w.drewN k):=by
  refine⟨rfl,rfl,rfl,Nat.le_refl _,fun _ _=>rfl⟩
 refine h1.trans ⟨rfl,rfl,rfl,by simp[Sort.grow],fun j hj=>?_⟩
 show(_++os)[j]? =_
 rw[Array.getElem?_append_left]
 exact Nat.lt_of_lt_of_le hj h1.size
theorem NA:FIOK Tryz.prog 119 KU:=⟨⟨Tryz.f119,Tryz.func119,rfl,rfl,rfl,by kernel_rfl⟩,by kernel_rfl⟩
theorem fc22:FIOK Tryz.prog 22 fi22:=⟨⟨Tryz.f22,Tryz.func22,rfl,rfl,rfl,by kernel_rfl⟩,by kernel_rfl⟩
theorem I9{w0:World}(t:TabsW w0):aK Tryz.prog (GW w0) 119 (ofT 119 ns):=by
 refine ja ?_ (zH)
 exact wq NA fun D hG hs n h0 h1=>Calls.mono (Any.strconv_FormatInt_10 Tryz.laysM173 n h0 h1 D.w (t.at hG hs).p10) fun e w' ⟨e1,k,os,e2⟩=>⟨e1,by rw[e2];exact wh _ _ _⟩
theorem Ku{w0:World}(_t:TabsW w0):aK Tryz.prog (GW w0) 22 (ofT 22 nf):=by
 refine ja ?_ (AI)
 exact xi fc22 fun w s c hc hlen=>Any.strings_Repeat Tryz.lays105 Tryz.Builder_Extra_105 s c w hc hlen
def B5:aQ:=bg 15 bB rsP (fun _=>true) fun x=>th x.1
theorem It{w0:World}(t:TabsW w0):aK Tryz.prog (GW w0) 15 B5:=aD fun x _=>by
 obtain⟨T,⟨⟩⟩:=x
 exact AZ t.tabs t.flt T
end Go.Sx.Tryz
namespace Go.Sx.Tryz
open Go Go.Sx Go.Proofs Go.Shelf Go.Lib
open Go.Proofs.YtehaoepopklboaaGreatDoor
set_option maxRecDepth 100000
section
variable{H:Type}{enc:TypeId×Value→H}{P:Program}{w:World}{base:Nat}{spare:Nat→Bool}{held:Bool}{fuel:Nat}{t:TypeId}{cs:List Value}{x:DataW H×List MemPlace}
theorem vV{k:FloatKind}(ht:P.underlying t=some (.float k))(h:DataW.trod enc P w base spare held fuel t cs=some x):∃n,cs=[.float k n]∧x=(.lit (.float k n),[]):=by
 cases fuel with
 |zero=>simp[DataW.trod]at h
 |succ n=>
  unfold DataW.trod at h
  rw[ht]at h
  split at h<;>simp_all
theorem vU{m:Array (String×TypeId)}(ht:P.underlying t=some (.interface m))(h:DataW.trod enc P w base spare held fuel t cs=some x):cs=[.nilIface]∨∃u v,cs=[.iface u v]:=by
 cases fuel with
 |zero=>simp[DataW.trod]at h
 |succ n=>
  unfold DataW.trod at h
  rw[ht]at h
  split at h<;>simp_all
end
theorem kV{P:Program}{w:World}{name:String}{g:Nat}{t e:TypeId}{l:List Nat}(hn:P.globalNamed name=some g)(hy:(P.globals[g]?).map (·.type)=some t)
  (ht:P.underlying t=some (.slice e)) (he:P.underlying e=some (.float .f64)) (hc:P.cellsOf e=1) (h:VarReads P w name (.slice (l.map fun x=>.lit (.float .f64 x)) [])):
  ∃(a:Addr) (cap:Nat),w.cell? ⟨g,0,none⟩=some (.slice (some a) l.length cap)∧∀i,i<l.length→w.cell? (a.add i)=some (.float .f64 (l.getD i 0)):=by
 obtain⟨g',t',cs,fuel,p,hg,hty,hvar,hd⟩:=h
 obtain rfl:=Option.some.inj (hn.symm.trans hg)
 obtain rfl:=Option.some.inj (hy.symm.trans hty)
 rcases DataW.trod_slice ht hd with⟨_,hx⟩|⟨a,len,cap,el,rs,m,rfl,hcs,hx,_,hlc,_,hel,helem,hsp,_⟩
 ·cases hx
 have e0:=congrArg Prod.fst hx
 simp only[DataW.slice.injEq]at e0
 obtain⟨eE,eR⟩:=e0
 have hlen:len=l.length:=by
  have:=congrArg List.length eE
  simp at this
  omega
 refine⟨a,cap,?_,fun i hi=>?_⟩
 ·rw[World.var?_cell hg hvar 0,←Array.getElem?_toList,hcs,hlen]
  rfl
 ·have h1:=helem i (by omega)
  rw[hc]at h1
  obtain⟨b,hb⟩:∃b,el[i]? =some b:=⟨el[i]'(by omega),List.getElem?_eq_getElem (by omega)⟩
  rw[hb]at h1
  obtain⟨ce,hce,hte⟩:=Option.bind_eq_some_iff.1 h1
  obtain⟨z,hz,hbz⟩:=vV he hte
  have hb1:b.1= .lit (.float .f64 (l.getD i 0)):=by
   have:=congrArg (·[i]?) eE
   simp[hb,hi,List.getD]at this
   have e2:l.getD i 0=l[i]:=by simp[List.getD,List.getElem?_eq_getElem hi]
   rw[e2]
   exact this.symm
  rw[hbz]at hb1
  simp only[DataW.lit.injEq,Lit.float.injEq,true_and]at hb1
  obtain⟨_,_,hcc⟩:=World.cells?_some hce
  have:=hcc 0 (by omega)
  rw[hz]at this
  simp only[Nat.mul_one]at this
  have e1:(a.add i).add 0=a.add i:=by simp[Addr.add]
  rw[e1]at this
  rw[this,←hb1]
  rfl
def dh:List (String×DataW Unit):=Rows.showRefusesRow.laid
theorem u1:(Rows.laid_internal_strconv_uint64pow10:DataW Unit)=tabData .u64 Lib.pow10Tab:=by kernel_rfl
def uu:List Nat:=fJ++[4831355200913801216,4846369599423283200,4861130398305394688,4876203697187506176,4891288408196988160,4906019910204099648,4921056587992461136,4936209963552724370]
theorem uJ:(Rows.laid_internal_strconv_float64pow10:DataW Unit)= .slice (uu.map fun x=>.lit (.float .f64 x)) []:=by kernel_rfl
theorem eQ{w:World}(h:laidMet Tryz.prog dh w){n:String}{d:DataW Unit}(hm:(n,d)∈dh):VarReads Tryz.prog w n d:=Lib.laidMet.reads h hm
end Go.Sx.Tryz
namespace Go.Sx.Tryz
open Go Go.Sx Go.Proofs Go.Shelf Go.Lib
open Go.Proofs.YtehaoepopklboaaGreatDoor
set_option maxRecDepth 100000
theorem ME:∃m,Tryz.prog.underlying 69=some (.interface m):=⟨_,rfl⟩
theorem LJ:Tryz.prog.underlying 4=some .bool:=by kernel_rfl
theorem sC{w:World}(hsh:w.ShapedOpen Tryz.prog)(h:laidMet Tryz.prog dh w):TabsW w where
 t:={
  mx:=cell_of_shapedOpen_int (P:=Tryz.prog) (t:=3) (zero:= #[.int .i64 0]) hsh (of_decide_eq_true (by kernel_rfl)) (by kernel_rfl) rfl (by kernel_rfl) (by kernel_rfl) (by kernel_rfl)
  er:=by
   obtain⟨g,t,cs,fuel,p,hg,hty,hvar,hd⟩:=eQ h (n:="strconv.ErrRange") (d:=Rows.laid_strconv_ErrRange) (by simp[dh,Rows.showRefusesRow])
   obtain rfl:=Option.some.inj ((show Tryz.prog.globalNamed "strconv.ErrRange"=some 6 by kernel_rfl).symm.trans hg)
   obtain rfl:=Option.some.inj ((show(Tryz.prog.globals[6]?).map (·.type)=some 69 by kernel_rfl).symm.trans hty)
   obtain⟨m,hm⟩:=ME
   have hc:=World.var?_cell hg hvar 0
   rw[←Array.getElem?_toList]at hc
   rcases vU hm hd with e|⟨u,v,e⟩
   ·rw[e]at hc
    exact⟨_,hc,.inl rfl⟩
   ·rw[e]at hc
    exact⟨_,hc,.inr ⟨u,v,rfl⟩⟩}
 f:={
  opt:=by
   obtain⟨g,t,cs,fuel,p,hg,hty,hvar,hd⟩:=eQ h (n:="internal/strconv.optimize") (d:=Rows.laid_internal_strconv_optimize) (by simp[dh,Rows.showRefusesRow])
   obtain rfl:=Option.some.inj ((show Tryz.prog.globalNamed "internal/strconv.optimize"=some 15 by kernel_rfl).symm.trans hg)
   obtain rfl:=Option.some.inj ((show(Tryz.prog.globals[15]?).map (·.type)=some 4 by kernel_rfl).symm.trans hty)
   have hc:=World.var?_cell hg hvar 0
   rw[←Array.getElem?_toList]at hc
   obtain⟨b,e,hb⟩:=DataW.trod_bool LJ hd
   have hb:=congrArg Prod.fst hb
   simp only[Rows.laid_internal_strconv_optimize,DataW.lit.injEq,Lit.bool.injEq]at hb
   rw[e,←hb]at hc
   exact hc
  mb:=by
   obtain⟨g,t,cs,fuel,p,hg,hty,hvar,hd⟩:=eQ h (n:="internal/strconv.float64info") (d:=Rows.laid_internal_strconv_float64info) (by simp[dh,Rows.showRefusesRow])
   obtain rfl:=Option.some.inj ((show Tryz.prog.globalNamed "internal/strconv.float64info"=some 16 by kernel_rfl).symm.trans hg)
   obtain rfl:=Option.some.inj ((show(Tryz.prog.globals[16]?).map (·.type)=some 221 by kernel_rfl).symm.trans hty)
   have hc:=World.var?_cell hg hvar 0
   rw[←Array.getElem?_toList]at hc
   obtain⟨fs,hfs,hf0⟩:∃fs,Tryz.prog.underlying 221=some (.struct fs)∧∃f0,fs[0]? =some f0∧f0.type=96∧f0.offset=0:=⟨_,rfl,_,rfl,rfl,rfl⟩
   obtain⟨f0,hf0,hft,hfo⟩:=hf0
   obtain⟨xs,n,rfl,hx,hl,hxl,hall⟩:=DataW.trod_struct hfs hd
   have h1:=hall 0 f0 hf0
   have hx:=congrArg Prod.fst hx
   simp only[Rows.laid_internal_strconv_float64info,DataW.agg.injEq]at hx
   cases hxs:xs with
   |nil=>rw[hxs]at hx;cases hx
   |cons b r=>
    rw[hxs]at hx h1
    rw[hft,hfo,show Tryz.prog.cellsOf 96=1 by kernel_rfl]at h1
    obtain⟨z,hz,hbz,_⟩:=DataW.trod_int (show Tryz.prog.underlying 96=some (.int .u64) by kernel_rfl) h1
    simp only[List.map_cons,List.cons.injEq]at hx
    have h2:=hx.1
    have hb:b=(.lit (.int .u64 z),[]):=hbz
    rw[hb]at h2
    simp only[DataW.lit.injEq,Lit.int.injEq,true_and]at h2
    have h3:cs.toList[0]? =some (.int .u64 z):=by
     have:=congrArg (·[0]?) hz
     simpa [List.getElem?_take,List.getElem?_drop]using this
    rw[h3,←h2]at hc
    exact hc
  pw:=by
   have hr:=eQ h (n:="internal/strconv.float64pow10") (d:=Rows.laid_internal_strconv_float64pow10) (by simp[dh,Rows.showRefusesRow])
   rw[uJ]at hr
   obtain⟨a,cap,h1,h2⟩:=kV (g:=19) (t:=255) (e:=156) (by kernel_rfl) (by kernel_rfl) (by kernel_rfl) (by kernel_rfl) (by kernel_rfl) hr
   refine⟨a,_,cap,h1,by decide,fun i hi=>?_⟩
   rw[h2 i (Nat.lt_of_lt_of_le hi (by decide))]
   have:∀i,i<15→uu.getD i 0=fJ.getD i 0:=by decide
   rw[this i hi]}
 u8:=utf8Tabs_of_readsT (ρ:=Tryz.lays177_ren) (U8Types.of260 {Tryz.lays177 with}) ⟨by kernel_rfl,by kernel_rfl,by kernel_rfl,by kernel_rfl,by kernel_rfl,by kernel_rfl,by kernel_rfl⟩
  (Pinned.utf8First_eq▸eQ h (n:="unicode/utf8.first") (d:=Go.Pinned.utf8First) (by simp only[dh,Rows.showRefusesRow,Rows.laid_unicode_utf8_first];simp))
  ((show(Rows.laid_unicode_utf8_acceptRanges:DataW Unit)=Lib.acceptData by kernel_rfl)▸eQ h (n:="unicode/utf8.acceptRanges") (d:=Rows.laid_unicode_utf8_acceptRanges) (by simp[dh,Rows.showRefusesRow]))
 p10:=by
  have hr:VarReads Tryz.prog w "internal/strconv.uint64pow10" Rows.laid_internal_strconv_uint64pow10:=eQ h (by simp[dh,Rows.showRefusesRow])
  rw[u1]at hr
  obtain⟨g,t,cs,fuel,p,hg,hty,hvar,hd⟩:=hr
  obtain rfl:=Option.some.inj ((show Tryz.prog.globalNamed "internal/strconv.uint64pow10"=some 4 by kernel_rfl).symm.trans hg)
  obtain rfl:=Option.some.inj ((show(Tryz.prog.globals[4]?).map (·.type)=some 183 by kernel_rfl).symm.trans hty)
  have hcs:=cells_of_tab (P:=Tryz.prog) (e:=129) (n:=20) Tryz.underlying183 Tryz.underlying129 (by kernel_rfl) (by kernel_rfl) hd
  unfold Lib.TabIs
  rw[hvar]
  congr 1
  apply Array.ext'
  simpa using hcs
end Go.Sx.Tryz
