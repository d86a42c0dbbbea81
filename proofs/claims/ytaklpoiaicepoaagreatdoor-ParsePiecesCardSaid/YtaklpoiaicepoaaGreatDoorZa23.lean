/- A part of the proof: see the row's text. -/
import Derived.Test.YtaklpoiaicepoaaGreatDoorZa21
import Derived.Test.YtaklpoiaicepoaaGreatDoorZa22
import Derived.Handed
import Derived.DataWitness
set_option linter.unusedVariables false
set_option linter.unusedSimpArgs false
noncomputable section
namespace Go.Sx.Tryz
open Go Go.Sx Go.Proofs Go.Shelf Go.Lib
open Go.Proofs.YtaklpoiaicepoaaGreatDoor
set_option maxRecDepth 100000
theorem HV(os:Os)(args:Array Value):laidMet Tryz.prog dh (ig os args):=by
 have h:=((((((((P3 os args).append (Qj os args) (by kernel_rfl)).append (Pa os args) (by kernel_rfl)).append (PE os args) (by kernel_rfl)).append (P0 os args) (by kernel_rfl)).append (Qy os args) (by kernel_rfl)).append (Ou os args) (by kernel_rfl)).append (Ov os args) (by kernel_rfl)).append (Py os args) (by kernel_rfl)
 have h2:=h.met
 rw[←Pinned.isPrint16_eq,←Pinned.isNotPrint16_eq,←Pinned.isPrint32_eq,←Pinned.isNotPrint32_eq,←Pinned.utf8First_eq]at h2
 exact h2
end Go.Sx.Tryz
namespace Go.Sx
open Go
def Eo(P:Program)(w:World):List Value→List TypeId→Bool
 |[],[]=>true
 |v::vs,u::us=>Cell.okRefB P w u v&&Eo P w vs us
 |_,_=>false
theorem u6{P:Program}{w:World}:∀{vs:List Value} {us:List TypeId},Eo P w vs us=true→vs.length=us.length∧∀(i:Nat) (v:Value),vs[i]? =some v→∃u,us[i]? =some u∧Cell.okRefB P w u v=true
 |[],[],_=>⟨rfl,fun i v h=>by simp at h⟩
 |[],_::_,h=>by cases h
 |_::_,[],h=>by cases h
 |v::vs,u::us,h=>by
  unfold Eo at h
  rw[Bool.and_eq_true]at h
  obtain⟨h1,h2⟩:=u6 h.2
  refine⟨by simp[h1],fun i x hx=>?_⟩
  cases i with
  |zero=>
   simp at hx
   subst hx
   exact⟨u,rfl,h.1⟩
  |succ i=>
   simp at hx
   simpa using h2 i x hx
def CN(P:Program)(w:World)(t:TypeId)(cs:Array Value):Bool:=match P.cellTypes P.depth t with
 |some ts=>Eo P w cs.toList ts
 |none=>false
theorem xV{P:Program}{w:World}{base:Nat}{t:TypeId}{cs:Array Value}(h:CN P w t cs=true):Row.ok P w .any base t cs:=by
 unfold CN at h
 split at h
 ·rename_i ts hts
  obtain⟨h1,h2⟩:=u6 h
  refine⟨ts,hts,⟨1,by rw[Nat.one_mul,←h1,Array.length_toList]⟩,fun i v hv=>?_⟩
  have hi:i<ts.length:=by
   have:=(Array.getElem?_eq_some_iff.1 hv).1
   rw[←h1,Array.length_toList]
   exact this
  rw[Nat.mod_eq_of_lt hi]
  obtain⟨u,hu,hc⟩:=h2 i v (by rw[Array.getElem?_toList];exact hv)
  exact⟨u,hu,Cell.ok_of_okRefB hc⟩
 ·cases h
def iT(P:Program)(w:World):Bool:=
 let w₀:=(begin P (fun _ _=>0) default).world
 (List.range P.globals.size).all fun g=>
  match(w₀.heap[g]?).bind Obj.row? with
  |none=>true
  |some (zero,t)=>
   match w.heap[g]? with
   |some (.cells cs t' frozen)=>decide (t'=t)&&decide (frozen=(0,0))&&cs.size==zero.size&&(!P.buildable t||CN P w t cs)
   |_=>false
theorem ux{P:Program}{w:World}(hv:iT P w=true)
  (hr:(w.heap.toList.drop P.globals.size).take ((begin P (fun _ _=>0) default).world.heap.size-P.globals.size)=
   (begin P (fun _ _=>0) default).world.heap.toList.drop P.globals.size):w.Shaped P:=by
 refine⟨fun g zero t hg hz=>?_,fun k h1 h2=>?_⟩
 case refine_2=>
  have:=congrArg (·[k-P.globals.size]?) hr
  simp only[List.getElem?_take,List.getElem?_drop,Array.getElem?_toList]at this
  rw[if_pos (by omega),Nat.add_sub_cancel' h1]at this
  exact this
 unfold iT at hv
 simp only[List.all_eq_true,List.mem_range]at hv
 have:=hv g hg
 rw[hz]at this
 simp only at this
 split at this
 ·rename_i cs t' fr hw
  simp only[Bool.and_eq_true,decide_eq_true_eq,beq_iff_eq,Bool.or_eq_true,Bool.not_eq_true']at this
  obtain⟨⟨⟨rfl,rfl⟩,hs⟩,hb⟩:=this
  refine⟨cs,hw,hs,fun hbuild=>?_⟩
  rcases hb with hb|hb
  ·rw[hbuild]at hb;cases hb
  ·exact xV hb
 ·cases this
theorem yZ{C:Checked}{os:Os}{f:FuncId}{fn:Func}{s:ChangeSpec}{conds:List PathCond}{apart:Bool}{H:Type}{enc:TypeId×Value→H}{X:World→Array Value→Prop}(modest:Bool)(w0:World)(args:Array Value)(fuel:Nat)(hos:w0.os=os)
  (hv:iT C.prog (w0.forCall (fun _ _=>0) ⟨#[],args,[]⟩)=true)
  (hr:((w0.forCall (fun _ _=>0) ⟨#[],args,[]⟩).heap.toList.drop C.prog.globals.size).take ((begin C.prog (fun _ _=>0) default).world.heap.size-C.prog.globals.size)=
   (begin C.prog (fun _ _=>0) default).world.heap.toList.drop C.prog.globals.size)
  (hok:Input.okWideB C.prog (w0.forCall (fun _ _=>0) ⟨#[],args,[]⟩) f ⟨#[],args,[]⟩=true)
  (hpre:s.preB enc C.prog fn conds apart (w0.forCall (fun _ _=>0) ⟨#[],args,[]⟩).memory args fuel=true)
  (hsz:s.sizedB enc C.prog fn apart (w0.forCall (fun _ _=>0) ⟨#[],args,[]⟩).memory args fuel=true)
  (hx:X (w0.forCall (fun _ _=>0) ⟨#[],args,[]⟩).memory args):
  ∃(w:World) (tape:Tape) (i:Input),w.os=os∧(w.forCall tape i).Shaped C.prog∧i.vars=[]∧Input.okWide C.prog (w.forCall tape i) .any w.heap.size f i∧
   ((s.pre enc C.prog fn conds apart (w.forCall tape i).memory i.args∧X (w.forCall tape i).memory i.args)∧sizedMet enc C.prog fn (OpenSpec.ofChange s) apart (w.forCall tape i).memory i.args)∧({modest:=modest}:Assume).holds C.prog (lone (Frame.enter C.prog f i.args .normal) [] (w.forCall tape i)):=
 ⟨w0,fun _ _=>0,⟨#[],args,[]⟩,hos,ux hv hr,(Input.okWide_of_okWideB (base:=0) hok).1,(Input.okWide_of_okWideB hok).2,⟨⟨ChangeSpec.pre_of_preB hpre,hx⟩,sizedMet_of_sizedB hsz⟩,by
  simp only[Assume.holds]
  exact⟨by simp,by simp,fun _=>Modest.zero,by simp,by simp⟩⟩
end Go.Sx
