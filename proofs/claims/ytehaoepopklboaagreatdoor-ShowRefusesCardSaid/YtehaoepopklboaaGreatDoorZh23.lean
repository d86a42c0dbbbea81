/- A part of the proof: see the row's text. -/
import Derived.Test.YtehaoepopklboaaGreatDoorZh21
import Derived.Test.YtehaoepopklboaaGreatDoorZh22
import Derived.Handed
import Derived.DataWitness
import Derived.Test.YtehaoepopklboaaGreatDoorZh11
import Derived.Test.YtehaoepopklboaaGreatDoorZh12
set_option linter.unusedVariables false
set_option linter.unusedSimpArgs false
noncomputable section
namespace Go.Sx.Tryz
open Go Go.Sx Go.Proofs Go.Shelf Go.Lib
open Go.Proofs.YtehaoepopklboaaGreatDoor
set_option maxRecDepth 100000
theorem Cd(os:Os)(args:Array Value):laidMet Tryz.prog dh (l5 os args):=by
 have h:=(((J1 os args).append (JP os args) (by kernel_rfl)).append (Ir os args) (by kernel_rfl)).append (Jp os args) (by kernel_rfl)
 have h2:=h.met
 rw[←Pinned.utf8First_eq]at h2
 exact h2
end Go.Sx.Tryz
namespace Go.Sx
open Go
def yo(P:Program)(w:World):List Value→List TypeId→Bool
 |[],[]=>true
 |v::vs,u::us=>Cell.okRefB P w u v&&yo P w vs us
 |_,_=>false
theorem qq{P:Program}{w:World}:∀{vs:List Value} {us:List TypeId},yo P w vs us=true→vs.length=us.length∧∀(i:Nat) (v:Value),vs[i]? =some v→∃u,us[i]? =some u∧Cell.okRefB P w u v=true
 |[],[],_=>⟨rfl,fun i v h=>by simp at h⟩
 |[],_::_,h=>by cases h
 |_::_,[],h=>by cases h
 |v::vs,u::us,h=>by
  unfold yo at h
  rw[Bool.and_eq_true]at h
  obtain⟨h1,h2⟩:=qq h.2
  refine⟨by simp[h1],fun i x hx=>?_⟩
  cases i with
  |zero=>
   simp at hx
   subst hx
   exact⟨u,rfl,h.1⟩
  |succ i=>
   simp at hx
   simpa using h2 i x hx
def xy(P:Program)(w:World)(t:TypeId)(cs:Array Value):Bool:=match P.cellTypes P.depth t with
 |some ts=>yo P w cs.toList ts
 |none=>false
theorem rO{P:Program}{w:World}{base:Nat}{t:TypeId}{cs:Array Value}(h:xy P w t cs=true):Row.ok P w .any base t cs:=by
 unfold xy at h
 split at h
 ·rename_i ts hts
  obtain⟨h1,h2⟩:=qq h
  refine⟨ts,hts,⟨1,by rw[Nat.one_mul,←h1,Array.length_toList]⟩,fun i v hv=>?_⟩
  have hi:i<ts.length:=by
   have:=(Array.getElem?_eq_some_iff.1 hv).1
   rw[←h1,Array.length_toList]
   exact this
  rw[Nat.mod_eq_of_lt hi]
  obtain⟨u,hu,hc⟩:=h2 i v (by rw[Array.getElem?_toList];exact hv)
  exact⟨u,hu,Cell.ok_of_okRefB hc⟩
 ·cases h
def fH(P:Program)(w:World):Bool:=
 let w₀:=(begin P (fun _ _=>0) default).world
 (List.range P.globals.size).all fun g=>
  match(w₀.heap[g]?).bind Obj.row? with
  |none=>true
  |some (zero,t)=>
   match w.heap[g]? with
   |some (.cells cs t' frozen)=>decide (t'=t)&&decide (frozen=(0,0))&&cs.size==zero.size&&(!P.buildable t||xy P w t cs)
   |_=>false
theorem oU{P:Program}{w:World}(hv:fH P w=true)
  (hr:(w.heap.toList.drop P.globals.size).take ((begin P (fun _ _=>0) default).world.heap.size-P.globals.size)=
   (begin P (fun _ _=>0) default).world.heap.toList.drop P.globals.size):w.Shaped P:=by
 refine⟨fun g zero t hg hz=>?_,fun k h1 h2=>?_⟩
 case refine_2=>
  have:=congrArg (·[k-P.globals.size]?) hr
  simp only[List.getElem?_take,List.getElem?_drop,Array.getElem?_toList]at this
  rw[if_pos (by omega),Nat.add_sub_cancel' h1]at this
  exact this
 unfold fH at hv
 simp only[List.all_eq_true,List.mem_range]at hv
 have:=hv g hg
 rw[hz]at this
 simp only at this
 split at this
 ·rename_i cs t' fr hw
  simp only[Bool.and_eq_true,decide_eq_true_eq,beq_iff_eq,Bool.or_eq_true,Bool.not_eq_true']at this
  obtain⟨⟨⟨rfl,rfl⟩,hs⟩,hb⟩:=this
  refine⟨cs,hw,hs,fun hbuild=>?_⟩
  rcases hb with hb|hb
  ·rw[hbuild]at hb;cases hb
  ·exact rO hb
 ·cases this
theorem uF{C:Checked}{os:Os}{f:FuncId}{fn:Func}{s:ChangeSpec}{conds:List PathCond}{apart:Bool}{H:Type}{enc:TypeId×Value→H}{X:World→Array Value→Prop}(modest:Bool)(w0:World)(args:Array Value)(fuel:Nat)(hos:w0.os=os)
  (hv:fH C.prog (w0.forCall (fun _ _=>0) ⟨#[],args,[]⟩)=true)
  (hr:((w0.forCall (fun _ _=>0) ⟨#[],args,[]⟩).heap.toList.drop C.prog.globals.size).take ((begin C.prog (fun _ _=>0) default).world.heap.size-C.prog.globals.size)=
   (begin C.prog (fun _ _=>0) default).world.heap.toList.drop C.prog.globals.size)
  (hok:Input.okWideB C.prog (w0.forCall (fun _ _=>0) ⟨#[],args,[]⟩) f ⟨#[],args,[]⟩=true)
  (hpre:s.preB enc C.prog fn conds apart (w0.forCall (fun _ _=>0) ⟨#[],args,[]⟩).memory args fuel=true)
  (hsz:s.sizedB enc C.prog fn apart (w0.forCall (fun _ _=>0) ⟨#[],args,[]⟩).memory args fuel=true)
  (hx:X (w0.forCall (fun _ _=>0) ⟨#[],args,[]⟩).memory args):
  ∃(w:World) (tape:Tape) (i:Input),w.os=os∧(w.forCall tape i).Shaped C.prog∧i.vars=[]∧Input.okWide C.prog (w.forCall tape i) .any w.heap.size f i∧
   ((s.pre enc C.prog fn conds apart (w.forCall tape i).memory i.args∧X (w.forCall tape i).memory i.args)∧sizedMet enc C.prog fn (OpenSpec.ofChange s) apart (w.forCall tape i).memory i.args)∧({modest:=modest}:Assume).holds C.prog (lone (Frame.enter C.prog f i.args .normal) [] (w.forCall tape i)):=
 ⟨w0,fun _ _=>0,⟨#[],args,[]⟩,hos,oU hv hr,(Input.okWide_of_okWideB (base:=0) hok).1,(Input.okWide_of_okWideB hok).2,⟨⟨ChangeSpec.pre_of_preB hpre,hx⟩,sizedMet_of_sizedB hsz⟩,by
  simp only[Assume.holds]
  exact⟨by simp,by simp,fun _=>Modest.zero,by simp,by simp⟩⟩
end Go.Sx
namespace Go.Sx.Tryz
open Go Go.Sx Go.Proofs
set_option maxRecDepth 100000
variable{G:Nat→Obj→Prop}
inductive WR where
 |ok (t:List UInt8) (e:Int)
 |bad
def ec(e e1:Int):Int:=bif e==0 then e1 else e
def WR.bindR{R:Type}(r:WR)(k:List UInt8→Int→Rs R):Rs R:=match r with
 | .ok t e=>k t e
 | .bad=>.err 77
def WR.bind(r k:WR):WR:=match r with
 | .ok t e=>(match k with
  | .ok t2 e2=>.ok (t++t2) (ec e e2)
  | .bad=>.bad)
 | .bad=>.bad
theorem vy(a b c:Int):ec (ec a b) c=ec a (ec b c):=by
 unfold ec
 cases h:a==0<;>simp only[cond_true,cond_false,h]
theorem nh(e:Int):ec e 0=e:=by
 unfold ec
 cases h:e==0 with
 |true=>simp only[cond_true];simpa using Eq.symm (by simpa using h)
 |false=>rfl
def me(g:Nat)(L:List Nd)(r:Int)(s:List Int)(e:Int):List Blk:=[.cells 67 [.bself 0,.own 1 g,.sl aB L,.int .i64 r,.int .i64 e],.list 5 (.int .u8) g false s]
def bsW(L:List Nd)(r:Int)(s:List Int)(e:Int):List Blk:=me 0 L r s e
abbrev YF(ts:Sig):Type:=List Nd→ai ts→WR
def wrF(f:Nat)(ts:Sig)(ret:ai ts→AV)(F:YF ts):aQ:=fun R args bs k=>match args,bs with
 | .ref 0 0::xs,[.cells 67 [.bself 0,.own 1 0,.sl nT L,.int .i64 r,.int .i64 e],.list 5 (.int .u8) 0 false s]=>
  (match dc nT aB L,ib (aC (aq 0 [.cells 67 [.bself 0,.own 1 0,.sl nT L,.int .i64 r,.int .i64 e],.list 5 (.int .u8) 0 false s])) ts xs with
  |some L,some (x,[])=>(F L x).bindR fun t e1=>match decide (List.length s+(bo t).length<ar)with
   |true=>k (.ret (ret x),me 1 L r (app s (bo t)) (ec e e1))
   |false=>.err 78
  |_,_=>.err (5000000+f))
 |_,_=>.err (5100000+f)
def cp(G:Nat→Obj→Prop)(f:Nat)(ts:Sig)(ret:ai ts→AV)(F:YF ts):Prop:=∀L r s e x t e1,F L x= .ok t e1→s.length+(bo t).length<ar→
 SA Tryz.prog G f (.ref 0 0::cy ts x) (bsW L r s e) (.ret (ret x),me 1 L r (app s (bo t)) (ec e e1))
theorem Is{f:Nat}{ts:Sig}{ret:ai ts→AV}{F:YF ts}(h:cp G f ts ret F):aK Tryz.prog G f (wrF f ts ret F):=fun R args bs k o hr=>by
 unfold wrF at hr
 split at hr
 ·rename_i xs nT L r e s
  split at hr
  ·rename_i L' x hL ht
   obtain⟨e0,hL⟩:=fb hL
   subst e0
   subst hL
   cases e1:F L x with
   |ok t er=>
    rw[e1]at hr
    simp only[WR.bindR]at hr
    split at hr
    ·rename_i hd
     exact⟨_,hr,kH ht (h L r s e x t er e1 (of_decide_eq_true hd))⟩
    ·cases hr
   |bad=>
    rw[e1]at hr
    cases hr
  ·cases hr
 ·cases hr
def wrI(f:Nat)(ts:Sig)(ret:ai ts→AV)(F:YF ts):aQ:=nY f 1 ts (AB f (l6 f (wrF f ts ret F)))
theorem cg{f:Nat}{ts:Sig}{ret:ai ts→AV}{F:YF ts}(h:cp G f ts ret F):aK Tryz.prog G f (wrI f ts ret F):=ov (sc (jl (Is h)))
abbrev bO{ts:Sig}(_:ai ts):AV:=.tup []
abbrev SF:Type:=List Int→Int→Rs R0
inductive WT(σ:Type)where
 |O (g:Nat)
 |V (n:Nat)
 |C (c:Bool) (a b:WT σ)
 |B (m:WR) (k:WT σ)
 |J (x:σ)
def WT.runO{σ:Type}(o:Nat→SF)(j:σ→SF):WT σ→SF
 | .O g=>o g
 | .V n=>fun _ _=>.err n
 | .C c a b=>fun s e=>bif c then a.runO o j s e else b.runO o j s e
 | .B m k=>fun s e=>WR.bindR m fun t e1=>bif decide (List.length s+(bo t).length<ar)then k.runO o j (app s (bo t)) (ec e e1)else .err 78
 | .J x=>j x
abbrev oW(L:List Nd)(r:Int)(g:Nat):SF:=fun s e=>.ok (.ret (.tup []),me g L r s e)
abbrev WT.run1{σ:Type}(j:σ→SF)(L:List Nd)(r:Int)(q:WT σ):SF:=q.runO (oW L r) j
def WT.run2{σ:Type}(j:σ→WR):WT σ→WR
 | .O _=>.ok [] 0
 | .V _=>.bad
 | .C c a b=>bif c then a.run2 j else b.run2 j
 | .B m k=>WR.bind m (k.run2 j)
 | .J x=>j x
def WAP(P:List Int→Int→Rs R0→Prop)(x:Nat→SF)(q:WR):Prop:=∀s e t e1,q= .ok t e1→s.length+(bo t).length<ar→∃n,P (app s (bo t)) (ec e e1) (x n s e)
abbrev El(L:List Nd)(r:Int)(s:List Int)(e:Int)(y:Rs R0):Prop:=∃g,y= .ok (.ret (.tup []),me g L r s e)
abbrev WA(L:List Nd)(r:Int)(x:Nat→SF)(q:WR):Prop:=WAP (El L r) x q
variable{L:List Nd}{r e:Int}{s:List Int}{P:List Int→Int→Rs R0→Prop}
theorem WAP.bad{x:Nat→SF}:WAP P x .bad:=fun s e t e1 h=>by cases h
theorem tA(s:List Int):app s (bo [])=s:=List.append_nil s
theorem lg(a b:List UInt8):bo (a++b)=bo a++bo b:=by simp[bo]
theorem WAP.run{σ:Type}{o:Nat→SF}{j1:Nat→σ→SF}{j2:σ→WR}(ho:∀g s e,P s e (o g s e))(hj:∀x,WAP P (fun n=>j1 n x) (j2 x)):∀q:WT σ,WAP P (fun n=>q.runO o (j1 n)) (q.run2 j2)
 | .O g=>fun s e t e1 h _=>by
  cases h
  rw[tA,nh]
  exact⟨0,ho g s e⟩
 | .V n=>fun s e t e1 h _=>by cases h
 | .C c a b=>by
  cases c
  ·exact WAP.run ho hj b
  ·exact WAP.run ho hj a
 | .J x=>hj x
 | .B m k=>fun s e t e1 hq hb=>by
  cases m with
  |bad=>cases hq
  |ok t1 e2=>
   simp only[WT.run2,WR.bind]at hq
   cases hk:k.run2 j2 with
   |bad=>rw[hk]at hq;cases hq
   |ok t2 e3=>
    rw[hk]at hq
    simp only[WR.ok.injEq]at hq
    obtain⟨h1,h2⟩:=hq
    subst h1 h2
    have hl:(bo (t1++t2)).length=(bo t1).length+(bo t2).length:=by rw[lg,List.length_append]
    obtain⟨n,hx⟩:=WAP.run ho hj k (app s (bo t1)) (ec e e2) t2 e3 hk (by simp only[app,List.length_append];omega)
    refine⟨n,?_⟩
    have hd:decide (List.length s+(bo t1).length<ar)=true:=decide_eq_true (by omega)
    simp only[WT.runO,WR.bindR,hd,cond_true]
    rw[lg,←vy,show app s (bo t1++bo t2)=app (app s (bo t1)) (bo t2)from(List.append_assoc _ _ _).symm]
    exact hx
theorem WAP.step{f:Nat→SF}{q:WR}(h:WAP P (fun n=>f (n+1)) q):WAP P f q:=fun s e t e1 hq hb=>by
 obtain⟨n,hx⟩:=h s e t e1 hq hb
 exact⟨n+1,hx⟩
theorem xd{g:Nat}{s:List Int}{e:Int}:El L r s e (oW L r g s e):=⟨g,rfl⟩
theorem Ck:xq (bsW L r s e):=fun ee tt gg sh l hm=>by
 simp only[bsW,me,List.mem_cons,List.not_mem_nil,or_false,reduceCtorEq,false_or]at hm
 cases hm
 rfl
theorem Bk{f g:Nat}{args:List AV}{v:AV}{s':List Int}{e':Int}(hv:∀get q,gV get q v=some v)(hp:bz v=true)(h:SA Tryz.prog G f args (bsW L r s e) (.ret v,me g L r s' e')):
  SA Tryz.prog G f args (bsW L r s e) (.ret v,me 1 L r s' e'):=by
 refine SA.bump (q:=fun _=>1) h Ck (fun _ _=>Nat.le_refl _) (hv _ _) ?_ ?_
 ·simp[gBs,gB,cZ,gA,aq,aC,me]
 ·rw[hp]
  rfl
abbrev LD(_:Unit):SF:=fun _ _=>.err 0
abbrev ca(_:Unit):WR:=.bad
theorem df{f:Nat}{ts:Sig}{fi:FI}{lib:List (Nat×aQ)}(hf:FIOK Tryz.prog f fi)(hl:aT Tryz.prog G lib)(q:List Nd→ai ts→WT Unit)
  (h:∀L r x s e,body (R:=R0) E (an lib) fi (.ref 0 0::cy ts x) (bsW L r s e) .ok=(q L x).run1 LD L r s e):cp G f ts bO (fun L x=>(q L x).run2 ca):=fun L r s e x t e1 hq hb=>by
 obtain⟨_,g,h2⟩:=WAP.run (o:=oW L r) (j1:=fun _=>LD) (j2:=ca) (P:=El L r) (fun _ _ _=>xd) (fun _=>.bad) (q L x) s e t e1 hq hb
 exact Bk (fun _ _=>rfl) rfl (bb (aS []) (aE hl) hf ((h L r x s e).trans h2))
theorem EU{f:Nat}{ts:Sig}{F:YF ts}{fi:FI}{lib:List (Nat×aQ)}(hf:FIOK Tryz.prog f fi)(hl:aT Tryz.prog G lib)
  (h:∀L r x,WA L r (fun _ s e=>body (R:=R0) E (an lib) fi (.ref 0 0::cy ts x) (bsW L r s e) .ok) (F L x)):cp G f ts bO F:=fun L r s e x t e1 hq hb=>by
 obtain⟨_,g,h2⟩:=h L r x s e t e1 hq hb
 exact Bk (fun _ _=>rfl) rfl (bb (aS []) (aE hl) hf h2)
theorem Ep{f:Nat}{ts:Sig}{F:YF ts}{fi:FI}{cs:List Cut}{lib:List (Nat×aQ)}(hf:FIOK Tryz.prog f fi)(hl:aT Tryz.prog G lib)
  (h:∀L r x,WA L r (fun n s e=>start (R:=R0) E (an lib) fi cs (pieces (R:=R0) E (an lib) fi cs 2 .ok n) (.ref 0 0::cy ts x) (bsW L r s e) .ok) (F L x)):cp G f ts bO F:=fun L r s e x t e1 hq hb=>by
 obtain⟨n,g,h2⟩:=h L r x s e t e1 hq hb
 exact Bk (fun _ _=>rfl) rfl (bh (aS []) (aE hl) hf (.inl Ck) h2)
def lpW{σ:Type}(v:σ→WT σ):Nat→σ→WR
 |0,_=>.bad
 |n+1,z=>(v z).run2 (lpW v n)
theorem nv{σ:Type}{f:Nat}{ts:Sig}{fi:FI}{cs:List Cut}{c:Cut}{lib:List (Nat×aQ)}{mk:List Nd→Int→σ→List Int→Int→St}(hf:FIOK Tryz.prog f fi)(hl:aT Tryz.prog G lib)(w:List Nd→ai ts→WT σ)(v:List Nd→σ→WT σ)(N:List Nd→ai ts→Nat)
  (hw:∀(J:Jump R0) L r x s e,start (R:=R0) E (an lib) fi cs J (.ref 0 0::cy ts x) (bsW L r s e) .ok=(w L x).run1 (fun z s e=>J 0 (mk L r z s e)) L r s e)
  (hv:∀(J:Jump R0) L r z s e,resume (R:=R0) E (an lib) (aR 2 cs 0) J c.path fi.code 1 (mk L r z s e) (bX E 2 fi.results .ok)=(v L z).run1 (fun z s e=>J 0 (mk L r z s e)) L r s e)
  (hc:nth cs 0=some c):cp G f ts bO fun L x=>(w L x).run2 (lpW (v L) (N L x)):=Ep hf hl fun L r x=>by
 have key:∀(n:Nat) (z:σ),WA L r (fun m s e=>pieces (R:=R0) E (an lib) fi cs 2 .ok m 0 (mk L r z s e)) (lpW (v L) n z):=by
  intro n
  induction n with
  |zero=>exact fun z=>WAP.bad
  |succ n ih=>
   intro z
   refine WAP.step ?_
   have e:(fun m s e=>pieces (R:=R0) E (an lib) fi cs 2 .ok (m+1) 0 (mk L r z s e))=fun m=>(v L z).run1 (fun z s e=>pieces (R:=R0) E (an lib) fi cs 2 .ok m 0 (mk L r z s e)) L r:=by
    funext m s e
    exact(aW hc).trans (hv _ L r z s e)
   rw[e]
   exact WAP.run (P:=El L r) (fun _ _ _=>xd) ih (v L z)
 have e:(fun n s e=>start (R:=R0) E (an lib) fi cs (pieces (R:=R0) E (an lib) fi cs 2 .ok n) (.ref 0 0::cy ts x) (bsW L r s e) .ok)=fun n=>(w L x).run1 (fun z s e=>pieces (R:=R0) E (an lib) fi cs 2 .ok n 0 (mk L r z s e)) L r:=by
  funext n s e
  exact hw _ L r x s e
 rw[e]
 exact WAP.run (P:=El L r) (fun _ _ _=>xd) (key _) (w L x)
end Go.Sx.Tryz
