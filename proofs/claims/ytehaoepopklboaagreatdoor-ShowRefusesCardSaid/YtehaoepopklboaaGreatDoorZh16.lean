/- A part of the proof: see the row's text. -/
import Derived.Test.YtehaoepopklboaaGreatDoorZh15
import Derived.Laws.FloatArith
set_option linter.unusedVariables false
set_option linter.unusedSimpArgs false
noncomputable section
namespace Go.Sx.Tryz
open Go Go.Sx Go.Proofs
open Go.RowKit
set_option maxRecDepth 100000
set_option maxHeartbeats 1000000 in
theorem wO(p q:Addr)(w:World):
  CallsD Tryz.prog 40 #[.pointer (some p),.pointer (some q)] .returning w fun e u' w'=>e= .returned (.tuple #[])∧u'= .returning∧w'=w:=by
 refine callsD_of_wpS Tryz.func40 rfl fun c₀ cs hu=>?_
 apply wpS_seq
 apply wpS_region
 simp[wpOpsS,go_sem,recoverD,hu,Tryz.ntmps40,Exit.thenS]
 apply wpS_seq
 apply wpS_region
 simp[wpOpsS,go_sem,Exit.thenS]
 refine wpS_cond (t:=false) (by simp[Act.eval,Array.replicate]) ?_
 refine wpS_of_wp (wp_skip ?_)
 cases c₀
 simp_all[bodyPostS,results,Tryz.results40,Exit.thenS]
structure Caught(r0 r1:Nat)(c p:Int)(w w':World):Prop where
 tree:w'.heap[r0]? =some (.cells #[.slice none 0 0,.int .i64 0] 28 (0,0))
 flt:w'.heap[r1]? =some (.cells #[.int .i64 c,.int .i64 p] 35 (0,0))
 size:w.heap.size≤w'.heap.size
 old:∀k,k<w.heap.size→k≠r0→k≠r1→w'.heap[k]? =w.heap[k]?
 os:w'.os=w.os
 tape:w'.tape=w.tape
 output:w'.output=w.output
set_option maxHeartbeats 4000000 in
theorem vr(r0 r1:Nat)(c p x y:Int)(w:World)(h0:w.heap[r0]? =some (.cells #[.slice none 0 0,.int .i64 0] 28 (0,0)))(h1:w.heap[r1]? =some (.cells #[.int .i64 x,.int .i64 y] 35 (0,0)))(h2:r0≠r1):
  CallsD Tryz.prog 40 #[.pointer (some ⟨r0,0,none⟩),.pointer (some ⟨r1,0,none⟩)] (.panicking [{v:=.iface 35 (.agg #[.int .i64 c,.int .i64 p]),recovered:=false}]) w fun e u' w'=>e= .returned (.tuple #[])∧
   u'= .panicking [{v:=.iface 35 (.agg #[.int .i64 c,.int .i64 p]),recovered:=true}]∧Caught r0 r1 c p w w':=by
 refine callsD_of_wpS Tryz.func40 rfl fun c₀ cs hu=>?_
 apply wpS_seq
 apply wpS_region
 simp[wpOpsS,go_sem,recoverD,hu,Tryz.ntmps40,Exit.thenS]
 apply wpS_seq
 apply wpS_region
 simp[wpOpsS,go_sem,Exit.thenS]
 refine wpS_cond (t:=true) (by simp[Act.eval,Array.replicate]) ?_
 simp only[if_true]
 refine wpS_of_wp ?_
 have hta:∀(v:Value) (w:World),(Instr.typeAssert (.iface 35 v) 20 35 true).run Tryz.prog w= .ok (.tuple #[v,.bool true]) w:=fun v w=>by kernel_rfl
 apply wp_seq
 apply wp_region
 simp[wpOps,Oper.wp,go_sem,hta]
 repeat refine .inl ?_
 apply wp_seq
 apply wp_seq
 apply wp_region
 simp[wpOps,Oper.wp,go_sem]
 repeat refine .inl ?_
 refine wp_cond_false (by simp[Act.eval,Array.replicate]) (wp_skip ?_)
 have l0:r0<w.heap.size:=(Array.getElem?_eq_some_iff.1 h0).1
 have l1:r1<w.heap.size:=(Array.getElem?_eq_some_iff.1 h1).1
 have hal:∀(o:Obj) (k:Nat),k<w.heap.size→(w.alloc o).heap[k]? =w.heap[k]? :=fun o k hk=>by
  show(w.heap.push o)[k]? =_
  rw[Array.getElem?_push_lt hk,Array.getElem?_eq_getElem hk]
 refine Da (r0:=r0) (r1:=r1) (r3:=w.heap.size) (x:=x) (y:=y) (c:=c) (p:=p) ((hal _ _ l0).trans h0) ((hal _ _ l1).trans h1) ?_ h2 (by omega) (by omega) ?_ ?_ ?_ ?_ ?_ ?_
 ·show(w.heap.push _)[w.heap.size]? =_
  simp
 ·simp[Act.eval,Array.replicate]
 ·simp[Act.eval,Array.replicate]
 ·simp[Act.eval,Array.replicate]
 ·simp
 ·rfl
 ·intro a' w' hd hsz k0 k1 ks ko kos kt kp
  have hsz1:(w.alloc (.cells #[.int .i64 c,.int .i64 p] 35 (0,0))).heap.size=w.heap.size+1:=by
   show(w.heap.push _).size=_
   simp
  have hcg:Caught r0 r1 c p w w':=⟨k0,k1,by rw[hsz1]at ks;omega,fun k hk n0 n1=>(ko k (by rw[hsz1];omega) n0 n1 (by omega)).trans (hal _ _ hk),kos,kt,kp⟩
  cases c₀
  simp_all[bodyPostS,results,Tryz.results40,Exit.thenS,Exit.then]
end Go.Sx.Tryz
namespace Go.Sx.Tryz
open Go Go.Sx Go.Proofs
open Go.RowKit
set_option maxRecDepth 100000
variable{G:Nat→Obj→Prop}
theorem fp{w:World}{k:Nat}{cs:Array Value}{t:TypeId}{fr:Nat×Nat}(h:w.heap[k]? =some (.cells cs t fr))(o:Nat):w.cell? ⟨k,o,none⟩=cs[o]? :=by
 simp[World.cell?,h]
def c31:Code:=gv [true,true,true,true] jZ.code
set_option maxHeartbeats 4000000 in
theorem AN{a:Act}{w:World}{R:Ending→World→Prop}{r0 r1 r2:Nat}{c p x y:Int}(e2:a.eval (.tmp 2)= .pointer (some ⟨r0,0,none⟩))(e3:a.eval (.tmp 3)= .pointer (some ⟨r1,0,none⟩))(e5:a.eval (.tmp 5)= .pointer (some ⟨r2,0,none⟩))(hsz:a.tmps.size=28)(hd:a.defers=[])
  (hne:r0≠r1) (hc:Calls Tryz.prog 41 #[.pointer (some ⟨r2,0,none⟩)] w fun e w'=>e= .panicked [{v:=.iface 35 (.agg #[.int .i64 c,.int .i64 p]),recovered:=false}]∧w'.heap[r0]? =some (.cells #[.slice none 0 0,.int .i64 0] 28 (0,0))∧w'.heap[r1]? =some (.cells #[.int .i64 x,.int .i64 y] 35 (0,0))∧
   ∀w'',Caught r0 r1 c p w' w''→R (.returned (.tuple #[.agg #[.slice none 0 0,.int .i64 0],.agg #[.int .i64 c,.int .i64 p]])) w''):c31.wp Tryz.prog (bodyPostD Tryz.prog Tryz.f15 R) a w:=by
 have hlt:5<a.tmps.size:=by omega
 have e2':a.tmps[2]= .pointer (some ⟨r0,0,none⟩):=by simpa [Act.eval,hsz]using e2
 have e3':a.tmps[3]= .pointer (some ⟨r1,0,none⟩):=by simpa [Act.eval,hsz]using e3
 have e5':a.tmps[5]= .pointer (some ⟨r2,0,none⟩):=by simpa [Act.eval,hsz]using e5
 show(Code.seq _ (Code.seq _ (Code.seq _ Code.ret))).wp Tryz.prog _ a w
 apply wp_seq
 apply wp_region
 simp[wpOps,Oper.wp,go_sem,e2',e3',e5',hsz,hd]
 repeat refine .inl ?_
 apply wp_seq
 apply wp_region
 simp[wpOps,Oper.wp,go_sem,e2',e3',e5',hsz,hd]
 repeat refine .inl ?_
 refine Calls.mono hc ?_
 rintro e w' ⟨rfl,k0,k1,hR⟩
 simp only[Exit.then]
 show Leaves Tryz.prog Tryz.f15 _ R _ (.panicking _) w'
 refine leaves_cons (f:=40) (args:= #[.pointer (some ⟨r0,0,none⟩),.pointer (some ⟨r1,0,none⟩)]) (by simp) (by simp[go_sem]) ?_
 refine(vr r0 r1 c p x y w' k0 k1 hne).mono ?_
 rintro e u' w'' ⟨rfl,rfl,hcg⟩
 have h0:=hcg.tree
 have h1:=hcg.flt
 refine⟨_,?_,hR w'' hcg⟩
 have m0:w''.cell? {block:=r0,off:=0}=some (.slice none 0 0):=fp h0 0
 have m1:w''.cell? {block:=r0,off:=1}=some (.int .i64 0):=fp h0 1
 have m2:w''.cell? {block:=r1,off:=0}=some (.int .i64 c):=fp h1 0
 have m3:w''.cell? {block:=r1,off:=1}=some (.int .i64 p):=fp h1 1
 simp[results,Tryz.results15,go_sem,hsz,e2',e3',m0,m1,m2,m3]
set_option maxHeartbeats 4000000 in
theorem Kr{a:Act}{w:World}{R:Ending→World→Prop}{r0 r1 r2:Nat}{x y:Int}(e2:a.eval (.tmp 2)= .pointer (some ⟨r0,0,none⟩))(e3:a.eval (.tmp 3)= .pointer (some ⟨r1,0,none⟩))(e5:a.eval (.tmp 5)= .pointer (some ⟨r2,0,none⟩))(hsz:a.tmps.size=28)(hd:a.defers=[])
  (hne:r0≠r1) (hc:Calls Tryz.prog 41 #[.pointer (some ⟨r2,0,none⟩)] w fun e w'=>(∃v,e= .returned v)∧Calls Tryz.prog 32 #[.pointer (some ⟨r2,4,none⟩)] w' fun e w''=>∃ad n cap root,e= .returned (.agg #[.slice ad n cap,.int .i64 root])∧
   w''.heap[r0]? =some (.cells #[.slice none 0 0,.int .i64 0] 28 (0,0))∧w''.heap[r1]? =some (.cells #[.int .i64 x,.int .i64 y] 35 (0,0))∧
   ∀w3:World,w3.heap[r0]? =some (.cells #[.slice ad n cap,.int .i64 root] 28 (0,0))→w3.heap[r1]? =some (.cells #[.int .i64 0,.int .i64 0] 35 (0,0))→w3.heap.size=w''.heap.size→(∀k,k≠r0→k≠r1→w3.heap[k]? =w''.heap[k]?)→w3.os=w''.os→w3.tape=w''.tape→w3.output=w''.output→
    R (.returned (.tuple #[.agg #[.slice ad n cap,.int .i64 root],.agg #[.int .i64 0,.int .i64 0]])) w3):c31.wp Tryz.prog (bodyPostD Tryz.prog Tryz.f15 R) a w:=by
 have hlt:5<a.tmps.size:=by omega
 have e2':a.tmps[2]= .pointer (some ⟨r0,0,none⟩):=by simpa [Act.eval,hsz]using e2
 have e3':a.tmps[3]= .pointer (some ⟨r1,0,none⟩):=by simpa [Act.eval,hsz]using e3
 have e5':a.tmps[5]= .pointer (some ⟨r2,0,none⟩):=by simpa [Act.eval,hsz]using e5
 show(Code.seq _ (Code.seq _ (Code.seq _ Code.ret))).wp Tryz.prog _ a w
 apply wp_seq
 apply wp_region
 simp[wpOps,Oper.wp,go_sem,e2',e3',e5',hsz,hd]
 repeat refine .inl ?_
 apply wp_seq
 apply wp_region
 simp[wpOps,Oper.wp,go_sem,e2',e3',e5',hsz,hd]
 repeat refine .inl ?_
 refine Calls.mono hc ?_
 rintro e w' ⟨⟨v,rfl⟩,hc2⟩
 simp only[Exit.then]
 apply wp_seq
 apply wp_region
 simp[wpOps,Oper.wp,go_sem,e2',e3',e5',hsz,hd]
 repeat refine .inl ?_
 refine Calls.mono hc2 ?_
 rintro e w'' ⟨ad,n,cap,root,rfl,k0,k1,hR⟩
 have hst0:(storeCells ⟨r0,0,none⟩ [.slice ad n cap,.int .i64 root]).run Tryz.prog w''= .ok () (w''.setRow r0 #[.slice ad n cap,.int .i64 root]):=by
  simpa using run_storeCells_atF Tryz.prog r0 0 28 (0,0) [.slice ad n cap,.int .i64 root] 0 _ w'' k0 (by simp) (by simp) (by simp[Value.oneCell'])
 have k1':(w''.setRow r0 #[.slice ad n cap,.int .i64 root]).heap[r1]? =some (.cells #[.int .i64 x,.int .i64 y] 35 (0,0)):=by
  rw[setRow_other _ _ _ _ (Ne.symm hne)]
  exact k1
 have hst1:(storeCells ⟨r1,0,none⟩ [.int .i64 0,.int .i64 0]).run Tryz.prog (w''.setRow r0 #[.slice ad n cap,.int .i64 root])= .ok () ((w''.setRow r0 #[.slice ad n cap,.int .i64 root]).setRow r1 #[.int .i64 0,.int .i64 0]):=by
  simpa using run_storeCells_atF Tryz.prog r1 0 35 (0,0) [.int .i64 0,.int .i64 0] 0 _ _ k1' (by simp) (by simp) (by simp[Value.oneCell'])
 simp[hst0,Oper.upon,Act.put,e2',e3',e5',hsz,Result.andThen]
 repeat refine .inl ?_
 rw[hst1]
 simp only[]
 refine wp_ret ?_
 refine leaves_cons (f:=40) (args:= #[.pointer (some ⟨r0,0,none⟩),.pointer (some ⟨r1,0,none⟩)]) (by simp) (by simp[go_sem]) ?_
 refine(wO ⟨r0,0,none⟩ ⟨r1,0,none⟩ _).mono ?_
 rintro e u' w3 ⟨rfl,rfl,rfl⟩
 have h0:((w''.setRow r0 #[.slice ad n cap,.int .i64 root]).setRow r1 #[.int .i64 0,.int .i64 0]).heap[r0]? =some (.cells #[.slice ad n cap,.int .i64 root] 28 (0,0)):=by
  rw[setRow_other _ _ _ _ hne]
  exact setRow_heap _ _ _ _ _ _ k0
 have h1:((w''.setRow r0 #[.slice ad n cap,.int .i64 root]).setRow r1 #[.int .i64 0,.int .i64 0]).heap[r1]? =some (.cells #[.int .i64 0,.int .i64 0] 35 (0,0)):=setRow_heap _ _ _ _ _ _ k1'
 refine⟨_,?_,hR _ h0 h1 (by simp) (fun k n0 n1=>by rw[setRow_other _ _ _ _ n1,setRow_other _ _ _ _ n0]) rfl rfl rfl⟩
 generalize ((w''.setRow r0 #[.slice ad n cap,.int .i64 root]).setRow r1 #[.int .i64 0,.int .i64 0])=w3 at h0 h1
 have m0:w3.cell? {block:=r0,off:=0}=some (.slice ad n cap):=fp h0 0
 have m1:w3.cell? {block:=r0,off:=1}=some (.int .i64 root):=fp h0 1
 have m2:w3.cell? {block:=r1,off:=0}=some (.int .i64 0):=fp h1 0
 have m3:w3.cell? {block:=r1,off:=1}=some (.int .i64 0):=fp h1 1
 simp[results,Tryz.results15,go_sem,hsz,e2',e3',m0,m1,m2,m3]
end Go.Sx.Tryz
namespace Go.Sx.Tryz
open Go Go.Sx Go.Proofs
open Go.RowKit
set_option maxRecDepth 100000
variable{G:Nat→Obj→Prop}
abbrev rsP:Sig:=[(true,BD),(true,GH)]
def yt(T:List UInt8)(K:List Tok)(c0 a0:Int):St:=⟨[(2,.ref 0 0),(3,.ref 1 0),(5,.ref 2 0)],[(0,.cells 28 [.nils,.int .i64 0]),(1,.cells 35 [.int .i64 c0,.int .i64 a0]),(2,.cells 85 [.str T,.sl aH K,.int .i64 0,.int .i64 0,.own 3 0,.int .i64 0]),(3,.list 52 aB 0 false [])],4⟩
theorem fP{P:Program}{f:Nat}{fi:FI}(hf:FIOK P f fi){vals:Array Value}{w:World}{R:Ending→World→Prop}(h:bx P f vals w R):Calls P f vals w R:=by
 rcases h with⟨_,h⟩|⟨v,w',h,_⟩|⟨v,w',h,_⟩
 ·exact h
 ·rw[cU hf]at h;cases h
 ·rw[cU hf]at h;cases h
theorem qC{D:Ctx}(hm:D.m=aC (aq 0 []))(hs:SRel D){w':World}(hsz:D.w.heap.size≤w'.heap.size)(hold:∀k,k<D.w.heap.size→w'.heap[k]? =D.w.heap[k]?)(h1:w'.os=D.w.os)(h2:w'.tape=D.w.tape)(h3:w'.output=D.w.output){v:AV}{u:Value}
  (hv:ay ⟨w',aC (aq 0 []),D.φ,D.fr,D.gl⟩ v u) (hp:bz v=true):bW D (.ret v,[]) (.returned u) w':=by
 have hmn:∀i,D.m i=none:=fun i=>by rw[hm];rfl
 have hcell:∀k o x,D.w.cell? ⟨k,o,none⟩=some x→w'.cell? ⟨k,o,none⟩=some x:=fun k o x hx=>by
  have hk:k<D.w.heap.size:=by
   unfold World.cell? at hx
   split at hx
   ·rename_i hh;exact(Array.getElem?_eq_some_iff.1 hh).1
   ·cases hx
  rw[World.cell?_of_block (a:=⟨k,o,none⟩) (hold k hk)]
  exact hx
 refine⟨v,⟨w',aC (aq 0 []),D.φ,D.fr,D.gl⟩,rfl,rfl,rfl,?_,?_,hv,hp,rfl⟩
 ·exact{
   ok:=fun id b h=>by cases h
   apart:=fun id b id' b' k h=>by cases h
   frApart:=fun k o h ⟨id,b,hb,_⟩=>by cases hb
   frOld:=fun k o h=>Nat.lt_of_lt_of_le (hs.frOld k o h) hsz
   gl:=fun k o h=>by
    obtain⟨e1,_,e3⟩:=hs.gl k o h
    have hk:k<D.w.heap.size:=(Array.getElem?_eq_some_iff.1 e1).1
    exact⟨(hold k hk).trans e1,(fun⟨id,b,hb,_⟩=>by cases hb),e3⟩}
 ·exact{
   cells:=fun id ty cs h=>by rw[hmn]at h;cases h
   lists:=fun id ee t g sh L h=>by rw[hmn]at h;cases h
   keep:=fun k o x hx ht=>⟨hcell k o x hx,fun hh=>ht (by
    rcases hh with hh|⟨id,b,hb,_⟩
    ·exact .inl hh
    ·cases hb)⟩
   frEq:=rfl
   glEq:=rfl
   frKeep:=fun k o x hx _=>hcell k o x hx
   size:=hsz
   old:=fun k hk _=>hold k hk
   held:=fun k ⟨id,b,hb,_⟩=>by cases hb
   own:=fun k o ⟨id,b,hb,_⟩=>by cases hb
   os:=h1
   tape:=h2
   output:=h3}
theorem v8{C:Ctx}{c p:Int}{u:Value}(h:ay C (.iface 35 (.agg [.int .i64 c,.int .i64 p])) u):u= .iface 35 (.agg #[.int .i64 c,.int .i64 p]):=by
 obtain⟨v,rfl,vs,rfl,hl⟩:=h
 have:=lB hl
 rw[show vs= #[.int .i64 c,.int .i64 p]from by rw[←Array.toList_inj];exact this]
set_option maxHeartbeats 1000000 in
theorem xf(ht:fX G)(hf:kO G)(n:Nat){D C:Ctx}{a:Act}{T:List UInt8}{K:List Tok}{c0 a0:Int}(hG:D.gl=G)(hm:D.m=aC (aq 0 []))(hs:SRel D)(hr:StR C a (yt T K c0 a0) 28 [])(hX:Ext D C){y:ai rsP}
  (hy:(∃c p,pU (fns n) T K 0 0 []= .fault c p∧y=((([]:List Nd),(0:Int),()),(c,p,()),()))∨(∃z a' d' A',pU (fns n) T K 0 0 []= .ok z a' d' A'∧jw ((A',(0:Int),()),())=true∧y=((A',IntKind.wrap .i64 ((A'.length:Int)-1),()),((0:Int),(0:Int),()),()))):
  c31.wp Tryz.prog (bodyPostD Tryz.prog Tryz.f15 (bW D (.ret (cr rsP y),[]))) a C.w:=by
 have hmC:=hr.r.m
 have hsC:=hr.r.s
 have b0:C.m 0=some (.cells 28 [.nils,.int .i64 0]):=by rw[hmC];rfl
 have b1:C.m 1=some (.cells 35 [.int .i64 c0,.int .i64 a0]):=by rw[hmC];rfl
 have b2:C.m 2=some (.cells 85 [.str T,.sl aH K,.int .i64 0,.int .i64 0,.own 3 0,.int .i64 0]):=by rw[hmC];rfl
 have b3:C.m 3=some (.list 52 aB 0 false []):=by rw[hmC];rfl
 obtain⟨r0,cs0,g0,k0,v0,_⟩:=hsC.ok 0 _ b0
 obtain⟨r1,cs1,g1,k1,v1,_⟩:=hsC.ok 1 _ b1
 obtain⟨r2,cs2,g2,k2,v2,_⟩:=hsC.ok 2 _ b2
 have k0:C.w.heap[r0]? =some (.cells #[.slice none 0 0,.int .i64 0] 28 (0,0)):=by
  rw[k0,show cs0= #[.slice none 0 0,.int .i64 0]from by have:=uL v0;rw[←Array.toList_inj];exact this]
 have k1:C.w.heap[r1]? =some (.cells #[.int .i64 c0,.int .i64 a0] 35 (0,0)):=by
  rw[k1,show cs1= #[.int .i64 c0,.int .i64 a0]from by have:=lB v1;rw[←Array.toList_inj];exact this]
 have n01:r0≠r1:=fun e=>hsC.apart 0 _ 1 _ r0 b0 b1 (by decide) (by rw[g0];rfl) (by rw[g1];exact e)
 have l0:r0<C.w.heap.size:=(Array.getElem?_eq_some_iff.1 k0).1
 have l1:r1<C.w.heap.size:=(Array.getElem?_eq_some_iff.1 k1).1
 have e2:a.eval (.tmp 2)= .pointer (some ⟨r0,0,none⟩):=by
  obtain⟨rb,ty,cs,h1,h2,h3⟩:=hr.r.t (.tmp 2)
  rw[g0]at h2;cases h2;exact h3
 have e3:a.eval (.tmp 3)= .pointer (some ⟨r1,0,none⟩):=by
  obtain⟨rb,ty,cs,h1,h2,h3⟩:=hr.r.t (.tmp 3)
  rw[g1]at h2;cases h2;exact h3
 have e5:a.eval (.tmp 5)= .pointer (some ⟨r2,0,none⟩):=by
  obtain⟨rb,ty,cs,h1,h2,h3⟩:=hr.r.t (.tmp 5)
  rw[g2]at h2;cases h2;exact h3
 have hDn:∀k,¬D.held k:=fun k ⟨id,b,hb,_⟩=>by rw[hm]at hb;cases hb
 have hCold:∀k,k<D.w.heap.size→C.w.heap[k]? =D.w.heap[k]? :=fun k hk=>hX.old k hk (hDn k)
 have hCnew:∀k,C.held k→D.w.heap.size≤k:=fun k hk=>(hX.held k hk).resolve_left (hDn k)
 have n0:D.w.heap.size≤r0:=hCnew r0 ⟨0,_,b0,by rw[g0];rfl⟩
 have n1:D.w.heap.size≤r1:=hCnew r1 ⟨1,_,b1,by rw[g1];rfl⟩
 let fr:Nat→Nat→Prop:=fun k o=>C.fr k o∨k=r0∨k=r1
 have hl:getAll C.m [2,3]=some [.cells 85 [.str T,.sl aH K,.int .i64 0,.int .i64 0,.own 3 0,.int .i64 0],.list 52 aB 0 false []]:=by
  rw[hmC];rfl
 have hin:∀b∈[2,3],∃blk,C.m b=some blk:=fun b hb=>by
  rcases List.mem_cons.1 hb with rfl|hb
  ·exact⟨_,b2⟩
  ·rcases List.mem_cons.1 hb with rfl|hb
   ·exact⟨_,b3⟩
   ·cases hb
 obtain⟨hs1,hren,hT1,hheld1,hown1⟩:=wP hsC (ids:=[2,3]) (by decide) hl (fun b hb c hc=>by
   rcases List.mem_cons.1 hb with rfl|hb
   ·rw[b2]at hc
    simp only[kW,ep,List.flatMap_cons,List.flatMap_nil,refA,List.nil_append,List.append_nil]at hc
    simp at hc
    subst hc
    decide
   ·rcases List.mem_cons.1 hb with rfl|hb
    ·rw[b3]at hc;cases hc
    ·cases hb) rfl (fr:=fr)
  (fun k o b hk hb hlb=>by
   obtain⟨blk,hblk⟩:=hin b hb
   rcases hk with hk|rfl|rfl
   ·exact hsC.frApart k o hk ⟨b,blk,hblk,hlb⟩
   ·exact hsC.apart 0 _ b blk k b0 hblk (fun e=>by subst e;revert hb;decide) (by rw[g0];rfl) hlb
   ·exact hsC.apart 1 _ b blk k b1 hblk (fun e=>by subst e;revert hb;decide) (by rw[g1];rfl) hlb)
  (fun k o hk=>by
   rcases hk with hk|rfl|rfl
   ·exact hsC.frOld k o hk
   ·exact l0
   ·exact l1)
  (fun k o hk=>by
   rcases hk with hk|rfl|rfl
   ·exact .inl hk
   ·exact .inr ⟨0,_,b0,by rw[g0];rfl⟩
   ·exact .inr ⟨1,_,b1,by rw[g1];rfl⟩)
 generalize hD1:Sub C [2,3] fr ([Blk.cells 85 [.str T,.sl aH K,.int .i64 0,.int .i64 0,.own 3 0,.int .i64 0],.list 52 aB 0 false []].map (cf (posOf [2,3])))=D1 at*
 have hm1:D1.m=aC (aq 0 (bsP T K 0 0 [])):=by rw[←hD1];rfl
 have hw1:D1.w=C.w:=by rw[←hD1];rfl
 have hg1:D1.gl=G:=by rw[←hD1];exact hX.glEq.trans hG
 have hfr1:D1.fr=fr:=by rw[←hD1];rfl
 have hphi1:D1.φ 0= .cells r2:=by rw[←hD1];exact g2
 have hv1:au D1 [.ref 0 0] [.pointer (some ⟨r2,0,none⟩)]:=⟨_,[],rfl,⟨r2,85,_,by rw[hm1];rfl,hphi1,rfl⟩,rfl⟩
 have hnh:∀k,(k=r0∨k=r1∨k<D.w.heap.size)→¬D1.held k:=fun k hk hh=>by
  obtain⟨b,blk,hb,hbm,hlb⟩:=hheld1 k hh
  rcases hk with rfl|rfl|hk
  ·exact hsC.apart 0 _ b blk k b0 hbm (fun e=>by subst e;revert hb;decide) (by rw[g0];rfl) hlb
  ·exact hsC.apart 1 _ b blk k b1 hbm (fun e=>by subst e;revert hb;decide) (by rw[g1];rfl) hlb
  ·have:=hCnew k ⟨b,blk,hbm,hlb⟩
   omega
 have hDC:=hX.size
 have hP:=wa ht hf n T K 0 0 [] ()
 dsimp only at hP
 rcases hy with⟨c,p,hpr,rfl⟩|⟨z,a',d',A',hpr,hok,rfl⟩
 ·rw[hpr]at hP
  refine AN e2 e3 e5 hr.size hr.defers n01 (c:=c) (p:=p) (x:=c0) (y:=a0) ?_
  have hc:=fP Fy (hP D1 _ hg1 hm1 hs1 hv1)
  rw[hw1]at hc
  refine Calls.mono hc fun e w' hR=>?_
  cases e with
  |returned u=>obtain⟨v,D',e1,_⟩:=hR;cases e1
  |outgrown=>exact hR.elim
  |panicked ch=>
   obtain⟨v,e1,u,T',rfl,hu,_,hE⟩:=hR
   simp only[Out.panic.injEq]at e1
   subst e1
   have hu:=v8 hu
   subst hu
   have hold:∀k,k<C.w.heap.size→¬D1.held k→w'.heap[k]? =C.w.heap[k]? :=fun k hk hn=>by
    have:=hE.old k (by rw[hw1];exact hk) hn
    rw[hw1]at this;exact this
   have hsz:C.w.heap.size≤w'.heap.size:=by have:=hE.size;rw[hw1]at this;exact this
   refine⟨rfl,(hold r0 l0 (hnh r0 (.inl rfl))).trans k0,(hold r1 l1 (hnh r1 (.inr (.inl rfl)))).trans k1,fun w'' hcg=>?_⟩
   refine qC hm hs (by have:=hcg.size;omega) (fun k hk=>?_) (hcg.os.trans (hE.os.trans (by rw[hw1];exact hX.os))) (hcg.tape.trans (hE.tape.trans (by rw[hw1];exact hX.tape))) (hcg.output.trans (hE.output.trans (by rw[hw1];exact hX.output))) ?_ rfl
   ·rw[hcg.old k (by omega) (by omega) (by omega),hold k (by omega) (hnh k (.inr (.inr hk))),hCold k hk]
   ·exact⟨_,rfl,_,_,rfl,⟨_,rfl,_,_,rfl,⟨none,0,rfl,Nat.le_refl _,fun i x hi=>by cases hi⟩,_,_,rfl,rfl,rfl⟩,_,_,rfl,⟨_,rfl,_,_,rfl,rfl,_,_,rfl,rfl,rfl⟩,rfl⟩
 ·rw[hpr]at hP
  refine Kr e2 e3 e5 hr.size hr.defers n01 (x:=c0) (y:=a0) ?_
  have hc:=fP Fy (hP D1 _ hg1 hm1 hs1 hv1)
  rw[hw1]at hc
  refine Calls.mono hc fun e w' hR=>?_
  cases e with
  |panicked ch=>obtain⟨v,e1,_⟩:=hR;cases e1
  |outgrown=>exact hR.elim
  |returned u=>
   obtain⟨v,D2,_,hw2,hm2,hs2,hX2,_,_,_⟩:=hR
   refine⟨⟨u,rfl⟩,?_⟩
   obtain⟨q1,_⟩:=hX2.cells 0 85 _ (by rw[hm1];rfl)
   have hv2:au D2 [.ref 0 4] [.pointer (some ⟨r2,4,none⟩)]:=⟨_,[],rfl,⟨r2,85,_,by rw[hm2];rfl,q1.trans hphi1,rfl⟩,rfl⟩
   have hc2:=fP H0 (zD (G:=G) T K a' d' A' hok D2 _ (hX2.glEq.trans hg1) hm2 hs2 hv2)
   rw[hw2]at hc2
   refine Calls.mono hc2 fun e w'' hR=>?_
   cases e with
   |panicked ch=>obtain⟨v,e1,_⟩:=hR;cases e1
   |outgrown=>exact hR.elim
   |returned u2=>
    obtain⟨v2,D3,e1,hw3,hm3,hs3,hX3,hu2,_,_⟩:=hR
    simp only[Out.ret.injEq]at e1
    subst e1
    obtain⟨vs,rfl,hl2⟩:=hu2
    obtain⟨x1,rr,hvs,hx1,x2,rr2,rfl,hx2,hrr⟩:=hl2
    simp only[ay]at hx2
    simp only[au]at hrr
    subst hx2 hrr
    obtain⟨ad,cap,hx1e,hcap,hel⟩:=hx1
    simp only[List.cons.injEq,and_true]at hx1e
    subst hx1e
    have hold:∀k,k<C.w.heap.size→¬D1.held k→w''.heap[k]? =C.w.heap[k]? :=fun k hk hn=>by
     have h1:=hX2.old k (by rw[hw1];exact hk) hn
     have hsz2:D1.w.heap.size≤D2.w.heap.size:=hX2.size
     have h2:=hX3.old k (by rw[hw1]at hsz2;omega) (fun hh=>by
      rcases hX2.held k hh with hh|hh
      ·exact hn hh
      ·rw[hw1]at hh;omega)
     rw[←hw3,h2,h1,hw1]
    have hsz:C.w.heap.size≤w''.heap.size:=by
     have h1:=hX2.size
     have h2:=hX3.size
     rw[hw1]at h1
     rw[hw3]at h2
     omega
    refine⟨ad,_,cap,_,by rw[show vs= #[.slice ad _ cap,.int .i64 _]from by rw[←Array.toList_inj];exact hvs],(hold r0 l0 (hnh r0 (.inl rfl))).trans k0,(hold r1 l1 (hnh r1 (.inr (.inl rfl)))).trans k1,fun w3 j0 j1 js jo jos jt jp=>?_⟩
    have hos:w''.os=D.w.os:=by rw[←hw3,hX3.os,hX2.os,hw1,hX.os]
    have htp:w''.tape=D.w.tape:=by rw[←hw3,hX3.tape,hX2.tape,hw1,hX.tape]
    have hou:w''.output=D.w.output:=by rw[←hw3,hX3.output,hX2.output,hw1,hX.output]
    refine qC hm hs (by omega) (fun k hk=>?_) (jos.trans hos) (jt.trans htp) (jp.trans hou) ?_ rfl
    ·rw[jo k (by omega) (by omega),hold k (by omega) (hnh k (.inr (.inr hk))),hCold k hk]
    ·have hkeep:tZ D3.w D3.T w3 (Ctx.T ⟨w3,aC (aq 0 []),D.φ,D.fr,D.gl⟩):=fun k o x hx hT=>by
      have hfr3:D3.fr=fr:=hX3.frEq.trans (hX2.frEq.trans hfr1)
      have hnk:k≠r0∧k≠r1:=⟨fun e=>hT (.inl (by rw[hfr3];exact .inr (.inl e))),fun e=>hT (.inl (by rw[hfr3];exact .inr (.inr e)))⟩
      refine⟨?_,fun hh=>?_⟩
      ·rw[World.cell?_of_block (w:=D3.w) (a:=⟨k,o,none⟩) ((jo k hnk.1 hnk.2).trans (by rw[hw3]))]
       exact hx
      ·rcases hh with hh|⟨id,b,hb,_⟩
       ·exact hT (.inl (by rw[hfr3];exact .inl (by rw[hX.frEq];exact hh)))
       ·cases hb
     have hrep:Rep D3.w D3.T (.slice aB) A' [.slice ad (List.length A') cap]:=⟨ad,cap,rfl,hcap,hel⟩
     have:=hrep.mono hkeep
     exact⟨_,rfl,_,_,rfl,⟨_,rfl,_,_,rfl,this,_,_,rfl,rfl,rfl⟩,_,_,rfl,⟨_,rfl,_,_,rfl,rfl,_,_,rfl,rfl,rfl⟩,rfl⟩
end Go.Sx.Tryz
namespace Go.Sx.Tryz
open Go Go.Sx Go.Proofs
open Go.RowKit
set_option maxRecDepth 100000
structure FltAt(w:World):Prop where
 opt:w.cell? ⟨15,0,none⟩=some (.bool true)
 mb:w.cell? ⟨16,0,none⟩=some (.int .u64 52)
 pw:∃a n c,w.cell? ⟨19,0,none⟩=some (.slice (some a) n c)∧16≤n∧∀i:Nat,i<15→w.cell? (a.add i)=some (.float .f64 (fJ.getD i 0))
theorem F3(f:Ieee.Format){r:Nat}(hr:r≤f.infRung):(∃s n p,f.read r= .number s n p)∨∃s,f.read r= .infinity s:=by
 unfold Ieee.Format.read
 have hlt:r<f.signWeight:=Nat.lt_of_le_of_lt hr f.infRung_lt
 rw[Nat.mod_eq_of_lt hlt]
 dsimp only
 split
 ·exact .inl ⟨_,_,_,rfl⟩
 ·split
  ·exact .inl ⟨_,_,_,rfl⟩
  ·split
   ·exact .inr ⟨_,rfl⟩
   ·omega
theorem xc(f:Ieee.Format)(m:Nat)(p:Int):f.nearest false m p≤f.infRung:=by
 unfold Ieee.Format.nearest Ieee.Format.word
 dsimp only
 split
 ·exact Nat.zero_le _
 ·exact Nat.min_le_right _ _
theorem r6(m:Nat):(∃s n p,Ieee.double.read (FloatKind.f64.nearest (m:Int))= .number s n p)∨∃s,Ieee.double.read (FloatKind.f64.nearest (m:Int))= .infinity s:=by
 refine F3 _ ?_
 show Ieee.double.nearest (decide ((m:Int)<0)) (m:Int).natAbs 0≤_
 have hn:decide ((m:Int)<0)=false:=decide_eq_false (by omega)
 rw[hn]
 exact xc _ _ _
theorem tV(m k:Nat)(hk:k<15):∃r,Ieee.double.div (FloatKind.f64.nearest (m:Int)) (fJ.getD k 0)=some r:=by
 have hp:∃t n j,Ieee.double.read (fJ.getD k 0)= .number t (n+1) j:=by
  have:∀k,k<15→(match Ieee.double.read (fJ.getD k 0)with| .number _ n _=>n !=0|_=>false)=true:=by decide
  have:=this k hk
  split at this
  ·rename_i t n j e
   cases n with
   |zero=>cases this
   |succ n=>exact⟨t,n,j,e⟩
  ·cases this
 obtain⟨t,n,j,hp⟩:=hp
 unfold Ieee.Format.div
 rw[hp]
 rcases r6 m with⟨s,q,p,h⟩|⟨s,h⟩
 ·rw[h]
  exact⟨_,rfl⟩
 ·rw[h]
  exact⟨_,rfl⟩
theorem w182(b:Bool)(w:World):Calls Tryz.prog 210 #[.bool b] w fun e w'=>e= .returned (.int .u64 (bif b then 1 else 0))∧w'=w:=by
 go_enter Tryz.func210,Tryz.ntmps210
 cases b
 all_goals
  go_wp2
  simp[bodyPost,Tryz.results210,results,go_sem,Exit.then]
theorem w152(b:Nat)(w:World):Calls Tryz.prog 161 #[.float .f64 b] w fun e w'=>e= .returned (.bool (Ieee.double.order b b !=some .eq))∧w'=w:=by
 go_enter Tryz.func161,Tryz.ntmps161
 have hc:(binOp .neq 156 (.float .f64 b) (.float .f64 b)).run Tryz.prog w= .ok (.bool (Ieee.double.order b b !=some .eq)) w:=rfl
 apply wp_seq
 apply wp_region
 simp[wpOps,Oper.wp,go_sem,hc]
 repeat refine .inl ?_
 apply wp_seq
 apply wp_region
 simp[wpOps,Oper.wp,go_sem,hc]
 repeat refine .inl ?_
 refine wp_ret ?_
 simp[bodyPost,Tryz.results161,results,go_sem,Exit.then]
 rfl
theorem c147(b:Nat)(w:World):(callFunc 139 #[.float .f64 b]).run Tryz.prog w= .ok (.value (.int .u64 b)) w:=by
 rw[run_callFunc_extern Tryz.func139 (by kernel_rfl) (by kernel_rfl) (by kernel_rfl) (e:=Extern.MathFloatBits.float64bits) (by kernel_rfl)]
 rfl
theorem c153(b:Nat)(w:World):(callFunc 162 #[.int .u64 b]).run Tryz.prog w= .ok (.value (.float .f64 b)) w:=by
 rw[run_callFunc_extern Tryz.func162 (by kernel_rfl) (by kernel_rfl) (by kernel_rfl) (e:=Extern.MathFloatBits.float64frombits) (by kernel_rfl)]
 rfl
set_option maxHeartbeats 1000000 in
theorem w146(b:Nat)(w:World):Calls Tryz.prog 138 #[.int .u64 b] w fun e w'=>e= .returned (.int .u64 (jO b))∧w'=w:=by
 go_enter Tryz.func138,Tryz.ntmps138
 apply wp_seq
 apply wp_region
 simp[wpOps,Oper.wp,go_sem]
 repeat refine .inl ?_
 apply wp_seq
 apply wp_seq
 apply wp_region
 simp[wpOps,Oper.wp,go_sem,c153]
 repeat refine .inl ?_
 refine Calls.mono (w152 b w) ?_
 rintro e w' ⟨rfl,rfl⟩
 simp only[Exit.then]
 cases h:(Ieee.double.order b b==some .eq)with
 |false=>
  refine wp_cond_true (by simp[Act.eval,bne,h]) ?_
  apply wp_seq
  apply wp_region
  simp[wpOps,Oper.wp,go_sem]
  repeat refine .inl ?_
  refine wp_ret ?_
  simp[bodyPost,Tryz.results138,results,go_sem,Exit.then,jO,h]
 |true=>
  refine wp_cond_false (by simp[Act.eval,bne,h]) (wp_skip ?_)
  simp only[Exit.then]
  apply wp_seq
  apply wp_region
  simp[wpOps,Oper.wp,go_sem]
  repeat refine .inl ?_
  refine wp_ret ?_
  simp[bodyPost,Tryz.results138,results,go_sem,Exit.then,jO,h]
set_option maxHeartbeats 4000000 in
theorem w184(m k:Nat)(hm:m<4503599627370496)(k0:1≤k)(k1:k<15)(w:World)(hw:FltAt w){r:Nat}(hr:Ieee.double.div (FloatKind.f64.nearest (m:Int)) (fJ.getD k 0)=some r):
  Calls Tryz.prog 212 #[.int .u64 m,.int .i64 (-(k:Int)),.bool false] w fun e w'=>e= .returned (.tuple #[.float .f64 r,.bool true])∧w'=w:=by
 obtain⟨pa,pn,pc,hp,pn16,hpw⟩:=hw.pw
 have hmb:=hw.mb
 go_enter Tryz.func212,Tryz.ntmps212
 have hcv:(convert 129 156 (.int .u64 m)).run Tryz.prog w= .ok (.float .f64 (FloatKind.f64.nearest (m:Int))) w:=by kernel_rfl
 have hsh:(binOp .shr 129 (.int .u64 (m:Int)) (.int .u64 52)).run Tryz.prog w= .ok (.int .u64 0) w:=by
  show(Op.shift .shr .u64 (m:Int) .u64 52).run Tryz.prog w=_
  have:(m:Int).fdiv (2^52)=0:=by
   rw[Int.fdiv_eq_ediv_of_nonneg _ (by decide)]
   exact Int.ediv_eq_zero_of_lt (by omega) (by omega)
  exact congrArg (fun z=>Result.ok (Value.int .u64 z) w) this
 have hq:(binOp .quo 156 (.float .f64 (FloatKind.f64.nearest (m:Int))) (.float .f64 (fJ[k]?.getD 0))).run Tryz.prog w= .ok (.float .f64 r) w:=run_float_arith (P:=Tryz.prog) (w:=w) .quo 156 .f64 _ _ r (by rw[←List.getD_eq_getElem?_getD];exact hr)
 go_wp2
 simp[bodyPost,Tryz.results212,results,go_sem,Exit.then,Exit.inBlock]
end Go.Sx.Tryz
namespace Go.Sx.Tryz
open Go Go.Sx Go.Proofs
open Go.RowKit
set_option maxRecDepth 100000
variable{G:Nat→Obj→Prop}
def kK(f:Nat)(g:List AV→Bool×AV):aQ:=fun R args bs k=>match bs with
 |[]=>(match(g args).1 with
  |true=>k (.ret (g args).2,[])
  |false=>.err f)
 |_=>.err f
theorem jn{P:Program}{f:Nat}{g:List AV→Bool×AV}(h:∀args,(g args).1=true→SA P G f args [] (.ret (g args).2,[])):aK P G f (kK f g):=fun R args bs k r hr=>by
 unfold kK at hr
 split at hr
 ·split at hr
  ·rename_i hy
   exact⟨_,hr,h _ hy⟩
  ·cases hr
 ·cases hr
def flA(s:List UInt8):List UInt8:=s.takeWhile fun c=>c !=46
def flB(s:List UInt8):List UInt8:=s.drop ((flA s).length+1)
def okF(s:List UInt8):Bool:=Nat.blt (flA s).length s.length&&(dt (flA s)&&(dt (flB s)&&(!(decide (1<(flA s).length)&&at8 (flA s) 0==48)&&Nat.ble ((flA s).length+(flB s).length) 15)))
def g173:List AV→Bool×AV
 |[.str s]=>(okF s,.tup [.flt .f64 0,.int .i64 0,.bool false])
 |_=>(false,.nili)
def g174:List AV→Bool×AV
 |[.str s]=>(okF s,.tup [.int .u64 (bq (flA s++flB s):Nat),.int .i64 (bif bq (flA s++flB s)==0 then 0 else-((flB s).length:Int)),.bool false,.bool false,.bool false,.int .i64 s.length,.bool true])
 |_=>(false,.nili)
def iW(s:List UInt8):Nat:=bif bq (flA s++flB s)==0 then 0 else match Ieee.double.div (FloatKind.f64.nearest (bq (flA s++flB s):Int)) (fJ.getD (flB s).length 0)with
 |some r=>r
 |none=>0
def Fo:List AV→Bool×AV
 |[.str s]=>(okF s,.tup [.flt .f64 (iW s),.int .i64 s.length,.nili])
 |_=>(false,.nili)
def Kg:List AV→Bool×AV
 |[.str s,.int .i64 n]=>(okF s&&(n==64),.tup [.flt .f64 (iW s),.int .i64 s.length,.nili])
 |_=>(false,.nili)
def zv:List AV→Bool×AV
 |[.str s,.int .i64 n]=>(okF s&&(n==64),.tup [.flt .f64 (iW s),.nili])
 |_=>(false,.nili)
def Jn:List AV→Bool×AV
 |[.flt .f64 b]=>(true,.int .u64 b)
 |_=>(false,.nili)
def JW:List AV→Bool×AV
 |[.int .u64 b]=>(decide (0≤b),.int .u64 (jO b.toNat))
 |_=>(false,.nili)
def Jo:List (Nat×aQ):=[(193,kK 193 Fo)]
def Kp:List (Nat×aQ):=[(177,kK 177 Kg)]
def JZ:List (Nat×aQ):=[(159,kK 159 zv)]
def l7:List (Nat×aQ):=[(136,bg 136 bB cd cW D5),(137,kK 137 zv),(139,kK 139 Jn),(138,kK 138 JW)]
def pj:List Cut:=[⟨[true,false,true,false,false],some ⟨[(0,[]),(10,[]),(11,[])],[]⟩⟩]
def zp(s:List UInt8)(i:Int):St:=⟨[(0,.str s),(10,.int .i64 s.length),(11,.int .i64 i)],[],0⟩
end Go.Sx.Tryz
namespace Go.Sx.Tryz
open Go Go.Sx
set_option maxRecDepth 100000
theorem EK(s:List UInt8):body (R:=R0) E (an []) C9 [.str s] [] .ok=bif (↑(List.length s):Int)==0 then Rs.ok (Out.ret (AV.tup [AV.flt FloatKind.f64 0,Iz 0,AV.bool false]),[])else bif inI 0 (List.length s)then bif (↑(UInt8.toNat (List.getD s (Int.toNat 0) 0)):Int)==43 then bif (↑(UInt8.toNat (List.getD s (Int.toNat 0) 0)):Int)==43 then bif inI 0 (List.length s)then bif (↑(UInt8.toNat (List.getD s (Int.toNat 0) 0)):Int)==45 then bif inB 1 (↑(List.length s):Int) (List.length s)then Rs.err 4000217 else Rs.err 1501 else bif inB 1 (↑(List.length s):Int) (List.length s)then Rs.err 4000217 else Rs.err 1501 else Rs.err 1201 else bif (↑(UInt8.toNat (List.getD s (Int.toNat 0) 0)):Int)==105 then bif (↑(UInt8.toNat (List.getD s (Int.toNat 0) 0)):Int)==105 then Rs.err 4000217 else bif (↑(UInt8.toNat (List.getD s (Int.toNat 0) 0)):Int)==110 then bif (↑(UInt8.toNat (List.getD s (Int.toNat 0) 0)):Int)==110 then Rs.err 4000217 else Rs.ok (Out.ret (AV.tup [AV.flt FloatKind.f64 0,Iz 0,AV.bool false]),[])else bif (↑(UInt8.toNat (List.getD s (Int.toNat 0) 0)):Int)==78 then Rs.err 4000217 else Rs.ok (Out.ret (AV.tup [AV.flt FloatKind.f64 0,Iz 0,AV.bool false]),[])else bif (↑(UInt8.toNat (List.getD s (Int.toNat 0) 0)):Int)==73 then Rs.err 4000217 else bif (↑(UInt8.toNat (List.getD s (Int.toNat 0) 0)):Int)==110 then bif (↑(UInt8.toNat (List.getD s (Int.toNat 0) 0)):Int)==110 then Rs.err 4000217 else Rs.ok (Out.ret (AV.tup [AV.flt FloatKind.f64 0,Iz 0,AV.bool false]),[])else bif (↑(UInt8.toNat (List.getD s (Int.toNat 0) 0)):Int)==78 then Rs.err 4000217 else Rs.ok (Out.ret (AV.tup [AV.flt FloatKind.f64 0,Iz 0,AV.bool false]),[])else bif (↑(UInt8.toNat (List.getD s (Int.toNat 0) 0)):Int)==45 then bif inI 0 (List.length s)then bif (↑(UInt8.toNat (List.getD s (Int.toNat 0) 0)):Int)==45 then bif inB 1 (↑(List.length s):Int) (List.length s)then Rs.err 4000217 else Rs.err 1501 else bif inB 1 (↑(List.length s):Int) (List.length s)then Rs.err 4000217 else Rs.err 1501 else Rs.err 1201 else bif (↑(UInt8.toNat (List.getD s (Int.toNat 0) 0)):Int)==105 then bif (↑(UInt8.toNat (List.getD s (Int.toNat 0) 0)):Int)==105 then Rs.err 4000217 else bif (↑(UInt8.toNat (List.getD s (Int.toNat 0) 0)):Int)==110 then bif (↑(UInt8.toNat (List.getD s (Int.toNat 0) 0)):Int)==110 then Rs.err 4000217 else Rs.ok (Out.ret (AV.tup [AV.flt FloatKind.f64 0,Iz 0,AV.bool false]),[])else bif (↑(UInt8.toNat (List.getD s (Int.toNat 0) 0)):Int)==78 then Rs.err 4000217 else Rs.ok (Out.ret (AV.tup [AV.flt FloatKind.f64 0,Iz 0,AV.bool false]),[])else bif (↑(UInt8.toNat (List.getD s (Int.toNat 0) 0)):Int)==73 then Rs.err 4000217 else bif (↑(UInt8.toNat (List.getD s (Int.toNat 0) 0)):Int)==110 then bif (↑(UInt8.toNat (List.getD s (Int.toNat 0) 0)):Int)==110 then Rs.err 4000217 else Rs.ok (Out.ret (AV.tup [AV.flt FloatKind.f64 0,Iz 0,AV.bool false]),[])else bif (↑(UInt8.toNat (List.getD s (Int.toNat 0) 0)):Int)==78 then Rs.err 4000217 else Rs.ok (Out.ret (AV.tup [AV.flt FloatKind.f64 0,Iz 0,AV.bool false]),[])else Rs.err 501:=by kernel_rfl
theorem EI(s:List UInt8)(n:Int):body (R:=R0) E (an Jo) GX [.str s,.int .i64 n] [] .ok=bif n==32 then Rs.err 4000192 else bif okF s then Rs.ok (Out.ret (AV.tup [AV.flt FloatKind.f64 (iW s),Iz (↑(List.length s):Int),AV.nili]),[])else Rs.err 193:=by kernel_rfl
theorem Gv(s:List UInt8)(n:Int):body (R:=R0) E (an Kp) Hu [.str s,.int .i64 n] [] .ok=bif okF s&&n==64 then bif (↑(List.length s):Int) !=(↑(List.length s):Int)then Rs.ok (Out.ret (AV.tup [AV.flt FloatKind.f64 0,AV.iface 192 (Iz ((2:Int)))]),[])else Rs.ok (Out.ret (AV.tup [AV.flt FloatKind.f64 (iW s),AV.nili]),[])else Rs.err 177:=by kernel_rfl
theorem Fu(s:List UInt8)(n:Int):body (R:=R0) E (an JZ) GS [.str s,.int .i64 n] [] .ok=bif okF s&&n==64 then Rs.ok (Out.ret (AV.tup [AV.flt FloatKind.f64 (iW s),AV.nili]),[])else Rs.err 159:=by kernel_rfl
theorem BT(J:Jump R0)(s:List UInt8):start (R:=R0) E (an l7) mn pj J [.str s] [] .ok=J 0 {tmps:=[(0,AV.str s),(10,Iz (↑(List.length s):Int)),(11,Iz 0)],blks:=[],next:=0}:=by kernel_rfl
theorem zj(J:Jump R0)(s:List UInt8)(i:Int):resume (R:=R0) E (an l7) (aR 0 pj 0) J [true,false,true,false,false] mn.code 1 (zp s i) (bX E 0 mn.results .ok)=bif decide (i<(↑(List.length s):Int))then bif inI i (List.length s)then bif (↑(UInt8.toNat (List.getD s (Int.toNat i) 0)):Int) !=46 then J 0 {tmps:=[(0,AV.str s),(10,Iz (↑(List.length s):Int)),(11,Iz (IntKind.wrap IntKind.i64 (i+1)))],blks:=[],next:=0}else bif inB 0 i (List.length s)then bif inB (IntKind.wrap IntKind.i64 (i+1)) (↑(List.length s):Int) (List.length s)then bif cW (List.drop (Int.toNat 0) (List.take (Int.toNat i) s),())then bif !dt (List.drop (Int.toNat 0) (List.take (Int.toNat i) s))then Rs.ok (Out.ret (AV.tup [AV.int IntKind.u64 0,Iz ((5:Int))]),[])else bif cW (List.drop (Int.toNat (IntKind.wrap IntKind.i64 (i+1))) (List.take (Int.toNat (↑(List.length s):Int)) s),())then bif !dt (List.drop (Int.toNat (IntKind.wrap IntKind.i64 (i+1))) (List.take (Int.toNat (↑(List.length s):Int)) s))then Rs.ok (Out.ret (AV.tup [AV.int IntKind.u64 0,Iz ((5:Int))]),[])else bif decide ((↑(List.length (List.drop (Int.toNat 0) (List.take (Int.toNat i) s))):Int)>1)then bif inI 0 (List.length (List.drop (Int.toNat 0) (List.take (Int.toNat i) s)))then bif (↑(UInt8.toNat (List.getD (List.drop (Int.toNat 0) (List.take (Int.toNat i) s)) (Int.toNat 0) 0)):Int)==48 then Rs.ok (Out.ret (AV.tup [AV.int IntKind.u64 0,Iz ((5:Int))]),[])else bif decide (IntKind.wrap IntKind.i64 ((↑(List.length (List.drop (Int.toNat 0) (List.take (Int.toNat i) s))):Int)+(↑(List.length (List.drop (Int.toNat (IntKind.wrap IntKind.i64 (i+1))) (List.take (Int.toNat (↑(List.length s):Int)) s))):Int))>15)then Rs.ok (Out.ret (AV.tup [AV.int IntKind.u64 0,Iz ((2:Int))]),[])else bif okF s&&64==64 then Rs.ok (Out.ret (AV.tup [AV.int IntKind.u64 (↑(jO (Int.toNat (↑(iW s):Int))):Int),Iz 0]),[])else Rs.err 137 else Rs.err 614 else bif decide (IntKind.wrap IntKind.i64 ((↑(List.length (List.drop (Int.toNat 0) (List.take (Int.toNat i) s))):Int)+(↑(List.length (List.drop (Int.toNat (IntKind.wrap IntKind.i64 (i+1))) (List.take (Int.toNat (↑(List.length s):Int)) s))):Int))>15)then Rs.ok (Out.ret (AV.tup [AV.int IntKind.u64 0,Iz ((2:Int))]),[])else bif okF s&&64==64 then Rs.ok (Out.ret (AV.tup [AV.int IntKind.u64 (↑(jO (Int.toNat (↑(iW s):Int))):Int),Iz 0]),[])else Rs.err 137 else Rs.err 3000136 else Rs.err 3000136 else Rs.err 506 else Rs.err 502 else Rs.err 402 else Rs.ok (Out.ret (AV.tup [AV.int IntKind.u64 0,Iz ((5:Int))]),[]):=by kernel_rfl
end Go.Sx.Tryz
namespace Go.Sx.Tryz
open Go Go.Sx Go.Proofs
open Go.RowKit
set_option maxRecDepth 100000
variable{G:Nat→Obj→Prop}
theorem M4:FIOK Tryz.prog 137 GS:=⟨⟨Tryz.f137,Tryz.func137,rfl,rfl,rfl,by kernel_rfl⟩,by kernel_rfl⟩
theorem K5:FIOK Tryz.prog 159 Hu:=⟨⟨Tryz.f159,Tryz.func159,rfl,rfl,rfl,by kernel_rfl⟩,by kernel_rfl⟩
theorem Mo:FIOK Tryz.prog 177 GX:=⟨⟨Tryz.f177,Tryz.func177,rfl,rfl,rfl,by kernel_rfl⟩,by kernel_rfl⟩
theorem K2:FIOK Tryz.prog 193 M8:=⟨⟨Tryz.f193,Tryz.func193,rfl,rfl,rfl,by kernel_rfl⟩,by kernel_rfl⟩
structure IsF(s a b:List UInt8):Prop where
 eq:s=a++46::b
 da:(a.all fun c=>aM c.toNat)=true
 db:(b.all fun c=>aM c.toNat)=true
 la:1≤a.length
 lb:1≤b.length
 lab:a.length+b.length≤15
 hz:1<a.length→at8 a 0≠48
theorem kL:∀(s:List UInt8),(flA s).length<s.length→s=flA s++46::flB s
 |[],h=>absurd h (Nat.not_lt_zero _)
 |c::r,h=>by
  unfold flB flA at*
  by_cases hc:c=46
  ·subst hc
   simp
  ·have hc':(c !=46)=true:=by simpa using hc
   rw[List.takeWhile_cons,hc']at h⊢
   simp only[if_true,List.length_cons]at h⊢
   have:=kL r (by unfold flA;omega)
   unfold flB flA at this
   rw[List.drop_succ_cons]
   exact congrArg (List.cons c) this
theorem tg{s:List UInt8}(h:okF s=true):IsF s (flA s) (flB s):=by
 unfold okF at h
 simp only[Bool.and_eq_true]at h
 obtain⟨h1,h2,h3,h4,h5⟩:=h
 unfold dt at h2 h3
 simp only[Bool.and_eq_true]at h2 h3
 have hlt:(flA s).length<s.length:=by simpa [Nat.blt_eq]using h1
 exact⟨kL s hlt,h2.1,h3.1,by
   cases e:flA s with
   |nil=>rw[e]at h2;exact absurd h2.2 (by decide)
   |cons=>simp,by
   cases e:flB s with
   |nil=>rw[e]at h3;exact absurd h3.2 (by decide)
   |cons=>simp,Nat.le_of_ble_eq_true h5,fun hl he=>by
   rw[decide_eq_true hl,he]at h4
   exact absurd h4 (by decide)⟩
theorem w162(w:World):Calls Tryz.prog 220 #[.int .u8 46] w fun e w'=>e= .returned (.int .u8 46)∧w'=w:=by
 go_enter Tryz.func220,Tryz.ntmps220
 go_wp2
 simp[bodyPost,Tryz.results220,results,go_sem,Exit.then]
 decide
theorem Fj:aK Tryz.prog G 220 Ki:=fun R args bs k r hr=>by
 unfold Ki at hr
 split at hr
 ·rename_i c
  split at hr
  ·rename_i hc
   have hc:c=46:=by simpa using hc
   subst hc
   exact⟨_,hr,oe G6 (us:=[.int .u8 46]) rfl (fun _=>rfl) rfl fun D _ _=>Calls.mono (w162 D.w) fun e w' h=>⟨h.1,gj h.2 rfl⟩⟩
  ·cases hr
 ·cases hr
theorem Mr{s:List UInt8}(h:okF s=true):SA Tryz.prog G 202 [.str s] [] (.ret (g174 [.str s]).2,[]):=by
 have hf:=tg h
 have hr:=rdFloat hf.da hf.db hf.la hf.lb hf.lab hf.hz
 rw[←hf.eq]at hr
 exact bh (aS []) (aE (.cons Fj .nil)) DR (.inl cb) hr
theorem KZ{s:List UInt8}(h:okF s=true):SA Tryz.prog G 201 [.str s] [] (.ret (g173 [.str s]).2,[]):=by
 have hf:=tg h
 have hb:=EK s
 obtain⟨c,a',ha⟩:∃c a',flA s=c::a':=by
  cases e:flA s with
  |nil=>have:=hf.la;rw[e]at this;simp at this
  |cons c a'=>exact⟨c,a',rfl⟩
 have hda:=hf.da
 rw[ha,List.all_cons,Bool.and_eq_true]at hda
 obtain⟨c0,c1⟩:=eG hda.1
 have hs:=hf.eq
 rw[ha]at hs
 have h0:s.getD (Int.toNat 0) 0=c:=by rw[hs];rfl
 have hl:1≤s.length:=by rw[hs];simp
 have e0:((s.length:Int)==0)=false:=beq_eq_false_iff_ne.2 (by omega)
 have e1:inI 0 s.length=true:=by
  simp only[inI,Bool.and_eq_true,decide_eq_true_eq]
  omega
 have ne:∀n:Int,n<48∨57<n→((c.toNat:Int)==n)=false:=fun n hn=>by
  have:¬((c.toNat:Int)=n):=by omega
  simp[this]
 rw[h0,e0,e1,ne 43 (by omega),ne 45 (by omega),ne 105 (by omega),ne 73 (by omega),ne 110 (by omega),ne 78 (by omega)]at hb
 simp only[cond_true,cond_false]at hb
 exact bb (aS []) (aE .nil) Cb hb
def oS(G:Nat→Obj→Prop):Prop:=∀D:Ctx,D.gl=G→SRel D→FltAt D.w
theorem c183(b:Nat)(w:World):(callFunc 211 #[.int .u64 b]).run Tryz.prog w= .ok (.value (.float .f64 b)) w:=by
 rw[run_callFunc_extern Tryz.func211 (by kernel_rfl) (by kernel_rfl) (by kernel_rfl) (e:=Extern.MathFloatBits.float64frombits) (by kernel_rfl)]
 rfl
theorem xj(l:List UInt8)(h:(l.all fun c=>aM c.toNat)=true):bq l<10^l.length:=by
 have key:∀(l:List UInt8) (m:Nat),(l.all fun c=>aM c.toNat)=true→l.foldl (fun m c=>m*10+(c.toNat-48)) m<(m+1)*10^l.length:=by
  intro l
  induction l with
  |nil=>intro m _;simp
  |cons x l ih=>
   intro m h
   rw[List.all_cons,Bool.and_eq_true]at h
   obtain⟨x0,x1⟩:=eG h.1
   have:=ih (m*10+(x.toNat-48)) h.2
   rw[List.foldl_cons,List.length_cons,Nat.pow_succ]
   refine Nat.lt_of_lt_of_le this ?_
   have h2:m*10+(x.toNat-48)+1≤(m+1)*10:=by omega
   calc(m*10+(x.toNat-48)+1)*10^l.length≤((m+1)*10)*10^l.length:=Nat.mul_le_mul_right _ h2
    _=(m+1)*(10^l.length*10):=by rw[Nat.mul_assoc,Nat.mul_comm 10]
 have h1:=key l 0 h
 rw[Nat.zero_add,Nat.one_mul]at h1
 exact h1
set_option maxHeartbeats 4000000 in
theorem LP(hft:oS G){s:List UInt8}(h:okF s=true):SA Tryz.prog G 193 [.str s] [] (.ret (Fo [.str s]).2,[]):=fun D vals hG hm hs hv=>by
 have hv:=dU (us:=[.string ⟨⟨s⟩⟩]) rfl hv
 subst hv
 refine .inl ⟨cU K2 _ _,?_⟩
 have k173:=fP Cb (KZ h D [.string ⟨⟨s⟩⟩] hG hm hs (ln rfl))
 go_enter Tryz.func193,Tryz.ntmps193
 apply wp_seq
 apply wp_region
 simp[wpOps,Oper.wp,go_sem]
 repeat refine .inl ?_
 apply wp_seq
 apply wp_seq
 apply wp_region
 simp[wpOps,Oper.wp,go_sem]
 repeat refine .inl ?_
 refine Calls.mono k173 ?_
 intro e w1 hR
 cases e with
 |outgrown=>exact absurd hR id
 |panicked ch=>obtain⟨v,e1,_⟩:=hR;cases e1
 |returned u=>
  obtain⟨v,D1,e1,e2,hm1,hs1,hX1,hv1,hp1,ho1⟩:=hR
  simp only[Out.ret.injEq]at e1
  subst e1
  subst e2
  obtain⟨us,rfl,hv1⟩:=hv1
  have hv1:=dU (us:=[.float .f64 0,.int .i64 0,.bool false]) rfl hv1
  have hu:us= #[.float .f64 0,.int .i64 0,.bool false]:=by rw[←Array.toList_inj];exact hv1
  subst hu
  have hG1:D1.gl=G:=hX1.glEq.trans hG
  have k174:=fP DR (Mr h D1 [.string ⟨⟨s⟩⟩] hG1 hm1 hs1 (ln rfl))
  simp[wpOps,Oper.wp,go_sem,Exit.then]
  repeat refine .inl ?_
  apply wp_seq
  apply wp_region
  simp[wpOps,Oper.wp,go_sem,Exit.then]
  repeat refine .inl ?_
  refine wp_cond_false (by simp[Act.eval]) (wp_skip ?_)
  simp only[Exit.then]
  repeat apply wp_seq
  apply wp_region
  simp[wpOps,Oper.wp,go_sem]
  repeat refine .inl ?_
  refine Calls.mono k174 ?_
  intro e w2 hR
  cases e with
  |outgrown=>exact absurd hR id
  |panicked ch=>obtain⟨v,e1,_⟩:=hR;cases e1
  |returned u=>
   obtain⟨v,D2,e1,e2,hm2,hs2,hX2,hv2,hp2,ho2⟩:=hR
   simp only[Out.ret.injEq]at e1
   subst e1
   subst e2
   obtain⟨us,rfl,hv2⟩:=hv2
   generalize hM:bq (flA s++flB s)=M at*
   have hv2:=dU (us:=[.int .u64 (M:Nat),.int .i64 (bif M==0 then 0 else-((flB s).length:Int)),.bool false,.bool false,.bool false,.int .i64 s.length,.bool true]) (by rw[←hM];rfl) hv2
   have hu:us= #[.int .u64 (M:Nat),.int .i64 (bif M==0 then 0 else-((flB s).length:Int)),.bool false,.bool false,.bool false,.int .i64 s.length,.bool true]:=by rw[←Array.toList_inj];exact hv2
   subst hu
   have hG2:D2.gl=G:=hX2.glEq.trans hG1
   have hfa:=hft D2 hG2 hs2
   have hopt:=hfa.opt
   simp[wpOps,Oper.wp,go_sem,Exit.then]
   repeat refine .inl ?_
   clear hv1 hv2 k173 k174
   have hb182:∀w:World,(binOp .shl 129 (.int .u64 (bif false then 1 else 0)) (.int .u64 63)).run Tryz.prog w= .ok (.int .u64 0) w:=fun w=>by kernel_rfl
   have hX:=hX1.trans hX2
   have hlv:(Tryz.prog.underlying 4)=some .bool:=by kernel_rfl
   repeat apply wp_seq
   apply wp_region
   simp[wpOps,Oper.wp,go_sem,Exit.then]
   repeat refine .inl ?_
   refine wp_cond_false (by simp[Act.eval]) (wp_skip ?_)
   simp only[Exit.then]
   repeat apply wp_seq
   apply wp_region
   simp[wpOps,Oper.wp,go_sem,Exit.then]
   repeat refine .inl ?_
   refine wp_cond_false (by simp[Act.eval]) (wp_skip ?_)
   simp only[Exit.then]
   repeat apply wp_seq
   apply wp_region
   simp[wpOps,Oper.wp,go_sem,Exit.then]
   go_wp2
   repeat refine .inl ?_
   refine wp_cond_true (by simp[Act.eval]) ?_
   repeat apply wp_seq
   apply wp_region
   simp[wpOps,Oper.wp,go_sem,Exit.then]
   repeat refine .inl ?_
   refine Calls.mono (w182 false D2.w) ?_
   rintro e w3 ⟨rfl,rfl⟩
   simp[Oper.wp,go_sem,Exit.then]
   repeat refine .inl ?_
   repeat apply wp_seq
   apply wp_region
   simp[wpOps,Oper.wp,go_sem,Exit.then]
   repeat refine .inl ?_
   have hfM:=tg h
   by_cases h0:M=0
   ·subst h0
    have hraw:iW s=0:=by unfold iW;rw[hM];rfl
    refine wp_cond_true (by simp[Act.eval]) ?_
    repeat apply wp_seq
    apply wp_region
    simp[wpOps,Oper.wp,go_sem,c183 0,Exit.then]
    repeat refine .inl ?_
    refine wp_ret ?_
    simp[bodyPost,Tryz.results193,results,go_sem,Exit.then,Exit.inBlock]
    rw[show(bits BinOp.or IntKind.u64 (IntKind.u64.wrap 0) 0).toNat=0 by decide]
    refine⟨_,D2,rfl,rfl,hm2,hs2,hX,?_,rfl,rfl⟩
    show ay D2 (.tup [.flt .f64 (iW s),.int .i64 s.length,.nili]) _
    rw[hraw]
    exact⟨_,rfl,ln rfl⟩
   ·have hM0:(M==0)=false:=by simpa using h0
    obtain⟨r,hr⟩:=tV M (flB s).length (by have:=hfM.lab;have:=hfM.la;omega)
    have hraw:iW s=r:=by unfold iW;rw[hM,hM0,hr];rfl
    refine wp_cond_false (by simp[Act.eval,h0]) (wp_skip ?_)
    simp only[Exit.then]
    have hlen:=hfM.lab
    have hla:=hfM.la
    repeat apply wp_seq
    apply wp_region
    simp[wpOps,Oper.wp,go_sem,Exit.then]
    repeat refine .inl ?_
    refine wp_cond_false (by simp[Act.eval,hM0]<;>omega) (wp_skip ?_)
    simp only[Exit.then]
    repeat apply wp_seq
    apply wp_region
    simp[wpOps,Oper.wp,go_sem,Exit.then]
    repeat refine .inl ?_
    refine wp_cond_false (by simp[Act.eval,hM0]<;>omega) (wp_skip ?_)
    simp only[Exit.then]
    repeat apply wp_seq
    apply wp_region
    simp[wpOps,Oper.wp,go_sem,Exit.then]
    repeat refine .inl ?_
    refine wp_cond_true (by simp[Act.eval]) ?_
    repeat apply wp_seq
    apply wp_region
    simp[wpOps,Oper.wp,go_sem,Exit.then]
    repeat refine .inl ?_
    rw[hM0]
    simp only[cond_false]
    have hMlt:M<4503599627370496:=by
     have h1:=xj (flA s++flB s) (by rw[List.all_append,hfM.da,hfM.db];rfl)
     have h2:10^(flA s++flB s).length≤10^15:=Nat.pow_le_pow_right (by decide) (by rw[List.length_append];exact hfM.lab)
     rw[hM]at h1
     omega
    refine Calls.mono (w184 M _ hMlt hfM.lb (by omega) D2.w hfa hr) ?_
    rintro e w4 ⟨rfl,rfl⟩
    simp[Oper.wp,go_sem,Exit.then]
    repeat refine .inl ?_
    repeat apply wp_seq
    apply wp_region
    simp[wpOps,Oper.wp,go_sem,Exit.then]
    repeat refine .inl ?_
    refine wp_cond_true (by simp[Act.eval]) ?_
    repeat apply wp_seq
    apply wp_region
    simp[wpOps,Oper.wp,go_sem,Exit.then]
    repeat refine .inl ?_
    refine wp_ret ?_
    simp[bodyPost,Tryz.results193,results,go_sem,Exit.then,Exit.inBlock]
    refine⟨_,D2,rfl,rfl,hm2,hs2,hX,?_,rfl,rfl⟩
    show ay D2 (.tup [.flt .f64 (iW s),.int .i64 s.length,.nili]) _
    rw[hraw]
    exact⟨_,rfl,ln rfl⟩
end Go.Sx.Tryz
namespace Go.Sx.Tryz
open Go Go.Sx Go.Proofs
open Go.RowKit
set_option maxRecDepth 100000
variable{G:Nat→Obj→Prop}
theorem d168(hft:oS G):aK Tryz.prog G 193 (kK 193 Fo):=jn fun args h=>by
 unfold Fo at h⊢
 split at h
 ·exact LP hft h
 ·cases h
theorem d160(hft:oS G):aK Tryz.prog G 177 (kK 177 Kg):=jn fun args h=>by
 unfold Kg at h⊢
 split at h
 ·rename_i s n
  simp only[Bool.and_eq_true]at h
  have hn:n=64:=by simpa using h.2
  subst hn
  have hb:=EI s 64
  rw[h.1]at hb
  exact bb (aS []) (aE (.cons (d168 hft) .nil)) Mo hb
 ·cases h
theorem d151(hft:oS G):aK Tryz.prog G 159 (kK 159 zv):=jn fun args h=>by
 unfold zv at h⊢
 split at h
 ·rename_i s n
  have hb:=Gv s n
  have h:(okF s&&n==64)=true:=h
  rw[h]at hb
  have hne:((s.length:Int) !=(s.length:Int))=false:=by simp
  rw[hne]at hb
  exact bb (aS []) (aE (.cons (d160 hft) .nil)) K5 hb
 ·cases h
theorem d145(hft:oS G):aK Tryz.prog G 137 (kK 137 zv):=jn fun args h=>by
 unfold zv at h⊢
 split at h
 ·rename_i s n
  have hb:=Fu s n
  have h:(okF s&&n==64)=true:=h
  rw[h]at hb
  exact bb (aS []) (aE (.cons (d151 hft) .nil)) M4 hb
 ·cases h
theorem d147:aK Tryz.prog G 139 (kK 139 Jn):=jn fun args h=>by
 unfold Jn at h⊢
 split at h
 ·rename_i b
  intro D vals hG hm hs hv
  have hv:=dU (us:=[.float .f64 b]) rfl hv
  subst hv
  exact .inr (.inl ⟨_,_,c147 b D.w,⟨_,D,rfl,rfl,hm,hs,Ext.refl D,rfl,rfl,rfl⟩⟩)
 ·cases h
theorem d146:aK Tryz.prog G 138 (kK 138 JW):=jn fun args h=>by
 unfold JW at h⊢
 split at h
 ·rename_i b
  have hb:0≤b:=of_decide_eq_true h
  obtain⟨n,rfl⟩:=Int.eq_ofNat_of_zero_le hb
  exact oe HO (us:=[.int .u64 n]) rfl (fun _=>rfl) rfl fun D _ _=>Calls.mono (w146 n D.w) fun e w' h=>⟨h.1,gj h.2 rfl⟩
 ·cases h
theorem Au(hft:oS G):aT Tryz.prog G l7:=.cons (aD fun x h=>yJ x h) (.cons (d145 hft) (.cons d147 (.cons d146 .nil)))
theorem wF:jO 0=0:=by decide
theorem Cj{s:List UInt8}(h:okF s=true):jO (iW s)=lZ (flA s) (flB s):=by
 have hf:=tg h
 have h1:=hf.la
 have h2:=hf.lab
 obtain⟨r,hr⟩:=tV (bq (flA s++flB s)) (flB s).length (by omega)
 unfold iW lZ
 rw[hr]
 cases bq (flA s++flB s)==0
 ·rfl
 ·exact wF
theorem yd(s:List UInt8):lj s=bif (flA s).length==s.length then(0,5)else bif !dt (flA s)|| !dt (flB s)then(0,5)else bif decide ((flA s).length>1)&&at8 (flA s) 0==48 then(0,5)else bif decide ((flA s).length+(flB s).length>15)then(0,2)else((lZ (flA s) (flB s):Int),0):=rfl
abbrev yL(n:Nat):Jump R0:=pieces (R:=R0) E (an l7) mn pj 0 .ok n
theorem Gi{s:List UInt8}(h:∀c∈s,c≠46):flA s=s:=by
 unfold flA
 induction s with
 |nil=>rfl
 |cons c r ih=>
  have hc:(c !=46)=true:=by simpa using h c (List.mem_cons_self ..)
  rw[List.takeWhile_cons,hc,if_pos rfl,ih fun d hd=>h d (List.mem_cons_of_mem _ hd)]
theorem Fs{pre q:List UInt8}(h:∀c∈pre,c≠46):flA (pre++46::q)=pre:=by
 unfold flA
 induction pre with
 |nil=>rfl
 |cons c r ih=>
  have hc:(c !=46)=true:=by simpa using h c (List.mem_cons_self ..)
  rw[List.cons_append,List.takeWhile_cons,hc,if_pos rfl,ih fun d hd=>h d (List.mem_cons_of_mem _ hd)]
theorem uh{s:List UInt8}(hs:(s.length:Int)≤1048576):∀(r pre:List UInt8) (fuel:Nat),s=pre++r→(∀c∈pre,c≠46)→r.length<fuel→yL fuel 0 (zp s pre.length)= .ok (.ret (.tup [.int .u64 (lj s).1,.int .i64 (lj s).2]),[])
 |r,pre,0,_,_,hf=>absurd hf (Nat.not_lt_zero _)
 |[],pre,fuel+1,hp,hn,hf=>by
  have hstep:=(aW (n:=fuel) (st:=zp s pre.length) (cs:=pj) (E:=E) (K:=an l7) (fi:=mn) (np:=0) (k:=Rs.ok) (j:=0) rfl).trans (zj (yL fuel) s pre.length)
  rw[List.append_nil]at hp
  have e1:decide ((pre.length:Int)<s.length)=false:=decide_eq_false (by rw[hp];omega)
  rw[e1]at hstep
  have hA:flA s=s:=Gi (by rw[hp];exact hn)
  have hS:lj s=(0,5):=by
   rw[yd,hA,show(s.length==s.length)=true from beq_self_eq_true _]
   rfl
  rw[hS]
  exact hstep
 |c::r,pre,fuel+1,hp,hn,hf=>by
  have hstep:=(aW (n:=fuel) (st:=zp s pre.length) (cs:=pj) (E:=E) (K:=an l7) (fi:=mn) (np:=0) (k:=Rs.ok) (j:=0) rfl).trans (zj (yL fuel) s pre.length)
  have hlen:s.length=pre.length+(r.length+1):=by rw[hp];simp
  have hc:s.getD (Int.toNat (pre.length:Int)) 0=c:=getD_at (q:=r) hp
  have e1:decide ((pre.length:Int)<s.length)=true:=decide_eq_true (by omega)
  have e2:inI (pre.length:Int) s.length=true:=by
   simp only[inI,Bool.and_eq_true,decide_eq_true_eq]
   omega
  have wi:IntKind.wrap .i64 ((pre.length:Int)+1)=(pre.length:Int)+1:=wrap64 (by omega) (by omega)
  rw[hc,e1,e2,wi]at hstep
  simp only[cond_true]at hstep
  by_cases h46:c=46
  ·subst h46
   have hA:flA s=pre:=by rw[hp];exact Fs hn
   have hB:flB s=r:=by unfold flB;rw[hA,hp];simp
   have d1:List.drop (Int.toNat 0) (List.take (Int.toNat (pre.length:Int)) s)=pre:=by rw[hp];simp
   have d2:List.drop (Int.toNat ((pre.length:Int)+1)) (List.take (Int.toNat (s.length:Int)) s)=r:=by
    rw[show Int.toNat ((pre.length:Int)+1)=pre.length+1 by omega,Int.toNat_natCast,List.take_length,hp]
    simp
   have b1:inB 0 (pre.length:Int) s.length=true:=by
    simp only[inB,Bool.and_eq_true,decide_eq_true_eq]
    omega
   have b2:inB ((pre.length:Int)+1) (s.length:Int) s.length=true:=by
    simp only[inB,Bool.and_eq_true,decide_eq_true_eq]
    omega
   have p1:cW (pre,())=true:=gI.2 (by show(pre.length:Int)≤_;omega)
   have p2:cW (r,())=true:=gI.2 (by show(r.length:Int)≤_;omega)
   rw[show(((46:UInt8).toNat:Int) !=46)=false from rfl,b1,b2,d1,d2,p1,p2]at hstep
   simp only[cond_true,cond_false]at hstep
   have hw:IntKind.wrap .i64 ((pre.length:Int)+r.length)=(pre.length:Int)+r.length:=wrap64 (by omega) (by omega)
   rw[hw]at hstep
   have hne:(pre.length==s.length)=false:=by
    have:¬pre.length=s.length:=by omega
    simpa using this
   have hgt:decide ((pre.length:Int)>1)=decide (pre.length>1):=by
    by_cases h:pre.length>1
    ·rw[decide_eq_true h,decide_eq_true (by omega)]
    ·rw[decide_eq_false h,decide_eq_false (by omega)]
   have h15:decide ((pre.length:Int)+r.length>15)=decide (pre.length+r.length>15):=by
    by_cases h:pre.length+r.length>15
    ·rw[decide_eq_true h,decide_eq_true (by omega)]
    ·rw[decide_eq_false h,decide_eq_false (by omega)]
   rw[hgt,h15]at hstep
   have hS:=yd s
   rw[hA,hB,hne]at hS
   simp only[cond_false]at hS
   refine hstep.trans ?_
   rw[hS]
   cases g1:dt pre with
   |false=>rfl
   |true=>
    cases g2:dt r with
    |false=>rfl
    |true=>
     have fin:∀(h48:(decide (pre.length>1)&&at8 pre 0==48)=false),(bif decide (pre.length+r.length>15)then Rs.ok (Out.ret (AV.tup [AV.int IntKind.u64 0,AV.int IntKind.i64 2]),([]:List Blk))else bif okF s&&64==(64:Int)then Rs.ok (Out.ret (AV.tup [AV.int IntKind.u64 (jO (Int.toNat (iW s:Int)):Int),AV.int IntKind.i64 0]),[])else Rs.err 137)=
       Rs.ok (Out.ret (AV.tup [AV.int IntKind.u64 (bif decide (pre.length+r.length>15)then((0:Int),(2:Int))else((lZ pre r:Int),0)).1,AV.int IntKind.i64 (bif decide (pre.length+r.length>15)then((0:Int),(2:Int))else((lZ pre r:Int),0)).2]),[]):=fun h48=>by
      cases g15:decide (pre.length+r.length>15)with
      |true=>rfl
      |false=>
       have hok:okF s=true:=by
        unfold okF
        rw[hA,hB,g1,g2,show(decide (1<pre.length)&&at8 pre 0==48)=false from h48]
        have l1:Nat.blt pre.length s.length=true:=by rw[Nat.blt_eq];omega
        have l2:Nat.ble (pre.length+r.length) 15=true:=Nat.ble_eq_true_of_le (by have:=of_decide_eq_false g15;omega)
        rw[l1,l2]
        rfl
       have hv:=Cj hok
       rw[hA,hB]at hv
       rw[hok,Int.toNat_natCast,hv]
       rfl
     cases g3:decide (pre.length>1)with
     |false=>
      simp only[g3,Bool.false_and]at fin⊢
      exact fin trivial
     |true=>
      have hI:inI 0 pre.length=true:=by
       have:=of_decide_eq_true g3
       simp only[inI,Bool.and_eq_true,decide_eq_true_eq]
       omega
      rw[hI]
      have h8:((pre.getD (Int.toNat 0) 0).toNat:Int)=at8 pre 0:=rfl
      rw[h8]
      cases g4:at8 pre 0==48 with
      |true=>rfl
      |false=>
       simp only[g3,g4,Bool.true_and]at fin⊢
       exact fin trivial
  ·have hne:(((c.toNat:Int)) !=46)=true:=by
    have:¬((c.toNat:Int)=46):=fun e=>h46 (by
     have:c.toNat=46:=by omega
     exact UInt8.toNat_inj.1 this)
    simpa using this
   rw[hne]at hstep
   have ih:=uh hs r (pre++[c]) fuel (by rw[hp];simp) (fun d hd=>by
    rw[List.mem_append,List.mem_singleton]at hd
    rcases hd with hd|rfl
    ·exact hn d hd
    ·exact h46) (by simp only[List.length_cons]at hf;omega)
   have hpl:(((pre++[c]).length:Nat):Int)=(pre.length:Int)+1:=by simp
   rw[hpl]at ih
   exact hstep.trans ih
theorem IU(hft:oS G):kO G:=fun x hx=>by
 obtain⟨s,⟨⟩⟩:=x
 have hs:(s.length:Int)≤1048576:=ya.1 hx
 have h:=uh hs s [] (s.length+1) rfl (fun c h=>by cases h) (Nat.lt_succ_self _)
 exact bh (aS []) (aE (Au hft)) Hj (.inl cb) ((BT (yL (s.length+1)) s).trans h)
end Go.Sx.Tryz
