/- A part of the proof: see the row's text. -/
import Derived.Test.YtehaoepopklboaaGreatDoorZh20
set_option linter.unusedVariables false
set_option linter.unusedSimpArgs false
noncomputable section
namespace Go.Sx.Tryz
open Go Go.Sx Go.Proofs Go.Shelf Go.Lib
open Go.Proofs.YtehaoepopklboaaGreatDoor
set_option maxRecDepth 1000000
theorem B9{α β:Type}(g:α→Option β)(h:α→β):∀(l:List α),(∀a∈l,g a=some (h a))→l.mapM g=some (l.map h):=by
 intro l given
 have agree:l.mapM g=l.mapM fun a=>pure (h a):=by
  induction l with
  |nil=>rfl
  |cons x rest ih=>
   simp only[List.mapM_cons,given x (.head rest),ih fun a ha=>given a (.tail x ha),Option.pure_def]
 exact agree.trans List.mapM_pure
theorem GF:∀(l:List (Nat×Nat)) (i:Nat) (x:Nat×Nat),l[i]? =some x→((l.flatMap c2).drop (i*2)).take 2=c2 x
 |[],i,x,h=>by simp at h
 |y::t,0,x,h=>by
  simp at h
  subst h
  rfl
 |y::t,i+1,x,h=>by
  simp at h
  have e:(i+1)*2=2+i*2:=by omega
  rw[List.flatMap_cons,e,←List.drop_drop]
  exact GF t i x h
theorem Ea:∀(l:List (Nat×Nat)),(l.flatMap c2).length=l.length*2
 |[]=>rfl
 |y::t=>by rw[List.flatMap_cons,List.length_append,Ea t];simp[c2];omega
def J5(x:Nat×Nat):Bool:=(Lit.int .u64 x.1).wf&&(Lit.int .u64 x.2).wf
theorem MX:Go.Pinned.pow10Rows.all J5=true:=by kernel_rfl
theorem H7:Go.Pinned.pow10Rows.length=696:=by kernel_rfl
theorem JJ:Tryz.prog.underlying 263=some (.array 696 262):=by kernel_rfl
theorem Kl:∃f0 f1,Tryz.prog.underlying 262=some (.struct #[f0,f1])∧f0.type=129∧f0.offset=0∧f1.type=129∧f1.offset=1:=⟨_,_,rfl,rfl,rfl,rfl,rfl⟩
theorem Kd:Tryz.prog.underlying 129=some (.int .u64):=by kernel_rfl
theorem G5:Tryz.prog.cellsOf 262=2:=by kernel_rfl
theorem L9:Tryz.prog.cellsOf 263=1392:=by kernel_rfl
theorem M0:Tryz.prog.cellsOf 129=1:=by kernel_rfl
theorem DV{w:World}(x:Nat×Nat)(hw:J5 x=true):DataW.trod (fun _=>()) Tryz.prog w 0 (fun _=>true) false 2 262 (c2 x)=some (.agg [.lit (.int .u64 x.1),.lit (.int .u64 x.2)],[]):=by
 unfold J5 at hw
 simp only[Bool.and_eq_true]at hw
 obtain⟨f0,f1,h,e0,e1,e2,e3⟩:=Kl
 simp[DataW.trod,h,e0,e1,e2,e3,Kd,G5,M0,c2,hw.1,hw.2]
theorem Jf{l:List (Nat×Nat)}{i:Nat}{u:TypeId}{v:Value}(h:(l.flatMap c2)[i]? =some (.iface u v)):False:=by
 have:=List.mem_of_getElem? h
 rw[List.mem_flatMap]at this
 obtain⟨x,_,hx⟩:=this
 simp[c2]at hx
theorem CE(os:Os)(args:Array Value):(l5 os args).heap[20]? =some (.cells (Go.Pinned.pow10Rows.flatMap c2).toArray 263 (0,0)):=by kernel_rfl
theorem B0:Tryz.prog.globalNamed "internal/strconv.pow10Tab"=some 20:=by kernel_rfl
theorem JR{w:World}:DataW.trod (fun _=>()) Tryz.prog w 0 (fun _=>true) false 3 263 (Go.Pinned.pow10Rows.flatMap c2)=some (Rows.laid_internal_strconv_pow10Tab,[]):=by
 have hwf:=MX
 have hlen:=H7
 have hd:Rows.laid_internal_strconv_pow10Tab= .agg (Go.Pinned.pow10Rows.map fun x=>.agg [.lit (.int .u64 x.1),.lit (.int .u64 x.2)]):=rfl
 rw[hd]
 generalize Go.Pinned.pow10Rows=l at hwf hlen
 have helem:∀i∈List.range 696,DataW.trod (fun _=>()) Tryz.prog w 0 (fun _=>true) false 2 262 (((l.flatMap c2).drop (i*2)).take 2)=some ((fun i=>((.agg [.lit (.int .u64 (l.getD i (0,0)).1),.lit (.int .u64 (l.getD i (0,0)).2)]:DataW Unit),([]:List MemPlace))) i):=by
  intro i hi
  have hi':i<l.length:=by rw[hlen];exact List.mem_range.1 hi
  have hx:l[i]? =some l[i]:=List.getElem?_eq_getElem hi'
  rw[GF l i _ hx,DV _ (List.all_eq_true.1 hwf _ (List.getElem_mem hi'))]
  have:l.getD i (0,0)=l[i]:=by rw[List.getD_eq_getElem?_getD,hx];rfl
  simp only[this]
 unfold DataW.trod
 simp only[JJ,L9,G5]
 show(if _ then _ else _)=_
 rw[if_pos (by rw[Ea,hlen]),B9 _ _ _ helem]
 simp only[Option.map_some,List.map_map,Option.some.injEq,Prod.mk.injEq,DataW.agg.injEq]
 refine⟨?_,?_⟩
 ·apply List.ext_getElem (by simp[hlen])
  intro i h1 h2
  simp at h1
  have hi':i<l.length:=by omega
  simp[List.getD,List.getElem?_eq_getElem hi']
 ·rw[List.flatMap_eq_nil_iff]
  intro x hx
  rw[List.mem_map]at hx
  obtain⟨i,_,rfl⟩:=hx
  rfl
theorem Ir(os:Os)(args:Array Value):LaidIn Tryz.prog (l5 os args) [("internal/strconv.pow10Tab",Rows.laid_internal_strconv_pow10Tab)] [20]:=by
 refine LaidIn.one (g:=20) (t:=263) (cs:=(Go.Pinned.pow10Rows.flatMap c2).toArray) (fuel:=3) (p:=[]) [20] B0 (by kernel_rfl) ?_ JR ?_ ?_ ?_
 ·simp only[World.var?,B0,Option.bind_some,CE]
 ·rw[List.append_nil]
  exact rowP_nodup _ _
 ·rw[List.append_nil]
  intro b off hp
  obtain⟨i,hi,e'⟩:=MemPlace.mem_row.1 hp
  cases e'
  refine⟨⟨_,_,CE os args⟩,fun u v hc'=>?_⟩
  rw[cell_of_heap (CE os args)]at hc'
  simp only[Nat.zero_add,List.getElem?_toArray]at hc'
  exact(Jf hc').elim
 ·rw[List.append_nil]
  intro x hx
  obtain⟨i,hi,e'⟩:=MemPlace.mem_row.1 hx
  rw[e']
  exact List.mem_singleton.2 rfl
end Go.Sx.Tryz
