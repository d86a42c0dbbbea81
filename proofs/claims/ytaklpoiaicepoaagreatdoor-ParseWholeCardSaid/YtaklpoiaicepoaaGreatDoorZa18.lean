/- A part of the proof: see the row's text. -/
import Derived.Test.YtaklpoiaicepoaaGreatDoorZa17
import Derived.Defers
import Derived.Recover
import Derived.Laws.FloatArith
set_option linter.unusedVariables false
set_option linter.unusedSimpArgs false
noncomputable section
namespace Go.Sx.Tryz
open Go Go.Sx Go.Proofs
set_option maxRecDepth 100000
variable{G:Nat→Obj→Prop}
theorem xe(pre:List Nd)(c:Nd)(r:List Nd):inI (pre.length:Int) (pre++c::r).length=true:=by
 simp only[inI,List.length_append,List.length_cons,Bool.and_eq_true,decide_eq_true_eq]
 omega
theorem yh(pre:List Nd)(c:Nd)(r:List Nd):ag (pre++c::r) pre.length=c:=by
 simp[ag,List.getD]
abbrev TZ(L:List Nd)(r:Int):R0:=(.ret (.agg [.own 0 0,.int .i64 r]),[.list 37 aE 0 false L])
theorem sw{L:List Nd}{r:Int}(hL:L.length≤20000)(hc:L.all oy=true):∀(xs pre:List Nd) (fuel:Nat),L=pre++xs→xs.length<fuel→
  pieces (R:=R0) E (ao jO) tq sC 0 .ok fuel 0 (VI L pre r L.length pre.length)= .ok (TZ L r)
 |xs,pre,0,_,hf=>by omega
 |[],pre,fuel+1,hp,_=>by
  refine((bp rfl).trans (Hr (pieces (R:=R0) E (ao jO) tq sC 0 .ok fuel) L pre r L.length pre.length)).trans ?_
  have h1:¬((pre.length:Int)<L.length):=by rw[hp,List.append_nil];omega
  rw[List.append_nil]at hp
  simp only[h1,decide_false,cond_false]
  rw[←hp]
 |x::xs,pre,fuel+1,hp,hf=>by
  have ih:=sw (r:=r) hL hc xs (pre++[x]) fuel (by simp[hp]) (by simpa using hf)
  refine((bp rfl).trans (Hr (pieces (R:=R0) E (ao jO) tq sC 0 .ok fuel) L pre r L.length pre.length)).trans ?_
  have hlen:pre.length+1+xs.length=L.length:=by rw[hp];simp;omega
  have h1:(pre.length:Int)<L.length:=by omega
  have h2:inI (pre.length:Int) L.length=true:=by rw[hp];exact xe _ _ _
  have h3:ag L pre.length=x:=by rw[hp];exact yh _ _ _
  have h4:IntKind.wrap .i64 ((pre.length:Int)+1)=(pre.length:Int)+1:=wrap64 (by omega) (by omega)
  have h5:(((pre++[x]).length:Nat):Int)=(pre.length:Int)+1:=by simp
  have hx:=List.all_eq_true.1 hc x (by rw[hp];simp)
  simp only[oy,Bool.and_eq_true,decide_eq_true_eq]at hx
  have h6:Nat.ble (aj x).length 17592186044416=true:=Nat.ble_eq_true_of_le hx.1
  have h7:Nat.ble (aG x).length 17592186044416=true:=Nat.ble_eq_true_of_le hx.2
  have hmr:aq=68719476736:=rfl
  rw[h5]at ih
  simp only[h1,h2,h3,h4,h6,h7,Int.toNat_natCast,decide_true,cond_true]
  refine Eq.trans (mf (by simp only[List.length_singleton];omega)) ?_
  exact(congrArg _ rfl).trans ih
theorem Hk(x:aA gZ)(h:lf x=true):SAD Tryz.prog G 49 gZ gZ x (Ba x):=by
 obtain⟨⟨L,r,⟨⟩⟩,⟨⟩⟩:=x
 have h:(decide (List.length L≤20000)&&List.all L oy)=true:=h
 simp only[Bool.and_eq_true,decide_eq_true_eq]at h
 have hs:start (R:=R0) E (ao jO) tq sC (pieces (R:=R0) E (ao jO) tq sC 0 .ok (List.length L+1)) [.agg (trC L r)] [] .ok= .ok (TZ L r):=
  (KC _ L r).trans ((congrArg _ rfl).trans (sw h.1 h.2 L [] (List.length L+1) rfl (by omega)))
 exact SA.data (rs:=gZ) (bA (bo []) (aV q0) VG (.inl cH) hs) (y:=Ba ((L,r,()),())) (m:=[0]) rfl
def bsT(T:List UInt8)(K:List Tok)(a d:Int)(A:List Nd):List Blk:=[.cells 72 [.str T,.sl aJ K,.int .i64 a,.int .i64 d,.own 1 1,.int .i64 0],.list 37 aE 1 true A]
theorem Ed(T:List UInt8)(K:List Tok)(a d:Int)(A:List Nd)(h:lf ((A,(0:Int),()),())=true):SA Tryz.prog G 27 [.ref 0 4] (oL T K a d A) (.ret (.agg [.sl aE A,.int .i64 (IntKind.wrap .i64 ((A.length:Int)-1))]),bsT T K a d A):=by
 have e:=Nt T K a d A
 rw[h]at e
 exact b7 (bo []) (aV (.cons (aZ fun x h=>Hk x h) .nil)) N7 e
end Go.Sx.Tryz
namespace Go.Sx
open Go
def jv:List Bool→Code→Code
 |[],c=>c
 |d::r,c=>match c with
  | .seq a b=>(match d with|false=>jv r a|true=>jv r b)
  | .cond _ a b=>(match d with|false=>jv r a|true=>jv r b)
  | .block _ c=>jv r c
  | .loop c=>jv r c
  | .scope c=>jv r c
  |c=>c
def uA:Ex→St→Rs St:=fun ex st=>match ex with
 | .normal=>.ok st
 |_=>.err 0
end Go.Sx
namespace Go.Sx.Tryz
open Go Go.Sx Go.Proofs
open Go.RowKit
set_option maxRecDepth 100000
def Hm:Code:=jv [true,true,false,true,true] ON.code
def AW(x y c p:Int):St:=⟨[(0,.ref 0 0),(1,.ref 1 0),(3,.ref 2 0)],[(0,.cells 25 [.nils,.int .i64 0]),(1,.cells 28 [.int .i64 x,.int .i64 y]),(2,.cells 28 [.int .i64 c,.int .i64 p])],3⟩
end Go.Sx.Tryz
namespace Go.Sx.Tryz
open Go Go.Sx Go.Proofs
open Go.RowKit
set_option maxRecDepth 100000
theorem oM{C:Ctx}{c p:Int}{vs:List Value}(h:aC C [.int .i64 c,.int .i64 p] vs):vs=[.int .i64 c,.int .i64 p]:=by
 obtain⟨v,r,rfl,h1,v2,r2,rfl,h2,h3⟩:=h
 simp only[aD]at h1 h2
 simp only[aC]at h3
 rw[h1,h2,h3]
theorem zf{C:Ctx}{vs:List Value}(h:aC C [.nils,.int .i64 0] vs):vs=[.slice none 0 0,.int .i64 0]:=by
 obtain⟨v,r,rfl,h1,v2,r2,rfl,h2,h3⟩:=h
 simp only[aD]at h1 h2
 simp only[aC]at h3
 rw[h1,h2,h3]
theorem ev25(x y c p:Int):ev (R:=St) E (ao []) ct cq Hm 1 (AW x y c p) uA=Rs.ok {tmps:=[(17,AV.agg [AV.int IntKind.i64 c,AV.int IntKind.i64 p]),(16,AV.agg [AV.nils,AV.int IntKind.i64 0]),(0,AV.ref 0 0),(1,AV.ref 1 0),(3,AV.ref 2 0)],blks:=[(1,Blk.cells 28 [AV.int IntKind.i64 c,AV.int IntKind.i64 p]),(0,Blk.cells 25 [AV.nils,AV.int IntKind.i64 0]),(0,Blk.cells 25 [AV.nils,AV.int IntKind.i64 0]),(1,Blk.cells 28 [AV.int IntKind.i64 x,AV.int IntKind.i64 y]),(2,Blk.cells 28 [AV.int IntKind.i64 c,AV.int IntKind.i64 p])],next:=67}:=by kernel_rfl
def phi3(r0 r1 r3:Nat):Nat→Go.Sx.G:=fun|0=>.cells r0|1=>.cells r1|_=>.cells r3
theorem I2{r0 r1 r3:Nat}{x y c p:Int}{w:World}{a:Act}{Q:Exit→Act→World→Prop}(h0:w.heap[r0]? =some (.cells #[.slice none 0 0,.int .i64 0] 25 (0,0)))(h1:w.heap[r1]? =some (.cells #[.int .i64 x,.int .i64 y] 28 (0,0)))
  (h3:w.heap[r3]? =some (.cells #[.int .i64 c,.int .i64 p] 28 (0,0))) (n01:r0≠r1) (n03:r0≠r3) (n13:r1≠r3)
  (e0:a.eval (.tmp 0)= .pointer (some ⟨r0,0,none⟩)) (e1:a.eval (.tmp 1)= .pointer (some ⟨r1,0,none⟩)) (e3:a.eval (.tmp 3)= .pointer (some ⟨r3,0,none⟩)) (hsz:a.tmps.size=18) (hd:a.defers=[])
  (hQ:∀(a':Act) (w':World),a'.defers=[]→a'.tmps.size=18→w'.heap[r0]? =some (.cells #[.slice none 0 0,.int .i64 0] 25 (0,0))→w'.heap[r1]? =some (.cells #[.int .i64 c,.int .i64 p] 28 (0,0))→
   w.heap.size≤w'.heap.size→(∀k,k<w.heap.size→k≠r0→k≠r1→k≠r3→w'.heap[k]? =w.heap[k]?)→w'.os=w.os→w'.tape=w.tape→w'.output=w.output→Q .normal a' w'):Hm.wp Tryz.prog Q a w:=by
 let C:Ctx:=⟨w,aL (AW x y c p).blks,phi3 r0 r1 r3,fun _ _=>False,fun _ _=>False⟩
 have hlies:∀(id:Nat) (b:Blk) (k:Nat),C.m id=some b→dj (C.φ id) k→(id=0∧k=r0)∨(id=1∧k=r1)∨(id=2∧k=r3):=fun id b k hb hk=>by
  match id,hb,hk with
  |0,_,hk=>exact .inl ⟨rfl,hk⟩
  |1,_,hk=>exact .inr (.inl ⟨rfl,hk⟩)
  |2,_,hk=>exact .inr (.inr ⟨rfl,hk⟩)
  |_+3,hb,_=>cases hb
 have hs:SRel C:={
  ok:=fun id b hb=>by
   match id,hb with
   |0,hb=>cases hb;exact⟨r0,_,rfl,h0,⟨_,_,rfl,rfl,_,_,rfl,rfl,rfl⟩,rfl⟩
   |1,hb=>cases hb;exact⟨r1,_,rfl,h1,⟨_,_,rfl,rfl,_,_,rfl,rfl,rfl⟩,rfl⟩
   |2,hb=>cases hb;exact⟨r3,_,rfl,h3,⟨_,_,rfl,rfl,_,_,rfl,rfl,rfl⟩,rfl⟩
   |_+3,hb=>cases hb
  apart:=fun id b id' b' k hb hb' hne hk hk'=>by
   rcases hlies id b k hb hk with⟨i1,k1⟩|⟨i1,k1⟩|⟨i1,k1⟩<;>rcases hlies id' b' k hb' hk' with⟨i2,k2⟩|⟨i2,k2⟩|⟨i2,k2⟩<;>omega
  frApart:=fun k o h=>h.elim
  frOld:=fun k o h=>h.elim
  gl:=fun k o h=>h.elim}
 have ht:oW C (look (AW x y c p).tmps) a:=fun z=>by
  cases z with
  |tmp t=>
   by_cases t0:t=0
   ·subst t0;rw[e0];exact⟨r0,_,_,rfl,rfl,rfl⟩
   ·by_cases t1:t=1
    ·subst t1;rw[e1];exact⟨r1,_,_,rfl,rfl,rfl⟩
    ·by_cases t3:t=3
     ·subst t3;rw[e3];exact⟨r3,_,_,rfl,rfl,rfl⟩
     ·have:look (AW x y c p).tmps t= .undef:=by
       have b0:Nat.beq 0 t=false:=by cases h:Nat.beq 0 t with|false=>rfl|true=>exact absurd (beq_eq h).symm t0
       have b1:Nat.beq 1 t=false:=by cases h:Nat.beq 1 t with|false=>rfl|true=>exact absurd (beq_eq h).symm t1
       have b3:Nat.beq 3 t=false:=by cases h:Nat.beq 3 t with|false=>rfl|true=>exact absurd (beq_eq h).symm t3
       simp only[AW,look,b0,b1,b3]
      simp only[an,this]
      trivial
  |const k=>exact gU k
  |global g=>exact trivial
  |func f=>exact⟨#[],rfl,rfl⟩
 refine iy (E:=E) (K:=ao []) (bo []) (aV .nil) (D:=C) (G:=fun _ _=>False) (N:=18) (ds:=[]) (cuts:=ct) (J:=cq) rfl BT Hm 1 Q uA (AW x y c p) C a (by kernel_rfl) (xS _ _ _ fun d r c' Q' hp=>fun j f hc=>by cases hc) ?_ (ev25 x y c p) ⟨⟨rfl,hs,ht⟩,fun k hk=>?_,hsz,hd⟩ (Ext.refl C)
 ·refine{normal:=fun st C' a' hk hr hX=>?_,exit:=fun id st C' a' hk=>by simp[uA]at hk,ret:=fun st C' a' hk=>by simp[uA]at hk,panic:=fun v st a' w' ch hk=>by simp[uA]at hk}
  simp only[uA,Rs.ok.injEq]at hk
  subst hk
  have hm:=hr.r.m
  have hs':=hr.r.s
  obtain⟨k0,_⟩:=hX.cells 0 25 _ rfl
  obtain⟨k1,_⟩:=hX.cells 1 28 _ rfl
  obtain⟨rb,cs,g1,g2,g3,_⟩:=hs'.ok 0 (.cells 25 [.nils,.int .i64 0]) (by rw[hm];rfl)
  obtain⟨rb',cs',g1',g2',g3',_⟩:=hs'.ok 1 (.cells 28 [.int .i64 c,.int .i64 p]) (by rw[hm];rfl)
  rw[k0]at g1
  rw[k1]at g1'
  cases g1
  cases g1'
  refine hQ a' C'.w hr.defers hr.size ?_ ?_ hX.size (fun k hk n0 n1 n3=>hX.old k hk ?_) hX.os hX.tape hX.output
  ·rw[g2,show cs= #[.slice none 0 0,.int .i64 0]from by have:=zf g3;rw[←Array.toList_inj];exact this]
  ·rw[g2',show cs'= #[.int .i64 c,.int .i64 p]from by have:=oM g3';rw[←Array.toList_inj];exact this]
  ·rintro ⟨id,b,hb,hk'⟩
   rcases hlies id b k hb hk' with⟨_,h⟩|⟨_,h⟩|⟨_,h⟩
   ·exact n0 h
   ·exact n1 h
   ·exact n3 h
 ·show aL (AW x y c p).blks k=none
  have:3≤k:=hk
  match k,this with
  |_+3,_=>rfl
end Go.Sx.Tryz
namespace Go.Sx.Tryz
open Go Go.Sx Go.Proofs
open Go.RowKit
set_option maxRecDepth 100000
set_option maxHeartbeats 1000000 in
theorem Au(p q:Addr)(w:World):
  CallsD Tryz.prog 25 #[.pointer (some p),.pointer (some q)] .returning w fun e u' w'=>e= .returned (.tuple #[])∧u'= .returning∧w'=w:=by
 refine callsD_of_wpS Tryz.func25 rfl fun c₀ cs hu=>?_
 apply wpS_seq
 apply wpS_region
 simp[wpOpsS,go_sem,recoverD,hu,Tryz.ntmps25,Exit.thenS]
 apply wpS_seq
 apply wpS_region
 simp[wpOpsS,go_sem,Exit.thenS]
 refine wpS_cond (t:=false) (by simp[Act.eval,Array.replicate]) ?_
 refine wpS_of_wp (wp_skip ?_)
 cases c₀
 simp_all[bodyPostS,results,Tryz.results25,Exit.thenS]
structure Caught(r0 r1:Nat)(c p:Int)(w w':World):Prop where
 tree:w'.heap[r0]? =some (.cells #[.slice none 0 0,.int .i64 0] 25 (0,0))
 flt:w'.heap[r1]? =some (.cells #[.int .i64 c,.int .i64 p] 28 (0,0))
 size:w.heap.size≤w'.heap.size
 old:∀k,k<w.heap.size→k≠r0→k≠r1→w'.heap[k]? =w.heap[k]?
 os:w'.os=w.os
 tape:w'.tape=w.tape
 output:w'.output=w.output
set_option maxHeartbeats 4000000 in
theorem xA(r0 r1:Nat)(c p x y:Int)(w:World)(h0:w.heap[r0]? =some (.cells #[.slice none 0 0,.int .i64 0] 25 (0,0)))(h1:w.heap[r1]? =some (.cells #[.int .i64 x,.int .i64 y] 28 (0,0)))(h2:r0≠r1):
  CallsD Tryz.prog 25 #[.pointer (some ⟨r0,0,none⟩),.pointer (some ⟨r1,0,none⟩)] (.panicking [{v:=.iface 28 (.agg #[.int .i64 c,.int .i64 p]),recovered:=false}]) w fun e u' w'=>e= .returned (.tuple #[])∧
   u'= .panicking [{v:=.iface 28 (.agg #[.int .i64 c,.int .i64 p]),recovered:=true}]∧Caught r0 r1 c p w w':=by
 refine callsD_of_wpS Tryz.func25 rfl fun c₀ cs hu=>?_
 apply wpS_seq
 apply wpS_region
 simp[wpOpsS,go_sem,recoverD,hu,Tryz.ntmps25,Exit.thenS]
 apply wpS_seq
 apply wpS_region
 simp[wpOpsS,go_sem,Exit.thenS]
 refine wpS_cond (t:=true) (by simp[Act.eval,Array.replicate]) ?_
 simp only[if_true]
 refine wpS_of_wp ?_
 have hta:∀(v:Value) (w:World),(Instr.typeAssert (.iface 28 v) 20 28 true).run Tryz.prog w= .ok (.tuple #[v,.bool true]) w:=fun v w=>by kernel_rfl
 apply wp_seq
 apply wp_region
 simp[wpOps,Oper.wp,go_sem,hta]
 repeat refine .inl ?_
 apply wp_seq
 apply wp_seq
 apply wp_region
 simp[wpOps,Oper.wp,go_sem]
 repeat refine .inl ?_
 refine wp_cond_false (by simp[Act.eval,Array.replicate]) (wp_skip ?_)
 have l0:r0<w.heap.size:=(Array.getElem?_eq_some_iff.1 h0).1
 have l1:r1<w.heap.size:=(Array.getElem?_eq_some_iff.1 h1).1
 have hal:∀(o:Obj) (k:Nat),k<w.heap.size→(w.alloc o).heap[k]? =w.heap[k]? :=fun o k hk=>by
  show(w.heap.push o)[k]? =_
  rw[Array.getElem?_push_lt hk,Array.getElem?_eq_getElem hk]
 refine I2 (r0:=r0) (r1:=r1) (r3:=w.heap.size) (x:=x) (y:=y) (c:=c) (p:=p) ((hal _ _ l0).trans h0) ((hal _ _ l1).trans h1) ?_ h2 (by omega) (by omega) ?_ ?_ ?_ ?_ ?_ ?_
 ·show(w.heap.push _)[w.heap.size]? =_
  simp
 ·simp[Act.eval,Array.replicate]
 ·simp[Act.eval,Array.replicate]
 ·simp[Act.eval,Array.replicate]
 ·simp
 ·rfl
 ·intro a' w' hd hsz k0 k1 ks ko kos kt kp
  have hsz1:(w.alloc (.cells #[.int .i64 c,.int .i64 p] 28 (0,0))).heap.size=w.heap.size+1:=by
   show(w.heap.push _).size=_
   simp
  have hcg:Caught r0 r1 c p w w':=⟨k0,k1,by rw[hsz1]at ks;omega,fun k hk n0 n1=>(ko k (by rw[hsz1];omega) n0 n1 (by omega)).trans (hal _ _ hk),kos,kt,kp⟩
  cases c₀
  simp_all[bodyPostS,results,Tryz.results25,Exit.thenS,Exit.then]
end Go.Sx.Tryz
namespace Go.Sx.Tryz
open Go Go.Sx Go.Proofs
open Go.RowKit
set_option maxRecDepth 100000
variable{G:Nat→Obj→Prop}
theorem gX{w:World}{k:Nat}{cs:Array Value}{t:TypeId}{fr:Nat×Nat}(h:w.heap[k]? =some (.cells cs t fr))(o:Nat):w.cell? ⟨k,o,none⟩=cs[o]? :=by
 simp[World.cell?,h]
def c31:Code:=jv [true,true,true,true] mi.code
set_option maxHeartbeats 4000000 in
theorem Dw{a:Act}{w:World}{R:Ending→World→Prop}{r0 r1 r2:Nat}{c p x y:Int}(e2:a.eval (.tmp 2)= .pointer (some ⟨r0,0,none⟩))(e3:a.eval (.tmp 3)= .pointer (some ⟨r1,0,none⟩))(e5:a.eval (.tmp 5)= .pointer (some ⟨r2,0,none⟩))(hsz:a.tmps.size=28)(hd:a.defers=[])
  (hne:r0≠r1) (hc:Calls Tryz.prog 26 #[.pointer (some ⟨r2,0,none⟩)] w fun e w'=>e= .panicked [{v:=.iface 28 (.agg #[.int .i64 c,.int .i64 p]),recovered:=false}]∧w'.heap[r0]? =some (.cells #[.slice none 0 0,.int .i64 0] 25 (0,0))∧w'.heap[r1]? =some (.cells #[.int .i64 x,.int .i64 y] 28 (0,0))∧
   ∀w'',Caught r0 r1 c p w' w''→R (.returned (.tuple #[.agg #[.slice none 0 0,.int .i64 0],.agg #[.int .i64 c,.int .i64 p]])) w''):c31.wp Tryz.prog (bodyPostD Tryz.prog Tryz.f10 R) a w:=by
 have hlt:5<a.tmps.size:=by omega
 have e2':a.tmps[2]= .pointer (some ⟨r0,0,none⟩):=by simpa [Act.eval,hsz]using e2
 have e3':a.tmps[3]= .pointer (some ⟨r1,0,none⟩):=by simpa [Act.eval,hsz]using e3
 have e5':a.tmps[5]= .pointer (some ⟨r2,0,none⟩):=by simpa [Act.eval,hsz]using e5
 show(Code.seq _ (Code.seq _ (Code.seq _ Code.ret))).wp Tryz.prog _ a w
 apply wp_seq
 apply wp_region
 simp[wpOps,Oper.wp,go_sem,e2',e3',e5',hsz,hd]
 repeat refine .inl ?_
 apply wp_seq
 apply wp_region
 simp[wpOps,Oper.wp,go_sem,e2',e3',e5',hsz,hd]
 repeat refine .inl ?_
 refine Calls.mono hc ?_
 rintro e w' ⟨rfl,k0,k1,hR⟩
 simp only[Exit.then]
 show Leaves Tryz.prog Tryz.f10 _ R _ (.panicking _) w'
 refine leaves_cons (f:=25) (args:= #[.pointer (some ⟨r0,0,none⟩),.pointer (some ⟨r1,0,none⟩)]) (by simp) (by simp[go_sem]) ?_
 refine(xA r0 r1 c p x y w' k0 k1 hne).mono ?_
 rintro e u' w'' ⟨rfl,rfl,hcg⟩
 have h0:=hcg.tree
 have h1:=hcg.flt
 refine⟨_,?_,hR w'' hcg⟩
 have m0:w''.cell? {block:=r0,off:=0}=some (.slice none 0 0):=gX h0 0
 have m1:w''.cell? {block:=r0,off:=1}=some (.int .i64 0):=gX h0 1
 have m2:w''.cell? {block:=r1,off:=0}=some (.int .i64 c):=gX h1 0
 have m3:w''.cell? {block:=r1,off:=1}=some (.int .i64 p):=gX h1 1
 simp[results,Tryz.results10,go_sem,hsz,e2',e3',m0,m1,m2,m3]
set_option maxHeartbeats 4000000 in
theorem OB{a:Act}{w:World}{R:Ending→World→Prop}{r0 r1 r2:Nat}{x y:Int}(e2:a.eval (.tmp 2)= .pointer (some ⟨r0,0,none⟩))(e3:a.eval (.tmp 3)= .pointer (some ⟨r1,0,none⟩))(e5:a.eval (.tmp 5)= .pointer (some ⟨r2,0,none⟩))(hsz:a.tmps.size=28)(hd:a.defers=[])
  (hne:r0≠r1) (hc:Calls Tryz.prog 26 #[.pointer (some ⟨r2,0,none⟩)] w fun e w'=>(∃v,e= .returned v)∧Calls Tryz.prog 27 #[.pointer (some ⟨r2,4,none⟩)] w' fun e w''=>∃ad n cap root,e= .returned (.agg #[.slice ad n cap,.int .i64 root])∧
   w''.heap[r0]? =some (.cells #[.slice none 0 0,.int .i64 0] 25 (0,0))∧w''.heap[r1]? =some (.cells #[.int .i64 x,.int .i64 y] 28 (0,0))∧
   ∀w3:World,w3.heap[r0]? =some (.cells #[.slice ad n cap,.int .i64 root] 25 (0,0))→w3.heap[r1]? =some (.cells #[.int .i64 0,.int .i64 0] 28 (0,0))→w3.heap.size=w''.heap.size→(∀k,k≠r0→k≠r1→w3.heap[k]? =w''.heap[k]?)→w3.os=w''.os→w3.tape=w''.tape→w3.output=w''.output→
    R (.returned (.tuple #[.agg #[.slice ad n cap,.int .i64 root],.agg #[.int .i64 0,.int .i64 0]])) w3):c31.wp Tryz.prog (bodyPostD Tryz.prog Tryz.f10 R) a w:=by
 have hlt:5<a.tmps.size:=by omega
 have e2':a.tmps[2]= .pointer (some ⟨r0,0,none⟩):=by simpa [Act.eval,hsz]using e2
 have e3':a.tmps[3]= .pointer (some ⟨r1,0,none⟩):=by simpa [Act.eval,hsz]using e3
 have e5':a.tmps[5]= .pointer (some ⟨r2,0,none⟩):=by simpa [Act.eval,hsz]using e5
 show(Code.seq _ (Code.seq _ (Code.seq _ Code.ret))).wp Tryz.prog _ a w
 apply wp_seq
 apply wp_region
 simp[wpOps,Oper.wp,go_sem,e2',e3',e5',hsz,hd]
 repeat refine .inl ?_
 apply wp_seq
 apply wp_region
 simp[wpOps,Oper.wp,go_sem,e2',e3',e5',hsz,hd]
 repeat refine .inl ?_
 refine Calls.mono hc ?_
 rintro e w' ⟨⟨v,rfl⟩,hc2⟩
 simp only[Exit.then]
 apply wp_seq
 apply wp_region
 simp[wpOps,Oper.wp,go_sem,e2',e3',e5',hsz,hd]
 repeat refine .inl ?_
 refine Calls.mono hc2 ?_
 rintro e w'' ⟨ad,n,cap,root,rfl,k0,k1,hR⟩
 have hst0:(storeCells ⟨r0,0,none⟩ [.slice ad n cap,.int .i64 root]).run Tryz.prog w''= .ok () (w''.setRow r0 #[.slice ad n cap,.int .i64 root]):=by
  simpa using run_storeCells_atF Tryz.prog r0 0 25 (0,0) [.slice ad n cap,.int .i64 root] 0 _ w'' k0 (by simp) (by simp) (by simp[Value.oneCell'])
 have k1':(w''.setRow r0 #[.slice ad n cap,.int .i64 root]).heap[r1]? =some (.cells #[.int .i64 x,.int .i64 y] 28 (0,0)):=by
  rw[setRow_other _ _ _ _ (Ne.symm hne)]
  exact k1
 have hst1:(storeCells ⟨r1,0,none⟩ [.int .i64 0,.int .i64 0]).run Tryz.prog (w''.setRow r0 #[.slice ad n cap,.int .i64 root])= .ok () ((w''.setRow r0 #[.slice ad n cap,.int .i64 root]).setRow r1 #[.int .i64 0,.int .i64 0]):=by
  simpa using run_storeCells_atF Tryz.prog r1 0 28 (0,0) [.int .i64 0,.int .i64 0] 0 _ _ k1' (by simp) (by simp) (by simp[Value.oneCell'])
 simp[hst0,Oper.upon,Act.put,e2',e3',e5',hsz,Result.andThen]
 repeat refine .inl ?_
 rw[hst1]
 simp only[]
 refine wp_ret ?_
 refine leaves_cons (f:=25) (args:= #[.pointer (some ⟨r0,0,none⟩),.pointer (some ⟨r1,0,none⟩)]) (by simp) (by simp[go_sem]) ?_
 refine(Au ⟨r0,0,none⟩ ⟨r1,0,none⟩ _).mono ?_
 rintro e u' w3 ⟨rfl,rfl,rfl⟩
 have h0:((w''.setRow r0 #[.slice ad n cap,.int .i64 root]).setRow r1 #[.int .i64 0,.int .i64 0]).heap[r0]? =some (.cells #[.slice ad n cap,.int .i64 root] 25 (0,0)):=by
  rw[setRow_other _ _ _ _ hne]
  exact setRow_heap _ _ _ _ _ _ k0
 have h1:((w''.setRow r0 #[.slice ad n cap,.int .i64 root]).setRow r1 #[.int .i64 0,.int .i64 0]).heap[r1]? =some (.cells #[.int .i64 0,.int .i64 0] 28 (0,0)):=setRow_heap _ _ _ _ _ _ k1'
 refine⟨_,?_,hR _ h0 h1 (by simp) (fun k n0 n1=>by rw[setRow_other _ _ _ _ n1,setRow_other _ _ _ _ n0]) rfl rfl rfl⟩
 generalize ((w''.setRow r0 #[.slice ad n cap,.int .i64 root]).setRow r1 #[.int .i64 0,.int .i64 0])=w3 at h0 h1
 have m0:w3.cell? {block:=r0,off:=0}=some (.slice ad n cap):=gX h0 0
 have m1:w3.cell? {block:=r0,off:=1}=some (.int .i64 root):=gX h0 1
 have m2:w3.cell? {block:=r1,off:=0}=some (.int .i64 0):=gX h1 0
 have m3:w3.cell? {block:=r1,off:=1}=some (.int .i64 0):=gX h1 1
 simp[results,Tryz.results10,go_sem,hsz,e2',e3',m0,m1,m2,m3]
end Go.Sx.Tryz
namespace Go.Sx.Tryz
open Go Go.Sx Go.Proofs
open Go.RowKit
set_option maxRecDepth 100000
variable{G:Nat→Obj→Prop}
abbrev rsP:Sig:=[(true,Ag),(true,No)]
def Bj(T:List UInt8)(K:List Tok)(c0 a0:Int):St:=⟨[(2,.ref 0 0),(3,.ref 1 0),(5,.ref 2 0)],[(0,.cells 25 [.nils,.int .i64 0]),(1,.cells 28 [.int .i64 c0,.int .i64 a0]),(2,.cells 72 [.str T,.sl aJ K,.int .i64 0,.int .i64 0,.own 3 0,.int .i64 0]),(3,.list 37 aE 0 false [])],4⟩
theorem iP{P:Program}{f:Nat}{fi:FI}(hf:FIOK P f fi){vals:Array Value}{w:World}{R:Ending→World→Prop}(h:bF P f vals w R):Calls P f vals w R:=by
 rcases h with⟨_,h⟩|⟨v,w',h,_⟩|⟨v,w',h,_⟩
 ·exact h
 ·rw[dP hf]at h;cases h
 ·rw[dP hf]at h;cases h
theorem uc{D:Ctx}(hm:D.m=aL (aB 0 []))(hs:SRel D){w':World}(hsz:D.w.heap.size≤w'.heap.size)(hold:∀k,k<D.w.heap.size→w'.heap[k]? =D.w.heap[k]?)(h1:w'.os=D.w.os)(h2:w'.tape=D.w.tape)(h3:w'.output=D.w.output){v:AV}{u:Value}
  (hv:aD ⟨w',aL (aB 0 []),D.φ,D.fr,D.gl⟩ v u) (hp:bH v=true):cj D (.ret v,[]) (.returned u) w':=by
 have hmn:∀i,D.m i=none:=fun i=>by rw[hm];rfl
 have hcell:∀k o x,D.w.cell? ⟨k,o,none⟩=some x→w'.cell? ⟨k,o,none⟩=some x:=fun k o x hx=>by
  have hk:k<D.w.heap.size:=by
   unfold World.cell? at hx
   split at hx
   ·rename_i hh;exact(Array.getElem?_eq_some_iff.1 hh).1
   ·cases hx
  rw[World.cell?_of_block (a:=⟨k,o,none⟩) (hold k hk)]
  exact hx
 refine⟨v,⟨w',aL (aB 0 []),D.φ,D.fr,D.gl⟩,rfl,rfl,rfl,?_,?_,hv,hp,rfl⟩
 ·exact{
   ok:=fun id b h=>by cases h
   apart:=fun id b id' b' k h=>by cases h
   frApart:=fun k o h ⟨id,b,hb,_⟩=>by cases hb
   frOld:=fun k o h=>Nat.lt_of_lt_of_le (hs.frOld k o h) hsz
   gl:=fun k o h=>by
    obtain⟨e1,_,e3⟩:=hs.gl k o h
    have hk:k<D.w.heap.size:=(Array.getElem?_eq_some_iff.1 e1).1
    exact⟨(hold k hk).trans e1,(fun⟨id,b,hb,_⟩=>by cases hb),e3⟩}
 ·exact{
   cells:=fun id ty cs h=>by rw[hmn]at h;cases h
   lists:=fun id ee t g sh L h=>by rw[hmn]at h;cases h
   keep:=fun k o x hx ht=>⟨hcell k o x hx,fun hh=>ht (by
    rcases hh with hh|⟨id,b,hb,_⟩
    ·exact .inl hh
    ·cases hb)⟩
   frEq:=rfl
   glEq:=rfl
   frKeep:=fun k o x hx _=>hcell k o x hx
   size:=hsz
   old:=fun k hk _=>hold k hk
   held:=fun k ⟨id,b,hb,_⟩=>by cases hb
   own:=fun k o ⟨id,b,hb,_⟩=>by cases hb
   os:=h1
   tape:=h2
   output:=h3}
theorem zS{C:Ctx}{c p:Int}{u:Value}(h:aD C (.iface 28 (.agg [.int .i64 c,.int .i64 p])) u):u= .iface 28 (.agg #[.int .i64 c,.int .i64 p]):=by
 obtain⟨v,rfl,vs,rfl,hl⟩:=h
 have:=oM hl
 rw[show vs= #[.int .i64 c,.int .i64 p]from by rw[←Array.toList_inj];exact this]
set_option maxHeartbeats 1000000 in
theorem zF(ht:iG G)(hf:nZ G)(n:Nat){D C:Ctx}{a:Act}{T:List UInt8}{K:List Tok}{c0 a0:Int}(hG:D.gl=G)(hm:D.m=aL (aB 0 []))(hs:SRel D)(hr:StR C a (Bj T K c0 a0) 28 [])(hX:Ext D C){y:aA rsP}
  (hy:(∃c p,tj (fns n) T K 0 0 []= .fault c p∧y=((([]:List Nd),(0:Int),()),(c,p,()),()))∨(∃z a' d' A',tj (fns n) T K 0 0 []= .ok z a' d' A'∧lf ((A',(0:Int),()),())=true∧y=((A',IntKind.wrap .i64 ((A'.length:Int)-1),()),((0:Int),(0:Int),()),()))):
  c31.wp Tryz.prog (bodyPostD Tryz.prog Tryz.f10 (cj D (.ret (cV rsP y),[]))) a C.w:=by
 have hmC:=hr.r.m
 have hsC:=hr.r.s
 have b0:C.m 0=some (.cells 25 [.nils,.int .i64 0]):=by rw[hmC];rfl
 have b1:C.m 1=some (.cells 28 [.int .i64 c0,.int .i64 a0]):=by rw[hmC];rfl
 have b2:C.m 2=some (.cells 72 [.str T,.sl aJ K,.int .i64 0,.int .i64 0,.own 3 0,.int .i64 0]):=by rw[hmC];rfl
 have b3:C.m 3=some (.list 37 aE 0 false []):=by rw[hmC];rfl
 obtain⟨r0,cs0,g0,k0,v0,_⟩:=hsC.ok 0 _ b0
 obtain⟨r1,cs1,g1,k1,v1,_⟩:=hsC.ok 1 _ b1
 obtain⟨r2,cs2,g2,k2,v2,_⟩:=hsC.ok 2 _ b2
 have k0:C.w.heap[r0]? =some (.cells #[.slice none 0 0,.int .i64 0] 25 (0,0)):=by
  rw[k0,show cs0= #[.slice none 0 0,.int .i64 0]from by have:=zf v0;rw[←Array.toList_inj];exact this]
 have k1:C.w.heap[r1]? =some (.cells #[.int .i64 c0,.int .i64 a0] 28 (0,0)):=by
  rw[k1,show cs1= #[.int .i64 c0,.int .i64 a0]from by have:=oM v1;rw[←Array.toList_inj];exact this]
 have n01:r0≠r1:=fun e=>hsC.apart 0 _ 1 _ r0 b0 b1 (by decide) (by rw[g0];rfl) (by rw[g1];exact e)
 have l0:r0<C.w.heap.size:=(Array.getElem?_eq_some_iff.1 k0).1
 have l1:r1<C.w.heap.size:=(Array.getElem?_eq_some_iff.1 k1).1
 have e2:a.eval (.tmp 2)= .pointer (some ⟨r0,0,none⟩):=by
  obtain⟨rb,ty,cs,h1,h2,h3⟩:=hr.r.t (.tmp 2)
  rw[g0]at h2;cases h2;exact h3
 have e3:a.eval (.tmp 3)= .pointer (some ⟨r1,0,none⟩):=by
  obtain⟨rb,ty,cs,h1,h2,h3⟩:=hr.r.t (.tmp 3)
  rw[g1]at h2;cases h2;exact h3
 have e5:a.eval (.tmp 5)= .pointer (some ⟨r2,0,none⟩):=by
  obtain⟨rb,ty,cs,h1,h2,h3⟩:=hr.r.t (.tmp 5)
  rw[g2]at h2;cases h2;exact h3
 have hDn:∀k,¬D.held k:=fun k ⟨id,b,hb,_⟩=>by rw[hm]at hb;cases hb
 have hCold:∀k,k<D.w.heap.size→C.w.heap[k]? =D.w.heap[k]? :=fun k hk=>hX.old k hk (hDn k)
 have hCnew:∀k,C.held k→D.w.heap.size≤k:=fun k hk=>(hX.held k hk).resolve_left (hDn k)
 have n0:D.w.heap.size≤r0:=hCnew r0 ⟨0,_,b0,by rw[g0];rfl⟩
 have n1:D.w.heap.size≤r1:=hCnew r1 ⟨1,_,b1,by rw[g1];rfl⟩
 let fr:Nat→Nat→Prop:=fun k o=>C.fr k o∨k=r0∨k=r1
 have hl:getAll C.m [2,3]=some [.cells 72 [.str T,.sl aJ K,.int .i64 0,.int .i64 0,.own 3 0,.int .i64 0],.list 37 aE 0 false []]:=by
  rw[hmC];rfl
 have hin:∀b∈[2,3],∃blk,C.m b=some blk:=fun b hb=>by
  rcases List.mem_cons.1 hb with rfl|hb
  ·exact⟨_,b2⟩
  ·rcases List.mem_cons.1 hb with rfl|hb
   ·exact⟨_,b3⟩
   ·cases hb
 obtain⟨hs1,hren,hT1,hheld1,hown1⟩:=zX hsC (ids:=[2,3]) (by decide) hl (fun b hb c hc=>by
   rcases List.mem_cons.1 hb with rfl|hb
   ·rw[b2]at hc
    simp only[mE,fL,List.flatMap_cons,List.flatMap_nil,refA,List.nil_append,List.append_nil]at hc
    simp at hc
    subst hc
    decide
   ·rcases List.mem_cons.1 hb with rfl|hb
    ·rw[b3]at hc;cases hc
    ·cases hb) rfl (fr:=fr)
  (fun k o b hk hb hlb=>by
   obtain⟨blk,hblk⟩:=hin b hb
   rcases hk with hk|rfl|rfl
   ·exact hsC.frApart k o hk ⟨b,blk,hblk,hlb⟩
   ·exact hsC.apart 0 _ b blk k b0 hblk (fun e=>by subst e;revert hb;decide) (by rw[g0];rfl) hlb
   ·exact hsC.apart 1 _ b blk k b1 hblk (fun e=>by subst e;revert hb;decide) (by rw[g1];rfl) hlb)
  (fun k o hk=>by
   rcases hk with hk|rfl|rfl
   ·exact hsC.frOld k o hk
   ·exact l0
   ·exact l1)
  (fun k o hk=>by
   rcases hk with hk|rfl|rfl
   ·exact .inl hk
   ·exact .inr ⟨0,_,b0,by rw[g0];rfl⟩
   ·exact .inr ⟨1,_,b1,by rw[g1];rfl⟩)
 generalize hD1:Sub C [2,3] fr ([Blk.cells 72 [.str T,.sl aJ K,.int .i64 0,.int .i64 0,.own 3 0,.int .i64 0],.list 37 aE 0 false []].map (cC (posOf [2,3])))=D1 at*
 have hm1:D1.m=aL (aB 0 (bsP T K 0 0 [])):=by rw[←hD1];rfl
 have hw1:D1.w=C.w:=by rw[←hD1];rfl
 have hg1:D1.gl=G:=by rw[←hD1];exact hX.glEq.trans hG
 have hfr1:D1.fr=fr:=by rw[←hD1];rfl
 have hphi1:D1.φ 0= .cells r2:=by rw[←hD1];exact g2
 have hv1:aC D1 [.ref 0 0] [.pointer (some ⟨r2,0,none⟩)]:=⟨_,[],rfl,⟨r2,72,_,by rw[hm1];rfl,hphi1,rfl⟩,rfl⟩
 have hnh:∀k,(k=r0∨k=r1∨k<D.w.heap.size)→¬D1.held k:=fun k hk hh=>by
  obtain⟨b,blk,hb,hbm,hlb⟩:=hheld1 k hh
  rcases hk with rfl|rfl|hk
  ·exact hsC.apart 0 _ b blk k b0 hbm (fun e=>by subst e;revert hb;decide) (by rw[g0];rfl) hlb
  ·exact hsC.apart 1 _ b blk k b1 hbm (fun e=>by subst e;revert hb;decide) (by rw[g1];rfl) hlb
  ·have:=hCnew k ⟨b,blk,hbm,hlb⟩
   omega
 have hDC:=hX.size
 have hP:=Aw ht hf n T K 0 0 [] ()
 dsimp only at hP
 rcases hy with⟨c,p,hpr,rfl⟩|⟨z,a',d',A',hpr,hok,rfl⟩
 ·rw[hpr]at hP
  refine Dw e2 e3 e5 hr.size hr.defers n01 (c:=c) (p:=p) (x:=c0) (y:=a0) ?_
  have hc:=iP Kj (hP D1 _ hg1 hm1 hs1 hv1)
  rw[hw1]at hc
  refine Calls.mono hc fun e w' hR=>?_
  cases e with
  |returned u=>obtain⟨v,D',e1,_⟩:=hR;cases e1
  |outgrown=>exact hR.elim
  |panicked ch=>
   obtain⟨v,e1,u,T',rfl,hu,_,hE⟩:=hR
   simp only[Out.panic.injEq]at e1
   subst e1
   have hu:=zS hu
   subst hu
   have hold:∀k,k<C.w.heap.size→¬D1.held k→w'.heap[k]? =C.w.heap[k]? :=fun k hk hn=>by
    have:=hE.old k (by rw[hw1];exact hk) hn
    rw[hw1]at this;exact this
   have hsz:C.w.heap.size≤w'.heap.size:=by have:=hE.size;rw[hw1]at this;exact this
   refine⟨rfl,(hold r0 l0 (hnh r0 (.inl rfl))).trans k0,(hold r1 l1 (hnh r1 (.inr (.inl rfl)))).trans k1,fun w'' hcg=>?_⟩
   refine uc hm hs (by have:=hcg.size;omega) (fun k hk=>?_) (hcg.os.trans (hE.os.trans (by rw[hw1];exact hX.os))) (hcg.tape.trans (hE.tape.trans (by rw[hw1];exact hX.tape))) (hcg.output.trans (hE.output.trans (by rw[hw1];exact hX.output))) ?_ rfl
   ·rw[hcg.old k (by omega) (by omega) (by omega),hold k (by omega) (hnh k (.inr (.inr hk))),hCold k hk]
   ·exact⟨_,rfl,_,_,rfl,⟨_,rfl,_,_,rfl,⟨none,0,rfl,Nat.le_refl _,fun i x hi=>by cases hi⟩,_,_,rfl,rfl,rfl⟩,_,_,rfl,⟨_,rfl,_,_,rfl,rfl,_,_,rfl,rfl,rfl⟩,rfl⟩
 ·rw[hpr]at hP
  refine OB e2 e3 e5 hr.size hr.defers n01 (x:=c0) (y:=a0) ?_
  have hc:=iP Kj (hP D1 _ hg1 hm1 hs1 hv1)
  rw[hw1]at hc
  refine Calls.mono hc fun e w' hR=>?_
  cases e with
  |panicked ch=>obtain⟨v,e1,_⟩:=hR;cases e1
  |outgrown=>exact hR.elim
  |returned u=>
   obtain⟨v,D2,_,hw2,hm2,hs2,hX2,_,_,_⟩:=hR
   refine⟨⟨u,rfl⟩,?_⟩
   obtain⟨q1,_⟩:=hX2.cells 0 72 _ (by rw[hm1];rfl)
   have hv2:aC D2 [.ref 0 4] [.pointer (some ⟨r2,4,none⟩)]:=⟨_,[],rfl,⟨r2,72,_,by rw[hm2];rfl,q1.trans hphi1,rfl⟩,rfl⟩
   have hc2:=iP N7 (Ed (G:=G) T K a' d' A' hok D2 _ (hX2.glEq.trans hg1) hm2 hs2 hv2)
   rw[hw2]at hc2
   refine Calls.mono hc2 fun e w'' hR=>?_
   cases e with
   |panicked ch=>obtain⟨v,e1,_⟩:=hR;cases e1
   |outgrown=>exact hR.elim
   |returned u2=>
    obtain⟨v2,D3,e1,hw3,hm3,hs3,hX3,hu2,_,_⟩:=hR
    simp only[Out.ret.injEq]at e1
    subst e1
    obtain⟨vs,rfl,hl2⟩:=hu2
    obtain⟨x1,rr,hvs,hx1,x2,rr2,rfl,hx2,hrr⟩:=hl2
    simp only[aD]at hx2
    simp only[aC]at hrr
    subst hx2 hrr
    obtain⟨ad,cap,hx1e,hcap,hel⟩:=hx1
    simp only[List.cons.injEq,and_true]at hx1e
    subst hx1e
    have hold:∀k,k<C.w.heap.size→¬D1.held k→w''.heap[k]? =C.w.heap[k]? :=fun k hk hn=>by
     have h1:=hX2.old k (by rw[hw1];exact hk) hn
     have hsz2:D1.w.heap.size≤D2.w.heap.size:=hX2.size
     have h2:=hX3.old k (by rw[hw1]at hsz2;omega) (fun hh=>by
      rcases hX2.held k hh with hh|hh
      ·exact hn hh
      ·rw[hw1]at hh;omega)
     rw[←hw3,h2,h1,hw1]
    have hsz:C.w.heap.size≤w''.heap.size:=by
     have h1:=hX2.size
     have h2:=hX3.size
     rw[hw1]at h1
     rw[hw3]at h2
     omega
    refine⟨ad,_,cap,_,by rw[show vs= #[.slice ad _ cap,.int .i64 _]from by rw[←Array.toList_inj];exact hvs],(hold r0 l0 (hnh r0 (.inl rfl))).trans k0,(hold r1 l1 (hnh r1 (.inr (.inl rfl)))).trans k1,fun w3 j0 j1 js jo jos jt jp=>?_⟩
    have hos:w''.os=D.w.os:=by rw[←hw3,hX3.os,hX2.os,hw1,hX.os]
    have htp:w''.tape=D.w.tape:=by rw[←hw3,hX3.tape,hX2.tape,hw1,hX.tape]
    have hou:w''.output=D.w.output:=by rw[←hw3,hX3.output,hX2.output,hw1,hX.output]
    refine uc hm hs (by omega) (fun k hk=>?_) (jos.trans hos) (jt.trans htp) (jp.trans hou) ?_ rfl
    ·rw[jo k (by omega) (by omega),hold k (by omega) (hnh k (.inr (.inr hk))),hCold k hk]
    ·have hkeep:zx D3.w D3.T w3 (Ctx.T ⟨w3,aL (aB 0 []),D.φ,D.fr,D.gl⟩):=fun k o x hx hT=>by
      have hfr3:D3.fr=fr:=hX3.frEq.trans (hX2.frEq.trans hfr1)
      have hnk:k≠r0∧k≠r1:=⟨fun e=>hT (.inl (by rw[hfr3];exact .inr (.inl e))),fun e=>hT (.inl (by rw[hfr3];exact .inr (.inr e)))⟩
      refine⟨?_,fun hh=>?_⟩
      ·rw[World.cell?_of_block (w:=D3.w) (a:=⟨k,o,none⟩) ((jo k hnk.1 hnk.2).trans (by rw[hw3]))]
       exact hx
      ·rcases hh with hh|⟨id,b,hb,_⟩
       ·exact hT (.inl (by rw[hfr3];exact .inl (by rw[hX.frEq];exact hh)))
       ·cases hb
     have hrep:Rep D3.w D3.T (.slice aE) A' [.slice ad (List.length A') cap]:=⟨ad,cap,rfl,hcap,hel⟩
     have:=hrep.mono hkeep
     exact⟨_,rfl,_,_,rfl,⟨_,rfl,_,_,rfl,this,_,_,rfl,rfl,rfl⟩,_,_,rfl,⟨_,rfl,_,_,rfl,rfl,_,_,rfl,rfl,rfl⟩,rfl⟩
end Go.Sx.Tryz
namespace Go.Sx.Tryz
open Go Go.Sx Go.Proofs
open Go.RowKit
set_option maxRecDepth 100000
structure FltAt(w:World):Prop where
 opt:w.cell? ⟨15,0,none⟩=some (.bool true)
 mb:w.cell? ⟨16,0,none⟩=some (.int .u64 52)
 pw:∃a n c,w.cell? ⟨19,0,none⟩=some (.slice (some a) n c)∧16≤n∧∀i:Nat,i<15→w.cell? (a.add i)=some (.float .f64 (ik.getD i 0))
theorem Km(f:Ieee.Format){r:Nat}(hr:r≤f.infRung):(∃s n p,f.read r= .number s n p)∨∃s,f.read r= .infinity s:=by
 unfold Ieee.Format.read
 have hlt:r<f.signWeight:=Nat.lt_of_le_of_lt hr f.infRung_lt
 rw[Nat.mod_eq_of_lt hlt]
 dsimp only
 split
 ·exact .inl ⟨_,_,_,rfl⟩
 ·split
  ·exact .inl ⟨_,_,_,rfl⟩
  ·split
   ·exact .inr ⟨_,rfl⟩
   ·omega
theorem AF(f:Ieee.Format)(m:Nat)(p:Int):f.nearest false m p≤f.infRung:=by
 unfold Ieee.Format.nearest Ieee.Format.word
 dsimp only
 split
 ·exact Nat.zero_le _
 ·exact Nat.min_le_right _ _
theorem vW(m:Nat):(∃s n p,Ieee.double.read (FloatKind.f64.nearest (m:Int))= .number s n p)∨∃s,Ieee.double.read (FloatKind.f64.nearest (m:Int))= .infinity s:=by
 refine Km _ ?_
 show Ieee.double.nearest (decide ((m:Int)<0)) (m:Int).natAbs 0≤_
 have hn:decide ((m:Int)<0)=false:=decide_eq_false (by omega)
 rw[hn]
 exact AF _ _ _
theorem yC(m k:Nat)(hk:k<15):∃r,Ieee.double.div (FloatKind.f64.nearest (m:Int)) (ik.getD k 0)=some r:=by
 have hp:∃t n j,Ieee.double.read (ik.getD k 0)= .number t (n+1) j:=by
  have:∀k,k<15→(match Ieee.double.read (ik.getD k 0)with| .number _ n _=>n !=0|_=>false)=true:=by decide
  have:=this k hk
  split at this
  ·rename_i t n j e
   cases n with
   |zero=>cases this
   |succ n=>exact⟨t,n,j,e⟩
  ·cases this
 obtain⟨t,n,j,hp⟩:=hp
 unfold Ieee.Format.div
 rw[hp]
 rcases vW m with⟨s,q,p,h⟩|⟨s,h⟩
 ·rw[h]
  exact⟨_,rfl⟩
 ·rw[h]
  exact⟨_,rfl⟩
theorem w182(b:Bool)(w:World):Calls Tryz.prog 182 #[.bool b] w fun e w'=>e= .returned (.int .u64 (bif b then 1 else 0))∧w'=w:=by
 go_enter Tryz.func182,Tryz.ntmps182
 cases b
 all_goals
  go_wp2
  simp[bodyPost,Tryz.results182,results,go_sem,Exit.then]
theorem w152(b:Nat)(w:World):Calls Tryz.prog 152 #[.float .f64 b] w fun e w'=>e= .returned (.bool (Ieee.double.order b b !=some .eq))∧w'=w:=by
 go_enter Tryz.func152,Tryz.ntmps152
 have hc:(binOp .neq 184 (.float .f64 b) (.float .f64 b)).run Tryz.prog w= .ok (.bool (Ieee.double.order b b !=some .eq)) w:=rfl
 apply wp_seq
 apply wp_region
 simp[wpOps,Oper.wp,go_sem,hc]
 repeat refine .inl ?_
 apply wp_seq
 apply wp_region
 simp[wpOps,Oper.wp,go_sem,hc]
 repeat refine .inl ?_
 refine wp_ret ?_
 simp[bodyPost,Tryz.results152,results,go_sem,Exit.then]
 rfl
theorem c147(b:Nat)(w:World):(callFunc 147 #[.float .f64 b]).run Tryz.prog w= .ok (.value (.int .u64 b)) w:=by
 rw[run_callFunc_extern Tryz.func147 (by kernel_rfl) (by kernel_rfl) (by kernel_rfl) (e:=Extern.MathFloatBits.float64bits) (by kernel_rfl)]
 rfl
theorem c153(b:Nat)(w:World):(callFunc 153 #[.int .u64 b]).run Tryz.prog w= .ok (.value (.float .f64 b)) w:=by
 rw[run_callFunc_extern Tryz.func153 (by kernel_rfl) (by kernel_rfl) (by kernel_rfl) (e:=Extern.MathFloatBits.float64frombits) (by kernel_rfl)]
 rfl
set_option maxHeartbeats 1000000 in
theorem w146(b:Nat)(w:World):Calls Tryz.prog 146 #[.int .u64 b] w fun e w'=>e= .returned (.int .u64 (lQ b))∧w'=w:=by
 go_enter Tryz.func146,Tryz.ntmps146
 apply wp_seq
 apply wp_region
 simp[wpOps,Oper.wp,go_sem]
 repeat refine .inl ?_
 apply wp_seq
 apply wp_seq
 apply wp_region
 simp[wpOps,Oper.wp,go_sem,c153]
 repeat refine .inl ?_
 refine Calls.mono (w152 b w) ?_
 rintro e w' ⟨rfl,rfl⟩
 simp only[Exit.then]
 cases h:(Ieee.double.order b b==some .eq)with
 |false=>
  refine wp_cond_true (by simp[Act.eval,bne,h]) ?_
  apply wp_seq
  apply wp_region
  simp[wpOps,Oper.wp,go_sem]
  repeat refine .inl ?_
  refine wp_ret ?_
  simp[bodyPost,Tryz.results146,results,go_sem,Exit.then,lQ,h]
 |true=>
  refine wp_cond_false (by simp[Act.eval,bne,h]) (wp_skip ?_)
  simp only[Exit.then]
  apply wp_seq
  apply wp_region
  simp[wpOps,Oper.wp,go_sem]
  repeat refine .inl ?_
  refine wp_ret ?_
  simp[bodyPost,Tryz.results146,results,go_sem,Exit.then,lQ,h]
set_option maxHeartbeats 4000000 in
theorem w184(m k:Nat)(hm:m<4503599627370496)(k0:1≤k)(k1:k<15)(w:World)(hw:FltAt w){r:Nat}(hr:Ieee.double.div (FloatKind.f64.nearest (m:Int)) (ik.getD k 0)=some r):
  Calls Tryz.prog 184 #[.int .u64 m,.int .i64 (-(k:Int)),.bool false] w fun e w'=>e= .returned (.tuple #[.float .f64 r,.bool true])∧w'=w:=by
 obtain⟨pa,pn,pc,hp,pn16,hpw⟩:=hw.pw
 have hmb:=hw.mb
 go_enter Tryz.func184,Tryz.ntmps184
 have hcv:(convert 124 184 (.int .u64 m)).run Tryz.prog w= .ok (.float .f64 (FloatKind.f64.nearest (m:Int))) w:=by kernel_rfl
 have hsh:(binOp .shr 124 (.int .u64 (m:Int)) (.int .u64 52)).run Tryz.prog w= .ok (.int .u64 0) w:=by
  show(Op.shift .shr .u64 (m:Int) .u64 52).run Tryz.prog w=_
  have:(m:Int).fdiv (2^52)=0:=by
   rw[Int.fdiv_eq_ediv_of_nonneg _ (by decide)]
   exact Int.ediv_eq_zero_of_lt (by omega) (by omega)
  exact congrArg (fun z=>Result.ok (Value.int .u64 z) w) this
 have hq:(binOp .quo 184 (.float .f64 (FloatKind.f64.nearest (m:Int))) (.float .f64 (ik[k]?.getD 0))).run Tryz.prog w= .ok (.float .f64 r) w:=run_float_arith (P:=Tryz.prog) (w:=w) .quo 184 .f64 _ _ r (by rw[←List.getD_eq_getElem?_getD];exact hr)
 go_wp2
 simp[bodyPost,Tryz.results184,results,go_sem,Exit.then,Exit.inBlock]
end Go.Sx.Tryz
namespace Go.Sx.Tryz
open Go Go.Sx Go.Proofs
open Go.RowKit
set_option maxRecDepth 100000
variable{G:Nat→Obj→Prop}
def lz(f:Nat)(g:List AV→Bool×AV):aY:=fun R args bs k=>match bs with
 |[]=>(match(g args).1 with
  |true=>k (.ret (g args).2,[])
  |false=>.err f)
 |_=>.err f
theorem ju{P:Program}{f:Nat}{g:List AV→Bool×AV}(h:∀args,(g args).1=true→SA P G f args [] (.ret (g args).2,[])):aR P G f (lz f g):=fun R args bs k r hr=>by
 unfold lz at hr
 split at hr
 ·split at hr
  ·rename_i hy
   exact⟨_,hr,h _ hy⟩
  ·cases hr
 ·cases hr
def flA(s:List UInt8):List UInt8:=s.takeWhile fun c=>c !=46
def flB(s:List UInt8):List UInt8:=s.drop ((flA s).length+1)
def okF(s:List UInt8):Bool:=Nat.blt (flA s).length s.length&&(dQ (flA s)&&(dQ (flB s)&&(!(decide (1<(flA s).length)&&at8 (flA s) 0==48)&&Nat.ble ((flA s).length+(flB s).length) 15)))
def g173:List AV→Bool×AV
 |[.str s]=>(okF s,.tup [.flt .f64 0,.int .i64 0,.bool false])
 |_=>(false,.nili)
def g174:List AV→Bool×AV
 |[.str s]=>(okF s,.tup [.int .u64 (bz (flA s++flB s):Nat),.int .i64 (bif bz (flA s++flB s)==0 then 0 else-((flB s).length:Int)),.bool false,.bool false,.bool false,.int .i64 s.length,.bool true])
 |_=>(false,.nili)
def kj(s:List UInt8):Nat:=bif bz (flA s++flB s)==0 then 0 else match Ieee.double.div (FloatKind.f64.nearest (bz (flA s++flB s):Int)) (ik.getD (flB s).length 0)with
 |some r=>r
 |none=>0
def Ko:List AV→Bool×AV
 |[.str s]=>(okF s,.tup [.flt .f64 (kj s),.int .i64 s.length,.nili])
 |_=>(false,.nili)
def Ot:List AV→Bool×AV
 |[.str s,.int .i64 n]=>(okF s&&(n==64),.tup [.flt .f64 (kj s),.int .i64 s.length,.nili])
 |_=>(false,.nili)
def Ds:List AV→Bool×AV
 |[.str s,.int .i64 n]=>(okF s&&(n==64),.tup [.flt .f64 (kj s),.nili])
 |_=>(false,.nili)
def Pw:List AV→Bool×AV
 |[.flt .f64 b]=>(true,.int .u64 b)
 |_=>(false,.nili)
def Oi:List AV→Bool×AV
 |[.int .u64 b]=>(decide (0≤b),.int .u64 (lQ b.toNat))
 |_=>(false,.nili)
def Of:List (Nat×aY):=[(168,lz 168 Ko)]
def Oz:List (Nat×aY):=[(160,lz 160 Ot)]
def Pu:List (Nat×aY):=[(151,lz 151 Ds)]
def og:List (Nat×aY):=[(143,cm 143 cK dd dZ Jb),(145,lz 145 Ds),(147,lz 147 Pw),(146,lz 146 Oi)]
def sf:List Cut:=[⟨[true,false,true,false,false],some ⟨[(0,[]),(10,[]),(11,[])],[]⟩⟩]
def B0(s:List UInt8)(i:Int):St:=⟨[(0,.str s),(10,.int .i64 s.length),(11,.int .i64 i)],[],0⟩
end Go.Sx.Tryz
namespace Go.Sx.Tryz
open Go Go.Sx
set_option maxRecDepth 100000
theorem Kq(s:List UInt8):body (R:=R0) E (ao []) G8 [.str s] [] .ok=bif (↑(List.length s):Int)==0 then Rs.ok (Out.ret (AV.tup [AV.flt FloatKind.f64 0,Iz 0,AV.bool false]),[])else bif inI 0 (List.length s)then bif (↑(UInt8.toNat (List.getD s (Int.toNat 0) 0)):Int)==43 then bif (↑(UInt8.toNat (List.getD s (Int.toNat 0) 0)):Int)==43 then bif inI 0 (List.length s)then bif (↑(UInt8.toNat (List.getD s (Int.toNat 0) 0)):Int)==45 then bif inB 1 (↑(List.length s):Int) (List.length s)then Rs.err 4000187 else Rs.err 1501 else bif inB 1 (↑(List.length s):Int) (List.length s)then Rs.err 4000187 else Rs.err 1501 else Rs.err 1201 else bif (↑(UInt8.toNat (List.getD s (Int.toNat 0) 0)):Int)==105 then bif (↑(UInt8.toNat (List.getD s (Int.toNat 0) 0)):Int)==105 then Rs.err 4000187 else bif (↑(UInt8.toNat (List.getD s (Int.toNat 0) 0)):Int)==110 then bif (↑(UInt8.toNat (List.getD s (Int.toNat 0) 0)):Int)==110 then Rs.err 4000187 else Rs.ok (Out.ret (AV.tup [AV.flt FloatKind.f64 0,Iz 0,AV.bool false]),[])else bif (↑(UInt8.toNat (List.getD s (Int.toNat 0) 0)):Int)==78 then Rs.err 4000187 else Rs.ok (Out.ret (AV.tup [AV.flt FloatKind.f64 0,Iz 0,AV.bool false]),[])else bif (↑(UInt8.toNat (List.getD s (Int.toNat 0) 0)):Int)==73 then Rs.err 4000187 else bif (↑(UInt8.toNat (List.getD s (Int.toNat 0) 0)):Int)==110 then bif (↑(UInt8.toNat (List.getD s (Int.toNat 0) 0)):Int)==110 then Rs.err 4000187 else Rs.ok (Out.ret (AV.tup [AV.flt FloatKind.f64 0,Iz 0,AV.bool false]),[])else bif (↑(UInt8.toNat (List.getD s (Int.toNat 0) 0)):Int)==78 then Rs.err 4000187 else Rs.ok (Out.ret (AV.tup [AV.flt FloatKind.f64 0,Iz 0,AV.bool false]),[])else bif (↑(UInt8.toNat (List.getD s (Int.toNat 0) 0)):Int)==45 then bif inI 0 (List.length s)then bif (↑(UInt8.toNat (List.getD s (Int.toNat 0) 0)):Int)==45 then bif inB 1 (↑(List.length s):Int) (List.length s)then Rs.err 4000187 else Rs.err 1501 else bif inB 1 (↑(List.length s):Int) (List.length s)then Rs.err 4000187 else Rs.err 1501 else Rs.err 1201 else bif (↑(UInt8.toNat (List.getD s (Int.toNat 0) 0)):Int)==105 then bif (↑(UInt8.toNat (List.getD s (Int.toNat 0) 0)):Int)==105 then Rs.err 4000187 else bif (↑(UInt8.toNat (List.getD s (Int.toNat 0) 0)):Int)==110 then bif (↑(UInt8.toNat (List.getD s (Int.toNat 0) 0)):Int)==110 then Rs.err 4000187 else Rs.ok (Out.ret (AV.tup [AV.flt FloatKind.f64 0,Iz 0,AV.bool false]),[])else bif (↑(UInt8.toNat (List.getD s (Int.toNat 0) 0)):Int)==78 then Rs.err 4000187 else Rs.ok (Out.ret (AV.tup [AV.flt FloatKind.f64 0,Iz 0,AV.bool false]),[])else bif (↑(UInt8.toNat (List.getD s (Int.toNat 0) 0)):Int)==73 then Rs.err 4000187 else bif (↑(UInt8.toNat (List.getD s (Int.toNat 0) 0)):Int)==110 then bif (↑(UInt8.toNat (List.getD s (Int.toNat 0) 0)):Int)==110 then Rs.err 4000187 else Rs.ok (Out.ret (AV.tup [AV.flt FloatKind.f64 0,Iz 0,AV.bool false]),[])else bif (↑(UInt8.toNat (List.getD s (Int.toNat 0) 0)):Int)==78 then Rs.err 4000187 else Rs.ok (Out.ret (AV.tup [AV.flt FloatKind.f64 0,Iz 0,AV.bool false]),[])else Rs.err 501:=by kernel_rfl
theorem KH(s:List UInt8)(n:Int):body (R:=R0) E (ao Of) MP [.str s,.int .i64 n] [] .ok=bif n==32 then Rs.err 4000167 else bif okF s then Rs.ok (Out.ret (AV.tup [AV.flt FloatKind.f64 (kj s),Iz (↑(List.length s):Int),AV.nili]),[])else Rs.err 168:=by kernel_rfl
theorem JX(s:List UInt8)(n:Int):body (R:=R0) E (ao Oz) MD [.str s,.int .i64 n] [] .ok=bif okF s&&n==64 then bif (↑(List.length s):Int) !=(↑(List.length s):Int)then Rs.ok (Out.ret (AV.tup [AV.flt FloatKind.f64 0,AV.iface 192 (Iz ((2:Int)))]),[])else Rs.ok (Out.ret (AV.tup [AV.flt FloatKind.f64 (kj s),AV.nili]),[])else Rs.err 160:=by kernel_rfl
theorem Ll(s:List UInt8)(n:Int):body (R:=R0) E (ao Pu) Mj [.str s,.int .i64 n] [] .ok=bif okF s&&n==64 then Rs.ok (Out.ret (AV.tup [AV.flt FloatKind.f64 (kj s),AV.nili]),[])else Rs.err 151:=by kernel_rfl
theorem JA(J:Jump R0)(s:List UInt8):start (R:=R0) E (ao og) pV sf J [.str s] [] .ok=J 0 {tmps:=[(0,AV.str s),(10,Iz (↑(List.length s):Int)),(11,Iz 0)],blks:=[],next:=0}:=by kernel_rfl
theorem Cf(J:Jump R0)(s:List UInt8)(i:Int):resume (R:=R0) E (ao og) (aT 0 sf 0) J [true,false,true,false,false] pV.code 1 (B0 s i) (bY E 0 pV.results .ok)=bif decide (i<(↑(List.length s):Int))then bif inI i (List.length s)then bif (↑(UInt8.toNat (List.getD s (Int.toNat i) 0)):Int) !=46 then J 0 {tmps:=[(0,AV.str s),(10,Iz (↑(List.length s):Int)),(11,Iz (IntKind.wrap IntKind.i64 (i+1)))],blks:=[],next:=0}else bif inB 0 i (List.length s)then bif inB (IntKind.wrap IntKind.i64 (i+1)) (↑(List.length s):Int) (List.length s)then bif dZ (List.drop (Int.toNat 0) (List.take (Int.toNat i) s),())then bif !dQ (List.drop (Int.toNat 0) (List.take (Int.toNat i) s))then Rs.ok (Out.ret (AV.tup [AV.int IntKind.u64 0,Iz ((5:Int))]),[])else bif dZ (List.drop (Int.toNat (IntKind.wrap IntKind.i64 (i+1))) (List.take (Int.toNat (↑(List.length s):Int)) s),())then bif !dQ (List.drop (Int.toNat (IntKind.wrap IntKind.i64 (i+1))) (List.take (Int.toNat (↑(List.length s):Int)) s))then Rs.ok (Out.ret (AV.tup [AV.int IntKind.u64 0,Iz ((5:Int))]),[])else bif decide ((↑(List.length (List.drop (Int.toNat 0) (List.take (Int.toNat i) s))):Int)>1)then bif inI 0 (List.length (List.drop (Int.toNat 0) (List.take (Int.toNat i) s)))then bif (↑(UInt8.toNat (List.getD (List.drop (Int.toNat 0) (List.take (Int.toNat i) s)) (Int.toNat 0) 0)):Int)==48 then Rs.ok (Out.ret (AV.tup [AV.int IntKind.u64 0,Iz ((5:Int))]),[])else bif decide (IntKind.wrap IntKind.i64 ((↑(List.length (List.drop (Int.toNat 0) (List.take (Int.toNat i) s))):Int)+(↑(List.length (List.drop (Int.toNat (IntKind.wrap IntKind.i64 (i+1))) (List.take (Int.toNat (↑(List.length s):Int)) s))):Int))>15)then Rs.ok (Out.ret (AV.tup [AV.int IntKind.u64 0,Iz ((2:Int))]),[])else bif okF s&&64==64 then Rs.ok (Out.ret (AV.tup [AV.int IntKind.u64 (↑(lQ (Int.toNat (↑(kj s):Int))):Int),Iz 0]),[])else Rs.err 145 else Rs.err 614 else bif decide (IntKind.wrap IntKind.i64 ((↑(List.length (List.drop (Int.toNat 0) (List.take (Int.toNat i) s))):Int)+(↑(List.length (List.drop (Int.toNat (IntKind.wrap IntKind.i64 (i+1))) (List.take (Int.toNat (↑(List.length s):Int)) s))):Int))>15)then Rs.ok (Out.ret (AV.tup [AV.int IntKind.u64 0,Iz ((2:Int))]),[])else bif okF s&&64==64 then Rs.ok (Out.ret (AV.tup [AV.int IntKind.u64 (↑(lQ (Int.toNat (↑(kj s):Int))):Int),Iz 0]),[])else Rs.err 145 else Rs.err 3000143 else Rs.err 3000143 else Rs.err 506 else Rs.err 502 else Rs.err 402 else Rs.ok (Out.ret (AV.tup [AV.int IntKind.u64 0,Iz ((5:Int))]),[]):=by kernel_rfl
end Go.Sx.Tryz
namespace Go.Sx.Tryz
open Go Go.Sx Go.Proofs
open Go.RowKit
set_option maxRecDepth 100000
variable{G:Nat→Obj→Prop}
theorem VF:FIOK Tryz.prog 145 Mj:=⟨⟨Tryz.f145,Tryz.func145,rfl,rfl,rfl,by kernel_rfl⟩,by kernel_rfl⟩
theorem UH:FIOK Tryz.prog 151 MD:=⟨⟨Tryz.f151,Tryz.func151,rfl,rfl,rfl,by kernel_rfl⟩,by kernel_rfl⟩
theorem U5:FIOK Tryz.prog 160 MP:=⟨⟨Tryz.f160,Tryz.func160,rfl,rfl,rfl,by kernel_rfl⟩,by kernel_rfl⟩
theorem U7:FIOK Tryz.prog 168 WA:=⟨⟨Tryz.f168,Tryz.func168,rfl,rfl,rfl,by kernel_rfl⟩,by kernel_rfl⟩
structure IsF(s a b:List UInt8):Prop where
 eq:s=a++46::b
 da:(a.all fun c=>aI c.toNat)=true
 db:(b.all fun c=>aI c.toNat)=true
 la:1≤a.length
 lb:1≤b.length
 lab:a.length+b.length≤15
 hz:1<a.length→at8 a 0≠48
theorem mS:∀(s:List UInt8),(flA s).length<s.length→s=flA s++46::flB s
 |[],h=>absurd h (Nat.not_lt_zero _)
 |c::r,h=>by
  unfold flB flA at*
  by_cases hc:c=46
  ·subst hc
   simp
  ·have hc':(c !=46)=true:=by simpa using hc
   rw[List.takeWhile_cons,hc']at h⊢
   simp only[if_true,List.length_cons]at h⊢
   have:=mS r (by unfold flA;omega)
   unfold flB flA at this
   rw[List.drop_succ_cons]
   exact congrArg (List.cons c) this
theorem wI{s:List UInt8}(h:okF s=true):IsF s (flA s) (flB s):=by
 unfold okF at h
 simp only[Bool.and_eq_true]at h
 obtain⟨h1,h2,h3,h4,h5⟩:=h
 unfold dQ at h2 h3
 simp only[Bool.and_eq_true]at h2 h3
 have hlt:(flA s).length<s.length:=by simpa [Nat.blt_eq]using h1
 exact⟨mS s hlt,h2.1,h3.1,by
   cases e:flA s with
   |nil=>rw[e]at h2;exact absurd h2.2 (by decide)
   |cons=>simp,by
   cases e:flB s with
   |nil=>rw[e]at h3;exact absurd h3.2 (by decide)
   |cons=>simp,Nat.le_of_ble_eq_true h5,fun hl he=>by
   rw[decide_eq_true hl,he]at h4
   exact absurd h4 (by decide)⟩
theorem w162(w:World):Calls Tryz.prog 162 #[.int .u8 46] w fun e w'=>e= .returned (.int .u8 46)∧w'=w:=by
 go_enter Tryz.func162,Tryz.ntmps162
 go_wp2
 simp[bodyPost,Tryz.results162,results,go_sem,Exit.then]
 decide
theorem LJ:aR Tryz.prog G 162 NI:=fun R args bs k r hr=>by
 unfold NI at hr
 split at hr
 ·rename_i c
  split at hr
  ·rename_i hc
   have hc:c=46:=by simpa using hc
   subst hc
   exact⟨_,hr,sD Ml (us:=[.int .u8 46]) rfl (fun _=>rfl) rfl fun D _ _=>Calls.mono (w162 D.w) fun e w' h=>⟨h.1,iE h.2 rfl⟩⟩
  ·cases hr
 ·cases hr
theorem Wz{s:List UInt8}(h:okF s=true):SA Tryz.prog G 174 [.str s] [] (.ret (g174 [.str s]).2,[]):=by
 have hf:=wI h
 have hr:=rdFloat hf.da hf.db hf.la hf.lb hf.lab hf.hz
 rw[←hf.eq]at hr
 exact bA (bo []) (aV (.cons LJ .nil)) Hh (.inl cH) hr
theorem Uy{s:List UInt8}(h:okF s=true):SA Tryz.prog G 173 [.str s] [] (.ret (g173 [.str s]).2,[]):=by
 have hf:=wI h
 have hb:=Kq s
 obtain⟨c,a',ha⟩:∃c a',flA s=c::a':=by
  cases e:flA s with
  |nil=>have:=hf.la;rw[e]at this;simp at this
  |cons c a'=>exact⟨c,a',rfl⟩
 have hda:=hf.da
 rw[ha,List.all_cons,Bool.and_eq_true]at hda
 obtain⟨c0,c1⟩:=gr hda.1
 have hs:=hf.eq
 rw[ha]at hs
 have h0:s.getD (Int.toNat 0) 0=c:=by rw[hs];rfl
 have hl:1≤s.length:=by rw[hs];simp
 have e0:((s.length:Int)==0)=false:=beq_eq_false_iff_ne.2 (by omega)
 have e1:inI 0 s.length=true:=by
  simp only[inI,Bool.and_eq_true,decide_eq_true_eq]
  omega
 have ne:∀n:Int,n<48∨57<n→((c.toNat:Int)==n)=false:=fun n hn=>by
  have:¬((c.toNat:Int)=n):=by omega
  simp[this]
 rw[h0,e0,e1,ne 43 (by omega),ne 45 (by omega),ne 105 (by omega),ne 73 (by omega),ne 110 (by omega),ne 78 (by omega)]at hb
 simp only[cond_true,cond_false]at hb
 exact b7 (bo []) (aV .nil) F0 hb
def ry(G:Nat→Obj→Prop):Prop:=∀D:Ctx,D.gl=G→SRel D→FltAt D.w
theorem c183(b:Nat)(w:World):(callFunc 183 #[.int .u64 b]).run Tryz.prog w= .ok (.value (.float .f64 b)) w:=by
 rw[run_callFunc_extern Tryz.func183 (by kernel_rfl) (by kernel_rfl) (by kernel_rfl) (e:=Extern.MathFloatBits.float64frombits) (by kernel_rfl)]
 rfl
theorem Av(l:List UInt8)(h:(l.all fun c=>aI c.toNat)=true):bz l<10^l.length:=by
 have key:∀(l:List UInt8) (m:Nat),(l.all fun c=>aI c.toNat)=true→l.foldl (fun m c=>m*10+(c.toNat-48)) m<(m+1)*10^l.length:=by
  intro l
  induction l with
  |nil=>intro m _;simp
  |cons x l ih=>
   intro m h
   rw[List.all_cons,Bool.and_eq_true]at h
   obtain⟨x0,x1⟩:=gr h.1
   have:=ih (m*10+(x.toNat-48)) h.2
   rw[List.foldl_cons,List.length_cons,Nat.pow_succ]
   refine Nat.lt_of_lt_of_le this ?_
   have h2:m*10+(x.toNat-48)+1≤(m+1)*10:=by omega
   calc(m*10+(x.toNat-48)+1)*10^l.length≤((m+1)*10)*10^l.length:=Nat.mul_le_mul_right _ h2
    _=(m+1)*(10^l.length*10):=by rw[Nat.mul_assoc,Nat.mul_comm 10]
 have h1:=key l 0 h
 rw[Nat.zero_add,Nat.one_mul]at h1
 exact h1
set_option maxHeartbeats 4000000 in
theorem RL(hft:ry G){s:List UInt8}(h:okF s=true):SA Tryz.prog G 168 [.str s] [] (.ret (Ko [.str s]).2,[]):=fun D vals hG hm hs hv=>by
 have hv:=ft (us:=[.string ⟨⟨s⟩⟩]) rfl hv
 subst hv
 refine .inl ⟨dP U7 _ _,?_⟩
 have k173:=iP F0 (Uy h D [.string ⟨⟨s⟩⟩] hG hm hs (mG rfl))
 go_enter Tryz.func168,Tryz.ntmps168
 apply wp_seq
 apply wp_region
 simp[wpOps,Oper.wp,go_sem]
 repeat refine .inl ?_
 apply wp_seq
 apply wp_seq
 apply wp_region
 simp[wpOps,Oper.wp,go_sem]
 repeat refine .inl ?_
 refine Calls.mono k173 ?_
 intro e w1 hR
 cases e with
 |outgrown=>exact absurd hR id
 |panicked ch=>obtain⟨v,e1,_⟩:=hR;cases e1
 |returned u=>
  obtain⟨v,D1,e1,e2,hm1,hs1,hX1,hv1,hp1,ho1⟩:=hR
  simp only[Out.ret.injEq]at e1
  subst e1
  subst e2
  obtain⟨us,rfl,hv1⟩:=hv1
  have hv1:=ft (us:=[.float .f64 0,.int .i64 0,.bool false]) rfl hv1
  have hu:us= #[.float .f64 0,.int .i64 0,.bool false]:=by rw[←Array.toList_inj];exact hv1
  subst hu
  have hG1:D1.gl=G:=hX1.glEq.trans hG
  have k174:=iP Hh (Wz h D1 [.string ⟨⟨s⟩⟩] hG1 hm1 hs1 (mG rfl))
  simp[wpOps,Oper.wp,go_sem,Exit.then]
  repeat refine .inl ?_
  apply wp_seq
  apply wp_region
  simp[wpOps,Oper.wp,go_sem,Exit.then]
  repeat refine .inl ?_
  refine wp_cond_false (by simp[Act.eval]) (wp_skip ?_)
  simp only[Exit.then]
  repeat apply wp_seq
  apply wp_region
  simp[wpOps,Oper.wp,go_sem]
  repeat refine .inl ?_
  refine Calls.mono k174 ?_
  intro e w2 hR
  cases e with
  |outgrown=>exact absurd hR id
  |panicked ch=>obtain⟨v,e1,_⟩:=hR;cases e1
  |returned u=>
   obtain⟨v,D2,e1,e2,hm2,hs2,hX2,hv2,hp2,ho2⟩:=hR
   simp only[Out.ret.injEq]at e1
   subst e1
   subst e2
   obtain⟨us,rfl,hv2⟩:=hv2
   generalize hM:bz (flA s++flB s)=M at*
   have hv2:=ft (us:=[.int .u64 (M:Nat),.int .i64 (bif M==0 then 0 else-((flB s).length:Int)),.bool false,.bool false,.bool false,.int .i64 s.length,.bool true]) (by rw[←hM];rfl) hv2
   have hu:us= #[.int .u64 (M:Nat),.int .i64 (bif M==0 then 0 else-((flB s).length:Int)),.bool false,.bool false,.bool false,.int .i64 s.length,.bool true]:=by rw[←Array.toList_inj];exact hv2
   subst hu
   have hG2:D2.gl=G:=hX2.glEq.trans hG1
   have hfa:=hft D2 hG2 hs2
   have hopt:=hfa.opt
   simp[wpOps,Oper.wp,go_sem,Exit.then]
   repeat refine .inl ?_
   clear hv1 hv2 k173 k174
   have hb182:∀w:World,(binOp .shl 124 (.int .u64 (bif false then 1 else 0)) (.int .u64 63)).run Tryz.prog w= .ok (.int .u64 0) w:=fun w=>by kernel_rfl
   have hX:=hX1.trans hX2
   have hlv:(Tryz.prog.underlying 4)=some .bool:=by kernel_rfl
   repeat apply wp_seq
   apply wp_region
   simp[wpOps,Oper.wp,go_sem,Exit.then]
   repeat refine .inl ?_
   refine wp_cond_false (by simp[Act.eval]) (wp_skip ?_)
   simp only[Exit.then]
   repeat apply wp_seq
   apply wp_region
   simp[wpOps,Oper.wp,go_sem,Exit.then]
   repeat refine .inl ?_
   refine wp_cond_false (by simp[Act.eval]) (wp_skip ?_)
   simp only[Exit.then]
   repeat apply wp_seq
   apply wp_region
   simp[wpOps,Oper.wp,go_sem,Exit.then]
   go_wp2
   repeat refine .inl ?_
   refine wp_cond_true (by simp[Act.eval]) ?_
   repeat apply wp_seq
   apply wp_region
   simp[wpOps,Oper.wp,go_sem,Exit.then]
   repeat refine .inl ?_
   refine Calls.mono (w182 false D2.w) ?_
   rintro e w3 ⟨rfl,rfl⟩
   simp[Oper.wp,go_sem,Exit.then]
   repeat refine .inl ?_
   repeat apply wp_seq
   apply wp_region
   simp[wpOps,Oper.wp,go_sem,Exit.then]
   repeat refine .inl ?_
   have hfM:=wI h
   by_cases h0:M=0
   ·subst h0
    have hraw:kj s=0:=by unfold kj;rw[hM];rfl
    refine wp_cond_true (by simp[Act.eval]) ?_
    repeat apply wp_seq
    apply wp_region
    simp[wpOps,Oper.wp,go_sem,c183 0,Exit.then]
    repeat refine .inl ?_
    refine wp_ret ?_
    simp[bodyPost,Tryz.results168,results,go_sem,Exit.then,Exit.inBlock]
    rw[show(bits BinOp.or IntKind.u64 (IntKind.u64.wrap 0) 0).toNat=0 by decide]
    refine⟨_,D2,rfl,rfl,hm2,hs2,hX,?_,rfl,rfl⟩
    show aD D2 (.tup [.flt .f64 (kj s),.int .i64 s.length,.nili]) _
    rw[hraw]
    exact⟨_,rfl,mG rfl⟩
   ·have hM0:(M==0)=false:=by simpa using h0
    obtain⟨r,hr⟩:=yC M (flB s).length (by have:=hfM.lab;have:=hfM.la;omega)
    have hraw:kj s=r:=by unfold kj;rw[hM,hM0,hr];rfl
    refine wp_cond_false (by simp[Act.eval,h0]) (wp_skip ?_)
    simp only[Exit.then]
    have hlen:=hfM.lab
    have hla:=hfM.la
    repeat apply wp_seq
    apply wp_region
    simp[wpOps,Oper.wp,go_sem,Exit.then]
    repeat refine .inl ?_
    refine wp_cond_false (by simp[Act.eval,hM0]<;>omega) (wp_skip ?_)
    simp only[Exit.then]
    repeat apply wp_seq
    apply wp_region
    simp[wpOps,Oper.wp,go_sem,Exit.then]
    repeat refine .inl ?_
    refine wp_cond_false (by simp[Act.eval,hM0]<;>omega) (wp_skip ?_)
    simp only[Exit.then]
    repeat apply wp_seq
    apply wp_region
    simp[wpOps,Oper.wp,go_sem,Exit.then]
    repeat refine .inl ?_
    refine wp_cond_true (by simp[Act.eval]) ?_
    repeat apply wp_seq
    apply wp_region
    simp[wpOps,Oper.wp,go_sem,Exit.then]
    repeat refine .inl ?_
    rw[hM0]
    simp only[cond_false]
    have hMlt:M<4503599627370496:=by
     have h1:=Av (flA s++flB s) (by rw[List.all_append,hfM.da,hfM.db];rfl)
     have h2:10^(flA s++flB s).length≤10^15:=Nat.pow_le_pow_right (by decide) (by rw[List.length_append];exact hfM.lab)
     rw[hM]at h1
     omega
    refine Calls.mono (w184 M _ hMlt hfM.lb (by omega) D2.w hfa hr) ?_
    rintro e w4 ⟨rfl,rfl⟩
    simp[Oper.wp,go_sem,Exit.then]
    repeat refine .inl ?_
    repeat apply wp_seq
    apply wp_region
    simp[wpOps,Oper.wp,go_sem,Exit.then]
    repeat refine .inl ?_
    refine wp_cond_true (by simp[Act.eval]) ?_
    repeat apply wp_seq
    apply wp_region
    simp[wpOps,Oper.wp,go_sem,Exit.then]
    repeat refine .inl ?_
    refine wp_ret ?_
    simp[bodyPost,Tryz.results168,results,go_sem,Exit.then,Exit.inBlock]
    refine⟨_,D2,rfl,rfl,hm2,hs2,hX,?_,rfl,rfl⟩
    show aD D2 (.tup [.flt .f64 (kj s),.int .i64 s.length,.nili]) _
    rw[hraw]
    exact⟨_,rfl,mG rfl⟩
end Go.Sx.Tryz
