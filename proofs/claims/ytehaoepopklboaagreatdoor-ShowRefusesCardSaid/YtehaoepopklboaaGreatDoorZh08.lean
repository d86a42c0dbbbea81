/- A part of the proof: see the row's text. -/
import Derived.Test.YtehaoepopklboaaGreatDoorZh07
import Derived.Test.YtehaoepopklboaaGreatDoorZh06
import Derived.ChangeBears
import Derived.ChangeReads
import Derived.DataReads
import Derived.ChangeArms
set_option linter.unusedVariables false
set_option linter.unusedSimpArgs false
noncomputable section
namespace Go.Sx
open Go
variable{G:Nat→Obj→Prop}{P:Program}{C:Ctx}
theorem PExt.gen{D:Ctx}{bs0:List Blk}(own1:∀k o,(Gen D bs0).own k o↔D.own k o)(held1:∀k,(Gen D bs0).held k↔D.held k){w':World}{T':Nat→Nat→Prop}(h:PExt (Gen D bs0) w' T'):PExt D w' T' where
 keep:=fun k o v h1 h2=>h.keep k o v h1 fun h3=>h2 (h3.imp id (own1 k o).1)
 frKeep:=h.frKeep
 size:=h.size
 old:=fun k hk hn=>h.old k hk fun h3=>hn ((held1 k).1 h3)
 os:=h.os
 tape:=h.tape
 output:=h.output
def dL(f:Nat)(g:aQ):aQ:=fun R args bs k=>
 match cZ (gV (aC (aq 0 bs)) (fun _=>0)) args,gBs (aC (aq 0 bs)) (fun _=>0) 0 bs,bs.all bH&&args.all bz with
 |some args0,some bs0,true=>g R args0 bs0 fun o=>match o with
  |(.ret v,l)=>(match gV (aC (aq 0 l)) (mI bs l) v,gBs (aC (aq 0 l)) (mI bs l) 0 l with
   |some v',some l'=>(match bz v'&&l'.all bH with
    |true=>k (.ret v',l')
    |false=>.err (7000000+f))
   |_,_=>.err (7000000+f))
  |(.panic v,_)=>k (.panic v,[])
 |_,_,_=>.err (7000000+f)
theorem cS{f:Nat}{g:aQ}(hI:aK P G f g):aK P G f (dL f g):=fun R args bs k r hr=>by
 unfold dL at hr
 split at hr
 ·rename_i args0 bs0 ha hb hck
  simp only[Bool.and_eq_true]at hck
  obtain⟨hok,hp⟩:=hck
  obtain⟨o,ho,hSA⟩:=hI R args0 bs0 _ r hr
  obtain⟨out,l⟩:=o
  cases out with
  |panic v=>
   simp only at ho
   refine⟨_,ho,fun D vals hG hm hs hv=>?_⟩
   rw[←hm]at ha hb
   obtain⟨s1,g1,own1,held1⟩:=ke hs hm hok hb
   have hA:=hSA (Gen D bs0) vals hG rfl s1 (g1.relVs ha hp hv)
   refine bx.mono (R:=bW (Gen D bs0) (.panic v,l)) hA fun e w' hR=>?_
   cases e with
   |returned u=>obtain⟨v2,D1,e1,_⟩:=hR;cases e1
   |panicked ch=>
    obtain⟨v2,e1,u,T',p1,p2,p3,p4⟩:=hR
    cases e1
    exact⟨_,rfl,u,T',p1,p2,p3,PExt.gen own1 held1 p4⟩
   |outgrown=>exact hR
  |ret v=>
   simp only at ho
   split at ho
   ·rename_i v' l' hv' hl'
    split at ho
    ·rename_i hck2
     simp only[Bool.and_eq_true]at hck2
     refine⟨_,ho,fun D vals hG hm hs hv=>?_⟩
     rw[←hm]at ha hb
     obtain⟨s1,g1,own1,held1⟩:=ke hs hm hok hb
     have hA:=hSA (Gen D bs0) vals hG rfl s1 (g1.relVs ha hp hv)
     refine bx.mono (R:=bW (Gen D bs0) (.ret v,l)) hA fun e w' hR=>?_
     cases e with
     |returned u=>
      obtain⟨v2,D1,e1,e2,e3,e4,e5,e6,e7,e8⟩:=hR
      simp only[Out.ret.injEq]at e1
      subst e1
      rw[←e3]at hv' hl'
      obtain⟨s2,g2,own2,held2⟩:=ke e4 e3 e8 hl'
      refine⟨v',Gen D1 l',rfl,e2,rfl,s2,?_,g2.relV hv' e7 e6,hck2.1,hck2.2⟩
      exact{
       cells:=fun i ty cs hi=>by
        obtain⟨k1,cs1,k2⟩:=g1.cells i ty cs hi
        obtain⟨k3,cs2,k4⟩:=e5.cells i ty cs1 k2
        obtain⟨k5,k6⟩:=g2.cells i ty cs2 k4
        exact⟨k5.trans (k3.trans k1),k6⟩
       lists:=fun i ee t gn sh L hi=>by
        obtain⟨k1,k2⟩:=g1.lists i ee t gn sh L hi
        obtain⟨gn2,sh2,L2,k3,k4,k5⟩:=e5.lists i _ _ _ _ _ k2
        obtain⟨k6,k7⟩:=g2.lists i _ _ _ _ _ k3
        have hq:mI bs l i=gn2+gn:=by
         unfold mI
         rw[←e3,←hm,k3,hi]
         rfl
        rw[hq]at k7
        refine⟨gn2+gn,sh2,L2,k7,by omega,fun e=>?_⟩
        have h0:0=gn2:=by omega
        exact⟨k6.trans ((k5 h0).1.trans k1),(k5 h0).2⟩
       keep:=fun kk oo x h1 h2=>by
        obtain⟨h3,h4⟩:=g1.keep kk oo x h1 h2
        obtain⟨h5,h6⟩:=e5.keep kk oo x h3 h4
        exact g2.keep kk oo x h5 h6
       frEq:=e5.frEq
       glEq:=e5.glEq
       frKeep:=e5.frKeep
       size:=e5.size
       old:=fun kk hk hh=>e5.old kk hk fun h=>hh ((held1 kk).1 h)
       held:=fun kk h=>((e5.held kk ((held2 kk).1 h)).imp (held1 kk).1 id)
       own:=fun kk oo h=>((e5.own kk oo ((own2 kk oo).1 h)).imp (own1 kk oo).1 id)
       os:=e5.os
       tape:=e5.tape
       output:=e5.output}
     |panicked ch=>obtain⟨v2,e1,_⟩:=hR;cases e1
     |outgrown=>exact hR
    ·cases ho
   ·cases ho
 ·cases hr
def AB(f:Nat)(g:aQ):aQ:=fun R args bs k=>
 eZ (fun R' f' a b k'=>g R' a b k') f args (aC (aq 0 bs)) bs.length fun out wr _=>match out with
  | .panic v=>k (.panic v,[])
  | .ret v=>(match getAll (aC (ct (aq 0 bs) wr)) (List.range (bs.length+(wr.filter fun p=>Nat.ble bs.length p.1).length)),wr.all (fun p=>Nat.blt p.1 (bs.length+(wr.filter fun p=>Nat.ble bs.length p.1).length))with
   |some l,true=>(match bz v&&l.all bH with
    |true=>k (.ret v,l)
    |false=>.err (7200000+f))
   |_,_=>.err (7200000+f))
theorem mz:∀(wr:Wr) (bs:gU),aC (ct bs wr)=aG (aC bs) wr
 |[],_=>rfl
 |(i,b)::r,bs=>by
  simp only[ct,aG]
  rw[mz r]
  congr 1
  funext j
  simp only[aC,eI]
  by_cases h:i=j
  ·subst h;simp
  ·have:Nat.beq i j=false:=by
    cases e:Nat.beq i j
    ·rfl
    ·exact absurd (beq_eq e) h
   rw[this]
   simp[Ne.symm h]
theorem sc{f:Nat}{g:aQ}(hI:aK P G f g):aK P G f (AB f g):=fun R args bs k r hr=>by
 have hK:KOK P G (fun R' f' a b k'=>match Nat.beq f' f with|true=>g R' a b k'|false=>.err 0):=fun R' f' a b k' r' h=>by
  simp only at h
  split at h
  ·rename_i e
   have e:=beq_eq e
   subst e
   exact hI R' a b k' r' h
  ·cases h
 have hr:eZ (fun R' f' a b k'=>match Nat.beq f' f with|true=>g R' a b k'|false=>.err 0) f args (aC (aq 0 bs)) bs.length (fun out wr _=>match out with
  | .panic v=>k (.panic v,[])
  | .ret v=>(match getAll (aC (ct (aq 0 bs) wr)) (List.range (bs.length+(wr.filter fun p=>Nat.ble bs.length p.1).length)),wr.all (fun p=>Nat.blt p.1 (bs.length+(wr.filter fun p=>Nat.ble bs.length p.1).length))with
   |some l,true=>(match bz v&&l.all bH with
    |true=>k (.ret v,l)
    |false=>.err (7200000+f))
   |_,_=>.err (7200000+f)))= .ok r:=by
  unfold eZ
  simp only[Nat.beq_refl]
  exact hr
 obtain⟨out,wr,rd,h1,h2⟩:=lR hK hr
 cases out with
 |panic v=>
  refine⟨_,h1,fun D vals hG hm hs hv=>?_⟩
  rw[←hm]at h2
  have hA:=dr hG hs hv (base:=bs.length) (fun j hj _=>by
   rw[hm,aI]
   simp only[Nat.zero_le,if_true,Nat.sub_zero]
   exact List.getElem?_eq_none hj) h2
  refine bx.mono hA fun e w' hR=>?_
  cases e with
  |returned u=>obtain⟨v2,D1,e1,_⟩:=hR;cases e1
  |panicked ch=>
   obtain⟨v2,e1,e2⟩:=hR
   cases e1
   exact⟨_,rfl,e2⟩
  |outgrown=>exact hR
 |ret v=>
  simp only at h1
  split at h1
  ·rename_i l hl hb
   split at h1
   ·rename_i hck
    simp only[Bool.and_eq_true]at hck
    refine⟨_,h1,fun D vals hG hm hs hv=>?_⟩
    rw[←hm]at h2
    have hA:=dr hG hs hv (base:=bs.length) (fun j hj _=>by
     rw[hm,aI]
     simp only[Nat.zero_le,if_true,Nat.sub_zero]
     exact List.getElem?_eq_none hj) h2
    refine bx.mono hA fun e w' hR=>?_
    cases e with
    |returned u=>
     obtain⟨v2,C',e1,e2,e3,e4,e5,e6⟩:=hR
     cases e1
     rw[mz,←hm,←e3]at hl
     have hf:jB C'.m (bs.length+(wr.filter fun p=>Nat.ble bs.length p.1).length):=by
      rw[e3]
      refine iD (fun j hj=>?_) fun p hp=>by
       have:=List.all_eq_true.1 hb p hp
       simpa using this
      rw[hm,aI]
      simp only[Nat.zero_le,if_true,Nat.sub_zero]
      exact List.getElem?_eq_none (by omega)
     exact⟨_,C',rfl,e2,lh hl hf,e4,e5,e6,hck.1,hck.2⟩
    |panicked ch=>obtain⟨v2,e1,_⟩:=hR;cases e1
    |outgrown=>exact hR
   ·cases h1
  ·cases h1
def nY(f:Nat)(np:Nat)(ts:Sig)(g:aQ):aQ:=fun R args bs k=>
 match bs.all bH with
 |false=>.err (7300000+f)
 |true=>match ib (aC (aq 0 bs)) ts (args.drop np)with
  |none=>.err (7400000+f)
  |some (x,m)=>g R (args.take np++cy ts x) (ng m bs) k
theorem ob(m:List Nat)(bs:List Blk):ng m bs=cG m 0 bs:=by
 cases m with
 |nil=>
  show bs=cG [] 0 bs
  generalize 0=i
  induction bs generalizing i with
  |nil=>rfl
  |cons b bs ih=>simp only[cG,←ih];cases b<;>rfl
 |cons a m=>rfl
theorem au.cut{C:Ctx}:∀(n:Nat) {as:List AV} {vs:List Value},au C as vs→au C (as.take n) (vs.take n)∧au C (as.drop n) (vs.drop n)
 |0,as,vs,h=>⟨rfl,h⟩
 |n+1,[],vs,h=>by simp only[au]at h;subst h;exact⟨rfl,rfl⟩
 |n+1,a::as,vs,h=>by
  obtain⟨v,r,rfl,h1,h2⟩:=h
  obtain⟨h3,h4⟩:=au.cut n h2
  exact⟨⟨v,_,rfl,h1,h3⟩,h4⟩
theorem ov{f np:Nat}{ts:Sig}{g:aQ}(hI:aK P G f g):aK P G f (nY f np ts g):=fun R args bs k r hr=>by
 unfold nY at hr
 split at hr
 ·cases hr
 split at hr
 ·cases hr
 rename_i x m ht
 obtain⟨o,ho,hSA⟩:=hI R _ _ k r hr
 refine⟨o,ho,fun D vals hG hm hs hv=>?_⟩
 rw[←hm]at ht
 obtain⟨v1,v2⟩:=hv.cut np
 obtain⟨C1,s1,s2,s3,s4,s5,s6,s7,s8⟩:=cX hs m
 have hv1:=gf hs ht v2 s4 s8 s7
 rw[ll hm m,←ob]at s3
 have hv2:=(v1.mono s2).append hv1
 rw[List.take_append_drop]at hv2
 have hA:=hSA C1 vals (s2.glEq.trans hG) s3 s1 hv2
 rw[s4]at hA
 refine bx.mono hA fun e w' hR=>?_
 cases e with
 |returned u=>
  obtain⟨v,D1,e2,e3,e4,e5,e6,e7,e8,e9⟩:=hR
  exact⟨v,D1,e2,e3,e4,e5,s2.trans e6,e7,e8,e9⟩
 |panicked ch=>
  obtain⟨v,e2,e3⟩:=hR
  exact⟨v,e2,e3.after s2⟩
 |outgrown=>exact hR
theorem qb{f:Nat}{g:aQ}(hg:INt g):INt (dL f g):=fun R args bs k r hr=>by
 unfold dL at hr⊢
 split at hr
 ·obtain⟨o,h1,h2⟩:=hg _ _ _ _ _ hr
  obtain⟨out,l⟩:=o
  cases out with
  |panic v=>exact⟨_,h1,fun R' k' r' hk=>h2 _ _ _ hk⟩
  |ret v=>
   simp only at h1
   split at h1
   ·rename_i v' l' hv hl
    split at h1
    ·rename_i hck
     refine⟨_,h1,fun R' k' r' hk=>h2 _ _ _ ?_⟩
     simp only[hv,hl,hck]
     exact hk
    ·cases h1
   ·cases h1
 ·cases hr
theorem yX{f:Nat}{g:aQ}(hg:INt g):INt (AB f g):=fun R args bs k r hr=>by
 have hK:KNt (fun R' f' a b k'=>g R' a b k'):=fun R' f' a b k' r' h=>hg R' a b k' r' h
 unfold AB at hr⊢
 obtain⟨out,wr,rd,h1,h2⟩:=qI hK hr
 cases out with
 |panic v=>exact⟨_,h1,fun R' k' r' hk=>h2 _ _ _ hk⟩
 |ret v=>
  simp only at h1
  split at h1
  ·rename_i l hl hb
   split at h1
   ·rename_i hck
    refine⟨_,h1,fun R' k' r' hk=>h2 _ _ _ ?_⟩
    simp only[hl,hb,hck]
    exact hk
   ·cases h1
  ·cases h1
theorem uq{f np:Nat}{ts:Sig}{g:aQ}(hg:INt g):INt (nY f np ts g):=fun R args bs k r hr=>by
 unfold nY at hr⊢
 split at hr
 ·cases hr
 split at hr
 ·cases hr
 ·exact hg _ _ _ _ _ hr
end Go.Sx
namespace Go.Sx
open Go
def chain:List Ty→Ty
 |[]=>.unit
 |t::r=>.pair t (chain r)
variable{H:Type}{enc:TypeId×Value→H}{P:Program}{w:World}{sp:Nat→Bool}{held:Bool}
end Go.Sx
namespace Go.Sx
open Go
abbrev R0:Type:=Out×List Blk
theorem wrap64{n:Int}(h0: -9223372036854775808≤n)(h1:n≤9223372036854775807):IntKind.wrap .i64 n=n:=by
 unfold IntKind.wrap
 have hb:IntKind.bits .i64=64:=rfl
 have hs:IntKind.signed .i64=true:=rfl
 simp only[hb,hs,Bool.true_and]
 split
 ·rename_i h;simp only[decide_eq_true_eq]at h;omega
 ·rename_i h;simp only[decide_eq_true_eq]at h;omega
theorem EW{i:Int}{n:Nat}:inI i n=true↔0≤i∧i<n:=by simp only[inI,Bool.and_eq_true,decide_eq_true_eq]
theorem cq{i:Int}{n:Nat}(h0:0≤i)(h1:i<n):inI i n=true:=EW.2 ⟨h0,h1⟩
theorem iR{l h:Int}{n:Nat}(h0:0≤l)(h1:l≤h)(h2:h≤n):inB l h n=true:=by
 simp only[inB,Bool.and_eq_true,decide_eq_true_eq]
 omega
theorem eL{α:Type}{a b:Nat}{x y:α}(h:a<b):(bif decide (a<b)then x else y)=x:=by rw[decide_eq_true h];rfl
theorem Hb{α:Type}{c:Bool}{x y:α}(h:c=true):(bif c then x else y)=x:=by rw[h];rfl
theorem HJ{α:Type}{c:Bool}{x y:α}(h:c=false):(bif c then x else y)=y:=by rw[h];rfl
theorem cb:xq []:=fun _ _ _ _ _ h=>by cases h
theorem fb{t t':Ty}{x:List t.den}{y:List t'.den}(h:dc t t' x=some y):∃e:t=t',e▸x=y:=by
 unfold dc at h
 split at h
 ·rename_i e
  exact⟨e,Option.some.inj h⟩
 ·cases h
theorem cV(pre:List UInt8)(c:UInt8)(r:List UInt8):List.getD (pre++c::r) pre.length 0=c:=by simp[List.getD]
end Go.Sx
namespace Go.Sx
open Go
variable{G:Nat→Obj→Prop}{P:Program}{E:Env}
def wK:AV→Option Value
 | .bool b=>some (.bool b)
 | .int k n=>some (.int k n)
 | .flt k n=>some (.float k n)
 | .str s=>some (.string ⟨⟨s⟩⟩)
 | .nilp=>some (.pointer none)
 | .nils=>some (.slice none 0 0)
 | .nili=>some .nilIface
 |_=>none
theorem CA{C:Ctx}{a:AV}{u v:Value}(h:wK a=some u)(hv:ay C a v):v=u:=by
 cases a<;>simp only[wK,Option.some.injEq,reduceCtorEq]at h
 all_goals
  subst h
  exact hv
theorem ED{C:Ctx}{a:AV}{u:Value}(h:wK a=some u):ay C a u:=by
 cases a<;>simp only[wK,Option.some.injEq,reduceCtorEq]at h
 all_goals
  subst h
  rfl
theorem dU{C:Ctx}:∀{as:List AV} {us vs:List Value},cZ wK as=some us→au C as vs→vs=us
 |[],us,vs,h,hv=>by
  simp only[cZ,Option.some.injEq]at h
  simp only[au]at hv
  rw[hv,←h]
 |a::as,us,vs,h,hv=>by
  simp only[cZ]at h
  split at h
  ·rename_i b r h1 h2
   simp only[Option.some.injEq]at h
   subst h
   obtain⟨v,r',rfl,h3,h4⟩:=hv
   rw[CA h1 h3,dU h2 h4]
  ·cases h
theorem ln{C:Ctx}:∀{as:List AV} {us:List Value},cZ wK as=some us→au C as us
 |[],us,h=>by
  simp only[cZ,Option.some.injEq]at h
  rw[←h]
  rfl
 |a::as,us,h=>by
  simp only[cZ]at h
  split at h
  ·rename_i b r h1 h2
   simp only[Option.some.injEq]at h
   subst h
   exact⟨b,r,rfl,ED h1,ln h2⟩
  ·cases h
theorem oe{f:Nat}{fi:FI}(hf:FIOK P f fi){as:List AV}{us:List Value}{y:AV}{u:Value}(ha:cZ wK as=some us)(hy:∀D,ay D y u)(hp:bz y=true)
  (hc:∀D:Ctx,D.gl=G→SRel D→Calls P f us.toArray D.w fun e w'=>e= .returned u∧RowKit.Below D.w.heap.size D.w w'):SA P G f as [] (.ret y,[]):=fun D vals hG hm hs hv=>by
 rw[dU ha hv]
 exact fT hf hm hs rfl hy hp (hc D hG hs)
theorem gj{n:Nat}{w w':World}(h:w'=w)(hn:n=w.heap.size):RowKit.Below n w w':=by
 subst h hn
 exact RowKit.Below.refl _ _
theorem aW{R:Type}{E:Env}{K:Callee}{fi:FI}{cs:List Cut}{np:Nat}{k:(Out×List Blk)→Rs R}{n j:Nat}{st:St}{c:Cut}(h:nth cs j=some c):
  pieces E K fi cs np k (n+1) j st=resume E K (aR np cs 0) (pieces E K fi cs np k n) c.path fi.code 1 st (bX E np fi.results k):=by
 show(match nth cs j with
  |some c=>resume E K (aR np cs 0) (pieces E K fi cs np k n) c.path fi.code 1 st (bX E np fi.results k)
  |none=>.err 17)=_
 rw[h]
end Go.Sx
