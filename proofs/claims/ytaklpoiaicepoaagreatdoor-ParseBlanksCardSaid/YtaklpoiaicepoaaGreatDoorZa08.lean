/- A part of the proof: see the row's text. -/
import Derived.Test.YtaklpoiaicepoaaGreatDoorZa07
import Derived.Test.YtaklpoiaicepoaaGreatDoorZa06
import Derived.ChangeBears
import Derived.ChangeReads
import Derived.DataReads
import Derived.ChangeArms
set_option linter.unusedVariables false
set_option linter.unusedSimpArgs false
noncomputable section
namespace Go.Sx
open Go
variable{G:Nat→Obj→Prop}{P:Program}{C:Ctx}
theorem PExt.gen{D:Ctx}{bs0:List Blk}(own1:∀k o,(Gen D bs0).own k o↔D.own k o)(held1:∀k,(Gen D bs0).held k↔D.held k){w':World}{T':Nat→Nat→Prop}(h:PExt (Gen D bs0) w' T'):PExt D w' T' where
 keep:=fun k o v h1 h2=>h.keep k o v h1 fun h3=>h2 (h3.imp id (own1 k o).1)
 frKeep:=h.frKeep
 size:=h.size
 old:=fun k hk hn=>h.old k hk fun h3=>hn ((held1 k).1 h3)
 os:=h.os
 tape:=h.tape
 output:=h.output
def eQ(f:Nat)(g:aV):aV:=fun R args bs k=>
 match dv (gV (aF (ay 0 bs)) (fun _=>0)) args,gBs (aF (ay 0 bs)) (fun _=>0) 0 bs,bs.all bO&&args.all bE with
 |some args0,some bs0,true=>g R args0 bs0 fun o=>match o with
  |(.ret v,l)=>(match gV (aF (ay 0 l)) (ph bs l) v,gBs (aF (ay 0 l)) (ph bs l) 0 l with
   |some v',some l'=>(match bE v'&&l'.all bO with
    |true=>k (.ret v',l')
    |false=>.err (7000000+f))
   |_,_=>.err (7000000+f))
  |(.panic v,_)=>k (.panic v,[])
 |_,_,_=>.err (7000000+f)
theorem dy{f:Nat}{g:aV}(hI:aQ P G f g):aQ P G f (eQ f g):=fun R args bs k r hr=>by
 unfold eQ at hr
 split at hr
 ·rename_i args0 bs0 ha hb hck
  simp only[Bool.and_eq_true]at hck
  obtain⟨hok,hp⟩:=hck
  obtain⟨o,ho,hSA⟩:=hI R args0 bs0 _ r hr
  obtain⟨out,l⟩:=o
  cases out with
  |panic v=>
   simp only at ho
   refine⟨_,ho,fun D vals hG hm hs hv=>?_⟩
   rw[←hm]at ha hb
   obtain⟨s1,g1,own1,held1⟩:=lY hs hm hok hb
   have hA:=hSA (Gen D bs0) vals hG rfl s1 (g1.relVs ha hp hv)
   refine bB.mono (R:=cj (Gen D bs0) (.panic v,l)) hA fun e w' hR=>?_
   cases e with
   |returned u=>obtain⟨v2,D1,e1,_⟩:=hR;cases e1
   |panicked ch=>
    obtain⟨v2,e1,u,T',p1,p2,p3,p4⟩:=hR
    cases e1
    exact⟨_,rfl,u,T',p1,p2,p3,PExt.gen own1 held1 p4⟩
   |outgrown=>exact hR
  |ret v=>
   simp only at ho
   split at ho
   ·rename_i v' l' hv' hl'
    split at ho
    ·rename_i hck2
     simp only[Bool.and_eq_true]at hck2
     refine⟨_,ho,fun D vals hG hm hs hv=>?_⟩
     rw[←hm]at ha hb
     obtain⟨s1,g1,own1,held1⟩:=lY hs hm hok hb
     have hA:=hSA (Gen D bs0) vals hG rfl s1 (g1.relVs ha hp hv)
     refine bB.mono (R:=cj (Gen D bs0) (.ret v,l)) hA fun e w' hR=>?_
     cases e with
     |returned u=>
      obtain⟨v2,D1,e1,e2,e3,e4,e5,e6,e7,e8⟩:=hR
      simp only[Out.ret.injEq]at e1
      subst e1
      rw[←e3]at hv' hl'
      obtain⟨s2,g2,own2,held2⟩:=lY e4 e3 e8 hl'
      refine⟨v',Gen D1 l',rfl,e2,rfl,s2,?_,g2.relV hv' e7 e6,hck2.1,hck2.2⟩
      exact{
       cells:=fun i ty cs hi=>by
        obtain⟨k1,cs1,k2⟩:=g1.cells i ty cs hi
        obtain⟨k3,cs2,k4⟩:=e5.cells i ty cs1 k2
        obtain⟨k5,k6⟩:=g2.cells i ty cs2 k4
        exact⟨k5.trans (k3.trans k1),k6⟩
       lists:=fun i ee t gn sh L hi=>by
        obtain⟨k1,k2⟩:=g1.lists i ee t gn sh L hi
        obtain⟨gn2,sh2,L2,k3,k4,k5⟩:=e5.lists i _ _ _ _ _ k2
        obtain⟨k6,k7⟩:=g2.lists i _ _ _ _ _ k3
        have hq:ph bs l i=gn2+gn:=by
         unfold ph
         rw[←e3,←hm,k3,hi]
         rfl
        rw[hq]at k7
        refine⟨gn2+gn,sh2,L2,k7,by omega,fun e=>?_⟩
        have h0:0=gn2:=by omega
        exact⟨k6.trans ((k5 h0).1.trans k1),(k5 h0).2⟩
       keep:=fun kk oo x h1 h2=>by
        obtain⟨h3,h4⟩:=g1.keep kk oo x h1 h2
        obtain⟨h5,h6⟩:=e5.keep kk oo x h3 h4
        exact g2.keep kk oo x h5 h6
       frEq:=e5.frEq
       glEq:=e5.glEq
       frKeep:=e5.frKeep
       size:=e5.size
       old:=fun kk hk hh=>e5.old kk hk fun h=>hh ((held1 kk).1 h)
       held:=fun kk h=>((e5.held kk ((held2 kk).1 h)).imp (held1 kk).1 id)
       own:=fun kk oo h=>((e5.own kk oo ((own2 kk oo).1 h)).imp (own1 kk oo).1 id)
       os:=e5.os
       tape:=e5.tape
       output:=e5.output}
     |panicked ch=>obtain⟨v2,e1,_⟩:=hR;cases e1
     |outgrown=>exact hR
    ·cases ho
   ·cases ho
 ·cases hr
def HG(f:Nat)(g:aV):aV:=fun R args bs k=>
 fW (fun R' f' a b k'=>g R' a b k') f args (aF (ay 0 bs)) bs.length fun out wr _=>match out with
  | .panic v=>k (.panic v,[])
  | .ret v=>(match getAll (aF (cO (ay 0 bs) wr)) (List.range (bs.length+(wr.filter fun p=>Nat.ble bs.length p.1).length)),wr.all (fun p=>Nat.blt p.1 (bs.length+(wr.filter fun p=>Nat.ble bs.length p.1).length))with
   |some l,true=>(match bE v&&l.all bO with
    |true=>k (.ret v,l)
    |false=>.err (7200000+f))
   |_,_=>.err (7200000+f))
theorem o9:∀(wr:Wr) (bs:jx),aF (cO bs wr)=aK (aF bs) wr
 |[],_=>rfl
 |(i,b)::r,bs=>by
  simp only[cO,aK]
  rw[o9 r]
  congr 1
  funext j
  simp only[aF,gr]
  by_cases h:i=j
  ·subst h;simp
  ·have:Nat.beq i j=false:=by
    cases e:Nat.beq i j
    ·rfl
    ·exact absurd (beq_eq e) h
   rw[this]
   simp[Ne.symm h]
theorem Cx{f:Nat}{g:aV}(hI:aQ P G f g):aQ P G f (HG f g):=fun R args bs k r hr=>by
 have hK:KOK P G (fun R' f' a b k'=>match Nat.beq f' f with|true=>g R' a b k'|false=>.err 0):=fun R' f' a b k' r' h=>by
  simp only at h
  split at h
  ·rename_i e
   have e:=beq_eq e
   subst e
   exact hI R' a b k' r' h
  ·cases h
 have hr:fW (fun R' f' a b k'=>match Nat.beq f' f with|true=>g R' a b k'|false=>.err 0) f args (aF (ay 0 bs)) bs.length (fun out wr _=>match out with
  | .panic v=>k (.panic v,[])
  | .ret v=>(match getAll (aF (cO (ay 0 bs) wr)) (List.range (bs.length+(wr.filter fun p=>Nat.ble bs.length p.1).length)),wr.all (fun p=>Nat.blt p.1 (bs.length+(wr.filter fun p=>Nat.ble bs.length p.1).length))with
   |some l,true=>(match bE v&&l.all bO with
    |true=>k (.ret v,l)
    |false=>.err (7200000+f))
   |_,_=>.err (7200000+f)))= .ok r:=by
  unfold fW
  simp only[Nat.beq_refl]
  exact hr
 obtain⟨out,wr,rd,h1,h2⟩:=nS hK hr
 cases out with
 |panic v=>
  refine⟨_,h1,fun D vals hG hm hs hv=>?_⟩
  rw[←hm]at h2
  have hA:=ec hG hs hv (base:=bs.length) (fun j hj _=>by
   rw[hm,aN]
   simp only[Nat.zero_le,if_true,Nat.sub_zero]
   exact List.getElem?_eq_none hj) h2
  refine bB.mono hA fun e w' hR=>?_
  cases e with
  |returned u=>obtain⟨v2,D1,e1,_⟩:=hR;cases e1
  |panicked ch=>
   obtain⟨v2,e1,e2⟩:=hR
   cases e1
   exact⟨_,rfl,e2⟩
  |outgrown=>exact hR
 |ret v=>
  simp only at h1
  split at h1
  ·rename_i l hl hb
   split at h1
   ·rename_i hck
    simp only[Bool.and_eq_true]at hck
    refine⟨_,h1,fun D vals hG hm hs hv=>?_⟩
    rw[←hm]at h2
    have hA:=ec hG hs hv (base:=bs.length) (fun j hj _=>by
     rw[hm,aN]
     simp only[Nat.zero_le,if_true,Nat.sub_zero]
     exact List.getElem?_eq_none hj) h2
    refine bB.mono hA fun e w' hR=>?_
    cases e with
    |returned u=>
     obtain⟨v2,C',e1,e2,e3,e4,e5,e6⟩:=hR
     cases e1
     rw[o9,←hm,←e3]at hl
     have hf:lu C'.m (bs.length+(wr.filter fun p=>Nat.ble bs.length p.1).length):=by
      rw[e3]
      refine j8 (fun j hj=>?_) fun p hp=>by
       have:=List.all_eq_true.1 hb p hp
       simpa using this
      rw[hm,aN]
      simp only[Nat.zero_le,if_true,Nat.sub_zero]
      exact List.getElem?_eq_none (by omega)
     exact⟨_,C',rfl,e2,mz hl hf,e4,e5,e6,hck.1,hck.2⟩
    |panicked ch=>obtain⟨v2,e1,_⟩:=hR;cases e1
    |outgrown=>exact hR
   ·cases h1
  ·cases h1
def tO(f:Nat)(np:Nat)(ts:Sig)(g:aV):aV:=fun R args bs k=>
 match bs.all bO with
 |false=>.err (7300000+f)
 |true=>match jV (aF (ay 0 bs)) ts (args.drop np)with
  |none=>.err (7400000+f)
  |some (x,m)=>g R (args.take np++dA ts x) (qt m bs) k
theorem rH(m:List Nat)(bs:List Blk):qt m bs=de m 0 bs:=by
 cases m with
 |nil=>
  show bs=de [] 0 bs
  generalize 0=i
  induction bs generalizing i with
  |nil=>rfl
  |cons b bs ih=>simp only[de,←ih];cases b<;>rfl
 |cons a m=>rfl
theorem az.cut{C:Ctx}:∀(n:Nat) {as:List AV} {vs:List Value},az C as vs→az C (as.take n) (vs.take n)∧az C (as.drop n) (vs.drop n)
 |0,as,vs,h=>⟨rfl,h⟩
 |n+1,[],vs,h=>by simp only[az]at h;subst h;exact⟨rfl,rfl⟩
 |n+1,a::as,vs,h=>by
  obtain⟨v,r,rfl,h1,h2⟩:=h
  obtain⟨h3,h4⟩:=az.cut n h2
  exact⟨⟨v,_,rfl,h1,h3⟩,h4⟩
theorem yx{f np:Nat}{ts:Sig}{g:aV}(hI:aQ P G f g):aQ P G f (tO f np ts g):=fun R args bs k r hr=>by
 unfold tO at hr
 split at hr
 ·cases hr
 split at hr
 ·cases hr
 rename_i x m ht
 obtain⟨o,ho,hSA⟩:=hI R _ _ k r hr
 refine⟨o,ho,fun D vals hG hm hs hv=>?_⟩
 rw[←hm]at ht
 obtain⟨v1,v2⟩:=hv.cut np
 obtain⟨C1,s1,s2,s3,s4,s5,s6,s7,s8⟩:=dF hs m
 have hv1:=iE hs ht v2 s4 s8 s7
 rw[mN hm m,←rH]at s3
 have hv2:=(v1.mono s2).append hv1
 rw[List.take_append_drop]at hv2
 have hA:=hSA C1 vals (s2.glEq.trans hG) s3 s1 hv2
 rw[s4]at hA
 refine bB.mono hA fun e w' hR=>?_
 cases e with
 |returned u=>
  obtain⟨v,D1,e2,e3,e4,e5,e6,e7,e8,e9⟩:=hR
  exact⟨v,D1,e2,e3,e4,e5,s2.trans e6,e7,e8,e9⟩
 |panicked ch=>
  obtain⟨v,e2,e3⟩:=hR
  exact⟨v,e2,e3.after s2⟩
 |outgrown=>exact hR
theorem uN{f:Nat}{g:aV}(hg:INt g):INt (eQ f g):=fun R args bs k r hr=>by
 unfold eQ at hr⊢
 split at hr
 ·obtain⟨o,h1,h2⟩:=hg _ _ _ _ _ hr
  obtain⟨out,l⟩:=o
  cases out with
  |panic v=>exact⟨_,h1,fun R' k' r' hk=>h2 _ _ _ hk⟩
  |ret v=>
   simp only at h1
   split at h1
   ·rename_i v' l' hv hl
    split at h1
    ·rename_i hck
     refine⟨_,h1,fun R' k' r' hk=>h2 _ _ _ ?_⟩
     simp only[hv,hl,hck]
     exact hk
    ·cases h1
   ·cases h1
 ·cases hr
theorem B5{f:Nat}{g:aV}(hg:INt g):INt (HG f g):=fun R args bs k r hr=>by
 have hK:KNt (fun R' f' a b k'=>g R' a b k'):=fun R' f' a b k' r' h=>hg R' a b k' r' h
 unfold HG at hr⊢
 obtain⟨out,wr,rd,h1,h2⟩:=ui hK hr
 cases out with
 |panic v=>exact⟨_,h1,fun R' k' r' hk=>h2 _ _ _ hk⟩
 |ret v=>
  simp only at h1
  split at h1
  ·rename_i l hl hb
   split at h1
   ·rename_i hck
    refine⟨_,h1,fun R' k' r' hk=>h2 _ _ _ ?_⟩
    simp only[hl,hb,hck]
    exact hk
   ·cases h1
  ·cases h1
theorem xG{f np:Nat}{ts:Sig}{g:aV}(hg:INt g):INt (tO f np ts g):=fun R args bs k r hr=>by
 unfold tO at hr⊢
 split at hr
 ·cases hr
 split at hr
 ·cases hr
 ·exact hg _ _ _ _ _ hr
end Go.Sx
namespace Go.Sx
open Go
def chain:List Ty→Ty
 |[]=>.unit
 |t::r=>.pair t (chain r)
def NoT:Nat→Nat→Prop:=fun _ _=>False
def tyB:Ty→Nat
 | .unit=>0
 | .bool=>1
 | .int k=>k.bits/8
 | .flt _=>4
 | .str=>16
 | .pair a b=>tyB a+tyB b
 | .slice _=>24
 | .ptr _=>8
def sy:(t:Ty)→t.den→Prop
 | .int k,n=>(Lit.int k n).wf=true
 | .str,s=>List.length (show List UInt8 from s)≤reachBytes
 | .pair a b,x=>sy a x.1∧sy b x.2
 | .slice e,L=>List.length (show List e.den from L)*tyB e≤reachBytes∧∀x∈(show List e.den from L),sy e x
 | .ptr e,some x=>sy e x
 |_,_=>True
def cY(w:World):List Ty→List Value→Prop
 |[],vs=>vs=[]
 |t::ts,vs=>∃v r,vs=v::r∧(∃x,Rep w NoT t x [v]∧sy t x)∧cY w ts r
theorem cY.chain{w:World}:∀{l:List Ty} {vs:List Value},cY w l vs→∃x,Rep w NoT (Sx.chain l) x vs∧sy (Sx.chain l) x
 |[],_,h=>⟨(),h,trivial⟩
 |t::l,_,h=>by
  obtain⟨v,r,rfl,⟨x,hx,fx⟩,h2⟩:=h
  obtain⟨y,hy,fy⟩:=cY.chain h2
  exact⟨(x,y),⟨[v],r,rfl,hx,hy⟩,fx,fy⟩
theorem cY.append{w:World}:∀{l l':List Ty} {vs vs':List Value},cY w l vs→cY w l' vs'→cY w (l++l') (vs++vs')
 |[],_,_,_,h,h'=>by simp only[cY]at h;subst h;exact h'
 |t::l,_,_,_,h,h'=>by
  obtain⟨v,r,rfl,hx,h2⟩:=h
  exact⟨v,_,rfl,hx,h2.append h'⟩
def Gm(P:Program)(t:TypeId):Bool:=match P.underlying t with
 |some (.struct _)=>true
 |_=>false
def kV(P:Program):Nat→TypeId→Option (List Ty)
 |0,_=>none
 |n+1,t=>match P.underlying t with
  |some .bool=>some [.bool]
  |some (.int k)=>some [.int k]
  |some .string=>some [.str]
  |some (.slice e)=>(match kV P n e with
   |some l=>(match Gm P e with
    |true=>(match(Nat.ble 1 (P.cellsOf e)&&Nat.beq (Sx.chain l).size (P.cellsOf e))&&Nat.ble (tyB (Sx.chain l)) (P.bytesOf e)with
     |true=>some [.slice (Sx.chain l)]
     |false=>none)
    |false=>(match l with
     |[x]=>(match(Nat.ble 1 (P.cellsOf e)&&Nat.beq x.size (P.cellsOf e))&&Nat.ble (tyB x) (P.bytesOf e)with
      |true=>some [.slice x]
      |false=>none)
     |_=>none))
   |none=>none)
  |some (.struct fs)=>(match dv (fun f:Field=>kV P n f.type) fs.toList with
   |some ls=>some ls.flatten
   |none=>none)
  |_=>none
theorem CB{α:Type}{p:Nat→α→Prop}:∀(n:Nat),(∀i,i<n→∃x,p i x)→∃L:List α,L.length=n∧∀i x,L[i]? =some x→p i x
 |0,_=>⟨[],rfl,by simp⟩
 |n+1,h=>by
  obtain⟨L,h1,h2⟩:=CB n fun i hi=>h i (by omega)
  obtain⟨x,hx⟩:=h n (by omega)
  refine⟨L++[x],by simp[h1],fun i y hi=>?_⟩
  by_cases hlt:i<L.length
  ·rw[List.getElem?_append_left hlt]at hi
   exact h2 i y hi
  ·rw[List.getElem?_append_right (by omega)]at hi
   have:i-L.length=0:=by
    rcases Nat.eq_zero_or_pos (i-L.length)with h|h
    ·exact h
    ·rw[List.getElem?_eq_none (by simp;omega)]at hi;cases hi
   rw[this]at hi
   simp only[List.getElem?_cons_zero,Option.some.injEq]at hi
   subst hi
   have:i=n:=by omega
   subst this
   exact hx
variable{H:Type}{enc:TypeId×Value→H}{P:Program}{w:World}{sp:Nat→Bool}{held:Bool}
theorem Db{a:Addr}{v:Value}(h:w.cell? a=some v):a.spot=none:=by
 cases hsp:a.spot with
 |none=>rfl
 |some s=>
  simp only[World.cell?]at h
  split at h
  ·simp[hsp]at h
  ·cases h
theorem CU{a:Addr}{len cap:Nat}{e:Ty}{c:Nat}(hc:1≤c)(hes:e.size=c)(hcap:len≤cap)(hb:len*tyB e≤reachBytes)
  (h:∀i,i<len→∃cs,w.cells? 0 (a.add (i*c)) c=some cs∧∃x,Rep w NoT e x cs∧sy e x):∃L,Rep w NoT (.slice e) L [.slice (some a) len cap]∧sy (.slice e) L:=by
 have hsp:0<len→a.spot=none:=fun h0=>by
  obtain⟨cs,h1,_⟩:=h 0 h0
  obtain⟨_,h2,h3⟩:=World.cells?_some h1
  have h4:=h3 0 (by omega)
  rw[List.getElem?_eq_getElem (by omega)]at h4
  have h5:(a.add (0*c)).add 0=a:=by simp[Addr.add]
  rw[h5]at h4
  exact Db h4
 have key:∀i,i<len→∃x:e.den,(∃cs,Imm w NoT a.block (a.off+i*e.size) cs∧Rep w NoT e x cs)∧sy e x:=fun i hi=>by
  obtain⟨cs,h1,x,h2,fx⟩:=h i hi
  have hs:=hsp (by omega)
  obtain⟨_,h3,h4⟩:=World.cells?_some h1
  refine⟨x,⟨cs,fun j v hj=>⟨?_,fun h=>h⟩,h2⟩,fx⟩
  have hjl:j<c:=by rw[←h3];exact(List.getElem?_eq_some_iff.1 hj).1
  have h5:=(h4 j hjl).trans hj
  have e1:(a.add (i*c)).add j=⟨a.block,a.off+i*e.size+j,none⟩:=by
   have ea:a.add (i*c)=⟨a.block,a.off+i*e.size,none⟩:=by
    unfold Addr.add
    split
    ·rename_i h0
     obtain⟨b,o,s⟩:=a
     simp only at hs
     subst hs
     rw[hes,h0];rfl
    ·rw[hes]
   rw[ea]
   unfold Addr.add
   split
   ·rename_i h0;subst h0;rfl
   ·rfl
  rw[e1]at h5
  exact h5
 obtain⟨L,hL,hp⟩:=CB len key
 refine⟨L,⟨some a,cap,by rw[←hL],by rw[hL];exact hcap,fun i x hi=>?_⟩,by rw[←hL]at hb;exact hb,fun x hx=>by
  obtain⟨i,hi⟩:=List.mem_iff_getElem?.1 hx
  exact(hp i x hi).2⟩
 obtain⟨⟨cs,h1,h2⟩,_⟩:=hp i x hi
 have hlt:i<len:=by rw[←hL];exact(List.getElem?_eq_some_iff.1 hi).1
 exact⟨a,cs,rfl,hsp (by omega),h1,h2⟩
theorem xI{α β:Type}{f:α→Option β}:∀{l:List α} {r:List β},dv f l=some r→r.length=l.length∧∀(i:Nat) (a:α),l[i]? =some a→∃b,r[i]? =some b∧f a=some b
 |[],r,h=>by simp only[dv,Option.some.injEq]at h;subst h;simp
 |a::l,r,h=>by
  simp only[dv]at h
  split at h
  ·rename_i b r' h1 h2
   simp only[Option.some.injEq]at h
   subst h
   obtain⟨h3,h4⟩:=xI h2
   refine⟨by simp[h3],fun i x hi=>?_⟩
   cases i with
   |zero=>simp only[List.getElem?_cons_zero,Option.some.injEq]at hi;subst hi;exact⟨b,rfl,h1⟩
   |succ i=>simpa using h4 i x (by simpa using hi)
  ·cases h
theorem r9(f:Field→Nat){cs:List Value}:∀(fs:List Field) (ls:List (List Ty)) (o:Nat),ls.length=fs.length→cs.length=o+(fs.map f).sum→
  (∀i fl l,fs[i]? =some fl→ls[i]? =some l→cY w l ((cs.drop (o+((fs.take i).map f).sum)).take (f fl)))→cY w ls.flatten (cs.drop o)
 |[],[],o,_,hl,_=>by
  simp only[List.map_nil,List.sum_nil,Nat.add_zero]at hl
  simp only[List.flatten_nil,cY]
  rw[List.drop_eq_nil_iff]
  omega
 |[],_::_,_,h,_,_=>by simp at h
 |_::_,[],_,h,_,_=>by simp at h
 |fl::fs,l::ls,o,hn,hl,h=>by
  have h0:=h 0 fl l rfl rfl
  simp only[List.take_zero,List.map_nil,List.sum_nil,Nat.add_zero]at h0
  have ih:=r9 f (cs:=cs) fs ls (o+f fl) (by simpa using hn) (by simp only[List.map_cons,List.sum_cons]at hl;omega) (fun i g k hi hk=>by
   have:=h (i+1) g k (by simpa using hi) (by simpa using hk)
   simp only[List.take_succ_cons,List.map_cons,List.sum_cons]at this
   rw[Nat.add_assoc]
   exact this)
  have e:cs.drop o=(cs.drop o).take (f fl)++cs.drop (o+f fl):=by
   rw[←List.drop_drop,List.take_append_drop]
  rw[e,List.flatten_cons]
  exact h0.append ih
theorem o6{e:TypeId}:∀{ds:List (DataW H)} {d:DataW H},d∈ds→∀b∈d.weights P e,b∈DataW.weightsAll P e ds
 |c::ds,d,h,b,hb=>by
  simp only[DataW.weightsAll,List.mem_append]
  rcases List.mem_cons.1 h with rfl|h
  ·exact .inl hb
  ·exact .inr (o6 h b hb)
theorem jy:∀{ts:List TypeId} {ds:List (DataW H)} {i:Nat} {t:TypeId} {d:DataW H},ts[i]? =some t→ds[i]? =some d→∀b∈d.weights P t,b∈DataW.weightsEach P ts ds
 |t'::ts,d'::ds,0,t,d,ht,hd,b,hb=>by
  simp only[List.getElem?_cons_zero,Option.some.injEq]at ht hd
  subst ht hd
  simp only[DataW.weightsEach,List.mem_append]
  exact .inl hb
 |t'::ts,d'::ds,i+1,t,d,ht,hd,b,hb=>by
  simp only[DataW.weightsEach,List.mem_append]
  exact .inr (jy (by simpa using ht) (by simpa using hd) b hb)
 |[],_,i,t,d,ht,_,_,_=>by simp at ht
 |_::_,[],i,t,d,_,hd,_,_=>by simp at hd
theorem kI(K:Kids P (· <P.types.size)):∀(m n:Nat) (t:TypeId) (cs:List Value) (x:DataW H×List MemPlace) (l:List Ty),t<P.types.size→DataW.trod enc P w 0 sp held n t cs=some x→kV P m t=some l→
  (∀b∈x.1.weights P t,b≤reachBytes)→cY w l cs
 |0,n,t,cs,x,l,_,_,hl,_=>by simp[kV]at hl
 |m+1,n,t,cs,x,l,hlt,h,hl,hwt=>by
  simp only[kV]at hl
  split at hl
  ·rename_i hu
   simp only[Option.some.injEq]at hl
   subst hl
   obtain⟨b,rfl,_⟩:=DataW.trod_bool hu h
   exact⟨_,[],rfl,⟨b,rfl,trivial⟩,rfl⟩
  ·rename_i k hu
   simp only[Option.some.injEq]at hl
   subst hl
   obtain⟨z,rfl,_,hz⟩:=DataW.trod_int hu h
   exact⟨_,[],rfl,⟨z,rfl,hz⟩,rfl⟩
  ·rename_i hu
   simp only[Option.some.injEq]at hl
   subst hl
   obtain⟨s,rfl,hx,_⟩:=DataW.trod_string hu h
   rw[hx]at hwt
   exact⟨_,[],rfl,⟨s.data.toList,rfl,hwt _ (by simp[DataW.weights])⟩,rfl⟩
  ·rename_i e hu
   have hte:=K.slice hlt hu
   have fin:∀(ty:Ty),1≤P.cellsOf e→ty.size=P.cellsOf e→tyB ty≤P.bytesOf e→(∀n cs x,DataW.trod enc P w 0 sp held n e cs=some x→(∀b∈x.1.weights P e,b≤reachBytes)→∃y,Rep w NoT ty y cs∧sy ty y)→cY w [.slice ty] cs:=fun ty h1 h2 hby h3=>by
    rcases DataW.trod_slice hu h with⟨rfl,_⟩|⟨a,len,cap,elems,rest,n',_,rfl,hxe,_,hcap,_,hel,hx,_,_⟩
    ·exact⟨_,[],rfl,⟨[],⟨none,0,rfl,Nat.le_refl _,fun i x hi=>by simp at hi⟩,by simp,fun x hx=>by cases hx⟩,rfl⟩
    ·rw[hxe]at hwt
     simp only[DataW.weights,hu,List.length_map]at hwt
     have hb0:=hwt _ (List.mem_cons_self)
     refine⟨_,[],rfl,CU h1 h2 hcap (Nat.le_trans (Nat.mul_le_mul (by omega) hby) hb0) fun i hi=>?_,rfl⟩
     have:=hx i hi
     rw[List.getElem?_eq_getElem (by omega)]at this
     simp only[Option.bind_eq_some_iff]at this
     obtain⟨cs',h4,h5⟩:=this
     refine⟨cs',h4,h3 _ _ _ h5 fun b hb=>hwt b (List.mem_cons_of_mem _ (List.mem_append.2 (.inl (o6 (d:=elems[i].1) ?_ b hb))))⟩
     exact List.mem_map.2 ⟨elems[i],List.getElem_mem _,rfl⟩
   split at hl
   ·rename_i le hle
    split at hl
    ·split at hl
     ·rename_i hck
      simp only[Bool.and_eq_true]at hck
      simp only[Option.some.injEq]at hl
      subst hl
      exact fin _ (Nat.le_of_ble_eq_true hck.1.1) (beq_eq hck.1.2) (Nat.le_of_ble_eq_true hck.2) fun n cs x hx hw=>(kI K m n e cs x le hte hx hle hw).chain
     ·cases hl
    ·split at hl
     ·rename_i ty
      split at hl
      ·rename_i hck
       simp only[Bool.and_eq_true]at hck
       simp only[Option.some.injEq]at hl
       subst hl
       refine fin _ (Nat.le_of_ble_eq_true hck.1.1) (beq_eq hck.1.2) (Nat.le_of_ble_eq_true hck.2) fun n cs x hx hw=>?_
       obtain⟨v,r,rfl,hv,hr⟩:=kI K m n e cs x _ hte hx hle hw
       simp only[cY]at hr
       subst hr
       exact hv
      ·cases hl
     ·cases hl
   ·cases hl
  ·rename_i fs hu
   split at hl
   ·rename_i ls hls
    simp only[Option.some.injEq]at hl
    subst hl
    obtain⟨h1,h2,h3⟩:=K.struct hlt hu
    obtain⟨xs,n',_,hxe,hlen,hxl,hx⟩:=DataW.trod_struct hu h
    rw[hxe]at hwt
    simp only[DataW.weights,hu]at hwt
    obtain⟨h4,h5⟩:=xI hls
    have:=r9 (w:=w) (fun f=>P.cellsOf f.type) (cs:=cs) fs.toList ls 0 h4 (by rw[hlen,h2];simp) fun i fl lf hi hk=>by
     obtain⟨b,hb1,hb2⟩:=h5 i fl hi
     rw[hk]at hb1
     cases hb1
     have hxi:=hx i fl (by rw[←Array.getElem?_toList];exact hi)
     have hil:i<xs.length:=by
      have:=(List.getElem?_eq_some_iff.1 hi).1
      simp only[Array.length_toList]at this
      omega
     rw[List.getElem?_eq_getElem hil]at hxi
     have:=kI K m n' fl.type _ _ lf (h1 fl (List.mem_of_getElem? hi)) hxi hb2 fun b hb=>hwt b (jy (i:=i) (t:=fl.type) (d:=xs[i].1) (by rw[List.getElem?_map,hi];rfl) (by rw[List.getElem?_map,List.getElem?_eq_getElem hil];rfl) b hb)
     rw[h3 i fl hi]at this
     simpa using this
    simpa using this
   ·cases hl
  ·cases hl
end Go.Sx
namespace Go.Sx
open Go
abbrev R0:Type:=Out×List Blk
theorem wrap64{n:Int}(h0: -9223372036854775808≤n)(h1:n≤9223372036854775807):IntKind.wrap .i64 n=n:=by
 unfold IntKind.wrap
 have hb:IntKind.bits .i64=64:=rfl
 have hs:IntKind.signed .i64=true:=rfl
 simp only[hb,hs,Bool.true_and]
 split
 ·rename_i h;simp only[decide_eq_true_eq]at h;omega
 ·rename_i h;simp only[decide_eq_true_eq]at h;omega
theorem qa{i:Int}{n:Nat}:inI i n=true↔0≤i∧i<n:=by simp only[inI,Bool.and_eq_true,decide_eq_true_eq]
theorem cB{i:Int}{n:Nat}(h0:0≤i)(h1:i<n):inI i n=true:=qa.2 ⟨h0,h1⟩
theorem lP{l h:Int}{n:Nat}(h0:0≤l)(h1:l≤h)(h2:h≤n):inB l h n=true:=by
 simp only[inB,Bool.and_eq_true,decide_eq_true_eq]
 omega
theorem mh{α:Type}{a b:Nat}{x y:α}(h:a<b):(bif decide (a<b)then x else y)=x:=by rw[decide_eq_true h];rfl
theorem MC{α:Type}{c:Bool}{x y:α}(h:c=true):(bif c then x else y)=x:=by rw[h];rfl
theorem MD{α:Type}{c:Bool}{x y:α}(h:c=false):(bif c then x else y)=y:=by rw[h];rfl
theorem cF:DY []:=fun _ _ _ _ _ h=>by cases h
theorem gv{t t':Ty}{x:List t.den}{y:List t'.den}(h:dI t t' x=some y):∃e:t=t',e▸x=y:=by
 unfold dI at h
 split at h
 ·rename_i e
  exact⟨e,Option.some.inj h⟩
 ·cases h
theorem dK(pre:List UInt8)(c:UInt8)(r:List UInt8):List.getD (pre++c::r) pre.length 0=c:=by simp[List.getD]
theorem jO{α β:Type}{l:List α}{f h:α→List β}(e:∀k∈l,f k=h k):l.flatMap f=l.flatMap h:=by
 induction l with
 |nil=>rfl
 |cons a l ih=>rw[List.flatMap_cons,List.flatMap_cons,e a (by simp),ih fun k hk=>e k (by simp[hk])]
end Go.Sx
namespace Go.Sx
open Go
variable{G:Nat→Obj→Prop}{P:Program}{E:Env}
def zr:AV→Option Value
 | .bool b=>some (.bool b)
 | .int k n=>some (.int k n)
 | .flt k n=>some (.float k n)
 | .str s=>some (.string ⟨⟨s⟩⟩)
 | .nilp=>some (.pointer none)
 | .nils=>some (.slice none 0 0)
 | .nili=>some .nilIface
 |_=>none
theorem HT{C:Ctx}{a:AV}{u v:Value}(h:zr a=some u)(hv:aA C a v):v=u:=by
 cases a<;>simp only[zr,Option.some.injEq,reduceCtorEq]at h
 all_goals
  subst h
  exact hv
theorem KW{C:Ctx}{a:AV}{u:Value}(h:zr a=some u):aA C a u:=by
 cases a<;>simp only[zr,Option.some.injEq,reduceCtorEq]at h
 all_goals
  subst h
  rfl
theorem ft{C:Ctx}:∀{as:List AV} {us vs:List Value},dv zr as=some us→az C as vs→vs=us
 |[],us,vs,h,hv=>by
  simp only[dv,Option.some.injEq]at h
  simp only[az]at hv
  rw[hv,←h]
 |a::as,us,vs,h,hv=>by
  simp only[dv]at h
  split at h
  ·rename_i b r h1 h2
   simp only[Option.some.injEq]at h
   subst h
   obtain⟨v,r',rfl,h3,h4⟩:=hv
   rw[HT h1 h3,ft h2 h4]
  ·cases h
theorem nf{C:Ctx}:∀{as:List AV} {us:List Value},dv zr as=some us→az C as us
 |[],us,h=>by
  simp only[dv,Option.some.injEq]at h
  rw[←h]
  rfl
 |a::as,us,h=>by
  simp only[dv]at h
  split at h
  ·rename_i b r h1 h2
   simp only[Option.some.injEq]at h
   subst h
   exact⟨b,r,rfl,KW h1,nf h2⟩
  ·cases h
theorem rn{f:Nat}{fi:FI}(hf:FIOK P f fi){as:List AV}{us:List Value}{y:AV}{u:Value}(ha:dv zr as=some us)(hy:∀D,aA D y u)(hp:bE y=true)
  (hc:∀D:Ctx,D.gl=G→SRel D→Calls P f us.toArray D.w fun e w'=>e= .returned u∧RowKit.Below D.w.heap.size D.w w'):SA P G f as [] (.ret y,[]):=fun D vals hG hm hs hv=>by
 rw[ft ha hv]
 exact il hf hm hs rfl hy hp (hc D hG hs)
theorem ir{n:Nat}{w w':World}(h:w'=w)(hn:n=w.heap.size):RowKit.Below n w w':=by
 subst h hn
 exact RowKit.Below.refl _ _
theorem bg{R:Type}{E:Env}{K:Callee}{fi:FI}{cs:List Cut}{np:Nat}{k:(Out×List Blk)→Rs R}{n j:Nat}{st:St}{c:Cut}(h:nth cs j=some c):
  pieces E K fi cs np k (n+1) j st=resume E K (aS np cs 0) (pieces E K fi cs np k n) c.path fi.code 1 st (bX E np fi.results k):=by
 show(match nth cs j with
  |some c=>resume E K (aS np cs 0) (pieces E K fi cs np k n) c.path fi.code 1 st (bX E np fi.results k)
  |none=>.err 17)=_
 rw[h]
end Go.Sx
