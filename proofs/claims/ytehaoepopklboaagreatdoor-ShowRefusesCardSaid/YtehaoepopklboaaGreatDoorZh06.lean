/- A part of the proof: see the row's text. -/
import Derived.Test.YtehaoepopklboaaGreatDoorZh05
set_option linter.unusedVariables false
set_option linter.unusedSimpArgs false
noncomputable section
namespace Go.Sx
open Go
variable{G:Nat→Obj→Prop}{P:Program}{E:Env}{K:Callee}{R:Type}{C:Ctx}
def jB(m:Get)(n:Nat):Prop:=∀k,n≤k→m k=none
theorem iD{m:Get}{n:Nat}:∀{wr:Wr},jB m n→(∀p∈wr,p.1<n)→jB (aG m wr) n
 |[],h,_=>h
 |(i,b)::r,h,hw=>iD (wr:=r) (fun k hk=>by
   simp only[eI]
   have:=hw (i,b) (by simp)
   rw[if_neg (by intro e;subst e;simp only at this;omega)]
   exact h k hk) fun p hp=>hw p (by simp[hp])
theorem wy{m:Get}{n:Nat}(hf:jB m n){ms:List Nat}:∀p∈bw m ms,p.1<n:=fun p hp=>by
 obtain⟨_,ee,t,g,sh,L,hm⟩:=iG hp
 rcases Nat.lt_or_ge p.1 n with h|h
 ·exact h
 ·rw[hf p.1 h]at hm;cases hm
theorem Bj(hs:SRel C){self n:Nat}{s:Sh}{a a':AV}{wr:Wr}{n':Nat}(h:qi C.m self n s a=some (a',wr,n'))(hf:jB C.m n){v:Value}(hv:ay C a v):
  ∃C',C'.w=C.w∧C'.m=aG C.m wr∧SRel C'∧Ext C C'∧ay C' a' v∧jB C'.m n'∧n≤n'∧(a.leaf=true→a'.leaf=true):=by
 cases s with
 |keep=>
  simp only[qi,Option.some.injEq,Prod.mk.injEq]at h
  obtain⟨rfl,rfl,rfl⟩:=h
  exact⟨C,rfl,rfl,hs,Ext.refl C,hv,hf,Nat.le_refl _,fun h=>h⟩
 |sl t=>
  simp only[qi]at h
  split at h
  ·rename_i L m hu
   simp only[Option.some.injEq,Prod.mk.injEq]at h
   obtain⟨rfl,rfl,rfl⟩:=h
   obtain⟨v1,v2,e1,e2,_,_,hR⟩:=cR hs hu (vs:=[v]) ⟨v,[],rfl,hv,rfl⟩
   simp only[au]at e2
   subst e2
   rw[List.append_nil]at e1
   subst e1
   obtain⟨C1,s1,s2,s3,s4,s5,s6,s7,s8⟩:=cX hs m
   refine⟨C1,s4,s3,s1,s2,?_,?_,Nat.le_refl _,fun _=>rfl⟩
   ·have:=hR C1.T s8 s7
    rw[←s4]at this
    exact this
   ·rw[s3];exact iD hf (wy hf)
  ·cases h
 |own e t=>
  simp only[qi]at h
  split at h
  ·rename_i hz
   have hz:1≤t.size:=Nat.le_of_ble_eq_true hz
   split at h
   ·simp only[Option.some.injEq,Prod.mk.injEq]at h
    obtain⟨rfl,rfl,rfl⟩:=h
    simp only[ay]at hv
    subst hv
    have hid:C.m n=none:=hf n (Nat.le_refl _)
    obtain⟨hEx,hok⟩:=gr hs (id:=n) (b':=.list e t 0 false []) (g':=.list none 0) (fun k hk=>hk.elim) (fun k o' hk=>hk.elim)
     (fun _ cs h=>by rw[hid]at h;cases h) (fun _ t2 g2 sh2 L2 h=>by rw[hid]at h;cases h)
    refine⟨⟨C.w,bA C.m n (some (.list e t 0 false [])),bA C.φ n (.list none 0),C.fr,C.gl⟩,rfl,rfl,hok ⟨none,0,rfl,by omega,Nat.le_refl _,rfl⟩,hEx,⟨e,t,0,false,[],by simp[bA],Nat.le_refl _,none,0,0,rfl,fun _=>⟨by simp[bA],rfl⟩⟩,?_,Nat.le_succ _,fun _=>rfl⟩
    intro k hk
    simp only[bA]
    rw[if_neg (by omega)]
    exact hf k (by omega)
   ·rename_i b g
    split at h
    ·split at h
     ·split at h
      ·simp only[Option.some.injEq,Prod.mk.injEq]at h
       obtain⟨rfl,rfl,rfl⟩:=h
       exact⟨C,rfl,rfl,hs,Ext.refl C,hv,hf,Nat.le_refl _,fun h=>h⟩
      ·cases h
     ·cases h
    ·cases h
   ·cases h
  ·cases h
 |bself=>
  simp only[qi]at h
  split at h
  ·rename_i ty cs hm
   obtain⟨rb,c,hφ,_⟩:=hs.ok self _ hm
   have done:∀{u:Value},(u= .pointer none∨u= .pointer (some ⟨rb,0,none⟩))→some (AV.bself self,([]:Wr),n)=some (a',wr,n')→v=u→
     ∃C',C'.w=C.w∧C'.m=aG C.m wr∧SRel C'∧Ext C C'∧ay C' a' v∧jB C'.m n'∧n≤n'∧(a.leaf=true→a'.leaf=true):=by
    intro u hu h e
    simp only[Option.some.injEq,Prod.mk.injEq]at h
    obtain⟨rfl,rfl,rfl⟩:=h
    subst e
    exact⟨C,rfl,rfl,hs,Ext.refl C,⟨rb,ty,cs,hm,hφ,hu⟩,hf,Nat.le_refl _,fun _=>rfl⟩
   split at h
   ·simp only[ay]at hv
    exact done (.inl rfl) h hv
   ·rename_i b o
    split at h
    ·split at h
     ·rename_i hb
      have hb:=beq_eq hb
      subst hb
      obtain⟨rb',ty',cs',h1,h2,h3⟩:=hv
      rw[hφ]at h2
      cases h2
      exact done (.inr rfl) h h3
     ·cases h
    ·cases h
   ·rename_i b
    split at h
    ·rename_i hb
     have hb:=beq_eq hb
     subst hb
     obtain⟨rb',ty',cs',h1,h2,h3⟩:=hv
     rw[hφ]at h2
     cases h2
     rcases h3 with h3|h3
     ·exact done (.inl rfl) h h3
     ·exact done (.inr rfl) h h3
    ·cases h
   ·cases h
  ·cases h
theorem kF{self:Nat}:∀{ss:List Sh} {as as':List AV} {bs bs':gU} {n n':Nat} {C:Ctx} {vs:List Value},mh self ss as bs n=some (as',bs',n')→C.m=aC bs→SRel C→jB C.m n→au C as vs→
  ∃C',C'.w=C.w∧C'.m=aC bs'∧SRel C'∧Ext C C'∧au C' as' vs∧jB C'.m n'∧(as.all AV.leaf=true→as'.all AV.leaf=true)
 |[],as,as',bs,bs',n,n',C,vs,h,hm,hs,hf,hv=>by
  simp only[mh,Option.some.injEq,Prod.mk.injEq]at h
  obtain⟨rfl,rfl,rfl⟩:=h
  exact⟨C,rfl,hm,hs,Ext.refl C,hv,hf,fun h=>h⟩
 |s::ss,[],as',bs,bs',n,n',C,vs,h,hm,hs,hf,hv=>by simp[mh]at h
 |s::ss,a::as,as',bs,bs',n,n',C,vs,h,hm,hs,hf,hv=>by
  simp only[mh]at h
  split at h
  ·rename_i a1 wr n1 h1
   split at h
   ·rename_i as2 bs2 n2 h2
    simp only[Option.some.injEq,Prod.mk.injEq]at h
    obtain⟨rfl,rfl,rfl⟩:=h
    obtain⟨v,r,rfl,hv1,hv2⟩:=hv
    rw[←hm]at h1
    obtain⟨C1,w1,m1,s1,e1,r1,f1,_,l1⟩:=Bj hs h1 hf hv1
    obtain⟨C2,w2,m2,s2,e2,r2,f2,l2⟩:=kF h2 (by rw[m1,eS,hm]) s1 f1 (au.mono e1 hv2)
    refine⟨C2,w2.trans w1,m2,s2,e1.trans e2,⟨v,r,rfl,r1.mono e2,r2⟩,f2,fun hl=>?_⟩
    simp only[List.all_cons,Bool.and_eq_true]at hl⊢
    exact⟨l1 hl.1,l2 hl.2⟩
   ·cases h
  ·cases h
theorem Br{ss:List Sh}{a a':AV}{bs bs':gU}{n n':Nat}{C:Ctx}{v:Value}(h:Eg ss a bs n=some (a',bs',n'))(hm:C.m=aC bs)(hs:SRel C)(hf:jB C.m n)(hv:ay C a v):
  ∃C',C'.w=C.w∧C'.m=aC bs'∧SRel C'∧Ext C C'∧ay C' a' v∧jB C'.m n':=by
 unfold Eg at h
 split at h
 ·simp only[Option.some.injEq,Prod.mk.injEq]at h
  obtain⟨rfl,rfl,rfl⟩:=h
  exact⟨C,rfl,hm,hs,Ext.refl C,hv,hf⟩
 ·split at h
  ·rename_i cs
   split at h
   ·rename_i cs' bs1 n1 h1
    simp only[Option.some.injEq,Prod.mk.injEq]at h
    obtain⟨rfl,rfl,rfl⟩:=h
    obtain⟨vs,rfl,hl⟩:=hv
    obtain⟨C1,w1,m1,s1,e1,r1,f1,_⟩:=kF h1 hm hs hf hl
    exact⟨C1,w1,m1,s1,e1,⟨vs,rfl,r1⟩,f1⟩
   ·cases h
  ·cases h
  ·split at h
   ·rename_i v' bs1 n1 h1
    simp only[Option.some.injEq,Prod.mk.injEq]at h
    obtain⟨rfl,rfl,rfl⟩:=h
    obtain⟨C1,w1,m1,s1,e1,r1,f1,_⟩:=kF h1 hm hs hf (vs:=[v]) ⟨v,[],rfl,hv,rfl⟩
    obtain⟨u,r,e,r2,r3⟩:=r1
    simp only[List.cons.injEq]at e
    obtain⟨rfl,rfl⟩:=e
    exact⟨C1,w1,m1,s1,e1,r2,f1⟩
   ·cases h
theorem kN{lk:bc}:∀{sl:List (Nat×List Sh)} {tm:kf} {bs bs':gU} {n n':Nat} {C:Ctx} {ρ:Nat→Value},fY lk sl bs n=some (tm,bs',n')→C.m=aC bs→SRel C→jB C.m n→(∀i,ay C (lk i) (ρ i))→
  ∃C',C'.w=C.w∧C'.m=aC bs'∧SRel C'∧Ext C C'∧(∀i,ay C' (look tm i) (ρ i))∧jB C'.m n'
 |[],tm,bs,bs',n,n',C,ρ,h,hm,hs,hf,hv=>by
  simp only[fY,Option.some.injEq,Prod.mk.injEq]at h
  obtain⟨rfl,rfl,rfl⟩:=h
  exact⟨C,rfl,hm,hs,Ext.refl C,fun i=>trivial,hf⟩
 |(i,ss)::r,tm,bs,bs',n,n',C,ρ,h,hm,hs,hf,hv=>by
  simp only[fY]at h
  split at h
  ·rename_i v bs1 n1 h1
   split at h
   ·rename_i tm2 bs2 n2 h2
    simp only[Option.some.injEq,Prod.mk.injEq]at h
    obtain⟨rfl,rfl,rfl⟩:=h
    obtain⟨C1,w1,m1,s1,e1,r1,f1⟩:=Br h1 hm hs hf (hv i)
    obtain⟨C2,w2,m2,s2,e2,r2,f2⟩:=kN h2 m1 s1 f1 (fun j=>(hv j).mono e1)
    refine⟨C2,w2.trans w1,m2,s2,e1.trans e2,fun j=>?_,f2⟩
    simp only[look]
    split
    ·rename_i e;rw[←beq_eq e];exact r1.mono e2
    ·exact r2 j
   ·cases h
  ·cases h
theorem fy:∀{bl:List (Nat×List Sh)} {bs bs':gU} {n n':Nat} {C:Ctx},dS bl bs n=some (bs',n')→C.m=aC bs→SRel C→jB C.m n→
  ∃C',C'.w=C.w∧C'.m=aC bs'∧SRel C'∧Ext C C'∧jB C'.m n'
 |[],bs,bs',n,n',C,h,hm,hs,hf=>by
  simp only[dS,Option.some.injEq,Prod.mk.injEq]at h
  obtain⟨rfl,rfl⟩:=h
  exact⟨C,rfl,hm,hs,Ext.refl C,hf⟩
 |(b,[])::r,bs,bs',n,n',C,h,hm,hs,hf=>fy (bl:=r) (by simpa only[dS]using h) hm hs hf
 |(b,s::ss)::r,bs,bs',n,n',C,h,hm,hs,hf=>by
  simp only[dS]at h
  split at h
  ·rename_i ty cs hb
   split at h
   ·rename_i cs1 bs1 n1 h1
    rw[←hm]at hb
    obtain⟨rb,c,hφ,hh,hrel,hleaf⟩:=hs.ok b _ hb
    obtain⟨C1,w1,m1,s1,e1,r1,f1,l1⟩:=kF h1 hm hs hf hrel
    obtain⟨hφ1,cs',hb1⟩:=e1.cells b ty cs hb
    obtain⟨hE,hok⟩:=gr s1 (id:=b) (b':=.cells ty cs1) (g':=C1.φ b) (fun k hk=>⟨_,hb1,hk⟩) (fun k o hk=>⟨_,hb1,by rw[hφ1,hφ]at hk⊢;exact hk⟩)
     (fun ty2 cs2 e=>by rw[hb1]at e;cases e;exact⟨rfl,_,rfl⟩) (fun _ _ _ _ _ e=>by rw[hb1]at e;cases e)
    simp only[du]at hE hok
    have s2:=hok ⟨rb,c,hφ1.trans hφ,by rw[w1];exact hh,r1.mono hE,l1 hleaf⟩
    obtain⟨C3,w3,m3,s3,e3,f3⟩:=fy (C:=⟨C1.w,bA C1.m b (some (.cells ty cs1)),C1.φ,C1.fr,C1.gl⟩) h (by
      funext j
      simp only[bA,aC,m1]
      by_cases hj:j=b
      ·subst hj;simp
      ·rw[if_neg hj]
       split
       ·rename_i e;exact(hj (beq_eq e).symm).elim
       ·rfl) s2 (fun k hk=>by
      simp only[bA]
      rw[if_neg (fun e=>by subst e;rw[f1 k hk]at hb1;cases hb1)]
      exact f1 k hk)
    exact⟨C3,w3.trans w1,m3,s3,(e1.trans hE).trans e3,f3⟩
   ·cases h
  ·cases h
end Go.Sx
namespace Go.Sx
open Go
variable{P:Program}{E:Env}{C:Ctx}
theorem wW(m:Nat→Nat)(a:AV):bZ (kg m a)=bZ a:=by cases a<;>rfl
theorem j5(m:Nat→Nat){cs:List AV}(h:cs.all bZ=true):(cs.map (kg m)).all bZ=true:=by
 rw[List.all_map]
 refine List.all_eq_true.2 fun y hy=>?_
 rw[Function.comp_apply,wW]
 exact List.all_eq_true.1 h y hy
theorem zU(m:Nat→Nat)(a:AV)(h:a.cells.all bZ=true):(vd m a).cells.all bZ=true:=by
 cases a with
 |agg cs=>exact j5 m h
 |_=>exact h
theorem og(m:Nat→Nat)(a:AV)(h:bz a=true):bz (il m a)=true:=by
 cases a with
 |tup vs=>
  simp only[il,bz]at h⊢
  rw[List.all_map]
  exact List.all_eq_true.2 fun y hy=>zU m y (List.all_eq_true.1 h y hy)
 |agg cs=>exact j5 m h
 |_=>exact h
theorem q7(m:Nat→Nat){l:List Blk}(h:l.all bH=true):(l.map (cf m)).all bH=true:=by
 rw[List.all_map]
 refine List.all_eq_true.2 fun y hy=>?_
 have:=List.all_eq_true.1 h y hy
 cases y with
 |cells ty cs=>exact j5 m this
 |list ee t g sh L=>rfl
theorem mf{get:Get}{np:Nat}:∀(d k n:Nat) (ids rest:List Nat),d+k=np→reach get n (List.range' k d++rest) (List.range k)=some ids→∀i,i<np→ids[i]? =some i
 |0,k,n,ids,rest,hk,h,i,hi=>by
  have e:k=np:=by omega
  subst e
  have hx:∀(n:Nat) (todo acc ids:List Nat),reach get n todo acc=some ids→∃more,ids=acc++more:=by
   intro n
   induction n with
   |zero=>
    intro todo acc ids h
    cases todo with
    |nil=>simp only[reach,Option.some.injEq]at h;exact⟨[],by simp[h]⟩
    |cons b todo=>simp[reach]at h
   |succ n ih=>
    intro todo acc ids h
    cases todo with
    |nil=>simp only[reach,Option.some.injEq]at h;exact⟨[],by simp[h]⟩
    |cons b todo=>
     simp only[reach]at h
     split at h
     ·exact ih _ _ _ h
     ·obtain⟨more,hm⟩:=ih _ _ _ h
      exact⟨b::more,by rw[hm,List.append_assoc];rfl⟩
  obtain⟨more,rfl⟩:=hx _ _ _ _ h
  rw[List.getElem?_append_left (by simpa using hi)]
  simp[hi]
 |d+1,k,0,ids,rest,hk,h,i,hi=>by simp[reach,List.range'_succ]at h
 |d+1,k,n+1,ids,rest,hk,h,i,hi=>by
  rw[List.range'_succ,List.cons_append]at h
  simp only[reach]at h
  split at h
  ·rename_i hb
   have:=any_beq.1 hb
   simp at this
  ·rw[←List.range_succ,List.append_assoc]at h
   exact mf d (k+1) n ids _ (by omega) h i hi
theorem Cc{ids:List Nat}(hd:ids.Nodup){i b:Nat}(h:ids[i]? =some b):posOf ids b=i:=by
 have hm:=List.mem_of_getElem? h
 have h2:=ly hm
 obtain⟨h3,h4⟩:=List.getElem?_eq_some_iff.1 h
 obtain⟨h5,h6⟩:=List.getElem?_eq_some_iff.1 h2
 exact(List.getElem_inj (h₀:=h5) (h₁:=h3) hd).1 (h6.trans h4.symm)
theorem gu{D C:Ctx}{bs:List Blk}(hm:D.m=aC (aq 0 bs))(hE:Ext D C)(hs:SRel C){more ids:List Nat}{l:List Blk}(hr:reach C.m 200 (List.range bs.length++more) []=some ids)(hl:getAll C.m ids=some l)(hok:l.all bH=true):
  SRel (Sub C ids C.fr (l.map (cf (posOf ids))))∧Ext D (Sub C ids C.fr (l.map (cf (posOf ids))))∧Ren C (Sub C ids C.fr (l.map (cf (posOf ids)))) (posOf ids) (· ∈ids)∧(∀b∈more,b∈ids)∧
   (∀i,i<bs.length→ids[i]? =some i)∧ids.Nodup∧(∀i<bs.length,i∈ids):=by
 obtain⟨hd,_,hids,hcl⟩:=kI hr (by simp) (by simp)
 have hrange:∀i,i<bs.length→ids[i]? =some i:=by
  rw[List.range_eq_range']at hr
  exact mf bs.length 0 200 ids more (by omega) (by simpa using hr)
 obtain⟨hsD,hren,hTD,hheld,hown⟩:=wP hs hd hl hcl hok (fr:=C.fr)
  (fun k o b hf hb hk=>by
   obtain⟨_,h2⟩:=cu hl
   obtain⟨i,hi,e⟩:=List.getElem_of_mem hb
   obtain⟨b0,hb0⟩:=Option.isSome_iff_exists.1 (h2 i b (by simp[hi,e])).2
   exact hs.frApart k o hf ⟨b,b0,hb0,hk⟩)
  (fun k o hf=>hs.frOld k o hf) (fun k o hf=>.inl hf)
 have hlive:∀i b,D.m i=some b→i<bs.length:=fun i b h=>by
  rw[hm,aI]at h
  simp only[Nat.zero_le,if_true,Nat.sub_zero]at h
  exact(List.getElem?_eq_some_iff.1 h).1
 have hat:∀i b b',D.m i=some b→C.m i=some b'→(Sub C ids C.fr (l.map (cf (posOf ids)))).m i=some (cf (posOf ids) b')∧(Sub C ids C.fr (l.map (cf (posOf ids)))).φ i=C.φ i:=fun i b b' h h'=>by
  have hi:=hrange i (hlive i b h)
  have:=wv (fr:=C.fr) (f:=posOf ids) hl (List.mem_of_getElem? hi) h'
  rwa [Cc hd hi]at this
 refine⟨hsD,?_,hren,fun b hb=>hids b (List.mem_append_right _ hb),hrange,hd,fun i hi=>List.mem_of_getElem? (hrange i hi)⟩
 exact{
  cells:=fun i ty cs hi=>by
   obtain⟨e1,cs',e2⟩:=hE.cells i ty cs hi
   obtain⟨e3,e4⟩:=hat i _ _ hi e2
   exact⟨e4.trans e1,_,e3⟩
  lists:=fun i ee t g sh L hi=>by
   obtain⟨g',sh',L',e1,e2,e3⟩:=hE.lists i ee t g sh L hi
   obtain⟨e4,e5⟩:=hat i _ _ hi e1
   exact⟨g',sh',L',e4,e2,fun e=>⟨e5.trans (e3 e).1,(e3 e).2⟩⟩
  keep:=fun k o x h1 h2=>by
   obtain⟨h3,h4⟩:=hE.keep k o x h1 h2
   exact⟨h3,fun h5=>h4 (hTD k o h5)⟩
  frEq:=hE.frEq
  glEq:=hE.glEq
  frKeep:=hE.frKeep
  size:=hE.size
  old:=hE.old
  held:=fun k h=>by
   obtain⟨b,blk,_,h2,h3⟩:=hheld k h
   exact hE.held k ⟨b,blk,h2,h3⟩
  own:=fun k o h=>by
   obtain⟨b,blk,_,h2,h3⟩:=hown k o h
   exact hE.own k o ⟨b,blk,h2,h3⟩
  os:=hE.os
  tape:=hE.tape
  output:=hE.output}
def Gen(C:Ctx)(l:List Blk):Ctx:=⟨C.w,aC (aq 0 l),C.φ,C.fr,C.gl⟩
theorem Er(a:AV):kg (fun i=>i) a=a:=by cases a<;>rfl
structure GenRel(C C':Ctx)(q:Nat→Nat):Prop where
 keep:tZ C.w C.T C'.w C'.T
 cells:∀b ty cs,C.m b=some (.cells ty cs)→C'.φ b=C.φ b∧∃cs',C'.m b=some (.cells ty cs')
 lists:∀b ee t g sh L,C.m b=some (.list ee t g sh L)→C'.φ b=C.φ b∧C'.m b=some (.list ee t (q b) sh L)
theorem GenRel.relA{C':Ctx}{q:Nat→Nat}(h:GenRel C C' q){a a':AV}(hg:gA C.m q a=some a')(hp:bZ a=true){v:Value}(hv:ay C a v):ay C' a' v∧(a.leaf=true→a'.leaf=true):=by
 have hren:Ren C C' (fun i=>i) (fun b=>∃ty cs,C.m b=some (.cells ty cs)):={
  keep:=h.keep
  cells:=fun b ty cs _ hm=>h.cells b ty cs hm
  lists:=fun b ee t g sh L ⟨_,_,e⟩ hm=>by rw[e]at hm;cases hm}
 have other:gA C.m q a=some a→(∀b∈refA a,∃ty cs,C.m b=some (.cells ty cs))→ay C' a' v∧(a.leaf=true→a'.leaf=true):=fun e hS=>by
  rw[e]at hg
  cases hg
  have:=hren.refA hS hp hv
  rw[Er]at this
  exact⟨this,fun h=>h⟩
 cases a with
 |own b g=>
  obtain⟨ee,t,g',sh,L,h1,h2,a,n,cap,h3,h4⟩:=hv
  simp only[gA,h1]at hg
  split at hg
  ·rename_i e
   have e:=beq_eq e
   simp only[Option.some.injEq]at hg
   subst hg
   obtain⟨e1,e2⟩:=h.lists b _ _ _ _ _ h1
   exact⟨⟨ee,t,q b,sh,L,e2,Nat.le_refl _,a,n,cap,h3,fun _=>⟨e1.trans (h4 e).1,(h4 e).2⟩⟩,fun _=>rfl⟩
  ·cases hg
 |el b g i off=>
  obtain⟨ee,t,g',sh,L,h1,h2,k,o,h3,h4⟩:=hv
  simp only[gA,h1]at hg
  split at hg
  ·rename_i e
   have e:=beq_eq e
   simp only[Option.some.injEq]at hg
   subst hg
   obtain⟨e1,e2⟩:=h.lists b _ _ _ _ _ h1
   obtain⟨ad,cap,e3,e4⟩:=h4 e
   exact⟨⟨ee,t,q b,sh,L,e2,Nat.le_refl _,k,o,h3,fun _=>⟨ad,cap,e1.trans e3,e4⟩⟩,fun _=>rfl⟩
  ·cases hg
 |ref b off=>exact other rfl (fun c hc=>by
   simp only[Sx.refA,List.mem_singleton]at hc
   subst hc
   obtain⟨_,ty,cs,h1,_⟩:=hv
   exact⟨ty,cs,h1⟩)
 |bself b=>exact other rfl (fun c hc=>by
   simp only[Sx.refA,List.mem_singleton]at hc
   subst hc
   obtain⟨_,ty,cs,h1,_⟩:=hv
   exact⟨ty,cs,h1⟩)
 |_=>exact other rfl (fun c hc=>by simp[Sx.refA]at hc)
theorem GenRel.relAs{C':Ctx}{q:Nat→Nat}(h:GenRel C C' q):∀{as as':List AV} {vs:List Value},cZ (gA C.m q) as=some as'→as.all bZ=true→au C as vs→au C' as' vs∧(as.all AV.leaf=true→as'.all AV.leaf=true)
 |[],as',vs,hg,_,hv=>by simp only[cZ,Option.some.injEq]at hg;subst hg;exact⟨hv,fun h=>h⟩
 |a::as,as',vs,hg,hp,hv=>by
  simp only[cZ]at hg
  split at hg
  ·rename_i b r e1 e2
   simp only[Option.some.injEq]at hg
   subst hg
   obtain⟨v,r,rfl,h1,h2⟩:=hv
   simp only[List.all_cons,Bool.and_eq_true]at hp
   obtain⟨k1,k2⟩:=h.relA e1 hp.1 h1
   obtain⟨k3,k4⟩:=h.relAs e2 hp.2 h2
   refine⟨⟨v,_,rfl,k1,k3⟩,fun hl=>?_⟩
   simp only[List.all_cons,Bool.and_eq_true]at hl⊢
   exact⟨k2 hl.1,k4 hl.2⟩
  ·cases hg
theorem GenRel.relC{C':Ctx}{q:Nat→Nat}(h:GenRel C C' q){a a':AV}(hg:gC C.m q a=some a')(hp:a.cells.all bZ=true){v:Value}(hv:ay C a v):ay C' a' v:=by
 cases a with
 |agg cs=>
  simp only[gC]at hg
  split at hg
  ·rename_i cs' e
   simp only[Option.some.injEq]at hg
   subst hg
   obtain⟨vs,rfl,hl⟩:=hv
   exact⟨vs,rfl,(h.relAs e hp hl).1⟩
  ·cases hg
 |_=>
  simp only[gC]at hg
  exact(h.relA hg (by simpa [AV.cells]using hp) hv).1
theorem GenRel.relCs{C':Ctx}{q:Nat→Nat}(h:GenRel C C' q):∀{as as':List AV} {vs:List Value},cZ (gC C.m q) as=some as'→(as.all fun v=>v.cells.all bZ)=true→au C as vs→au C' as' vs
 |[],as',vs,hg,_,hv=>by simp only[cZ,Option.some.injEq]at hg;subst hg;exact hv
 |a::as,as',vs,hg,hp,hv=>by
  simp only[cZ]at hg
  split at hg
  ·rename_i b r e1 e2
   simp only[Option.some.injEq]at hg
   subst hg
   obtain⟨v,r,rfl,h1,h2⟩:=hv
   simp only[List.all_cons,Bool.and_eq_true]at hp
   exact⟨v,_,rfl,h.relC e1 hp.1 h1,h.relCs e2 hp.2 h2⟩
  ·cases hg
theorem GenRel.relV{C':Ctx}{q:Nat→Nat}(h:GenRel C C' q){a a':AV}(hg:gV C.m q a=some a')(hp:bz a=true){v:Value}(hv:ay C a v):ay C' a' v:=by
 cases a with
 |tup vs=>
  simp only[gV]at hg
  split at hg
  ·rename_i vs' e
   simp only[Option.some.injEq]at hg
   subst hg
   obtain⟨us,rfl,hl⟩:=hv
   exact⟨us,rfl,h.relCs e hp hl⟩
  ·cases hg
 |agg cs=>exact h.relC (a:=.agg cs) (show gC C.m q (.agg cs)=some a' from hg) hp hv
 |_=>
  rw[gV.eq_2 _ _ _ (by intro _ h;cases h),gC.eq_2 _ _ _ (by intro _ h;cases h)]at hg
  exact(h.relA hg (by simpa only[bz]using hp) hv).1
theorem xH{get:Get}{q:Nat→Nat}:∀{l l':List Blk} {i:Nat},gBs get q i l=some l'→l'.length=l.length∧∀(j:Nat) b,l[j]? =some b→∃b',l'[j]? =some b'∧gB get q (i+j) b=some b'
 |[],l',i,h=>by simp only[gBs,Option.some.injEq]at h;subst h;simp
 |b::l,l',i,h=>by
  simp only[gBs]at h
  split at h
  ·rename_i b' r e1 e2
   simp only[Option.some.injEq]at h
   subst h
   obtain⟨h1,h2⟩:=xH e2
   refine⟨by simp[h1],fun j x hj=>?_⟩
   cases j with
   |zero=>simp only[List.getElem?_cons_zero,Option.some.injEq]at hj;subst hj;exact⟨b',rfl,e1⟩
   |succ j=>
    obtain⟨b2,h3,h4⟩:=h2 j x (by simpa using hj)
    exact⟨b2,by simpa using h3,by rw[show i+(j+1)=i+1+j by omega];exact h4⟩
  ·cases h
theorem ke(hs:SRel C){l l':List Blk}(hm:C.m=aC (aq 0 l))(hok:l.all bH=true){q:Nat→Nat}(hg:gBs C.m q 0 l=some l'):
  SRel (Gen C l')∧GenRel C (Gen C l') q∧(∀k o,(Gen C l').own k o↔C.own k o)∧(∀k,(Gen C l').held k↔C.held k):=by
 obtain⟨h1,h2⟩:=xH hg
 have get1:∀j,C.m j=l[j]? :=fun j=>by rw[hm,aI];simp
 have get2:∀j,(Gen C l').m j=l'[j]? :=fun j=>by simp[Gen,aI]
 have fwd:∀j b,C.m j=some b→∃b',(Gen C l').m j=some b'∧gB C.m q j b=some b':=fun j b h=>by
  rw[get1]at h
  obtain⟨b',e1,e2⟩:=h2 j b h
  exact⟨b',by rw[get2];exact e1,by simpa using e2⟩
 have bwd:∀j b',(Gen C l').m j=some b'→∃b,C.m j=some b∧gB C.m q j b=some b':=fun j b' h=>by
  rw[get2]at h
  have hj:j<l.length:=by rw[←h1];exact(List.getElem?_eq_some_iff.1 h).1
  obtain⟨b2,e1,e2⟩:=h2 j l[j] (by simp[hj])
  rw[h]at e1
  cases e1
  exact⟨l[j],by rw[get1];simp[hj],by simpa using e2⟩
 have ownEq:∀{j b b'},gB C.m q j b=some b'→∀g k o,bJ g b' k o↔bJ g b k o:=by
  intro j b b' h g k o
  cases b with
  |cells ty cs=>
   simp only[gB]at h
   split at h
   ·simp only[Option.some.injEq]at h;subst h;cases g<;>simp[bJ]
   ·cases h
  |list e t g0 sh L=>simp only[gB,Option.some.injEq]at h;subst h;cases g with|cells rb=>simp[bJ]|list a cap=>cases a<;>simp[bJ]
 have hown:∀k o,(Gen C l').own k o↔C.own k o:=fun k o=>by
  constructor
  ·rintro ⟨j,b',e1,e2⟩
   obtain⟨b,e3,e4⟩:=bwd j b' e1
   exact⟨j,b,e3,(ownEq e4 _ _ _).1 e2⟩
  ·rintro ⟨j,b,e1,e2⟩
   obtain⟨b',e3,e4⟩:=fwd j b e1
   exact⟨j,b',e3,(ownEq e4 _ _ _).2 e2⟩
 have hheld:∀k,(Gen C l').held k↔C.held k:=fun k=>by
  constructor
  ·rintro ⟨j,b',e1,e2⟩
   obtain⟨b,e3,e4⟩:=bwd j b' e1
   exact⟨j,b,e3,e2⟩
  ·rintro ⟨j,b,e1,e2⟩
   obtain⟨b',e3,e4⟩:=fwd j b e1
   exact⟨j,b',e3,e2⟩
 have hT:∀k o,(Gen C l').T k o↔C.T k o:=fun k o=>or_congr Iff.rfl (hown k o)
 have hkeep:tZ C.w C.T (Gen C l').w (Gen C l').T:=fun k o v e1 e2=>⟨e1,fun e3=>e2 ((hT k o).1 e3)⟩
 have hgr:GenRel C (Gen C l') q:={
  keep:=hkeep
  cells:=fun b ty cs hb=>by
   obtain⟨b',e1,e2⟩:=fwd b _ hb
   simp only[gB]at e2
   split at e2
   ·simp only[Option.some.injEq]at e2;subst e2;exact⟨rfl,_,e1⟩
   ·cases e2
  lists:=fun b ee t g sh L hb=>by
   obtain⟨b',e1,e2⟩:=fwd b _ hb
   simp only[gB,Option.some.injEq]at e2
   subst e2
   exact⟨rfl,e1⟩}
 refine⟨{ok:=?_,apart:=?_,frApart:=fun k o hf hh=>hs.frApart k o hf ((hheld k).1 hh),frOld:=hs.frOld,gl:=fun k o h=>⟨(hs.gl k o h).1,fun hh=>(hs.gl k o h).2.1 ((hheld k).1 hh),(hs.gl k o h).2.2⟩},hgr,hown,hheld⟩
 ·intro j b' hj
  obtain⟨b,e1,e2⟩:=bwd j b' hj
  have hb:=hs.ok j b e1
  have hokb:bH b=true:=by
   rw[get1]at e1
   exact List.all_eq_true.1 hok _ (List.mem_of_getElem? e1)
  cases b with
  |cells ty cs=>
   obtain⟨rb,c,e3,e4,e5,e6⟩:=hb
   simp only[gB]at e2
   split at e2
   ·rename_i cs' e7
    simp only[Option.some.injEq]at e2
    subst e2
    obtain⟨k1,k2⟩:=hgr.relAs e7 hokb e5
    exact⟨rb,c,e3,e4,k1,k2 e6⟩
   ·cases e2
  |list ee t g sh L=>
   simp only[gB,Option.some.injEq]at e2
   subst e2
   obtain⟨a,cap,e3,e4,e5,e6⟩:=hb
   refine⟨a,cap,e3,e4,e5,?_⟩
   cases a with
   |none=>exact e6
   |some ad=>
    obtain⟨hsp,c,lo,hi,hh,hsz,hfz,hsh,hx⟩:=e6
    exact⟨hsp,c,lo,hi,hh,hsz,hfz,fun hs o k1 k2 k3=>hsh hs o k1 k2 ((hT _ _).1 k3),fun i x hi=>(hx i x hi).mono hkeep⟩
 ·intro i b j b2 k hi hj hne k1 k2
  obtain⟨b',e1,_⟩:=bwd i b hi
  obtain⟨b2',e2,_⟩:=bwd j b2 hj
  exact hs.apart i b' j b2' k e1 e2 hne k1 k2
end Go.Sx
namespace Go.Sx
open Go
variable{P:Program}{E:Env}
theorem uc(f:AV→AV)(hf:f .undef= .undef):∀(tm:kf) (i:Nat),look (tm.map fun p=>(p.1,f p.2)) i=f (look tm i)
 |[],i=>by simp[look,hf]
 |(j,v)::tm,i=>by
  simp only[List.map_cons,look]
  split
  ·rfl
  ·exact uc f hf tm i
theorem nH:∀(tm:kf) (i:Nat),look tm i= .undef∨∃p∈tm,p.2=look tm i
 |[],i=>.inl rfl
 |(j,v)::tm,i=>by
  simp only[look]
  split
  ·exact .inr ⟨(j,v),by simp,rfl⟩
  ·rcases nH tm i with h|⟨p,h1,h2⟩
   ·exact .inl h
   ·exact .inr ⟨p,by simp[h1],h2⟩
theorem yW{get:Get}{q:Nat→Nat}:∀{tm tm':kf} (i:Nat),gT get q tm=some tm'→gV get q (look tm i)=some (look tm' i)
 |[],tm',i,h=>by simp only[gT,Option.some.injEq]at h;subst h;rfl
 |(j,v)::tm,tm',i,h=>by
  simp only[gT]at h
  split at h
  ·rename_i v' r' e1 e2
   simp only[Option.some.injEq]at h
   subst h
   simp only[look]
   split
   ·exact e1
   ·exact yW i e2
  ·cases h
def xq(bs:List Blk):Prop:=∀ee t g sh L,Blk.list ee t g sh L∈bs→g=0
theorem EL{D:Ctx}{bs:List Blk}(hm:D.m=aC (aq 0 bs))(h0:xq bs){tp:Tpl}{st st':St}(h:norm bs.length tp st=some st'){C:Ctx}{a:Act}{N:Nat}{ds:List Deferred}(hr:StR C a st N ds)(hE:Ext D C):
  ∃C',C'.w=C.w∧StR C' a st' N ds∧Ext D C':=by
 unfold norm at h
 split at h
 ·cases h
 rename_i tm bs1 n h1
 split at h
 ·cases h
 rename_i ids hr1
 split at h
 ·cases h
 rename_i bs2 n2 h2
 split at h
 ·cases h
 rename_i ids2 hr2
 split at h
 ·cases h
 rename_i l hl
 split at h
 ·cases h
 rename_i hck
 simp only[Bool.and_eq_true]at hck
 obtain⟨hp,hok⟩:=hck
 dsimp only at h
 split at h
 rotate_left
 ·cases h
 rename_i tm3 l3 h3 h4
 simp only[Option.some.injEq]at h
 subst h
 obtain⟨C1,w1,m1,s1,e1,r1,f1⟩:=kN (ρ:=fun i=>a.eval (.tmp i)) h1 hr.r.m hr.r.s (by rw[hr.r.m];exact hr.free) (fun i=>hr.r.t (.tmp i))
 obtain⟨C2,w2,m2,s2,e2,f2⟩:=fy h2 m1 s1 f1
 rw[←m2]at hr2 hl
 obtain⟨s3,e3,hren,hids,hrange,_,_⟩:=gu hm ((hE.trans e1).trans e2) s2 hr2 hl hok
 have hok2:=q7 (posOf ids2) hok
 generalize hD:Sub C2 ids2 C2.fr (l.map (cf (posOf ids2)))=D2 at s3 e3 hren
 have m3:D2.m=aC (aq 0 (l.map (cf (posOf ids2)))):=by rw[←hD];rfl
 have w3:D2.w=C2.w:=by rw[←hD];rfl
 rw[←m3]at h3 h4
 obtain⟨s4,hg,hown,hheld⟩:=ke s3 m3 hok2 h4
 refine⟨Gen D2 l3,(w3.trans w2).trans w1,⟨⟨rfl,s4,?_⟩,?_,hr.size,hr.defers⟩,?_⟩
 ·intro x
  cases x with
  |tmp i=>
   simp only[al]
   have hv:=(r1 i).mono e2
   have hplain:bz (look tm i)=true:=by
    rcases nH tm i with e|⟨p,hpm,e⟩
    ·rw[e];rfl
    ·rw[←e];exact List.all_eq_true.1 hp p hpm
   have href:∀b∈gS (look tm i),b∈ids2:=fun b hb=>hids b (by
    rcases nH tm i with e|⟨p,hpm,e⟩
    ·rw[e]at hb;simp[gS,refA]at hb
    ·rw[←e]at hb
     exact List.mem_flatMap.2 ⟨p,hpm,hb⟩)
   have h5:=hren.relV href hplain hv
   have h6:=yW i h3
   rw[uc (il (posOf ids2)) rfl]at h6
   exact hg.relV h6 (og _ _ hplain) h5
  |const c=>exact fm c
  |global g=>exact trivial
  |func f=>exact⟨#[],rfl,rfl⟩
 ·intro k hk
  simp only[aI,Nat.zero_le,if_true,Nat.sub_zero]
  exact List.getElem?_eq_none hk
 ·have hlive:∀i b,D.m i=some b→i<bs.length∧bs[i]? =some b:=fun i b h=>by
   rw[hm,aI]at h
   simp only[Nat.zero_le,if_true,Nat.sub_zero]at h
   exact⟨(List.getElem?_eq_some_iff.1 h).1,h⟩
  have hT:∀k o,(Gen D2 l3).T k o→D2.T k o:=fun k o h=>h.imp id (hown k o).1
  exact{
   cells:=fun i ty cs hi=>by
    obtain⟨k1,cs',k2⟩:=e3.cells i ty cs hi
    obtain⟨k3,k4⟩:=hg.cells i ty cs' k2
    exact⟨k3.trans k1,k4⟩
   lists:=fun i ee t g sh L hi=>by
    obtain⟨g',sh',L',k1,k2,k3⟩:=e3.lists i ee t g sh L hi
    obtain⟨k4,k5⟩:=hg.lists i _ _ _ _ _ k1
    obtain⟨k6,k7⟩:=hlive i _ hi
    have hg0:=h0 _ _ _ _ _ (List.mem_of_getElem? k7)
    have hq:Nat.blt i bs.length=true:=Nat.ble_eq_true_of_le k6
    simp only[hq]at k5
    exact⟨1,sh',L',k5,by omega,fun e=>by omega⟩
   keep:=fun k o x k1 k2=>by
    obtain⟨k3,k4⟩:=e3.keep k o x k1 k2
    exact⟨k3,fun k5=>k4 (hT k o k5)⟩
   frEq:=e3.frEq
   glEq:=e3.glEq
   frKeep:=e3.frKeep
   size:=e3.size
   old:=e3.old
   held:=fun k h=>e3.held k ((hheld k).1 h)
   own:=fun k o h=>e3.own k o ((hown k o).1 h)
   os:=e3.os
   tape:=e3.tape
   output:=e3.output}
end Go.Sx
namespace Go.Sx
open Go
variable{P:Program}{E:Env}{K:Callee}{C:Ctx}
def tj(tmps:Array Value):ResultVar→Sem Value
 | .tmp t=>pure (tmps.getD t undef)
 | .cell a t=>do loadVar t (←asAddr (tmps.getD a undef))
theorem Dp(hE:EnvOK E P)(hs:SRel C){a:Act}{lk:bc}(ht:lH C lk a){r:ResultVar}{v:AV}(h:FZ E lk C.m r=some v):
  ∃u,(tj a.tmps r).run P C.w= .ok u C.w∧ay C v u:=by
 cases r with
 |tmp t=>
  simp only[FZ,Option.some.injEq]at h
  subst h
  exact⟨_,rfl,ht (.tmp t)⟩
 |cell ad t=>
  simp only[FZ]at h
  split at h
  ·rename_i ti hti
   split at h
   ·rename_i cs rd hc
    split at h
    ·rename_i hn
     obtain⟨i,d,z,hT⟩:=hE.T hti
     have hv:=ht (.tmp ad)
     simp only[al]at hv
     obtain⟨k,off,vs,hp,hr,hcell⟩:=mK hs hv hc
     obtain⟨u,hu,hrel⟩:=jg hr h
     refine⟨u,?_,hrel⟩
     have hp':a.tmps.getD ad undef= .pointer (some ⟨k,off,none⟩):=hp
     simp only[tj,hp',asAddr,Sem.run_bind,Sem.run_pure,Result.andThen_ok]
     exact kB hT (by rw[←hr.len];exact beq_eq hn) hcell hu
    ·cases h
   ·cases h
  ·cases h
theorem qB(hE:EnvOK E P)(hs:SRel C){a:Act}{lk:bc}(ht:lH C lk a):∀{rs:List ResultVar} {vs:List AV},jJ E lk C.m rs=some vs→
  ∃us,(rs.mapM (tj a.tmps)).run P C.w= .ok us C.w∧au C vs us
 |[],vs,h=>by
  simp only[jJ,Option.some.injEq]at h
  subst h
  exact⟨[],by simp,rfl⟩
 |r::rs,vs,h=>by
  simp only[jJ]at h
  split at h
  ·rename_i v vs' h1 h2
   simp only[Option.some.injEq]at h
   subst h
   obtain⟨u,e1,e2⟩:=Dp hE hs ht h1
   obtain⟨us,e3,e4⟩:=qB hE hs ht h2
   refine⟨u::us,?_,u,us,rfl,e2,e4⟩
   simp only[List.mapM_cons,Sem.run_bind,e1,Result.andThen_ok,e3,Sem.run_pure]
  ·cases h
def MF:List AV→AV
 |[v]=>v
 |vs=>.tup vs
theorem va(hE:EnvOK E P)(hs:SRel C){a:Act}{lk:bc}(ht:lH C lk a){fn:Func}{vs:List AV}(h:jJ E lk C.m fn.results.toList=some vs):
  ∃u,(results fn a.tmps).run P C.w= .ok u C.w∧ay C (MF vs) u:=by
 obtain⟨us,h1,h2⟩:=qB hE hs ht h
 have hdef:results fn a.tmps=(do let vs←fn.results.mapM (tj a.tmps);pure (if h:vs.size=1 then vs[0]else .tuple vs)):=rfl
 have hrun:(results fn a.tmps).run P C.w= .ok (if h:us.toArray.size=1 then us.toArray[0]else .tuple us.toArray) C.w:=by
  rw[hdef,Array.mapM_eq_mapM_toList]
  simp only[map_eq_pure_bind,Sem.run_bind,h1,Result.andThen_ok,Sem.run_pure]
 refine⟨_,hrun,?_⟩
 match vs,h2 with
 |[],h2=>
  simp only[au]at h2
  subst h2
  exact⟨#[],rfl,rfl⟩
 |[v],h2=>
  obtain⟨u,r,rfl,h3,h4⟩:=h2
  simp only[au]at h4
  subst h4
  show ay C v _
  simpa using h3
 |v::v'::vs,h2=>
  obtain⟨u,r,rfl,h3,u',r',rfl,h4,h5⟩:=h2
  rw[dif_neg (by simp)]
  exact⟨_,rfl,u,_,rfl,h3,u',r',rfl,h4,h5⟩
end Go.Sx
namespace Go.Sx
open Go
variable{G:Nat→Obj→Prop}{P:Program}{E:Env}{K:Callee}{R:Type}
theorem nD{D C:Ctx}{bs:List Blk}(hm:D.m=aC (aq 0 bs))(hE:Ext D C)(hs:SRel C){v:AV}{u:Value}(hv:ay C v u){k:(Out×List Blk)→Rs R}{r:R}(h:leave bs.length C.m v k= .ok r):
  ∃o,k o= .ok r∧bW D o (.returned u) C.w:=by
 unfold leave at h
 split at h
 ·cases h
 ·rename_i ids hr
  split at h
  ·cases h
  ·rename_i l hl
   split at h
   ·rename_i hck
    simp only[Bool.and_eq_true]at hck
    obtain⟨hp,hok⟩:=hck
    obtain⟨s3,e3,hren,hids,_⟩:=gu hm hE hs hr hl hok
    exact⟨_,h,_,Sub C ids C.fr (l.map (cf (posOf ids))),rfl,rfl,rfl,s3,e3,hren.relV hids hp hv,og _ _ hp,q7 _ hok⟩
   ·cases h
structure FIOK(P:Program)(f:Nat)(fi:FI):Prop where
 fn:∃fn,P.funcs[f]? =some fn∧fn.body=some fi.code∧fn.ntmps=fi.ntmps∧fn.results.toList=fi.results∧(fn.name=="runtime.NumGoroutine")=false
 code:codeOk fi.ntmps fi.code=true
theorem qG:∀(as:List AV) (i j:Nat),look (dF i as) j=if i≤j then(as[j-i]?).getD .undef else .undef
 |[],i,j=>by simp[dF,look]
 |a::as,i,j=>by
  simp only[dF,look]
  split
  ·rename_i e
   have:=beq_eq e
   subst this
   simp
  ·rename_i e
   have hne:i≠j:=fun hh=>by subst hh;simp at e
   rw[qG as (i+1) j]
   by_cases hle:i≤j
   ·rw[if_pos hle,if_pos (by omega)]
    obtain⟨d,hd⟩:∃d,j-i=d+1:=⟨j-i-1,by omega⟩
    rw[hd,show j-(i+1)=d by omega]
    simp
   ·rw[if_neg hle,if_neg (by omega)]
theorem qQ{C:Ctx}{args:List AV}{vals:List Value}(hv:au C args vals)(n:Nat):lH C (look (dF 0 args)) {tmps:=vals.toArray++Array.replicate n undef,defers:=[]}:=by
 intro x
 cases x with
 |tmp t=>
  simp only[al,Act.eval,qG,Nat.zero_le,if_true,Nat.sub_zero]
  cases h:args[t]? with
  |none=>exact trivial
  |some a=>
   obtain⟨v,h1,h2⟩:=hv.get h
   have hlt:t<vals.length:=(List.getElem?_eq_some_iff.1 h1).1
   have:(vals.toArray++Array.replicate n undef).getD t undef=v:=by
    simp[Array.getD_eq_getD_getElem?,Array.getElem?_append,hlt]
    have:=List.getElem?_eq_getElem hlt
    rw[h1]at this
    exact(Option.some.inj this).symm
   rw[this]
   exact h2
 |const c=>exact fm c
 |global g=>exact trivial
 |func f=>exact⟨#[],rfl,rfl⟩
def Ends(P:Program)(fn:Func)(D:Ctx)(k:(Out×List Blk)→Rs R)(r:R):Post:=fun e a w=>match e with
 | .normal| .ret=>a.defers=[]∧∃v,(results fn a.tmps).run P w= .ok v w∧∃o,k o= .ok r∧bW D o (.returned v) w
 | .panic ch=>a.defers=[]∧∃o,k o= .ok r∧bW D o (.panicked ch) w
 |_=>False
theorem sI(hE:EnvOK E P){D:Ctx}{bs:List Blk}(hm:D.m=aC (aq 0 bs)){fn:Func}{rs:List ResultVar}(hrs:fn.results.toList=rs){k:(Out×List Blk)→Rs R}{r:R}{N:Nat}:
  KS D N [] (bX E bs.length rs k) r (Ends P fn D k r):=by
 have fin:∀(st:St) (C:Ctx) (a:Act),(match jJ E (look st.tmps) (aC st.blks) rs with
   |some [v]=>leave bs.length (aC st.blks) v k
   |some vs=>leave bs.length (aC st.blks) (.tup vs) k
   |none=>.err 14)= .ok r→StR C a st N []→Ext D C→a.defers=[]∧∃v,(results fn a.tmps).run P C.w= .ok v C.w∧∃o,k o= .ok r∧bW D o (.returned v) C.w:=by
  intro st C a hk hr hX
  refine⟨hr.defers,?_⟩
  have hmm:=hr.r.m
  rw[←hmm]at hk
  cases hres:jJ E (look st.tmps) C.m rs with
  |none=>rw[hres]at hk;cases hk
  |some vs=>
   rw[hres]at hk
   have hres':jJ E (look st.tmps) C.m fn.results.toList=some vs:=by rw[hrs];exact hres
   obtain⟨u,hu1,hu2⟩:=va hE hr.r.s hr.r.t (fn:=fn) hres'
   refine⟨u,hu1,?_⟩
   clear hres hres'
   match vs,hk,hu2 with
   |[],hk,hu2=>exact nD hm hX hr.r.s hu2 hk
   |[v],hk,hu2=>exact nD hm hX hr.r.s hu2 hk
   |v::v'::vs,hk,hu2=>exact nD hm hX hr.r.s hu2 hk
 exact{
  normal:=fun st C a h hr hX=>fin st C a h hr hX
  exit:=fun id st C a h hr hX=>by cases h
  ret:=fun st C a h hr hX=>fin st C a h hr hX
  panic:=fun v st a w ch h hp hd=>⟨hd,_,h,v,rfl,hp⟩}
theorem py{f:Nat}{fi:FI}(hf:FIOK P f fi){args:List AV}{bs:List Blk}(hn:Nat.ble args.length fi.ntmps=true){o:Out×List Blk}
  (h:∀(fn:Func),fn.results.toList=fi.results→∀(D:Ctx) (vals:List Value) (a:Act),D.gl=G→D.m=aC (aq 0 bs)→SRel D→au D args vals→StR D a {tmps:=dF 0 args,blks:=aq 0 bs,next:=bs.length} fi.ntmps []→
   fi.code.wp P (Ends P fn D .ok o) a D.w):SA P G f args bs o:=by
 intro D vals hG hm hs hv
 have hn:=Nat.le_of_ble_eq_true hn
 obtain⟨fn,h1,h2,h3,h4,h5⟩:=hf.fn
 have h5':¬fn.name="runtime.NumGoroutine":=by simpa using h5
 refine .inl ⟨by simp[callFunc,h1,h2,h5'],calls_of_wp h1 h2 ?_⟩
 have hlen:=hv.len
 have hst:StR D {tmps:=vals.toArray++Array.replicate (fn.ntmps-vals.toArray.size) undef,defers:=[]} {tmps:=dF 0 args,blks:=aq 0 bs,next:=bs.length} fi.ntmps []:=
  ⟨⟨hm,hs,qQ hv _⟩,fun k hk=>by simp only[aI,Nat.zero_le,if_true,Nat.sub_zero];exact List.getElem?_eq_none hk,by simp[h3];omega,rfl⟩
 refine wp_mono (h fn h4 D vals _ hG hm hs hv hst) fun e a w hq=>?_
 have fin:(a.defers=[]∧∃v,(results fn a.tmps).run P w= .ok v w∧∃o',Rs.ok o'=Rs.ok o∧bW D o' (.returned v) w)→a.defers=[]∧∃v,(results fn a.tmps).run P w= .ok v w∧bW D o (.returned v) w:=by
  rintro ⟨e1,v,e2,o',e3,e4⟩
  cases e3
  exact⟨e1,v,e2,e4⟩
 cases e with
 |normal=>exact fin hq
 |ret=>exact fin hq
 |exit id=>exact hq.elim
 |panic ch=>
  obtain⟨e1,o',e2,e3⟩:=hq
  cases e2
  exact⟨e1,e3⟩
 |goto l=>exact hq.elim
 |outgrown=>exact hq.elim
theorem yY{D:Ctx}{N:Nat}{ds:List Deferred}:jv D N ds b6:=fun p j f h=>by cases h
theorem bb(hE:EnvOK E P)(hK:KOK P G K){f:Nat}{fi:FI}(hf:FIOK P f fi){args:List AV}{bs:List Blk}{o:Out×List Blk}(h:body E K fi args bs .ok= .ok o):SA P G f args bs o:=by
 unfold body at h
 split at h
 ·cases h
 ·rename_i hn
  refine py hf hn fun fn hrs D vals a hG hm hs hv hst=>?_
  exact ga hE hK hG yY fi.code 1 _ _ _ D a hf.code (vt _ _ _ fun d r c' Q' _ j f hh=>by cases hh) (sI hE hm hrs) h hst (Ext.refl D)
structure Cut where
 path:List Bool
 tp:Option Tpl
def Ik(np:Nat)(tp:Option Tpl)(st:St):Option St:=match tp with
 |none=>some st
 |some t=>norm np t st
def aR(np:Nat):List Cut→Nat→uf
 |[],_,_=>none
 |c::r,i,p=>match Nat.beq (num c.path 1) p with
  |true=>some (i,Ik np c.tp)
  |false=>aR np r (i+1) p
def pieces(E:Env)(K:Callee)(fi:FI)(cs:List Cut)(np:Nat)(k:(Out×List Blk)→Rs R)(n:Nat):Jump R:=
 Nat.rec (motive:=fun _=>Jump R) bY (fun _ J j st=>match nth cs j with
  |some c=>resume E K (aR np cs 0) J c.path fi.code 1 st (bX E np fi.results k)
  |none=>.err 17) n
def start(E:Env)(K:Callee)(fi:FI)(cs:List Cut)(J:Jump R)(args:List AV)(bs:List Blk)(k:(Out×List Blk)→Rs R):Rs R:=
 match Nat.ble args.length fi.ntmps with
 |false=>.err 16
 |true=>ev E K (aR bs.length cs 0) J fi.code 1 {tmps:=dF 0 args,blks:=aq 0 bs,next:=bs.length} (bX E bs.length fi.results k)
theorem yP{α:Type}:∀{l:List α} {i:Nat} {a:α},nth l i=some a→a∈l
 |[],_,_,h=>by cases h
 |a::l,0,b,h=>by simp only[nth,Option.some.injEq]at h;subst h;simp
 |a::l,i+1,b,h=>by simp only[nth]at h;simp[yP h]
def Eb(bs:List Blk)(cs:List Cut):Prop:=xq bs∨∀c∈cs,c.tp=none
theorem gK{np:Nat}:∀{cs:List Cut} {i p j:Nat} {f:St→Option St},aR np cs i p=some (j,f)→∃c,i≤j∧nth cs (j-i)=some c∧num c.path 1=p∧f=Ik np c.tp
 |[],_,_,_,_,h=>by cases h
 |c::r,i,p,j,f,h=>by
  simp only[aR]at h
  split at h
  ·rename_i e
   simp only[Option.some.injEq,Prod.mk.injEq]at h
   obtain⟨rfl,rfl⟩:=h
   exact⟨c,Nat.le_refl _,by simp[nth],beq_eq e,rfl⟩
  ·obtain⟨c',h1,h2,h3,h4⟩:=gK h
   refine⟨c',by omega,?_,h3,h4⟩
   rw[show j-i=(j-(i+1))+1 by omega]
   exact h2
theorem nX{D:Ctx}{bs:List Blk}(hm:D.m=aC (aq 0 bs)){cs:List Cut}(h0:Eb bs cs){N:Nat}{ds:List Deferred}:jv D N ds (aR bs.length cs 0):=fun p j f h st st' C a hf hr hX=>by
 obtain⟨c,_,hc,_,rfl⟩:=gK h
 unfold Ik at hf
 split at hf
 ·simp only[Option.some.injEq]at hf
  subst hf
  exact⟨C,rfl,hr,hX⟩
 ·rename_i t ht
  rcases h0 with h0|h0
  ·exact EL hm h0 hf hr hX
  ·rw[h0 c (yP hc)]at ht;cases ht
theorem qd(hE:EnvOK E P)(hK:KOK P G K){fi:FI}(hcode:codeOk fi.ntmps fi.code=true){cs:List Cut}{D:Ctx}{bs:List Blk}(hG:D.gl=G)(hm:D.m=aC (aq 0 bs))(h0:Eb bs cs){k:(Out×List Blk)→Rs R}{r:R}{Q:Post}(hQ:KS D fi.ntmps [] (bX E bs.length fi.results k) r Q):
  ∀n,CS P (XJ P D fi.ntmps [] (aR bs.length cs 0) (pieces E K fi cs bs.length k n) r) fi.code 1 Q
 |0=>vt _ _ _ fun d rr c' Q' _ j f _ st C a h=>by cases h
 |n+1=>vt _ _ _ fun d rr c' Q' hp j f hf st C a h hr hX=>by
  obtain⟨c,_,h1,h2,_⟩:=gK hf
  have h:(match nth cs j with
   |some c=>resume E K (aR bs.length cs 0) (pieces E K fi cs bs.length k n) c.path fi.code 1 st (bX E bs.length fi.results k)
   |none=>.err 17)= .ok r:=h
  rw[Nat.sub_zero]at h1
  rw[h1]at h
  have hpath:c.path=d::rr:=rP _ _ _ (Nat.le_refl _) h2
  exact ck hE hK hG (nX hm h0) c.path fi.code 1 Q _ st C a c' Q' hcode (qd hE hK hcode hG hm h0 hQ n) hQ h hr hX (by rw[hpath];exact hp)
theorem bh(hE:EnvOK E P)(hK:KOK P G K){f:Nat}{fi:FI}(hf:FIOK P f fi){cs:List Cut}{args:List AV}{bs:List Blk}(h0:Eb bs cs){n:Nat}{o:Out×List Blk}(h:start E K fi cs (pieces E K fi cs bs.length .ok n) args bs .ok= .ok o):SA P G f args bs o:=by
 unfold start at h
 split at h
 ·cases h
 ·rename_i hn
  refine py hf hn fun fn hrs D vals a hG hm hs hv hst=>?_
  have hQ:=sI (P:=P) (R:=Out×List Blk) hE hm hrs (k:=.ok) (r:=o) (N:=fi.ntmps)
  exact ga hE hK hG (nX hm h0) fi.code 1 _ _ _ D a hf.code (qd hE hK hf.code hG hm h0 hQ n) hQ h hst (Ext.refl D)
end Go.Sx
namespace Go.Sx
open Go
variable{G:Nat→Obj→Prop}{P:Program}{C:Ctx}
abbrev Sig:=List (Bool×Ty)
def ai:Sig→Type
 |[]=>Unit
 |(_,t)::r=>t.den×ai r
def fj(b:Bool)(t:Ty)(x:t.den):AV:=match b with
 |true=>.agg (flat t x)
 |false=>match flat t x with
  |[a]=>a
  |_=>.undef
def cy:(ts:Sig)→ai ts→List AV
 |[],_=>[]
 |(b,t)::r,x=>fj b t x.1::cy r x.2
def x8(get:Get)(b:Bool)(t:Ty)(a:AV):Option (t.den×List Nat):=
 match b with
 |true=>(match a with
  | .agg cs=>(match aV get t cs with|some (x,[],m)=>some (x,m)|_=>none)
  |_=>none)
 |false=>(match a with
  | .agg _=>none
  | .tup _=>none
  |a=>(match aV get t [a]with|some (x,[],m)=>some (x,m)|_=>none))
def ib(get:Get):(ts:Sig)→List AV→Option (ai ts×List Nat)
 |[],[]=>some ((),[])
 |[],_::_=>none
 |_::_,[]=>none
 |(b,t)::r,a::as=>match x8 get b t a with
  |some (x,m)=>(match ib get r as with
   |some (y,m')=>some ((x,y),m++m')
   |none=>none)
  |none=>none
def dat:AV→Bool
 | .undef| .bool _| .int _ _| .flt _ _| .str _| .nilp| .sl _ _| .pd _ _ _=>true
 |_=>false
theorem Dq{a:AV}(h:dat a=true):refA a=[]∧bZ a=true∧∀m,kg m a=a:=by
 cases a<;>first|(cases h;done)|exact⟨rfl,rfl,fun _=>rfl⟩
theorem qR:∀{as:List AV},as.all dat=true→ep as=[]∧as.all bZ=true∧∀m,as.map (kg m)=as
 |[],_=>⟨rfl,rfl,fun _=>rfl⟩
 |a::as,h=>by
  simp only[List.all_cons,Bool.and_eq_true]at h
  obtain⟨h1,h2,h3⟩:=Dq h.1
  obtain⟨h4,h5,h6⟩:=qR h.2
  refine⟨?_,by simp[h2,h5],fun m=>by simp[h3 m,h6 m]⟩
  simp only[ep,List.flatMap_cons,h1,List.nil_append]
  exact h4
theorem ix:∀(t:Ty) (x:t.den),(flat t x).all dat=true
 | .unit,_=>rfl
 | .bool,_=>rfl
 | .int _,_=>rfl
 | .flt _,_=>rfl
 | .str,_=>rfl
 | .pair a b,x=>by simp[flat,List.all_append,ix a,ix b]
 | .slice _,_=>rfl
 | .ptr _,none=>rfl
 | .ptr _,some _=>rfl
theorem qe{t:Ty}{x:t.den}:(∃a,flat t x=[a]∧fj false t x=a∧dat a=true)∨fj false t x= .undef:=by
 unfold fj
 have:=ix t x
 split
 ·rename_i e;cases e
 ·split
  ·rename_i a e;rw[e]at this;exact .inl ⟨a,e,rfl,by simpa using this⟩
  ·exact .inr rfl
theorem Ba{b:Bool}{t:Ty}{x:t.den}:gS (fj b t x)=[]∧ep (fj b t x).cells=[]∧bz (fj b t x)=true∧(fj b t x).cells.all bZ=true∧(∀m,il m (fj b t x)=fj b t x)∧∀m,vd m (fj b t x)=fj b t x:=by
 cases b with
 |true=>
  obtain⟨h1,h2,h3⟩:=qR (ix t x)
  exact⟨h1,h1,h2,h2,fun m=>by simp[fj,il,vd,h3 m],fun m=>by simp[fj,vd,h3 m]⟩
 |false=>
  rcases qe (t:=t) (x:=x)with⟨a,_,e,h⟩|e
  ·rw[e]
   cases a<;>first|(cases h;done)|exact⟨rfl,rfl,rfl,rfl,fun _=>rfl,fun _=>rfl⟩
  ·rw[e];exact⟨rfl,rfl,rfl,rfl,fun _=>rfl,fun _=>rfl⟩
theorem lN:∀{ts:Sig} {x:ai ts},(cy ts x).flatMap gS=[]∧(cy ts x).flatMap (fun v=>ep v.cells)=[]∧(cy ts x).all bz=true∧((cy ts x).all fun v=>v.cells.all bZ)=true∧(∀m,(cy ts x).map (il m)=cy ts x)∧∀m,(cy ts x).map (vd m)=cy ts x
 |[],_=>⟨rfl,rfl,rfl,rfl,fun _=>rfl,fun _=>rfl⟩
 |(b,t)::r,x=>by
  obtain⟨h1,h2,h3,h4,h5,h6⟩:=Ba (b:=b) (t:=t) (x:=x.1)
  obtain⟨k1,k2,k3,k4,k5,k6⟩:=lN (ts:=r) (x:=x.2)
  refine⟨?_,?_,?_,?_,fun m=>?_,fun m=>?_⟩
  ·simp only[cy,List.flatMap_cons,h1,k1,List.append_nil]
  ·simp only[cy,List.flatMap_cons,h2,k2,List.append_nil]
  ·simp only[cy,List.all_cons,h3,k3,Bool.and_self]
  ·simp only[cy,List.all_cons,h4,k4,Bool.and_self]
  ·simp only[cy,List.map_cons,h5,k5]
  ·simp only[cy,List.map_cons,h6,k6]
theorem p6(hs:SRel C){b:Bool}{t:Ty}{a:AV}{x:t.den}{m:List Nat}(h:x8 C.m b t a=some (x,m)){v:Value}(hv:ay C a v){C':Ctx}(hw:C'.w=C.w)(hT:∀k o,C'.T k o→C.T k o)(hsh:iZ C m C'.T):ay C' (fj b t x) v:=by
 unfold x8 at h
 split at h
 ·split at h
  ·rename_i cs
   split at h
   ·rename_i x' m' hu
    simp only[Option.some.injEq,Prod.mk.injEq]at h
    obtain⟨rfl,rfl⟩:=h
    obtain⟨vs,rfl,hl⟩:=hv
    obtain⟨v1,v2,e1,e2,_,_,hR⟩:=cR hs hu hl
    simp only[au]at e2
    subst e2
    rw[List.append_nil]at e1
    have:=hR C'.T hT hsh
    rw[←hw]at this
    exact⟨vs,rfl,by rw[e1];exact dw this⟩
   ·cases h
  ·cases h
 ·have key:(match aV C.m t [a]with|some (x,[],m)=>some (x,m)|_=>none)=some (x,m)→ay C' (fj false t x) v:=fun h=>by
   split at h
   ·rename_i x' m' hu
    simp only[Option.some.injEq,Prod.mk.injEq]at h
    obtain⟨hx,hm'⟩:=h
    subst hx hm'
    obtain⟨v1,v2,e1,e2,e3,e4,hR⟩:=cR hs hu (vs:=[v]) ⟨v,[],rfl,hv,rfl⟩
    simp only[au]at e2
    subst e2
    rw[List.append_nil]at e1
    subst e1
    have:=hR C'.T hT hsh
    rw[←hw]at this
    have hf:=dw this
    have hlen:=oD t x'
    simp only[List.length_singleton,List.length_nil]at e4
    obtain⟨y,hy⟩:=List.length_eq_one_iff.1 (by rw[hlen];omega:(flat t x').length=1)
    rw[hy]at hf
    obtain⟨w,r,e5,h1,h2⟩:=hf
    simp only[List.cons.injEq]at e5
    obtain⟨rfl,rfl⟩:=e5
    simp only[fj,hy]
    exact h1
   ·cases h
  split at h
  ·cases h
  ·cases h
  ·exact key h
theorem gf(hs:SRel C):∀{ts:Sig} {as:List AV} {x:ai ts} {m:List Nat},ib C.m ts as=some (x,m)→∀{vs:List Value},au C as vs→∀{C':Ctx},C'.w=C.w→(∀k o,C'.T k o→C.T k o)→iZ C m C'.T→au C' (cy ts x) vs
 |[],[],x,m,h,vs,hv,C',hw,hT,hsh=>hv
 |[],_::_,x,m,h,vs,hv,C',hw,hT,hsh=>by simp[ib]at h
 |_::_,[],x,m,h,vs,hv,C',hw,hT,hsh=>by simp[ib]at h
 |(b,t)::r,a::as,x,m,h,vs,hv,C',hw,hT,hsh=>by
  simp only[ib]at h
  split at h
  ·rename_i x1 m1 h1
   split at h
   ·rename_i y m2 h2
    simp only[Option.some.injEq,Prod.mk.injEq]at h
    obtain⟨rfl,rfl⟩:=h
    obtain⟨v,r',rfl,hv1,hv2⟩:=hv
    exact⟨v,r',rfl,p6 hs h1 hv1 hw hT hsh.left,gf hs h2 hv2 hw hT hsh.right⟩
   ·cases h
  ·cases h
def cr(rs:Sig)(y:ai rs):AV:=match cy rs y with
 |[v]=>v
 |vs=>.tup vs
def ud(get:Get)(rs:Sig)(v:AV):Option (ai rs×List Nat):=match rs with
 |[(b,t)]=>(match x8 get b t v with
  |some (x,m)=>some ((x,()),m)
  |none=>none)
 |rs=>match v with
  | .tup vs=>ib get rs vs
  |_=>none
theorem jh{rs:Sig}{y:ai rs}:gS (cr rs y)=[]∧bz (cr rs y)=true∧∀m,il m (cr rs y)=cr rs y:=by
 obtain⟨h1,h2,h3,h4,h5,h6⟩:=lN (ts:=rs) (x:=y)
 unfold cr
 split
 ·rename_i v e
  rw[e]at h1 h3 h5
  exact⟨by simpa using h1,by simpa using h3,fun m=>by simpa using h5 m⟩
 ·exact⟨h2,h4,fun m=>by simp only[il,h6 m]⟩
theorem q0(hs:SRel C){rs:Sig}{v:AV}{y:ai rs}{m:List Nat}(h:ud C.m rs v=some (y,m)){u:Value}(hv:ay C v u){C':Ctx}(hw:C'.w=C.w)(hT:∀k o,C'.T k o→C.T k o)(hsh:iZ C m C'.T):ay C' (cr rs y) u:=by
 unfold ud at h
 split at h
 ·split at h
  ·rename_i x m' h1
   simp only[Option.some.injEq,Prod.mk.injEq]at h
   obtain⟨rfl,rfl⟩:=h
   exact p6 hs h1 hv hw hT hsh
  ·cases h
 ·rename_i hne
  split at h
  ·obtain⟨us,rfl,hl⟩:=hv
   have:=gf hs h hl hw hT hsh
   unfold cr
   split
   ·rename_i w e
    exfalso
    match rs,y,hne,e with
    |[],_,_,e=>simp[cy]at e
    |[(b,t)],_,hne,_=>exact hne b t rfl
    |_::_::_,_,_,e=>simp[cy]at e
   ·exact⟨us,rfl,this⟩
  ·cases h
theorem bx.mono{f:Nat}{vals:Array Value}{w:World}{R R':Ending→World→Prop}(hA:bx P f vals w R)(hi:∀e w',R e w'→R' e w'):bx P f vals w R':=by
 rcases hA with⟨h1,h2⟩|⟨v,w',h1,h2⟩|⟨v,w',h1,h2⟩
 ·exact .inl ⟨h1,Calls.mono h2 hi⟩
 ·exact .inr (.inl ⟨v,w',h1,hi _ _ h2⟩)
 ·exact .inr (.inr ⟨v,w',h1,hi _ _ h2⟩)
def SAD(P:Program)(G:Nat→Obj→Prop)(f:Nat)(ts rs:Sig)(x:ai ts)(y:ai rs):Prop:=SA P G f (cy ts x) [] (.ret (cr rs y),[])
theorem SA.data{f:Nat}{args:List AV}{rs:Sig}{v:AV}{bs:List Blk}(h:SA P G f args [] (.ret v,bs)){y:ai rs}{m:List Nat}(ht:ud (aC (aq 0 bs)) rs v=some (y,m)):SA P G f args [] (.ret (cr rs y),[]):=fun D vals hG hm hs hv=>by
 refine(h D vals hG hm hs hv).mono fun e w' hR=>?_
 cases e with
 |returned u=>
  obtain⟨v',D',e1,e2,e3,e4,e5,e6,e7,e8⟩:=hR
  simp only[Out.ret.injEq]at e1
  subst e1
  obtain⟨C1,s1,s2,s3,s4,s5,s6,s7,s8⟩:=cX e4 m
  rw[←e3]at ht
  have hv:=q0 e4 ht e6 s4 s8 s7
  obtain⟨s9,eE,hren,_⟩:=gu (bs:=[]) (more:=[]) (ids:=[]) (l:=[]) hm (e5.trans s2) s1 rfl rfl rfl
  obtain⟨r1,r2,r3⟩:=jh (rs:=rs) (y:=y)
  have:=hren.relV (a:=cr rs y) (fun b hb=>by rw[r1]at hb;cases hb) r2 hv
  rw[r3]at this
  exact⟨_,Sub C1 [] C1.fr ([].map (cf (posOf []))),rfl,s4.trans e2,rfl,s9,eE,this,r2,rfl⟩
 |panicked ch=>obtain⟨v',e1,_⟩:=hR;cases e1
 |outgrown=>exact hR
end Go.Sx
namespace Go.Sx
open Go
variable{G:Nat→Obj→Prop}{P:Program}{C:Ctx}
def cG(m:List Nat):Nat→List Blk→List Blk
 |_,[]=>[]
 |i,b::r=>(match b with
  | .list e t g sh L=>.list e t g (match m.any (Nat.beq i)with|true=>true|false=>sh) L
  | .cells ty cs=>.cells ty cs)::cG m (i+1) r
def nP(m:List Nat)(i:Nat):Option Blk→Option Blk
 |some (.list e t g sh L)=>some (.list e t g (match m.any (Nat.beq i)with|true=>true|false=>sh) L)
 |b=>b
theorem nS{m:List Nat}:∀(bs:List Blk) (i j:Nat),aC (aq i (cG m i bs)) j=nP m j (aC (aq i bs) j)
 |[],i,j=>rfl
 |b::bs,i,j=>by
  simp only[cG,aq,aC]
  split
  ·rename_i e
   rw[←beq_eq e]
   cases b<;>rfl
  ·exact nS bs (i+1) j
theorem cQ(get:Get)(j:Nat):∀(ms:List Nat) (m0:Get),(m0 j=get j∨∃e t g sh L,get j=some (.list e t g sh L)∧m0 j=some (.list e t g true L))→
  aG m0 (bw get ms) j=if j∈ms then(match get j with|some (.list e t g _ L)=>some (.list e t g true L)|_=>m0 j)else m0 j
 |[],m0,h=>by simp[bw,aG]
 |b::ms,m0,h=>by
  have hcons:bw get (b::ms)=(match get b with|some (.list ee t g _ L)=>[(b,Blk.list ee t g true L)]|_=>[])++bw get ms:=by
   simp only[bw,List.filterMap_cons]
   cases hb:get b with
   |none=>rfl
   |some x=>cases x<;>rfl
  rw[hcons,jP]
  by_cases hj:b=j
  ·subst hj
   cases hg:get b with
   |none=>
    simp only[aG]
    rw[cQ get b ms m0 h,hg]
    simp
   |some x=>
    cases x with
    |cells ty cs=>
     simp only[aG]
     rw[cQ get b ms m0 h,hg]
     simp
    |list e t g sh L=>
     simp only[aG]
     rw[cQ get b ms _ (.inr ⟨e,t,g,sh,L,hg,by simp[eI]⟩),hg]
     simp[eI]
  ·have h1:∀x,eI m0 b x j=m0 j:=fun x=>by simp[eI,Ne.symm hj]
   have hmem:(j∈b::ms)=(j∈ms):=by simp[Ne.symm hj]
   simp only[hmem]
   cases hg:get b with
   |none=>exact cQ get j ms m0 h
   |some x=>
    cases x with
    |cells ty cs=>exact cQ get j ms m0 h
    |list e t g sh L=>
     simp only[aG]
     rw[cQ get j ms _ (by rw[h1];exact h),h1]
theorem ll{get:Get}{bs:List Blk}(hm:get=aC (aq 0 bs))(m:List Nat):aG get (bw get m)=aC (aq 0 (cG m 0 bs)):=by
 funext j
 rw[cQ get j m get (.inl rfl),nS,←hm]
 cases hg:get j with
 |none=>simp[nP]
 |some x=>
  cases x with
  |cells ty cs=>simp[nP]
  |list e t g sh L=>
   by_cases hj:j∈m
   ·rw[if_pos hj]
    simp only[nP,any_beq.2 hj]
   ·rw[if_neg hj]
    have:m.any (Nat.beq j)=false:=by
     cases h:m.any (Nat.beq j)with
     |true=>exact(hj (any_beq.1 h)).elim
     |false=>rfl
    simp only[nP,this]
theorem q6{m:List Nat}:∀{bs:List Blk} {i:Nat},bs.all bH=true→(cG m i bs).all bH=true
 |[],_,_=>rfl
 |b::bs,i,h=>by
  simp only[List.all_cons,Bool.and_eq_true]at h
  simp only[cG,List.all_cons,Bool.and_eq_true]
  exact⟨by cases b<;>first|exact h.1|rfl,q6 h.2⟩
def aK(P:Program)(G:Nat→Obj→Prop)(f:Nat)(g:aQ):Prop:=
 ∀(R:Type) args bs k (r:R),g R args bs k= .ok r→∃o,k o= .ok r∧SA P G f args bs o
def ng(m:List Nat)(bs:List Blk):List Blk:=match m with
 |[]=>bs
 |m=>cG m 0 bs
def bg(f:Nat)(ts rs:Sig)(p:ai ts→Bool)(out:ai ts→ai rs):aQ:=fun R args bs k=>
 match bs.all bH with
 |false=>.err (1000000+f)
 |true=>match ib (aC (aq 0 bs)) ts args with
  |none=>.err (2000000+f)
  |some (x,m)=>match p x with
   |false=>.err (3000000+f)
   |true=>k (.ret (cr rs (out x)),ng m bs)
theorem aD{f:Nat}{ts rs:Sig}{p:ai ts→Bool}{out:ai ts→ai rs}(h:∀x,p x=true→SAD P G f ts rs x (out x)):aK P G f (bg f ts rs p out):=fun R args bs k r hr=>by
 unfold bg at hr
 split at hr
 ·cases hr
 rename_i hokb
 split at hr
 ·cases hr
 rename_i x m ht
 split at hr
 ·cases hr
 rename_i hp
 have hnil:cG [] 0 bs=bs:=by
  generalize 0=i
  clear hr ht hokb
  induction bs generalizing i with
  |nil=>rfl
  |cons b bs ih=>simp only[cG,ih];cases b<;>rfl
 have hsh:ng m bs=cG m 0 bs:=by
  cases m with
  |nil=>exact hnil.symm
  |cons a m=>rfl
 rw[hsh]at hr
 refine⟨_,hr,fun D vals hG hm hs hv=>?_⟩
 rw[←hm]at ht
 obtain⟨C1,s1,s2,s3,s4,s5,s6,s7,s8⟩:=cX hs m
 have hv1:=gf hs ht hv s4 s8 s7
 rw[ll hm m]at s3
 obtain⟨c1,c2,c3,c4,c5,c6⟩:=lN (ts:=ts) (x:=x)
 obtain⟨r1,r2,r3⟩:=jh (rs:=rs) (y:=out x)
 have hlen:(cG m 0 bs).length=bs.length:=by
  generalize 0=i
  clear hr ht hokb hm hsh hnil s3
  induction bs generalizing i with
  |nil=>rfl
  |cons b bs ih=>simp only[cG,List.length_cons,ih]
 have hA:=dr (G:=G) (P:=P) (s2.glEq.trans hG) s1 (f:=f) hv1 (base:=bs.length) (fun j hj _=>by
   rw[s3,aI]
   simp only[Nat.zero_le,if_true,Nat.sub_zero]
   exact List.getElem?_eq_none (by rw[hlen];exact hj)) (out:=.ret (cr rs (out x))) (wr:=[]) (rd:=[])
  ⟨[],by rw[c1];rfl,rfl,by rw[c3];rfl,.inl ⟨cr rs (out x),[],by rw[c5];exact h x hp,rfl,by rw[r3],rfl⟩⟩
 rw[s4]at hA
 refine hA.mono fun e w' hR=>?_
 cases e with
 |returned u=>
  obtain⟨v,C2,e1,e2,e3,e4,e5,e6⟩:=hR
  simp only[Out.ret.injEq]at e1
  subst e1
  exact⟨_,C2,rfl,e2,by rw[e3];exact s3,e4,s2.trans e5,e6,r2,q6 hokb⟩
 |panicked ch=>obtain⟨v,e1,_⟩:=hR;cases e1
 |outgrown=>exact hR
end Go.Sx
namespace Go.Sx
open Go
variable{G:Nat→Obj→Prop}{P:Program}{E:Env}
def vp(E:Env)(lib:List (Option aQ))(cl:List (List Cut))(N:Nat)(n:Nat):Callee:=
 Nat.rec (motive:=fun _=>Callee) (fun _ f _ _ _=>.err (5000000+f)) (fun _ ih R f args bs k=>
  match nth lib f with
  |some (some g)=>g R args bs k
  |_=>match nth E.fi f,nth cl f with
   |some (some fi),some cs=>(match cs.all fun c=>c.tp.isNone with
    |true=>(match start E ih fi cs (pieces E ih fi cs bs.length .ok N) args bs .ok with
     | .ok o=>k o
     | .err e=>.err e)
    |false=>.err 18)
   |_,_=>.err (4000000+f)) n
theorem lp(hE:EnvOK E P){lib:List (Option aQ)}(hI:∀f g,nth lib f=some (some g)→aK P G f g)(hF:∀f fi,nth E.fi f=some (some fi)→FIOK P f fi){cl:List (List Cut)}{N:Nat}:∀n,KOK P G (vp E lib cl N n)
 |0=>fun R f args bs k r h=>by cases h
 |n+1=>fun R f args bs k r h=>by
  have h:(match nth lib f with
   |some (some g)=>g R args bs k
   |_=>match nth E.fi f,nth cl f with
    |some (some fi),some cs=>(match cs.all fun c=>c.tp.isNone with
     |true=>(match start E (vp E lib cl N n) fi cs (pieces E (vp E lib cl N n) fi cs bs.length .ok N) args bs .ok with
      | .ok o=>k o
      | .err e=>.err e)
     |false=>.err 18)
    |_,_=>.err (4000000+f))= .ok r:=h
  split at h
  ·rename_i g hg
   exact hI f g hg R args bs k r h
  ·split at h
   ·rename_i fi cs hfi hcs
    split at h
    ·rename_i hall
     split at h
     ·rename_i o ho
      exact⟨o,h,bh hE (lp hE hI hF n) (hF f fi hfi) (.inr fun c hc=>by
       have:=List.all_eq_true.1 hall c hc
       simpa using this) ho⟩
     ·cases h
    ·cases h
   ·cases h
def GW(w0:World):Nat→Obj→Prop:=fun k o=>w0.heap[k]? =some o
def wJ(w:World):Ctx:=⟨w,aC (aq 0 []),fun _=>.cells 0,fun _ _=>False,GW w⟩
theorem FE(w:World):SRel (wJ w)where
 ok:=fun id b h=>by simp[wJ,aq,aC]at h
 apart:=fun id b id' b' k h=>by simp[wJ,aq,aC]at h
 frApart:=fun k o h=>h.elim
 frOld:=fun k o h=>h.elim
 gl:=fun k o h=>⟨h,fun⟨id,b,h1,_⟩=>by simp[wJ,aq,aC]at h1,fun x hx=>hx⟩
theorem cU{f:Nat}{fi:FI}(hf:FIOK P f fi)(vals:Array Value)(w:World):(callFunc f vals).run P w= .ok (.enter f vals) w:=by
 obtain⟨fn,h1,h2,h3,h4,h5⟩:=hf.fn
 have h5':¬fn.name="runtime.NumGoroutine":=by simpa using h5
 simp[callFunc,h1,h2,h5']
end Go.Sx
