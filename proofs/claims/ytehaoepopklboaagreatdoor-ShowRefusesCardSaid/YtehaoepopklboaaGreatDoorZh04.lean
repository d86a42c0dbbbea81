/- A part of the proof: see the row's text. -/
import Derived.Test.YtehaoepopklboaaGreatDoorZh03
import Derived.Orders
set_option linter.unusedVariables false
set_option linter.unusedSimpArgs false
noncomputable section
namespace Go.Sx
open Go
variable{P:Program}{E:Env}{C:Ctx}
theorem kG{f:Nat→Nat}:∀(bs:List Blk) (k:Nat) (m:Get) (j:Nat),(∀a b,k≤a→a<k+bs.length→k≤b→b<k+bs.length→f a=f b→a=b)→
  (∀i,i<bs.length→f (k+i)=j→aG m (cL f k bs) j=(bs[i]?).map (cf f))∧((∀i,i<bs.length→f (k+i)≠j)→aG m (cL f k bs) j=m j)
 |[],k,m,j,_=>⟨fun i hi=>by simp at hi,fun _=>rfl⟩
 |b::bs,k,m,j,hinj=>by
  have hinj':∀x y,k+1≤x→x<k+1+bs.length→k+1≤y→y<k+1+bs.length→f x=f y→x=y:=fun x y h1 h2 h3 h4 h5=>hinj x y (by omega) (by simp;omega) (by omega) (by simp;omega) h5
  obtain⟨h1,h2⟩:=kG bs (k+1) (eI m (f k) (cf f b)) j hinj'
  refine⟨fun i hi hf=>?_,fun hn=>?_⟩
  ·simp only[cL,aG]
   cases i with
   |zero=>
    rw[h2]
    ·have:j=f k:=by simpa using hf.symm
     simp[eI,this]
    ·intro i' hi' e
     have:=hinj (k+1+i') k (by omega) (by simp;omega) (by omega) (by simp) (by rw[e,←hf];simp)
     omega
   |succ i=>
    have:=h1 i (by simpa using hi) (by rw[←hf];congr 1;omega)
    simpa using this
  ·simp only[cL,aG]
   rw[h2]
   ·have:=hn 0 (by simp)
    simp only[eI]
    rw[if_neg]
    intro e
    exact this (by simp[e])
   ·intro i hi e
    exact hn (i+1) (by simpa using hi) (by rw[←e];congr 1;omega)
theorem CN{ids:List Nat}(hd:ids.Nodup){base n:Nat}(hn:n≤ids.length+16)(hf:∀j,base≤j→j<base+16→j∉ids):∀a b,0≤a→a<0+n→0≤b→b<0+n→de ids base a=de ids base b→a=b:=by
 intro a b _ h1 _ h2 h
 simp only[de,cP]at h
 by_cases ha:a<ids.length
 ·by_cases hb:b<ids.length
  ·simp only[List.getElem?_eq_getElem ha,List.getElem?_eq_getElem hb,Option.getD_some]at h
   exact(List.getElem_inj (h₀:=ha) (h₁:=hb) hd).1 h
  ·simp only[List.getElem?_eq_getElem ha,List.getElem?_eq_none (Nat.le_of_not_lt hb),Option.getD_some,Option.getD_none]at h
   exact(hf _ (Nat.le_add_right base _) (by omega) (h▸List.getElem_mem ha)).elim
 ·by_cases hb:b<ids.length
  ·simp only[List.getElem?_eq_getElem hb,List.getElem?_eq_none (Nat.le_of_not_lt ha),Option.getD_some,Option.getD_none]at h
   exact(hf _ (Nat.le_add_right base _) (by omega) (h▸List.getElem_mem hb)).elim
  ·simp only[List.getElem?_eq_none (Nat.le_of_not_lt hb),List.getElem?_eq_none (Nat.le_of_not_lt ha),Option.getD_none]at h
   omega
set_option maxHeartbeats 2000000 in
theorem FW(hs:SRel C){ids:List Nat}(hd:ids.Nodup){l:List Blk}(hl:getAll C.m ids=some l){f:Nat→Nat}{fr:Nat→Nat→Prop}
  (hfr:∀k o,fr k o↔(C.fr k o∨∃j b,j∉ids∧C.m j=some b∧bJ (C.φ j) b k o))
  (hTD:∀k o,(Sub C ids fr (l.map (cf f))).T k o→C.T k o) (hheld:∀k,(Sub C ids fr (l.map (cf f))).held k→∃b blk,b∈ids∧C.m b=some blk∧cH (C.φ b) k)
  (hown:∀k o,(Sub C ids fr (l.map (cf f))).own k o→∃b blk,b∈ids∧C.m b=some blk∧bJ (C.φ b) blk k o)
  {D':Ctx} (hs':SRel D') (hE:Ext (Sub C ids fr (l.map (cf f))) D') {bs':List Blk} (hm':D'.m=aC (aq 0 bs')) (hok':bs'.all bH=true) {base:Nat} (hlen:bs'.length≤ids.length+16)
  (hbase:∀j,base≤j→j<base+16→C.m j=none):
  ∃C':Ctx,C'.w=D'.w∧C'.m=aG C.m (cL (de ids base) 0 bs')∧C'.fr=C.fr∧SRel C'∧Ext C C'∧Ren D' C' (de ids base) (· <bs'.length):=by
 have hbase2:∀j,base≤j→j<base+16→j∉ids:=fun j h1 h2 h3=>by
  obtain⟨i,hi,e⟩:=List.getElem_of_mem h3
  obtain⟨_,h4⟩:=(cu hl).2 i j (by simp[hi,e])
  rw[hbase j h1 h2]at h4
  cases h4
 obtain⟨back,hback⟩:∃back,back=de ids base:=⟨_,rfl⟩
 have hinj:∀a b,a<bs'.length→b<bs'.length→back a=back b→a=b:=fun a b h1 h2 h3=>by
  rw[hback]at h3
  exact CN (n:=bs'.length) hd hlen hbase2 a b (Nat.zero_le _) (by omega) (Nat.zero_le _) (by omega) h3
 have hm'i:∀i,D'.m i=bs'[i]? :=fun i=>by rw[hm',aI];simp
 have hlive:∀i b,D'.m i=some b→i<bs'.length:=fun i b h=>by rw[hm'i]at h;exact(List.getElem?_eq_some_iff.1 h).1
 have hnum:∀j,(∀i,i<bs'.length→back i=j→aG C.m (cL back 0 bs') j=(bs'[i]?).map (cf back))∧((∀i,i<bs'.length→back i≠j)→aG C.m (cL back 0 bs') j=C.m j):=fun j=>by
  have:=kG (f:=back) bs' 0 C.m j (fun a b _ h2 _ h4 h5=>hinj a b (by omega) (by omega) h5)
  simpa using this
 classical
 obtain⟨φ',hφ1,hφ2⟩:∃φ':Nat→G,(∀i,i<bs'.length→φ' (back i)=D'.φ i)∧(∀j,(∀i,i<bs'.length→back i≠j)→φ' j=C.φ j):=by
  refine⟨fun j=>if h:∃i,i<bs'.length∧back i=j then D'.φ h.choose else C.φ j,fun i hi=>?_,fun j hj=>?_⟩
  ·have h:∃i',i'<bs'.length∧back i'=back i:=⟨i,hi,rfl⟩
   simp only[dif_pos h]
   rw[hinj _ _ h.choose_spec.1 hi h.choose_spec.2]
  ·exact dif_neg fun⟨i,h1,h2⟩=>hj i h1 h2
 have hpassed:∀i id,ids[i]? =some id→back i=id∧i<bs'.length:=fun i id hi=>by
  have hb:back i=id:=by rw[hback];simp[de,cP,hi]
  refine⟨hb,?_⟩
  obtain⟨h1,h2⟩:=cu hl
  obtain⟨h3,h4⟩:=h2 i id hi
  obtain⟨b0,hb0⟩:=Option.isSome_iff_exists.1 h4
  have hD:(Sub C ids fr (l.map (cf f))).m i=some (cf f b0):=by simp[Sub,aI,h3,hb0]
  cases b0 with
  |cells ty cs=>obtain⟨_,cs',h⟩:=hE.cells i _ _ hD;exact hlive i _ h
  |list ee t g sh L=>obtain⟨_,_,_,h,_⟩:=hE.lists i ee t g sh L hD;exact hlive i _ h
 have hback2:∀i,i<bs'.length→(∃id,ids[i]? =some id∧back i=id)∨(ids.length≤i∧C.m (back i)=none):=fun i hi=>by
  by_cases h:i<ids.length
  ·exact .inl ⟨ids[i],by simp[h],(hpassed i _ (by simp[h])).1⟩
  ·refine .inr ⟨by omega,?_⟩
   rw[hback]
   simp only[de,cP,List.getElem?_eq_none (Nat.le_of_not_lt h),Option.getD_none]
   exact hbase _ (Nat.le_add_right _ _) (by omega)
 have hother:∀j b,C.m j=some b→j∉ids→∀i,i<bs'.length→back i≠j:=fun j b hj hn i hi e=>by
  rcases hback2 i hi with⟨id,h1,h2⟩|⟨_,h2⟩
  ·exact hn (by rw[←e,h2];exact List.mem_of_getElem? h1)
  ·rw[e,hj]at h2;cases h2
 let C':Ctx:=⟨D'.w,aG C.m (cL back 0 bs'),φ',C.fr,C.gl⟩
 have hC'1:∀i,i<bs'.length→C'.m (back i)=(bs'[i]?).map (cf back)∧C'.φ (back i)=D'.φ i:=fun i hi=>⟨(hnum _).1 i hi rfl,hφ1 i hi⟩
 have hC'2:∀j,(∀i,i<bs'.length→back i≠j)→C'.m j=C.m j∧C'.φ j=C.φ j:=fun j hj=>⟨(hnum j).2 hj,hφ2 j hj⟩
 have hcase:∀j b,C'.m j=some b→(∃i b0,i<bs'.length∧back i=j∧D'.m i=some b0∧b=cf back b0∧C'.φ j=D'.φ i)∨(C.m j=some b∧C'.φ j=C.φ j∧j∉ids):=by
  intro j b hj
  by_cases h:∃i,i<bs'.length∧back i=j
  ·obtain⟨i,hi,rfl⟩:=h
   obtain⟨h1,h2⟩:=hC'1 i hi
   rw[h1,List.getElem?_eq_getElem hi,Option.map_some,Option.some.injEq]at hj
   exact .inl ⟨i,bs'[i],hi,rfl,by rw[hm'i];simp[hi],hj.symm,h2⟩
  ·have h':∀i,i<bs'.length→back i≠j:=fun i hi e=>h ⟨i,hi,e⟩
   obtain⟨h1,h2⟩:=hC'2 j h'
   refine .inr ⟨h1▸hj,h2,fun hmem=>?_⟩
   obtain⟨i,hi,e⟩:=List.getElem_of_mem hmem
   obtain⟨h3,h4⟩:=hpassed i j (by simp[hi,e])
   exact h' i h4 h3
 have hDheld:∀k,(Sub C ids fr (l.map (cf f))).held k→C.held k:=fun k h=>by
  obtain⟨b,blk,_,h2,h3⟩:=hheld k h
  exact⟨b,blk,h2,h3⟩
 have hfrD':∀k o,C.fr k o→D'.fr k o:=fun k o h=>by rw[hE.frEq];exact(hfr k o).2 (.inl h)
 have hown':∀k o,C'.own k o→D'.own k o∨∃j b,j∉ids∧C.m j=some b∧bJ (C.φ j) b k o:=by
  rintro k o ⟨j,b,hj,hb⟩
  rcases hcase j b hj with⟨i,b0,h1,h2,h3,h4,h5⟩|⟨h1,h2,h3⟩
  ·rw[h5,h4,rF]at hb
   exact .inl ⟨i,b0,h3,hb⟩
  ·rw[h2]at hb
   exact .inr ⟨j,b,h3,h1,hb⟩
 have hT':∀k o,C'.T k o→D'.T k o:=by
  rintro k o (h|h)
  ·exact .inl (hfrD' k o h)
  ·rcases hown' k o h with h|h
   ·exact .inr h
   ·exact .inl (by rw[hE.frEq];exact(hfr k o).2 (.inr h))
 have hheld':∀k,C'.held k→D'.held k∨∃j b,j∉ids∧C.m j=some b∧cH (C.φ j) k:=by
  rintro k ⟨j,b,hj,hb⟩
  rcases hcase j b hj with⟨i,b0,h1,h2,h3,h4,h5⟩|⟨h1,h2,h3⟩
  ·rw[h5]at hb
   exact .inl ⟨i,b0,h3,hb⟩
  ·rw[h2]at hb
   exact .inr ⟨j,b,h3,h1,hb⟩
 have hren:Ren D' C' back (· <bs'.length):={
  keep:=fun k o v h1 h2=>⟨h1,fun h3=>h2 (hT' k o h3)⟩
  cells:=fun b ty cs hb hmb=>by
   obtain⟨h1,h2⟩:=hC'1 b hb
   refine⟨h2,cs.map (kg back),?_⟩
   rw[h1,←hm'i,hmb]
   rfl
  lists:=fun b ee t g sh L hb hmb=>by
   obtain⟨h1,h2⟩:=hC'1 b hb
   refine⟨h2,?_⟩
   rw[h1,←hm'i,hmb]
   rfl}
 have hEx:Ext C C':={
  cells:=fun j ty cs hj=>by
   by_cases hmem:j∈ids
   ·obtain⟨i,hi,e⟩:=List.getElem_of_mem hmem
    have hi':ids[i]? =some j:=by simp[hi,e]
    obtain⟨h3,h4⟩:=hpassed i j hi'
    obtain⟨h1,h2⟩:=cu hl
    have hD:(Sub C ids fr (l.map (cf f))).m i=some (.cells ty (cs.map (kg f))):=by simp[Sub,aI,(h2 i j hi').1,hj,cf]
    obtain⟨e1,cs',e2⟩:=hE.cells i _ _ hD
    obtain⟨k1,k2⟩:=hC'1 i h4
    rw[h3]at k1 k2
    refine⟨by rw[k2,e1];simp[Sub,hi'],cs'.map (kg back),?_⟩
    rw[k1,←hm'i,e2]
    rfl
   ·obtain⟨k1,k2⟩:=hC'2 j (hother j _ hj hmem)
    exact⟨k2,cs,by rw[k1];exact hj⟩
  lists:=fun j ee t g sh L hj=>by
   by_cases hmem:j∈ids
   ·obtain⟨i,hi,e⟩:=List.getElem_of_mem hmem
    have hi':ids[i]? =some j:=by simp[hi,e]
    obtain⟨h3,h4⟩:=hpassed i j hi'
    obtain⟨h1,h2⟩:=cu hl
    have hD:(Sub C ids fr (l.map (cf f))).m i=some (.list ee t g sh L):=by simp[Sub,aI,(h2 i j hi').1,hj,cf]
    obtain⟨g2,sh2,L2,e1,e2,e3⟩:=hE.lists i ee t g sh L hD
    obtain⟨k1,k2⟩:=hC'1 i h4
    rw[h3]at k1 k2
    refine⟨g2,sh2,L2,?_,e2,fun eg=>?_⟩
    ·rw[k1,←hm'i,e1];rfl
    ·obtain⟨q1,q2⟩:=e3 eg
     exact⟨by rw[k2,q1];simp[Sub,hi'],q2⟩
   ·obtain⟨k1,k2⟩:=hC'2 j (hother j _ hj hmem)
    exact⟨g,sh,L,by rw[k1];exact hj,Nat.le_refl _,fun _=>⟨k2,rfl⟩⟩
  keep:=fun k o v h1 h2=>by
   obtain⟨h3,h4⟩:=hE.keep k o v h1 fun h=>h2 (hTD k o h)
   exact⟨h3,fun h=>h4 (hT' k o h)⟩
  frEq:=rfl
  glEq:=rfl
  frKeep:=fun k o v h1 h2=>hE.frKeep k o v h1 ((hfr k o).2 (.inl h2))
  size:=hE.size
  old:=fun k hk hn=>hE.old k hk fun h=>hn (hDheld k h)
  held:=fun k h=>by
   rcases hheld' k h with h|⟨j,b,_,h1,h2⟩
   ·rcases hE.held k h with h|h
    ·exact .inl (hDheld k h)
    ·exact .inr h
   ·exact .inl ⟨j,b,h1,h2⟩
  own:=fun k o h=>by
   rcases hown' k o h with h|⟨j,b,_,h1,h2⟩
   ·rcases hE.own k o h with h|h
    ·obtain⟨b,blk,_,h1,h2⟩:=hown k o h
     exact .inl ⟨b,blk,h1,h2⟩
    ·exact .inr h
   ·exact .inl ⟨j,b,h1,h2⟩
  os:=hE.os
  tape:=hE.tape
  output:=hE.output}
 have hfar:∀j b k,C.m j=some b→j∉ids→cH (C.φ j) k→¬D'.held k:=fun j b k hj hn hk hh=>by
  rcases hE.held k hh with h|h
  ·obtain⟨b2,blk,h1,h2,h3⟩:=hheld k h
   exact hs.apart j b b2 blk k hj h2 (fun e=>hn (e▸h1)) hk h3
  ·have:=(hs.ok j b hj).lt hk
   have:C.w.heap.size≤k:=h
   omega
 have hS':SRel C':={
  ok:=fun j b hj=>by
   rcases hcase j b hj with⟨i,b0,h1,h2,h3,h4,h5⟩|⟨h1,h2,h3⟩
   ·have hb:=hs'.ok i b0 h3
    rw[h5,h4]
    have hokb:bH b0=true:=by
     rw[hm'i]at h3
     exact List.all_eq_true.1 hok' _ (List.mem_of_getElem? h3)
    cases b0 with
    |cells ty cs=>
     obtain⟨rb,c,hg,hh,hr,hlf⟩:=hb
     refine⟨rb,c,hg,hh,hren.cellsL (fun b hb=>?_) hokb hr,mC hlf⟩
     obtain⟨x,hx⟩:=Option.isSome_iff_exists.1 (gG hr b hb)
     exact hlive b x hx
    |list ee t g sh L=>
     obtain⟨a,cap,hg,hz,hc,hbk⟩:=hb
     refine⟨a,cap,hg,hz,hc,?_⟩
     cases a with
     |none=>exact hbk
     |some ad=>
      obtain⟨hsp,c,lo,hi',hh,hsz,hfz,hsh,hx⟩:=hbk
      exact⟨hsp,c,lo,hi',hh,hsz,hfz,fun h o h1 h2 h3=>hsh h o h1 h2 (hT' _ _ h3),fun i x hi=>(hx i x hi).mono hren.keep⟩
   ·rw[h2]
    refine(hs.ok j b h1).mono hEx fun k hk=>?_
    refine hE.old k ((hs.ok j b h1).lt hk) fun hh=>?_
    obtain⟨b2,blk,e1,e2,e3⟩:=hheld k hh
    exact hs.apart j b b2 blk k h1 e2 (fun e=>h3 (e▸e1)) hk e3
  apart:=fun i b j b2 k hi hj hne h1 h2=>by
   rcases hcase i b hi with⟨i',b0,q1,q2,q3,q4,q5⟩|⟨q1,q2,q3⟩
   ·rw[q5]at h1
    rcases hcase j b2 hj with⟨j',b0',p1,p2,p3,p4,p5⟩|⟨p1,p2,p3⟩
    ·rw[p5]at h2
     exact hs'.apart i' b0 j' b0' k q3 p3 (fun e=>hne (by rw[←q2,←p2,e])) h1 h2
    ·rw[p2]at h2
     exact hfar j b2 k p1 p3 h2 ⟨i',b0,q3,h1⟩
   ·rw[q2]at h1
    rcases hcase j b2 hj with⟨j',b0',p1,p2,p3,p4,p5⟩|⟨p1,p2,p3⟩
    ·rw[p5]at h2
     exact hfar i b k q1 q3 h1 ⟨j',b0',p3,h2⟩
    ·rw[p2]at h2
     exact hs.apart i b j b2 k q1 p1 hne h1 h2
  frApart:=fun k o hf hh=>by
   rcases hheld' k hh with h|⟨j,b,_,h1,h2⟩
   ·exact hs'.frApart k o (hfrD' k o hf) h
   ·exact hs.frApart k o hf ⟨j,b,h1,h2⟩
  frOld:=fun k o hf=>Nat.lt_of_lt_of_le (hs.frOld k o hf) hE.size
  gl:=hEx.gl_ok hs.gl}
 refine⟨C',rfl,by rw[←hback],rfl,hS',hEx,by rw[←hback];exact hren⟩
end Go.Sx
namespace Go.Sx
open Go
variable{P:Program}{E:Env}{C:Ctx}
structure PExt(C:Ctx)(w':World)(T':Nat→Nat→Prop):Prop where
 keep:tZ C.w C.T w' T'
 frKeep:∀k o v,C.w.cell? ⟨k,o,none⟩=some v→C.fr k o→w'.cell? ⟨k,o,none⟩=some v
 size:C.w.heap.size≤w'.heap.size
 old:∀k,k<C.w.heap.size→¬C.held k→w'.heap[k]? =C.w.heap[k]?
 os:w'.os=C.w.os
 tape:w'.tape=C.w.tape
 output:w'.output=C.w.output
theorem PExt.after{A B:Ctx}{w':World}{T':Nat→Nat→Prop}(h:Ext A B)(k:PExt B w' T'):PExt A w' T' where
 keep:=fun a o v hv ht=>by
  obtain⟨hv',ht'⟩:=h.keep a o v hv ht
  exact k.keep a o v hv' ht'
 frKeep:=fun a o v hv hf=>k.frKeep a o v (h.frKeep a o v hv hf) (h.frEq▸hf)
 size:=Nat.le_trans h.size k.size
 old:=fun a ha hn=>by
  rw[←h.old a ha hn]
  refine k.old a (Nat.lt_of_lt_of_le ha h.size) fun hh=>?_
  rcases h.held a hh with hh|hh
  ·exact hn hh
  ·omega
 os:=k.os.trans h.os
 tape:=k.tape.trans h.tape
 output:=k.output.trans h.output
def eu(C:Ctx)(av:AV)(w':World)(chain:List PanicEntry):Prop:=
 ∃u T',chain=[{v:=u,recovered:=false}]∧ay ⟨w',fun _=>none,fun _=>.cells 0,T',fun _ _=>False⟩ av u∧bz av=true∧PExt C w' T'
theorem eu.after{A B:Ctx}(h:Ext A B){av:AV}{w':World}{ch:List PanicEntry}(k:eu B av w' ch):eu A av w' ch:=by
 obtain⟨u,T',h1,h2,h3,h4⟩:=k
 exact⟨u,T',h1,h2,h3,PExt.after h h4⟩
def bW(D:Ctx)(r:Out×List Blk):Ending→World→Prop
 | .returned u,w'=>∃v D',r.1= .ret v∧D'.w=w'∧D'.m=aC (aq 0 r.2)∧SRel D'∧Ext D D'∧ay D' v u∧bz v=true∧r.2.all bH=true
 | .panicked chain,w'=>∃v,r.1= .panic v∧eu D v w' chain
 | .outgrown,_=>False
def bx(P:Program)(f:FuncId)(vals:Array Value)(w:World)(R:Ending→World→Prop):Prop:=
 ((callFunc f vals).run P w= .ok (.enter f vals) w∧Calls P f vals w R)∨
 (∃v w',(callFunc f vals).run P w= .ok (.value v) w'∧R (.returned v) w')∨
 (∃v w',(callFunc f vals).run P w= .halt (.panic v) w'∧R (.panicked [{v,recovered:=false}]) w')
def SA(P:Program)(G:Nat→Obj→Prop)(f:Nat)(args:List AV)(bs:List Blk)(o:Out×List Blk):Prop:=
 ∀(D:Ctx) (vals:List Value),D.gl=G→D.m=aC (aq 0 bs)→SRel D→au D args vals→bx P f vals.toArray D.w (bW D o)
def KOK(P:Program)(G:Nat→Obj→Prop)(K:Callee):Prop:=
 ∀(R:Type) f args bs k (r:R),K R f args bs k= .ok r→∃o,k o= .ok r∧SA P G f args bs o
def kh(P:Program)(G:Nat→Obj→Prop)(f:Nat)(args:List AV)(get:Get)(base:Nat)(out:Out)(wr:Wr)(rd:List Nat):Prop:=
 ∃l,reach get 200 (args.flatMap gS) []=some rd∧getAll get rd=some l∧(args.all bz&&l.all bH)=true∧
  ((∃v l',SA P G f (args.map (il (posOf rd))) (l.map (cf (posOf rd))) (.ret v,l')∧Nat.ble l'.length (rd.length+16)=true∧out= .ret (il (de rd base) v)∧wr=cL (de rd base) 0 l')∨
   (∃v l',SA P G f (args.map (il (posOf rd))) (l.map (cf (posOf rd))) (.panic v,l')∧out= .panic v∧wr=[]))
theorem lR{G:Nat→Obj→Prop}{K:Callee}(hK:KOK P G K){R:Type}{f:Nat}{args:List AV}{get:Get}{base:Nat}{k:Out→Wr→List Nat→Rs R}{r:R}(h:eZ K f args get base k= .ok r):
  ∃out wr rd,k out wr rd= .ok r∧kh P G f args get base out wr rd:=by
 unfold eZ at h
 split at h
 ·cases h
 ·rename_i ids hr
  split at h
  ·cases h
  ·rename_i l hl
   split at h
   ·cases h
   ·rename_i hck
    obtain⟨o,ho,hS⟩:=hK _ _ _ _ _ _ h
    split at ho
    ·rename_i v l'
     split at ho
     ·rename_i hle
      exact⟨_,_,_,ho,l,hr,hl,hck,.inl ⟨v,l',hS,hle,rfl,rfl⟩⟩
     ·cases ho
    ·rename_i v l'
     exact⟨_,_,_,ho,l,hr,hl,hck,.inr ⟨v,l',hS,rfl,rfl⟩⟩
section
variable{ρ:Operand→Value}{lk:bc}{o:Oper}
def By(P:Program)(C:Ctx)(ρ:Operand→Value)(o:Oper)(av:AV)(wr:Wr):Prop:=
 ∀a next Q,(∀v C',C'.m=aG C.m wr→SRel C'→Ext C C'→ay C' av v→next (a.put o.dst v) C'.w)→o.upon P a next Q ((execOp ρ o).run P C.w)
def vk(P:Program)(C:Ctx)(ρ:Operand→Value)(o:Oper)(av:AV):Prop:=
 ∀a next Q,(∀w' chain,eu C av w' chain→Q (.panic chain) a w')→o.upon P a next Q ((execOp ρ o).run P C.w)
theorem Good.does{av:AV}{wr:Wr}(h:Good P C ρ o av (aG C.m wr)):By P C ρ o av wr:=by
 intro a next Q hn
 obtain⟨v,C',hr,hm,hs,hE,hv⟩:=h
 rcases hr with hr|⟨hr,rfl⟩
 ·rw[hr];exact hn v C' hm hs hE hv
 ·rw[hr];exact hn undef C' hm hs hE hv
theorem iQ{α R:Type}{pos:Nat}{k:α→Rs R}{r:R}:∀{d:DT α},d.bindK pos k= .ok r→∃a,d.run=some a∧k a= .ok r
 | .leaf a,h=>⟨a,rfl,h⟩
 | .fail,h=>by cases h
 | .br true t e,h=>iQ (d:=t) h
 | .br false t e,h=>iQ (d:=e) h
theorem gP{f:Operand}{as:Array Operand}{ts:Array TypeId}{f':FuncId}{caps:Array Value}(ho:o.op= .call {callee:=.value f,args:=as,argTypes:=ts})(hf:ρ f= .func (.func f') #[] caps)
  {w:World} {R:Ending→World→Prop} (h:bx P f' (as.map ρ++caps) w R) {a:Act} {next:Act→World→Prop} {Q:Exit→Act→World→Prop}
  (h1:∀v w',R (.returned v) w'→next (a.put o.dst v) w') (h2:∀ch w',R (.panicked ch) w'→Q (.panic ch) a w') (h3:∀w',R .outgrown w'→LetsOut Q):
  o.upon P a next Q ((execOp ρ o).run P w):=by
 have he:(execOp ρ o).run P w=(callFunc f' (as.map ρ++caps)).run P w:=by
  simp[execOp,ho,resolve,Deferred.ofValue,hf,invoke]
 rw[he]
 rcases h with⟨hr,hc⟩|⟨v,w',hr,hR⟩|⟨v,w',hr,hR⟩
 ·rw[hr,Oper.upon_enter]
  refine Calls.mono hc fun e w'' hR=>?_
  cases e with
  |returned v=>exact h1 v w'' hR
  |panicked ch=>exact h2 ch w'' hR
  |outgrown=>exact h3 w'' hR
 ·rw[hr,Oper.upon_value];exact h1 v w' hR
 ·rw[hr,Oper.upon_panic];exact h2 _ w' hR
end
end Go.Sx
namespace Go.Sx
open Go
variable{G:Nat→Obj→Prop}{P:Program}{E:Env}{C:Ctx}{K:Callee}
theorem se{ρ:Operand→Value}{lk:bc}(hρ:∀x,ay C (al lk x) (ρ x)):∀(l:List Operand),au C (l.map (al lk)) (l.map ρ)
 |[]=>rfl
 |x::l=>⟨_,_,rfl,hρ x,se hρ l⟩
theorem dr(hG:C.gl=G)(hs:SRel C){f:Nat}{args:List AV}{vals:List Value}(hv:au C args vals){base:Nat}(hbase:∀j,base≤j→j<base+16→C.m j=none)
  {out:Out} {wr:Wr} {rd:List Nat} (h:kh P G f args C.m base out wr rd):
  bx P f vals.toArray C.w fun e w'=>match e with
   | .returned u=>∃v C',out= .ret v∧C'.w=w'∧C'.m=aG C.m wr∧SRel C'∧Ext C C'∧ay C' v u
   | .panicked ch=>∃v,out= .panic v∧eu C v w' ch
   | .outgrown=>False:=by
 obtain⟨l,hr,hl,hck,h⟩:=h
 obtain⟨ids,hids0⟩:∃ids,ids=rd:=⟨_,rfl⟩
 subst hids0
 obtain⟨hd,⟨_,_⟩,hids,hcl⟩:=kI hr (by simp) (by simp)
 simp only[Bool.and_eq_true]at hck
 obtain⟨hp,hok⟩:=hck
 obtain⟨fr,hfr⟩:∃fr:Nat→Nat→Prop,∀k o,fr k o↔(C.fr k o∨∃j b,j∉ids∧C.m j=some b∧bJ (C.φ j) b k o):=⟨_,fun _ _=>Iff.rfl⟩
 obtain⟨hsD,hren,hTD,hheld,hown⟩:=wP hs hd hl hcl hok (fr:=fr)
  (fun k o b hf hb hk=>by
   obtain⟨_,h2⟩:=cu hl
   obtain⟨i,hi,e⟩:=List.getElem_of_mem hb
   obtain⟨b0,hb0⟩:=Option.isSome_iff_exists.1 (h2 i b (by simp[hi,e])).2
   rcases (hfr k o).1 hf with hf|⟨j,b',hj,hm,ho⟩
   ·exact hs.frApart k o hf ⟨b,b0,hb0,hk⟩
   ·exact hs.apart b b0 j b' k hb0 hm (fun e=>hj (e▸hb)) hk (cn ho))
  (fun k o hf=>by
   rcases (hfr k o).1 hf with hf|⟨j,b',hj,hm,ho⟩
   ·exact hs.frOld k o hf
   ·exact(hs.ok j b' hm).lt (cn ho))
  (fun k o hf=>by
   rcases (hfr k o).1 hf with hf|⟨j,b',hj,hm,ho⟩
   ·exact .inl hf
   ·exact .inr ⟨j,b',hm,ho⟩)
 have hvD:=hren.args hids hp hv
 generalize hD:Sub C ids fr (l.map (cf (posOf ids)))=D at*
 have key:∀r,SA P G f (args.map (il (posOf ids))) (l.map (cf (posOf ids))) r→bx P f vals.toArray C.w (bW D r):=fun r hr=>by
  have:=hr D vals (by rw[←hD];exact hG) (by rw[←hD];rfl) hsD hvD
  rw[←hD]at this⊢
  exact this
 have mono:∀{R R':Ending→World→Prop},bx P f vals.toArray C.w R→(∀e w',R e w'→R' e w')→bx P f vals.toArray C.w R':=fun hA hi=>by
  rcases hA with⟨h1,h2⟩|⟨v,w',h1,h2⟩|⟨v,w',h1,h2⟩
  ·exact .inl ⟨h1,Calls.mono h2 hi⟩
  ·exact .inr (.inl ⟨v,w',h1,hi _ _ h2⟩)
  ·exact .inr (.inr ⟨v,w',h1,hi _ _ h2⟩)
 have pext:∀{w' T'},PExt D w' T'→PExt C w' T':=fun{w' T'} hp=>{
  keep:=fun k o v h1 h2=>hp.keep k o v (by rw[←hD];exact h1) fun h=>h2 (hTD k o h)
  frKeep:=fun k o v h1 h2=>hp.frKeep k o v (by rw[←hD];exact h1) (by rw[←hD];exact(hfr k o).2 (.inl h2))
  size:=by have:=hp.size;rw[←hD]at this;exact this
  old:=fun k hk hn=>by
   have:=hp.old k (by rw[←hD];exact hk) (fun h=>by
    obtain⟨b,blk,h1,h2,h3⟩:=hheld k h
    exact hn ⟨b,blk,h2,h3⟩)
   rw[this,←hD];rfl
  os:=by rw[hp.os,←hD];rfl
  tape:=by rw[hp.tape,←hD];rfl
  output:=by rw[hp.output,←hD];rfl}
 rcases h with⟨v,l',hk,hlen,rfl,rfl⟩|⟨v,l',hk,rfl,rfl⟩
 ·refine mono (key _ hk) fun e w' hR=>?_
  cases e with
  |returned u=>
   obtain⟨v',D',e1,e2,e3,e4,e5,e6,e7,e8⟩:=hR
   simp only[Out.ret.injEq]at e1
   subst e1
   subst hD
   obtain⟨C',c1,c2,c3,c4,c5,c6⟩:=FW hs hd hl hfr hTD hheld hown e4 e5 e3 e8 (Nat.le_of_ble_eq_true hlen) hbase
   refine⟨_,C',rfl,c1.trans e2,c2,c4,c5,c6.relV (fun b hb=>?_) e7 e6⟩
   obtain⟨x,hx⟩:=Option.isSome_iff_exists.1 (zR e6 b hb)
   rw[e3,aI]at hx
   simp only[Nat.zero_le,if_true,Nat.sub_zero]at hx
   exact(List.getElem?_eq_some_iff.1 hx).1
  |panicked ch=>obtain⟨v',e1,_⟩:=hR;cases e1
  |outgrown=>exact hR
 ·refine mono (key _ hk) fun e w' hR=>?_
  cases e with
  |returned u=>obtain⟨v',D',e1,_⟩:=hR;cases e1
  |panicked ch=>
   obtain⟨v',e1,u,T',p1,p2,p3,p4⟩:=hR
   simp only[Out.panic.injEq]at e1
   subst e1
   exact⟨_,rfl,u,T',p1,p2,p3,pext p4⟩
  |outgrown=>exact hR
section
variable{ρ:Operand→Value}{lk:bc}{o:Oper}{R:Type}{r:R}
def dv(E:Env)(P:Program)(G:Nat→Obj→Prop)(lk:bc)(get:Get)(id:Nat)(o:Oper)(v:AV)(wr:Wr)(rd:List Nat):Prop:=
 match o.op with
 | .call {callee:=.value f,args:=as,.. }=>∃f' cap,al lk f= .fn f' cap∧kh P G f' (as.toList.map (al lk)++cap) get id (.ret v) wr rd
 | .panic _=>False
 |op=>(opA E lk get id op).run=some ⟨v,wr,rd⟩
theorem dv.does(hE:EnvOK E P)(hG:C.gl=G)(hs:SRel C)(hρ:∀x,ay C (al lk x) (ρ x)){id:Nat}(hid:∀j,id≤j→j<id+16→C.m j=none){v:AV}{wr:Wr}{rd:List Nat}
  (h:dv E P G lk C.m id o v wr rd):By P C ρ o v wr:=by
 unfold dv at h
 split at h
 ·rename_i f as ts ho
  obtain⟨f',cap,hf,hdc⟩:=h
  have hfv:=hρ f
  rw[hf]at hfv
  obtain⟨vs,hfv,hcap⟩:=hfv
  have hargs:au C (as.toList.map (al lk)++cap) (as.toList.map ρ++vs.toList):=(se hρ _).append hcap
  have hl:(as.toList.map ρ++vs.toList).toArray=as.map ρ++vs:=by
   apply Array.ext'
   simp
  intro a next Q hn
  have hA:=dr hG hs hargs hid hdc
  rw[hl]at hA
  refine gP ho hfv hA (fun u w' hR=>?_) (fun ch w' hR=>?_) (fun w' hR=>hR.elim)
  ·obtain⟨v',C',e1,e2,e3,e4,e5,e6⟩:=hR
   simp only[Out.ret.injEq]at e1
   subst e1
   rw[←e2]
   exact hn u C' e3 e4 e5 e6
  ·obtain⟨v',e1,_⟩:=hR;cases e1
 ·exact h.elim
 ·exact Good.does (Bp hE hs hρ (hid id (Nat.le_refl _) (by omega)) rfl h)
theorem xz(hE:EnvOK E P)(hK:KOK P G K)(hG:C.gl=G)(hs:SRel C)(hρ:∀x,ay C (al lk x) (ρ x)){id:Nat}(hid:∀j,id≤j→j<id+16→C.m j=none){kn:AV→Wr→List Nat→Rs R}{kp:AV→Rs R}
  {e:Nat} (h:eo E K lk C.m id o e kn kp= .ok r):
  (∃v wr rd,kn v wr rd= .ok r∧below wr (id+16)=true∧dv E P G lk C.m id o v wr rd)∨(∃v,kp v= .ok r∧vk P C ρ o v):=by
 unfold eo at h
 split at h
 ·rename_i f as ts ho
  split at h
  ·rename_i f' cap hf
   have hfv:=hρ f
   rw[hf]at hfv
   obtain⟨vs,hfv,hcap⟩:=hfv
   have hargs:au C (as.toList.map (al lk)++cap) (as.toList.map ρ++vs.toList):=(se hρ _).append hcap
   have hl:(as.toList.map ρ++vs.toList).toArray=as.map ρ++vs:=by
    apply Array.ext'
    simp
   obtain⟨out,wr,rd,h,hdc⟩:=lR hK h
   split at h
   ·rename_i v
    split at h
    ·rename_i hb
     exact .inl ⟨v,wr,rd,h,hb,by unfold dv;rw[ho];exact⟨f',cap,hf,hdc⟩⟩
    ·cases h
   ·rename_i v
    refine .inr ⟨v,h,fun a next Q hn=>?_⟩
    have hA:=dr hG hs hargs hid hdc
    rw[hl]at hA
    refine gP ho hfv hA (fun u w' hR=>?_) (fun ch w' hR=>?_) (fun w' hR=>hR.elim)
    ·obtain⟨v',C',e1,_⟩:=hR;cases e1
    ·obtain⟨v',e1,e2⟩:=hR
     simp only[Out.panic.injEq]at e1
     subst e1
     exact hn w' ch e2
  ·cases h
 ·rename_i x ho
  split at h
  ·rename_i t v hx
   have hxv:=hρ x
   rw[hx]at hxv
   split at h
   ·rename_i hp
    refine .inr ⟨_,h,fun a next Q hn=>?_⟩
    obtain⟨u,hu,hv⟩:=hxv
    have hrun:(execOp ρ o).run P C.w= .halt (.panic (.iface t u)) C.w:=by
     simp[execOp,ho,hu,Instr.panic,goPanic]
    rw[hrun,Oper.upon_panic]
    refine hn _ _ ⟨.iface t u,C.T,rfl,?_,hp,{
     keep:=fun _ _ _ h1 h2=>⟨h1,h2⟩
     frKeep:=fun _ _ _ h1 _=>h1
     size:=Nat.le_refl _
     old:=fun _ _ _=>rfl
     os:=rfl
     tape:=rfl
     output:=rfl}⟩
    have hren:Ren C ⟨C.w,fun _=>none,fun _=>.cells 0,C.T,fun _ _=>False⟩ (fun i=>i) (fun _=>False):={
     keep:=fun k o v h1 h2=>⟨h1,fun h3=>by
      rcases h3 with h3|⟨_,_,h4,_⟩
      ·exact h2 h3
      ·cases h4⟩
     cells:=fun _ _ _ h=>h.elim
     lists:=fun _ _ _ _ _ _ h=>h.elim}
    exact hren.relV (a:=.iface t v) (by simp[gS,refA]) hp ⟨u,rfl,hv⟩
   ·cases h
  ·cases h
 ·rename_i op h1 h2
  obtain⟨rr,hrun,hk⟩:=iQ h
  split at hk
  ·rename_i hb
   refine .inl ⟨rr.v,rr.wr,rr.rd,hk,hb,?_⟩
   unfold dv
   split
   ·rename_i f as ts ho;exact(h1 _ _ _ ho).elim
   ·rename_i x ho;exact(h2 _ ho).elim
   ·exact hrun
  ·cases hk
end
end Go.Sx
namespace Go.Sx
open Go
variable{P:Program}{E:Env}{K:Callee}
section
variable{lk lk':bc}
theorem dx:∀(i:Nat) (fs:List Fld) (ps:List (Nat×Operand)) (z:List AV),(∀p∈ps,al lk p.2=al lk' p.2)→cj lk i fs ps z=cj lk' i fs ps z
 |_,[],[],_,_=>by simp[cj]
 |_,[],_::_,_,_=>by simp[cj]
 |i,f::fs,[],z,h=>by simp only[cj];rw[dx (i+1) fs [] _ h]
 |i,f::fs,(j,x)::ps,z,h=>by
  simp only[cj]
  rw[h (j,x) (by simp),dx (i+1) fs ps _ (fun p hp=>h p (by simp[hp])),dx (i+1) fs ((j,x)::ps) _ h]
theorem my(fs:List Fld):∀(ps:List (Nat×Operand)) (z:List AV),(∀p∈ps,al lk p.2=al lk' p.2)→jL lk fs ps z=jL lk' fs ps z
 |[],_,_=>rfl
 |(j,x)::ps,z,h=>by
  simp only[jL]
  rw[h (j,x) (by simp)]
  cases nth fs j with
  |none=>rfl
  |some f=>
   simp only
   rw[my fs ps _ fun p hp=>h p (by simp[hp])]
theorem zO{get:Get}{id:Nat}{op:Op}(h:∀x∈op.operands,al lk x=al lk' x):opA E lk get id op=opA E lk' get id op:=by
 cases op<;>simp only[Op.operands]at h<;>try rfl
 case build t ps=>
  have hg:∀i fs z,cj lk i fs ps.toList z=cj lk' i fs ps.toList z:=fun i fs z=>dx i fs _ z fun p hp=>h p.2 (by simp;exact⟨p.1,by simpa using hp⟩)
  have hf:∀fs z,jL lk fs ps.toList z=jL lk' fs ps.toList z:=fun fs z=>my fs _ z fun p hp=>h p.2 (by simp;exact⟨p.1,by simpa using hp⟩)
  simp only[opA,sR,hg,hf]
 case buildSlice t n ps=>
  have hg:∀i fs z,cj lk i fs ps.toList z=cj lk' i fs ps.toList z:=fun i fs z=>dx i fs _ z fun p hp=>h p.2 (by simp;exact⟨p.1,by simpa using hp⟩)
  simp only[opA,hg]
 case call c=>
  obtain⟨callee,args,ts⟩:=c
  cases callee with
  |value f=>simp only[opA]
  |invoke r m=>simp only[opA]
  |builtin b=>
   have hargs:∀x∈args,al lk x=al lk' x:=fun x hx=>h x (by simp[Call.operands,hx])
   have ha2:∀x∈args.toList,al lk x=al lk' x:=fun x hx=>hargs x (by simpa using hx)
   cases b<;>simp only[opA]<;>try rfl
   all_goals
    revert ha2
    generalize args.toList=l
    intro ha2
    match l with
    |[]=>rfl
    |[a]=>simp only[ha2 a (by simp)]
    |[a,b]=>simp only[ha2 a (by simp),ha2 b (by simp)]
    |_::_::_::_=>rfl
 case slice t x lo hi mx=>
  have hx:al lk x=al lk' x:=h x (by simp)
  have k1:∀es v,fL get lk es v lo hi mx=fL get lk' es v lo hi mx:=fun es v=>by
   have h1:∀a,lo=some a→al lk a=al lk' a:=fun a ha=>h a (by simp[ha])
   have h2:∀a,hi=some a→al lk a=al lk' a:=fun a ha=>h a (by simp[ha])
   have h3:∀a,mx=some a→al lk a=al lk' a:=fun a ha=>h a (by simp[ha])
   have h4:jz lk lo=jz lk' lo:=by cases lo<;>simp_all[jz]
   have h5:∀n,kj lk n hi=kj lk' n hi:=fun n=>by cases hi<;>simp_all[kj]
   unfold fL
   cases mx with
   |none=>simp only[h4,h5]
   |some m=>
    cases hi with
    |none=>cases v<;>rfl
    |some a=>cases v<;>cases lo<;>first|rfl|simp only[h2 a rfl,h3 m rfl]
  simp only[opA]
  rw[hx]
  cases mx with
  |none=>generalize al lk' x=v;cases v<;>simp only[k1]
  |some m=>generalize al lk' x=v;cases v<;>simp only[k1]
 all_goals (simp only[opA];simp_all)
end
section
variable{get get':Get}
theorem ey:∀{t:Ty} {cs:List AV} {x:t.den} {r:List AV} {m:List Nat},aV get t cs=some (x,r,m)→(∀b∈m,get' b=get b)→aV get' t cs=some (x,r,m)
 | .unit,_,_,_,_,h,_=>h
 | .bool,_,_,_,_,h,_=>h
 | .int _,_,_,_,_,h,_=>h
 | .flt _,_,_,_,_,h,_=>h
 | .str,_,_,_,_,h,_=>h
 | .pair a b,cs,x,r,m,h,hg=>by
  simp only[aV]at h⊢
  split at h
  ·rename_i x1 r1 m1 h1
   split at h
   ·rename_i y1 r2 m2 h2
    simp only[Option.some.injEq,Prod.mk.injEq]at h
    obtain⟨rfl,rfl,rfl⟩:=h
    rw[ey h1 fun b hb=>hg b (by simp[hb])]
    simp only
    rw[ey h2 fun b hb=>hg b (by simp[hb])]
   ·cases h
  ·cases h
 | .slice e,cs,x,r,m,h,hg=>by
  simp only[aV]at h⊢
  split at h
  ·exact h
  ·exact h
  ·rename_i b g r'
   split at h
   ·rename_i e' g' sh L hb
    have hm:m=[b]:=by
     split at h
     ·split at h
      ·exact(congrArg (·.2.2) (Option.some.inj h)).symm
      ·cases h
     ·cases h
    have:=hg b (by simp[hm])
    rw[hb]at this
    simp only[this]
    exact h
   ·cases h
  ·exact h
  ·cases h
 | .ptr e,_,_,_,_,h,_=>h
theorem fB{t:Ty}:∀{n:Nat} {cs:List AV} {L:List t.den} {m:List Nat},bn get t n cs=some (L,m)→(∀b∈m,get' b=get b)→bn get' t n cs=some (L,m)
 |0,[],_,_,h,_=>h
 |0,_::_,_,_,h,_=>h
 |n+1,cs,L,m,h,hg=>by
  simp only[bn]at h⊢
  split at h
  ·rename_i x r m1 h1
   split at h
   ·rename_i l m2 h2
    simp only[Option.some.injEq,Prod.mk.injEq]at h
    obtain⟨rfl,rfl⟩:=h
    rw[ey h1 fun b hb=>hg b (by simp[hb])]
    simp only
    rw[fB h2 fun b hb=>hg b (by simp[hb])]
   ·cases h
  ·cases h
theorem c8:∀{m:List Nat},(∀b∈m,get' b=get b)→bw get' m=bw get m
 |[],_=>rfl
 |b::m,h=>by
  have h1:=h b (by simp)
  have h2:=c8 (m:=m) fun c hc=>h c (by simp[hc])
  simp only[bw,List.filterMap_cons,h1]at h2⊢
  rw[h2]
theorem jR{a:AV}{t:Ty}{L:List t.den}{m:List Nat}(h:dd get a=some (.mk t L m))(hg:∀b∈m,get' b=get b):dd get' a=some (.mk t L m):=by
 cases a with
 |own b g=>
  simp only[dd]at h⊢
  split at h
  ·rename_i t' g' sh L' hb
   have hm:m=[b]:=by
    split at h
    ·simp only[Option.some.injEq,SL.mk.injEq]at h;exact h.2.2.symm
    ·cases h
   have:=hg b (by simp[hm])
   rw[hb]at this
   simp only[this]
   exact h
  ·cases h
 |_=>exact h
theorem pZ{a:AV}{n:Nat}{cs:List AV}{m:List Nat}(h:eA get n a=some (cs,m))(hg:∀b∈m,get' b=get b):eA get' n a=some (cs,m):=by
 cases a with
 |ref b off=>
  simp only[eA]at h⊢
  split at h
  ·rename_i cs' hb
   have hm:m=[b]:=by simp only[Option.some.injEq,Prod.mk.injEq]at h;exact h.2.symm
   have:=hg b (by simp[hm])
   rw[hb]at this
   simp only[this]
   exact h
  ·cases h
 |el b g i off=>
  simp only[eA]at h⊢
  split at h
  ·rename_i t' g' sh L' hb
   have hm:m=[b]:=by
    split at h
    ·simp only[Option.some.injEq,Prod.mk.injEq]at h;exact h.2.symm
    ·cases h
   have:=hg b (by simp[hm])
   rw[hb]at this
   simp only[this]
   exact h
  ·cases h
 |_=>exact h
end
end Go.Sx
namespace Go.Sx
open Go
variable{P:Program}{E:Env}{K:Callee}{get get':Get}
def agree(get get':Get)(r:OpR):Prop:=(∀b∈r.rd,get' b=get b)∧∀p∈r.wr,get' p.1=get p.1
theorem iO{id et es by_:Nat}{s:AV}{t:Ty}{X:List t.den}{m:List Nat}{r:OpR}(h:(dC get id et es by_ s t X m).run=some r)(hg:agree get get' r):(dC get' id et es by_ s t X m).run=some r:=by
 unfold dC at h⊢
 split at h
 ·exact h
 ·rename_i hck
  split at h
  ·exact h
  ·rename_i b g
   split at h
   ·rename_i ee t' g' sh L hb
    split at h
    ·rename_i hgg
     split at h
     ·rename_i X' hX
      obtain⟨hc,hl⟩:=bF h
      have hl:=aX hl
      have hb':=hg.1 b (by rw[hl];simp)
      rw[hb]at hb'
      simp only[hb',hgg,hX]
      exact h
     ·exact(ab h).elim
    ·exact(ab h).elim
   ·exact(ab h).elim
  ·exact h
  ·exact(ab h).elim
theorem ur{id et es by_:Nat}{s:AV}{t:Ty}{X:List t.den}{m:List Nat}{r:OpR}(h:(dC get id et es by_ s t X m).run=some r):∀b∈m,b∈r.rd:=by
 unfold dC at h
 split at h
 ·exact(ab h).elim
 ·split at h
  ·rw[aX (bF h).2];exact fun b hb=>hb
  ·split at h
   ·split at h
    ·split at h
     ·rw[aX (bF h).2];exact fun b hb=>List.mem_cons_of_mem _ hb
     ·exact(ab h).elim
    ·exact(ab h).elim
   ·exact(ab h).elim
  ·split at h
   ·rw[aX (bF h).2];exact fun b hb=>hb
   ·exact(ab h).elim
  ·exact(ab h).elim
theorem pW{id et es by_:Nat}{s x:AV}{r:OpR}(h:(kJ get id et es by_ s x).run=some r)(hg:agree get get' r):(kJ get' id et es by_ s x).run=some r:=by
 unfold kJ at h⊢
 split at h
 ·exact h
 ·exact iO h hg
 ·rename_i x h1 h2
  split at h
  ·rename_i t X m hs
   rw[jR hs fun b hb=>hg.1 b (ur h b hb)]
   exact iO h hg
  ·exact(ab h).elim
theorem tw{lk:bc}{es:Nat}{x:AV}{lo hi mx:Option Operand}{r:OpR}(h:(fL get lk es x lo hi mx).run=some r)(hg:agree get get' r):(fL get' lk es x lo hi mx).run=some r:=by
 unfold fL at h⊢
 split at h
 ·rename_i m
  simp only at h⊢
  split at h
  ·rename_i b g a
   split at h
   ·rename_i t g' sh L hb
    split at h
    ·rename_i hgg
     split at h
     ·rename_i h' m' e1 e2
      obtain⟨hc,hl⟩:=bF h
      have hl:=aX hl
      have hb':=hg.1 b (by rw[hl];simp)
      have hsh:=c8 (get:=get) (get':=get') (m:=[b]) (by simpa using hb')
      rw[hb]at hb'
      simp only[hb',hgg,e1,e2,hsh]
      exact h
     ·exact(ab h).elim
    ·exact(ab h).elim
   ·exact(ab h).elim
  ·exact h
  ·exact(ab h).elim
 ·simp only at h⊢
  split at h
  ·exact h
  ·rename_i b g
   split at h
   ·rename_i t g' sh L hb
    split at h
    ·rename_i l h' e1 e2 e3
     split at h
     ·obtain⟨hc,hl⟩:=bF h
      have hl:=aX hl
      have hb':=hg.1 b (by rw[hl];simp)
      rw[hb]at hb'
      simp only[hb',e1,e2,e3]
      exact h
     ·rename_i hns
      obtain⟨hc,hl⟩:=bF h
      have hl:=aX hl
      have hb':=hg.1 b (by rw[hl];simp)
      have hsh:=c8 (get:=get) (get':=get') (m:=[b]) (by simpa using hb')
      rw[hb]at hb'
      simp only[hb',e1,e2,e3,hsh]
      exact h
    ·exact(ab h).elim
   ·exact(ab h).elim
  ·exact h
  ·exact h
  ·exact(ab h).elim
theorem lF{es:Nat}{x i:AV}{r:OpR}(h:(eJ get es x i).run=some r)(hg:agree get get' r):(eJ get' es x i).run=some r:=by
 unfold eJ at h⊢
 split at h
 ·split at h
  ·exact h
  ·exact h
  ·rename_i b g
   split at h
   ·rename_i t g' sh L hb
    split at h
    ·rename_i hgg
     have hl:=aX (bF h).2
     have hb':=hg.1 b (by rw[hl];simp)
     rw[hb]at hb'
     simp only[hb',hgg]
     exact h
    ·exact(ab h).elim
   ·exact(ab h).elim
  ·exact(ab h).elim
 ·exact(ab h).elim
theorem rY{a x:AV}{r:OpR}(h:oL get a x=some r)(hg:agree get get' r):oL get' a x=some r:=by
 unfold oL at h⊢
 split at h
 ·cases h
 ·rename_i hlf
  split at h
  ·rename_i b off
   split at h
   ·rename_i cs hb
    split at h
    ·rename_i hck
     have hb':=hg.1 b (by simp only[Option.some.injEq]at h;rw[←h];simp)
     rw[hb]at hb'
     simp only[hb',hck]
     exact h
    ·cases h
   ·cases h
  ·rename_i b g i off
   split at h
   ·rename_i t g' L hb
    split at h
    ·rename_i hck
     split at h
     ·rename_i y m hu
      split at h
      ·cases h
      ·rename_i hm
       have h':=h
       simp only[Option.some.injEq]at h'
       have hb':=hg.1 b (by rw[←h'];simp)
       have hmm:∀c∈m,get' c=get c:=fun c hc=>hg.1 c (by rw[←h'];simp[hc])
       rw[hb]at hb'
       simp only[hb',hck]
       rw[ey hu hmm]
       simp only[hm,c8 hmm]
       exact h
     ·cases h
    ·cases h
   ·cases h
  ·cases h
end Go.Sx
namespace Go.Sx
open Go
variable{G:Nat→Obj→Prop}{P:Program}{E:Env}{get get':Get}
theorem AM{lk:bc}{id:Nat}{op:Op}{r:OpR}(h:(opA E lk get id op).run=some r)(hg:agree get get' r):(opA E lk get' id op).run=some r:=by
 cases op<;>first|exact h|skip
 case buildSlice t n ps=>
  simp only[opA]at h⊢
  split at h
  ·split at h
   ·split at h
    ·split at h
     ·split at h
      ·split at h
       ·rename_i L m hL
        have hl:=aX h
        have hmm:∀c∈m,get' c=get c:=fun c hc=>hg.1 c (by rw[hl];exact hc)
        rw[fB hL hmm]
        simp only[c8 hmm]
        exact h
       ·exact(ab h).elim
      ·exact(ab h).elim
     ·exact(ab h).elim
    ·exact(ab h).elim
   ·exact(ab h).elim
  ·exact(ab h).elim
 case load t a=>
  simp only[opA]at h⊢
  split at h
  ·split at h
   ·rename_i cs rd hc
    have hrd:r.rd=rd:=by
     split at h
     ·split at h
      ·rw[aX h]
      ·exact(ab h).elim
     ·exact(ab h).elim
    rw[pZ hc fun b hb=>hg.1 b (hrd▸hb)]
    exact h
   ·exact(ab h).elim
  ·exact(ab h).elim
 case store t a x=>
  simp only[opA]at h⊢
  split at h
  ·split at h
   ·split at h
    ·rename_i r' hr
     have:=aX h
     subst this
     rw[rY hr hg]
     exact h
    ·exact(ab h).elim
   ·exact(ab h).elim
  ·exact(ab h).elim
 case indexAddr t x i=>
  simp only[opA]at h⊢
  split at h
  ·exact lF h hg
  ·exact(ab h).elim
 case slice t x lo hi mx=>
  simp only[opA]at h⊢
  split at h
  ·exact h
  ·split at h
   ·exact tw h hg
   ·exact(ab h).elim
 case call c=>
  obtain⟨callee,args,ts⟩:=c
  cases callee with
  |value f=>exact h
  |invoke _ _=>exact h
  |builtin b=>
   cases b<;>first|exact h|skip
   case len=>
    simp only[opA]at h⊢
    split at h
    ·split at h
     ·split at h
      ·split at h
       ·exact h
       ·split at h
        ·exact h
        ·split at h
         ·rename_i t L m hs
          have hl:=aX h
          rw[jR hs fun b hb=>hg.1 b (by rw[hl];exact hb)]
          exact h
         ·exact(ab h).elim
       ·exact(ab h).elim
      ·exact(ab h).elim
     ·exact(ab h).elim
    ·exact(ab h).elim
   case append=>
    simp only[opA]at h⊢
    split at h
    ·split at h
     ·split at h
      ·split at h
       ·exact(ab h).elim
       ·split at h
        ·split at h
         ·split at h
          ·exact pW h hg
          ·exact(ab h).elim
         ·exact(ab h).elim
        ·exact(ab h).elim
      ·exact(ab h).elim
     ·exact(ab h).elim
    ·exact(ab h).elim
theorem lE:∀{n:Nat} {todo acc ids:List Nat},reach get n todo acc=some ids→∀b∈acc,b∈ids
 |n,[],acc,ids,h=>by
  have:ids=acc:=by cases n<;>simpa [reach,eq_comm]using h
  subst this
  exact fun b hb=>hb
 |0,_::_,_,_,h=>by simp[reach]at h
 |n+1,b::todo,acc,ids,h=>by
  simp only[reach]at h
  split at h
  ·exact lE h
  ·exact fun c hc=>lE h c (List.mem_append_left _ hc)
theorem iE:∀{n:Nat} {todo acc ids:List Nat},reach get n todo acc=some ids→(∀b∈ids,get' b=get b)→reach get' n todo acc=some ids
 |n,[],acc,ids,h,_=>by cases n<;>simpa [reach]using h
 |0,_::_,_,_,h,_=>by simp[reach]at h
 |n+1,b::todo,acc,ids,h,hg=>by
  simp only[reach]at h⊢
  split at h
  ·exact iE h hg
  ·rw[hg b (lE h b (by simp))]
   exact iE h hg
theorem ku:∀{ids:List Nat} {l:List Blk},getAll get ids=some l→(∀b∈ids,get' b=get b)→getAll get' ids=some l
 |[],_,h,_=>h
 |b::ids,l,h,hg=>by
  simp only[getAll]at h⊢
  split at h
  ·rename_i x l' hx hl
   rw[hg b (by simp),hx,ku hl fun c hc=>hg c (by simp[hc])]
   exact h
  ·cases h
theorem kh.frame{f:Nat}{args:List AV}{base:Nat}{out:Out}{wr:Wr}{rd:List Nat}(h:kh P G f args get base out wr rd)(hg:∀b∈rd,get' b=get b):kh P G f args get' base out wr rd:=by
 obtain⟨l,hr,hl,hck,h⟩:=h
 exact⟨l,iE hr hg,ku hl hg,hck,h⟩
theorem dv.frame{lk lk':bc}{id:Nat}{o:Oper}{v:AV}{wr:Wr}{rd:List Nat}(h:dv E P G lk get id o v wr rd)
  (hl:∀x∈o.op.operands,al lk' x=al lk x) (hg:∀b∈rd,get' b=get b) (hw:∀p∈wr,get' p.1=get p.1):dv E P G lk' get' id o v wr rd:=by
 unfold dv at h⊢
 split at h
 ·rename_i f as ts ho
  rw[ho]at hl
  obtain⟨f',cap,hf,hdc⟩:=h
  have h1:al lk' f=al lk f:=hl f (by simp[Op.operands,Call.operands])
  have h2:as.toList.map (al lk')=as.toList.map (al lk):=List.map_congr_left fun x hx=>hl x (by simp[Op.operands,Call.operands];exact .inr (by simpa using hx))
  refine⟨f',cap,h1.trans hf,?_⟩
  rw[h2]
  exact hdc.frame hg
 ·exact h.elim
 ·rename_i op h1 h2
  have hh:(opA E lk' get' id o.op).run=some ⟨v,wr,rd⟩:=by
   rw[zO hl]
   exact AM h ⟨hg,hw⟩
  exact hh
end Go.Sx
namespace Go.Sx
open Go
variable{G:Nat→Obj→Prop}{P:Program}{E:Env}{K:Callee}{C:Ctx}
def dP(lk:bc)(d:Option Tmp)(v:AV):bc:=
 match d with
 |none=>lk
 |some d=>fun j=>if d=j then v else lk j
theorem qx(tm:kf)(d:Nat)(v:AV):look ((d,v)::tm)=dP (look tm) (some d) v:=by
 funext j
 simp only[look,dP]
 split
 ·rename_i h;rw[if_pos (beq_eq h)]
 ·rename_i h
  rw[if_neg]
  intro e
  subst e
  simp at h
theorem eU(tm:kf)(d:Option Tmp)(v:AV):look (iz tm d v)=dP (look tm) d v:=by
 cases d with
 |none=>rfl
 |some d=>exact qx tm d v
theorem eS:∀(wr:Wr) (bs:gU),aC (ct bs wr)=aG (aC bs) wr
 |[],_=>rfl
 |(i,b)::r,bs=>by
  simp only[ct,aG]
  rw[eS r]
  congr 1
  funext j
  simp only[aC,eI]
  split
  ·rename_i h;rw[if_pos (beq_eq h).symm]
  ·rename_i h
   rw[if_neg]
   intro e
   subst e
   simp at h
def lH(C:Ctx)(lk:bc)(a:Act):Prop:=∀x,ay C (al lk x) (a.eval x)
theorem Ag{lk:bc}{d:Option Tmp}{v:AV}{x:Operand}(h:∀t,d=some t→x≠ .tmp t):al (dP lk d v) x=al lk x:=by
 cases d with
 |none=>rfl
 |some d=>
  cases x with
  |tmp t=>
   simp only[al,dP]
   rw[if_neg]
   intro e
   exact h d rfl (by rw[e])
  |_=>rfl
theorem ld(a:Act)(d:Option Tmp)(v:Value):(a.put d v).tmps.size=a.tmps.size:=by
 cases d<;>simp[Act.put]
theorem fq(a:Act)(d:Option Tmp)(v:Value):(a.put d v).defers=a.defers:=by
 cases d<;>rfl
theorem lH.put{lk:bc}{a:Act}(h:lH C lk a){d:Option Tmp}(hd:∀t,d=some t→t<a.tmps.size){v:AV}{u:Value}(hv:ay C v u):lH C (dP lk d v) (a.put d u):=by
 cases d with
 |none=>exact h
 |some d=>
  intro x
  by_cases hx:x= .tmp d
  ·subst hx
   simp only[al,dP,if_pos]
   have:(a.put (some d) u).eval (.tmp d)=u:=by
    have:=hd d rfl
    simp[Act.put,Act.eval,this]
   rw[this]
   exact hv
  ·rw[Ag (by rintro t e;cases e;exact hx),Act.eval_put (by rintro t e;cases e;exact hx)]
   exact h x
theorem lH.mono{C':Ctx}(hE:Ext C C'){lk:bc}{a:Act}(h:lH C lk a):lH C' lk a:=fun x=>(h x).mono hE
structure SR(C:Ctx)(a:Act)(lk:bc)(m:Get):Prop where
 m:C.m=m
 s:SRel C
 t:lH C lk a
def ic(all:List Oper)(lk:bc)(o:Oper):Option Bool:=
 match o.guard with
 |none=>some true
 |some (j,want)=>match jX all j with
  |none=>none
  |some d=>match lk d with
   | .bool b=>some (b==want)
   | .tup []=>some false
   |_=>none
theorem ji{ops:Array Oper}{lk:bc}{a:Act}(ht:lH C lk a){o:Oper}{t:Bool}(h:ic ops.toList lk o=some t):Region.wanted o (yielded ops a.tmps)=t:=by
 unfold ic at h
 unfold Region.wanted
 split at h
 ·rename_i hg
  simpa [hg]using h
 ·rename_i j want hg
  rw[hg]
  simp only
  split at h
  ·cases h
  ·rename_i d hd
   have hd':(ops[j]?).bind (·.dst)=some d:=by
    simpa [jX,cP]using hd
   have hx:=ht (.tmp d)
   simp only[al,Act.eval]at hx
   split at h
   ·rename_i b hb
    rw[hb]at hx
    simp only[ay]at hx
    have:a.tmps[d]? =some (.bool b):=by
     cases e:a.tmps[d]? with
     |none=>simp[Array.getD_eq_getD_getElem?,e,undef]at hx
     |some y=>simp[Array.getD_eq_getD_getElem?,e]at hx;rw[hx]
    simp only[yielded,hd',Option.bind_some,this]
    simp only[Option.some.injEq]at h
    rw[←h]
    cases b<;>cases want<;>rfl
   ·rename_i hb
    rw[hb]at hx
    obtain⟨vs,hv,hl⟩:=hx
    have hy:yielded ops a.tmps j=none:=by
     simp only[yielded,hd',Option.bind_some]
     cases e:a.tmps[d]? with
     |none=>rfl
     |some y=>
      have:y= .tuple vs:=by simpa [Array.getD_eq_getD_getElem?,e]using hv
      subst this
      rfl
    simp only[hy]
    simpa using h
   ·cases h
structure Rec where
 dst:Option Tmp
 ran:Bool
 v:AV
 wr:Wr
 rd:List Nat
def jV(E:Env)(P:Program)(G:Nat→Obj→Prop)(all:List Oper)(lk:bc)(m:Get)(id:Nat)(o:Oper)(r:Rec):Prop:=
 r.dst=o.dst∧ic all lk o=some r.ran∧(r.ran=true→dv E P G lk m id o r.v r.wr r.rd∧below r.wr (id+16)=true)∧(r.ran=false→r.v= .tup []∧r.wr=[]∧r.rd=[])
theorem rI:ay C (.tup []) undef:=⟨#[],rfl,rfl⟩
theorem yz(hE:EnvOK E P)(hG:C.gl=G){ops:Array Oper}{lk:bc}{m:Get}{id:Nat}{o:Oper}{r:Rec}(h:jV E P G ops.toList lk m id o r){a:Act}(hr:SR C a lk m)
  (hid:∀j,id≤j→j<id+16→m j=none) (hd:∀t,o.dst=some t→t<a.tmps.size) {j:Nat} (hj:ops[j]? =some o) {next:Act→World→Prop} {Q:Exit→Act→World→Prop}
  (hn:∀C' a',SR C' a' (dP lk r.dst r.v) (aG m r.wr)→Ext C C'→a'.tmps.size=a.tmps.size→a'.defers=a.defers→next a' C'.w):wpOp P ops Q j next a C.w:=by
 obtain⟨h1,h2,h3,h4⟩:=h
 have hw:=ji hr.t h2
 unfold wpOp
 simp only[hj,hw]
 cases hran:r.ran with
 |true=>
  rw[if_pos rfl]
  refine .inl ?_
  have hm:=hr.m
  subst hm
  unfold Oper.wp
  refine((h3 hran).1.does hE hG hr.s hr.t hid) a next Q fun v C' e1 e2 e3 e4=>?_
  refine hn C' _ ⟨e1,e2,?_⟩ e3 (ld _ _ _) (fq _ _ _)
  rw[h1]
  exact(hr.t.mono e3).put hd e4
 |false=>
  rw[if_neg (by simp)]
  obtain⟨e1,e2,e3⟩:=h4 hran
  refine hn C _ ⟨?_,hr.s,?_⟩ (Ext.refl C) (ld _ _ _) (fq _ _ _)
  ·rw[e2];exact hr.m
  ·rw[h1,e1]
   exact hr.t.put hd rI
end Go.Sx
namespace Go.Sx
open Go
variable{G:Nat→Obj→Prop}{P:Program}{E:Env}{C:Ctx}
def lkF(S:Nat→Bool):List Rec→Nat→bc→bc
 |[],_,lk=>lk
 |r::rs,i,lk=>lkF S rs (i+1) (if S i=true then dP lk r.dst r.v else lk)
def mF(S:Nat→Bool):List Rec→Nat→Get→Get
 |[],_,m=>m
 |r::rs,i,m=>mF S rs (i+1) (if S i=true then aG m r.wr else m)
theorem Fk{lk:bc}{d:Option Tmp}{v:AV}{s:Nat}(h:d≠some s):dP lk d v s=lk s:=by
 cases d with
 |none=>rfl
 |some d=>simp only[dP];rw[if_neg];intro e;exact h (by rw[e])
theorem xe{lk lk':bc}{d:Option Tmp}{v:AV}{s:Nat}(h:lk s=lk' s):dP lk d v s=dP lk' d v s:=by
 cases d with
 |none=>exact h
 |some d=>simp only[dP];split<;>first|rfl|exact h
theorem tH{m m':Get}{b:Nat}:∀{wr:Wr},m b=m' b→aG m wr b=aG m' wr b:=by
 intro wr
 induction wr generalizing m m' with
 |nil=>exact fun h=>h
 |cons p wr ih=>
  intro h
  simp only[aG]
  refine ih ?_
  simp only[eI]
  split<;>first|rfl|exact h
theorem rl{S S':Nat→Bool}{s:Nat}:∀(rs:List Rec) (k:Nat) (lk lk':bc),(∀i r,rs[i]? =some r→S (k+i)≠S' (k+i)→r.dst≠some s)→lk s=lk' s→lkF S rs k lk s=lkF S' rs k lk' s
 |[],_,_,_,_,h=>h
 |r::rs,k,lk,lk',hd,h=>by
  simp only[lkF]
  refine rl rs (k+1) _ _ (fun i r hi hne=>hd (i+1) r (by simpa using hi) (by rwa [show k+(i+1)=k+1+i by omega])) ?_
  have h0:=hd 0 r (by simp)
  simp only[Nat.add_zero]at h0
  by_cases e:S k=S' k
  ·rw[e]
   split
   ·exact xe h
   ·exact h
  ·have hn:=h0 e
   split<;>split<;>first|exact h|(simp only[Fk hn];exact h)
theorem kr{S S':Nat→Bool}{b:Nat}:∀(rs:List Rec) (k:Nat) (m m':Get),(∀i r,rs[i]? =some r→S (k+i)≠S' (k+i)→∀p∈r.wr,p.1≠b)→m b=m' b→mF S rs k m b=mF S' rs k m' b
 |[],_,_,_,_,h=>h
 |r::rs,k,m,m',hd,h=>by
  simp only[mF]
  refine kr rs (k+1) _ _ (fun i r hi hne=>hd (i+1) r (by simpa using hi) (by rwa [show k+(i+1)=k+1+i by omega])) ?_
  have h0:=hd 0 r (by simp)
  simp only[Nat.add_zero]at h0
  by_cases e:S k=S' k
  ·rw[e]
   split
   ·exact tH h
   ·exact h
  ·have hn:=h0 e
   split<;>split<;>first|exact h|(simp only[fF hn];exact h)
theorem Ai{lk:bc}{d d':Option Tmp}{v v':AV}(h:∀t,d=some t→d'≠some t):dP (dP lk d v) d' v'=dP (dP lk d' v') d v:=by
 funext s
 cases d with
 |none=>rfl
 |some d=>
  cases d' with
  |none=>rfl
  |some d'=>
   have hne:d'≠d:=fun e=>h d rfl (by rw[e])
   simp only[dP]
   split<;>split<;>simp_all
theorem xR{S:Nat→Bool}{d:Option Tmp}{v:AV}:∀(rs:List Rec) (k:Nat) (lk:bc),(∀i r,rs[i]? =some r→S (k+i)=true→∀t,d=some t→r.dst≠some t)→lkF S rs k (dP lk d v)=dP (lkF S rs k lk) d v
 |[],_,_,_=>rfl
 |r::rs,k,lk,h=>by
  simp only[lkF]
  have h0:=h 0 r (by simp)
  simp only[Nat.add_zero]at h0
  have ih:=fun lk=>xR (S:=S) (d:=d) (v:=v) rs (k+1) lk (fun i r hi hs=>h (i+1) r (by simpa using hi) (by rwa [show k+(i+1)=k+1+i by omega]))
  split
  ·rename_i hs
   rw[Ai (h0 hs),ih]
  ·exact ih lk
theorem vv{m:Get}:∀{wr wr':Wr},(∀p∈wr,∀q∈wr',q.1≠p.1)→aG (aG m wr) wr'=aG (aG m wr') wr:=by
 intro wr
 induction wr generalizing m with
 |nil=>intro wr' _;rfl
 |cons p wr ih=>
  intro wr' h
  simp only[aG]
  rw[ih fun x hx=>h x (by simp[hx]),fA fun q hq=>h p (by simp) q hq]
theorem BE{S:Nat→Bool}{wr:Wr}:∀(rs:List Rec) (k:Nat) (m:Get),(∀i r,rs[i]? =some r→S (k+i)=true→∀p∈wr,∀q∈r.wr,q.1≠p.1)→mF S rs k (aG m wr)=aG (mF S rs k m) wr
 |[],_,_,_=>rfl
 |r::rs,k,m,h=>by
  simp only[mF]
  have h0:=h 0 r (by simp)
  simp only[Nat.add_zero]at h0
  have ih:=fun m=>BE (S:=S) (wr:=wr) rs (k+1) m (fun i r hi hs=>h (i+1) r (by simpa using hi) (by rwa [show k+(i+1)=k+1+i by omega]))
  split
  ·rename_i hs
   rw[vv (h0 hs),ih]
  ·exact ih m
theorem tJ{S S':Nat→Bool}:∀(rs:List Rec) (k:Nat) (lk:bc),(∀i,i<rs.length→S (k+i)=S' (k+i))→lkF S rs k lk=lkF S' rs k lk
 |[],_,_,_=>rfl
 |r::rs,k,lk,h=>by
  simp only[lkF]
  have h0:=h 0 (by simp)
  simp only[Nat.add_zero]at h0
  rw[h0]
  exact tJ rs (k+1) _ fun i hi=>by have:=h (i+1) (by simpa using hi);rwa [show k+(i+1)=k+1+i by omega]at this
theorem xm{S S':Nat→Bool}:∀(rs:List Rec) (k:Nat) (m:Get),(∀i,i<rs.length→S (k+i)=S' (k+i))→mF S rs k m=mF S' rs k m
 |[],_,_,_=>rfl
 |r::rs,k,m,h=>by
  simp only[mF]
  have h0:=h 0 (by simp)
  simp only[Nat.add_zero]at h0
  rw[h0]
  exact xm rs (k+1) _ fun i hi=>by have:=h (i+1) (by simpa using hi);rwa [show k+(i+1)=k+1+i by omega]at this
theorem zm{S S':Nat→Bool}:∀(rs:List Rec) (k j:Nat) (lk:bc) (r:Rec),rs[j]? =some r→S (k+j)=false→S' (k+j)=true→(∀i,i≠k+j→S' i=S i)→
  (∀i r',rs[i]? =some r'→j<i→S (k+i)=true→∀t,r.dst=some t→r'.dst≠some t)→lkF S' rs k lk=dP (lkF S rs k lk) r.dst r.v
 |[],_,_,_,_,h,_,_,_,_=>by simp at h
 |r0::rs,k,0,lk,r,h,h1,h2,h3,h4=>by
  simp only[List.getElem?_cons_zero,Option.some.injEq]at h
  subst h
  simp only[Nat.add_zero]at h1 h2 h3
  simp only[lkF,h1,h2,if_true,Bool.false_eq_true,if_false]
  rw[tJ (S:=S') (S':=S) rs (k+1) _ fun i _=>h3 _ (by omega)]
  exact xR rs (k+1) lk fun i r' hi hs=>h4 (i+1) r' (by simpa using hi) (by omega) (by rwa [show k+(i+1)=k+1+i by omega])
 |r0::rs,k,j+1,lk,r,h,h1,h2,h3,h4=>by
  simp only[lkF]
  rw[h3 k (by omega)]
  have e:k+(j+1)=k+1+j:=by omega
  exact zm rs (k+1) j _ r (by simpa using h) (by rwa [←e]) (by rwa [←e]) (fun i hi=>h3 i (by omega)) fun i r' hi hlt hs=>h4 (i+1) r' (by simpa using hi) (by omega) (by rwa [show k+(i+1)=k+1+i by omega])
theorem DW{S S':Nat→Bool}:∀(rs:List Rec) (k j:Nat) (m:Get) (r:Rec),rs[j]? =some r→S (k+j)=false→S' (k+j)=true→(∀i,i≠k+j→S' i=S i)→
  (∀i r',rs[i]? =some r'→j<i→S (k+i)=true→∀p∈r.wr,∀q∈r'.wr,q.1≠p.1)→mF S' rs k m=aG (mF S rs k m) r.wr
 |[],_,_,_,_,h,_,_,_,_=>by simp at h
 |r0::rs,k,0,lk,r,h,h1,h2,h3,h4=>by
  simp only[List.getElem?_cons_zero,Option.some.injEq]at h
  subst h
  simp only[Nat.add_zero]at h1 h2 h3
  simp only[mF,h1,h2,if_true,Bool.false_eq_true,if_false]
  rw[xm (S:=S') (S':=S) rs (k+1) _ fun i _=>h3 _ (by omega)]
  exact BE rs (k+1) lk fun i r' hi hs=>h4 (i+1) r' (by simpa using hi) (by omega) (by rwa [show k+(i+1)=k+1+i by omega])
 |r0::rs,k,j+1,lk,r,h,h1,h2,h3,h4=>by
  simp only[mF]
  rw[h3 k (by omega)]
  have e:k+(j+1)=k+1+j:=by omega
  exact DW rs (k+1) j _ r (by simpa using h) (by rwa [←e]) (by rwa [←e]) (fun i hi=>h3 i (by omega)) fun i r' hi hlt hs=>h4 (i+1) r' (by simpa using hi) (by omega) (by rwa [show k+(i+1)=k+1+i by omega])
def Tr(E:Env)(P:Program)(G:Nat→Obj→Prop)(dead:Nat→Bool)(all:List Oper)(next:Nat):Nat→bc→Get→List Oper→List Rec→Prop
 |_,_,_,[],[]=>True
 |i,lk,m,o::os,r::rs=>(r.dst=o.dst∧below r.wr (next+16*i+16)=true∧(dead i=false→jV E P G all lk m (next+16*i) o r))∧Tr E P G dead all next (i+1) (dP lk r.dst r.v) (aG m r.wr) os rs
 |_,_,_,_,_=>False
theorem Tr.len{dead:Nat→Bool}{all:List Oper}{next:Nat}:∀{i:Nat} {lk:bc} {m:Get} {os:List Oper} {rs:List Rec},Tr E P G dead all next i lk m os rs→os.length=rs.length
 |_,_,_,[],[],_=>rfl
 |_,_,_,_::_,_::_,h=>by simp[Tr.len h.2]
 |_,_,_,[],_::_,h=>by exact h.elim
 |_,_,_,_::_,[],h=>by exact h.elim
theorem iA{S:Nat→Bool}(rs:List Rec)(k:Nat)(lk:bc)(h:∀i,k≤i→S i=false):lkF S rs k lk=lk:=by
 induction rs generalizing k lk with
 |nil=>rfl
 |cons r rs ih=>simp only[lkF,h k (Nat.le_refl _),Bool.false_eq_true,if_false];exact ih (k+1) lk fun i hi=>h i (by omega)
theorem jj{S:Nat→Bool}(rs:List Rec)(k:Nat)(m:Get)(h:∀i,k≤i→S i=false):mF S rs k m=m:=by
 induction rs generalizing k m with
 |nil=>rfl
 |cons r rs ih=>simp only[mF,h k (Nat.le_refl _),Bool.false_eq_true,if_false];exact ih (k+1) m fun i hi=>h i (by omega)
theorem Tr.at{dead:Nat→Bool}{all:List Oper}{next:Nat}:∀{i:Nat} {lk:bc} {m:Get} {os:List Oper} {rs:List Rec},Tr E P G dead all next i lk m os rs→∀{j:Nat} {o:Oper},os[j]? =some o→
  ∃r,rs[j]? =some r∧r.dst=o.dst∧below r.wr (next+16*(i+j)+16)=true∧(dead (i+j)=false→jV E P G all (lkF (fun x=>decide (x<i+j)) rs i lk) (mF (fun x=>decide (x<i+j)) rs i m) (next+16*(i+j)) o r)
 |_,_,_,[],[],_,j,o,h=>by simp at h
 |i,lk,m,o0::os,r::rs,h,0,o,ho=>by
  simp only[List.getElem?_cons_zero,Option.some.injEq]at ho
  subst ho
  refine⟨r,by simp,?_⟩
  rw[iA _ _ _ (by intro x hx;simp;omega),jj _ _ _ (by intro x hx;simp;omega)]
  exact h.1
 |i,lk,m,o0::os,r::rs,h,j+1,o,ho=>by
  obtain⟨r',h1,h2⟩:=h.2.at (j:=j) (by simpa using ho)
  refine⟨r',by simpa using h1,?_⟩
  rw[show i+1+j=i+(j+1) by omega]at h2
  simp only[lkF,mF,show(decide (i<i+(j+1)))=true by simp,if_true]
  exact h2
 |_,_,_,[],_::_,h,_,_,_=>h.elim
 |_,_,_,_::_,[],h,_,_,_=>h.elim
end Go.Sx
