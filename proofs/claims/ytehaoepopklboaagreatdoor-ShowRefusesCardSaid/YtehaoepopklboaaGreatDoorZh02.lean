/- A part of the proof: see the row's text. -/
import Derived.Test.YtehaoepopklboaaGreatDoorZh01
import Derived.Laws.Tables
set_option linter.unusedVariables false
set_option linter.unusedSimpArgs false
noncomputable section
namespace Go.Sx
open Go
variable{P:Program}{E:Env}{C:Ctx}
theorem xW(hs:SRel C){id:Nat}(hid:C.m id=none){b':Blk}{g':G}{o:Obj}{w':World}
  (hw:w'.heap=C.w.heap.push o) (hlies:∀k,cH g' k→k=C.w.heap.size) (hos:w'.os=C.w.os) (htape:w'.tape=C.w.tape) (hout:w'.output=C.w.output):
  let C':Ctx:=⟨w',bA C.m id (some b'),bA C.φ id g',C.fr,C.gl⟩
  Ext C C'∧(jG C' g' b'→SRel C'):=by
 refine lM hs (by rw[hw];simp) ?_ ?_ ?_ ?_ ?_ ?_ hos htape hout
 ·intro k hk _
  rw[hw,Array.getElem?_push,if_neg (by omega)]
 ·intro k hk;exact .inr (by rw[hlies k hk];exact Nat.le_refl _)
 ·intro k o' hk;exact .inr (by rw[hlies k (cn hk)];exact Nat.le_refl _)
 ·intro _ cs h;rw[hid]at h;cases h
 ·intro ee t g sh L h;rw[hid]at h;cases h
 ·intro k o' v hv _
  have hk:k<C.w.heap.size:=by
   unfold World.cell? at hv
   split at hv
   ·rename_i hh;exact(Array.getElem?_eq_some_iff.1 hh).1
   ·cases hv
  unfold World.cell? at hv⊢
  rw[hw,Array.getElem?_push,if_neg (show ¬k=C.w.heap.size by omega)]
  exact hv
theorem gr(hs:SRel C){id:Nat}{b':Blk}{g':G}
  (hlies:∀k,cH g' k→(∃b,C.m id=some b∧cH (C.φ id) k))
  (hown:∀k o,bJ g' b' k o→(∃b,C.m id=some b∧bJ (C.φ id) b k o))
  (hkc:∀ty cs,C.m id=some (.cells ty cs)→g'=C.φ id∧∃cs',b'= .cells ty cs')
  (hkl:∀ee t g sh L,C.m id=some (.list ee t g sh L)→∃g2 sh2 L2,b'= .list ee t g2 sh2 L2∧g≤g2∧(g=g2→g'=C.φ id∧L2.length=L.length)):
  let C':Ctx:=⟨C.w,bA C.m id (some b'),bA C.φ id g',C.fr,C.gl⟩
  Ext C C'∧(jG C' g' b'→SRel C'):=
 lM hs (Nat.le_refl _) (fun _ _ _=>rfl) (fun k hk=>.inl (hlies k hk)) (fun k o hk=>.inl (hown k o hk)) hkc hkl (fun _ _ _ hv _=>hv) rfl rfl rfl
theorem FN(m:Get)(i:Nat)(b:Blk):eI m i b=bA m i (some b):=rfl
section
variable{ρ:Operand→Value}{lk:bc}{o:Oper}{r:OpR}{id:Nat}
theorem eX(C:Ctx):∀(vs:List Value),au C (vs.map gq) vs
 |[]=>by simp[au]
 |v::r=>⟨v,r,rfl,fm v,eX C r⟩
theorem mu(hs:SRel C)(hid:C.m id=none){cs:List AV}{vs:Array Value}{t:TypeId}(hrel:au C cs vs.toList)(hleaf:cs.all AV.leaf=true)
  (hrun:(execOp ρ o).run P C.w= .ok (.value (.pointer (some ⟨C.w.heap.size,0,none⟩))) {C.w with heap:=C.w.heap.push (.cells vs t)}):
  Good P C ρ o (.ref id 0) (aG C.m [(id,.cells t cs)]):=by
 obtain⟨hE,hok⟩:=xW hs hid (b':=.cells t cs) (g':=.cells C.w.heap.size) (o:=.cells vs t) (w':={C.w with heap:=C.w.heap.push (.cells vs t)}) rfl (fun k hk=>hk) rfl rfl rfl
 refine⟨_,_,.inl hrun,rfl,hok ?_,hE,?_⟩
 ·exact⟨C.w.heap.size,vs,rfl,by simp,hrel.mono hE,hleaf⟩
 ·exact⟨C.w.heap.size,t,cs,by simp[bA],by simp[bA],rfl⟩
theorem u6(hE:EnvOK E P)(hs:SRel C)(hid:C.m id=none){t:TypeId}(ho:o.op= .alloc t)
  (h:(opA E lk C.m id (.alloc t)).run=some r):b9 P C ρ o r:=by
 simp only[opA]at h
 split at h
 ·rename_i ti hti
  obtain⟨i,d,z,hT⟩:=hE.T hti
  split at h
  ·rename_i hl
   rw[aX h]
   refine mu hs hid (cs:=ti.zero) (vs:=z.cells) (t:=t) (by rw[hT.zeros];exact eX C _) hl ?_
   simp[execOp,ho,Instr.alloc,dz hT.info hT.zero,newVar,newRow]
  ·exact(ab h).elim
 ·exact(ab h).elim
theorem eO{x:AV}{v:Value}(h:ay C x v)(hl:x.cells.all AV.leaf=true):au C x.cells v.cells.toList∧v.cells.size=x.cells.length:=by
 cases x with
 |agg cs=>
  obtain⟨vs,rfl,hr⟩:=h
  exact⟨hr,by simpa [AV.cells,Value.cells]using hr.len.symm⟩
 |undef=>simp[AV.cells,AV.leaf]at hl
 |tup vs=>simp[AV.cells,AV.leaf]at hl
 |_=>
  have:v.cells= #[v]:=by
   simp only[ay]at h
   first
    |(subst h;rfl)
    |(obtain⟨_,_,_,_,_,rfl|rfl⟩:=h<;>rfl)
    |(obtain⟨_,_,_,_,_,rfl⟩:=h;rfl)
    |(obtain⟨_,_,_,rfl,_⟩:=h;rfl)
    |(obtain⟨_,rfl,_⟩:=h;rfl)
    |(obtain⟨_,_,hv,_⟩:=h;simp only[List.cons.injEq,and_true]at hv;subst hv;rfl)
    |(obtain⟨_,_,_,_,_,_,_,_,_,rfl,_⟩:=h;rfl)
    |(obtain⟨_,_,_,_,_,_,_,_,_,_,rfl,_⟩:=h;rfl)
  rw[this]
  exact⟨⟨v,[],rfl,h,by simp[au]⟩,by simp[AV.cells]⟩
end
end Go.Sx
namespace Go.Sx
open Go
variable{P:Program}{E:Env}{C:Ctx}
theorem iw(off:Nat):∀(l:List Value) (j:Nat) (cs:Array Value),off+j+l.length≤cs.size→
  ((l.zipIdx j).foldl (fun cs (x:Value×Nat)=>cs.setIfInBounds (off+x.2) x.1) cs).toList=cs.toList.take (off+j)++l++cs.toList.drop (off+j+l.length)
 |[],j,cs,h=>by simp
 |v::l,j,cs,h=>by
  simp only[List.length_cons]at h
  simp only[List.zipIdx_cons,List.foldl_cons]
  rw[iw off l (j+1) _ (by simp;omega)]
  have hlt:off+j<cs.toList.length:=by simp;omega
  simp only[Array.toList_setIfInBounds]
  rw[show off+(j+1)=off+j+1 by omega]
  rw[List.take_set,List.drop_set_of_lt (by omega)]
  rw[List.take_succ_eq_append_getElem hlt]
  simp only[List.length_cons]
  rw[show off+j+1+l.length=off+j+(l.length+1) by omega]
  have hm:min (off+j) cs.toList.length=off+j:=Nat.min_eq_left (Nat.le_of_lt hlt)
  have hs:(cs.toList.take (off+j)++[cs.toList[off+j]]).set (off+j) v=cs.toList.take (off+j)++[v]:=by
   rw[List.set_append,if_neg (by rw[List.length_take,hm];omega),List.length_take,hm,Nat.sub_self]
   rfl
  rw[hs]
  simp
theorem qz{place:Nat→Option (Nat×Nat)}{cells:Array Value}{i off size:Nat}{v:Value}{rest:List (Nat×Value)}(hp:place i=some (off,size))(hv:v.cells.size=size)(hl:off+size≤cells.size):
  ∃cells',Instr.fill place cells ((i,v)::rest)=Instr.fill place cells' rest∧cells'.toList=cells.toList.take off++v.cells.toList++cells.toList.drop (off+size)∧cells'.size=cells.size:=by
 have hc:(v.cells.size≠size||decide (off+v.cells.size>cells.size))=false:=by simp[hv];omega
 refine⟨v.cells.zipIdx.foldl (fun cs x=>cs.setIfInBounds (off+x.2) x.1) cells,?_,?_,?_⟩
 ·simp only[Instr.fill,hp]
  rw[if_neg (by simpa using hc)]
 ·rw[←Array.foldl_toList,Array.toList_zipIdx]
  rw[iw off v.cells.toList 0 cells (by simp;omega)]
  simp[hv]
 ·have h1:(v.cells.zipIdx.foldl (fun cs x=>cs.setIfInBounds (off+x.2) x.1) cells).toList.length=cells.toList.length:=by
   rw[←Array.foldl_toList,Array.toList_zipIdx,iw off v.cells.toList 0 cells (by simp;omega)]
   simp[hv];omega
  simpa using h1
theorem eT{ρ:Operand→Value}{lk:bc}(hρ:∀x,ay C (al lk x) (ρ x)){place:Nat→Option (Nat×Nat)}:∀(fs:List Fld) (i off:Nat) (ps:List (Nat×Operand)) (z r:List AV) (cells:Array Value),
  cj lk i fs ps z=some r→(∀k f,fs[k]? =some f→place (i+k)=some (f.off,f.size))→fK off fs cells.size=true→off≤cells.size→au C z (cells.toList.drop off)→
  ∃cells',Instr.fill place cells (ps.map fun p=>(p.1,ρ p.2))=some cells'∧cells'.size=cells.size∧cells'.toList.take off=cells.toList.take off∧au C r (cells'.toList.drop off)
 |[],i,off,ps,z,r,cells,hg,hp,hc,hle,hz=>by
  cases ps with
  |cons a as=>simp[cj]at hg
  |nil=>
   simp only[cj,Option.some.injEq]at hg
   subst hg
   refine⟨cells,rfl,rfl,rfl,?_⟩
   have:=beq_eq hc
   rw[List.drop_eq_nil_of_le (by simp;omega)]
   simp[au]
 |f::fs,i,off,ps,z,r,cells,hg,hp,hc,hle,hz=>by
  simp only[fK]at hc
  split at hc
  ·rename_i hoff
   have hoff:=beq_eq hoff
   have hp':∀k g,fs[k]? =some g→place (i+1+k)=some (g.off,g.size):=fun k g hk=>by
    have:=hp (k+1) g (by simpa using hk)
    rwa [show i+(k+1)=i+1+k by omega]at this
   have hle2:∀{a:Nat} {l:List Fld} {n:Nat},fK a l n=true→a≤n:=by
    intro a l
    induction l generalizing a with
    |nil=>intro n h;exact Nat.le_of_eq (beq_eq h)
    |cons g l ih=>
     intro n h
     simp only[fK]at h
     split at h
     ·have:=ih h;omega
     ·cases h
   have hle3:=hle2 hc
   have zd:au C (z.drop f.size) (cells.toList.drop (off+f.size)):=by
    have:=hz.drop (n:=f.size)
    rwa [List.drop_drop]at this
   have keep:∀{ps:List (Nat×Operand)} {r':List AV},cj lk (i+1) fs ps (z.drop f.size)=some r'→r=z.take f.size++r'→
     ∃cells',Instr.fill place cells (ps.map fun p=>(p.1,ρ p.2))=some cells'∧cells'.size=cells.size∧cells'.toList.take off=cells.toList.take off∧au C r (cells'.toList.drop off):=by
    intro ps r' hg' hr
    obtain⟨cells',h1,h2,h3,h4⟩:=eT hρ fs (i+1) (off+f.size) ps _ r' cells hg' hp' hc hle3 zd
    refine⟨cells',h1,h2,?_,?_⟩
    ·have:=congrArg (List.take off) h3
     simpa [List.take_take]using this
    ·have e:cells'.toList.drop off=(cells.toList.drop off).take f.size++cells'.toList.drop (off+f.size):=by
      have h5:(cells'.toList.drop off).take f.size=(cells.toList.drop off).take f.size:=by
       have:=congrArg (List.drop off) h3
       rw[List.drop_take,List.drop_take]at this
       simpa using this
      rw[←h5,←List.drop_drop,List.take_append_drop]
     rw[e,hr]
     exact(hz.take).append h4
   cases ps with
   |nil=>
    simp only[cj]at hg
    split at hg
    ·rename_i r' hr'
     simp only[Option.some.injEq]at hg
     exact keep hr' hg.symm
    ·cases hg
   |cons p ps=>
    obtain⟨j,x⟩:=p
    simp only[cj]at hg
    split at hg
    ·rename_i hij
     have hij:=beq_eq hij
     subst hij
     split at hg
     ·rename_i hvs
      simp only[Bool.and_eq_true]at hvs
      obtain⟨hlen,hleaf⟩:=hvs
      have hlen:=beq_eq hlen
      split at hg
      ·rename_i r' hr'
       simp only[Option.some.injEq]at hg
       obtain⟨hrel,hsz⟩:=eO (hρ x) hleaf
       obtain⟨cells1,e1,e2,e3⟩:=qz (rest:=ps.map fun p=>(p.1,ρ p.2)) (hp 0 f (by simp)) (show(ρ x).cells.size=f.size by rw[hsz,hlen]) (by rw[hoff];exact hle3)
       rw[hoff]at e2
       have hvl:(ρ x).cells.toList.length=f.size:=by simp[hsz,hlen]
       have hofl:(cells.toList.take off).length=off:=by simp;omega
       have d1:cells1.toList.drop (off+f.size)=cells.toList.drop (off+f.size):=by
        rw[e2,List.drop_append,List.drop_eq_nil_of_le (by simp[hofl,hvl])]
        simp only[List.nil_append,List.length_append,hofl,hvl,Nat.sub_self,List.drop_zero]
       obtain⟨cells',h1,h2,h3,h4⟩:=eT hρ fs (i+1) (off+f.size) ps _ r' cells1 hr' hp' (by rw[e3];exact hc) (by rw[e3];exact hle3) (by rw[d1];exact zd)
       refine⟨cells',?_,by rw[h2,e3],?_,?_⟩
       ·simp only[List.map_cons,Nat.add_zero]at e1⊢
        rw[e1]
        exact h1
       ·have:=congrArg (List.take off) h3
        simp only[List.take_take,Nat.min_eq_left (show off≤off+f.size by omega)]at this
        rw[this,e2,List.append_assoc,List.take_append,hofl,Nat.sub_self]
        simp[List.take_take]
       ·have e:cells'.toList.drop off=(ρ x).cells.toList++cells'.toList.drop (off+f.size):=by
         have h5:(cells'.toList.drop off).take f.size=(ρ x).cells.toList:=by
          have:=congrArg (List.drop off) h3
          rw[List.drop_take,List.drop_take]at this
          simp only[Nat.add_sub_cancel_left]at this
          rw[this,e2,List.append_assoc,List.drop_append,List.drop_eq_nil_of_le (by omega)]
          simp[hofl,←hvl]
         rw[←h5,←List.drop_drop,List.take_append_drop]
        rw[e,←hg]
        exact hrel.append h4
      ·cases hg
     ·cases hg
    ·split at hg
     ·rename_i r' hr'
      simp only[Option.some.injEq]at hg
      exact keep hr' hg.symm
     ·cases hg
  ·cases hc
end Go.Sx
namespace Go.Sx
open Go
variable{P:Program}{E:Env}{C:Ctx}
section
variable{ρ:Operand→Value}{lk:bc}{o:Oper}{r:OpR}{id:Nat}
theorem AS(hs:SRel C)(hρ:∀x,ay C (al lk x) (ρ x))(hid:C.m id=none){t:TypeId}{x:Operand}(ho:o.op= .box t x)
  (h:(opA E lk C.m id (.box t x)).run=some r):b9 P C ρ o r:=by
 simp only[opA]at h
 split at h
 ·rename_i hl
  rw[aX h]
  obtain⟨h1,h2⟩:=eO (hρ x) hl
  exact mu hs hid (cs:=(al lk x).cells) (vs:=(ρ x).cells) (t:=t) h1 hl (by simp[execOp,ho,Instr.box,newVar,newRow])
 ·exact(ab h).elim
theorem yD(n:Nat)(te:TI)(k:Nat){f:Fld}(h:(fC n te)[k]? =some f):f=⟨k*te.size,te.size,te.agg,0,false⟩∧k<n:=by
 simp only[fC,List.getElem?_map,Option.map_eq_some_iff]at h
 obtain⟨a,ha,rfl⟩:=h
 obtain⟨hl,he⟩:=List.getElem?_eq_some_iff.1 ha
 have hk:k<n:=by simpa using hl
 have:a=k:=by simpa using he.symm
 subst this
 exact⟨rfl,hk⟩
theorem qf:∀(fs:List Field),(∀f∈fs,(P.info? f.type).isSome=true)→
  ∃places,fs.mapM (fun f=>(P.info? f.type).map fun i=>(f.offset,i.size))=some places∧∀(k:Nat) (f:Field),fs[k]? =some f→places[k]? =some (f.offset,mg P f.type)
 |[],_=>⟨[],rfl,fun k f h=>by simp at h⟩
 |f::fs,h=>by
  obtain⟨places,h1,h2⟩:=qf fs fun g hg=>h g (List.mem_cons_of_mem _ hg)
  obtain⟨i,hi⟩:=Option.isSome_iff_exists.1 (h f (by simp))
  refine⟨(f.offset,i.size)::places,by simp[List.mapM_cons,hi,h1],fun k g hk=>?_⟩
  cases k with
  |zero=>
   simp only[List.getElem?_cons_zero,Option.some.injEq]at hk
   subst hk
   simp[mg,hi]
  |succ k=>simpa using h2 k g (by simpa using hk)
theorem qn{ρ:Operand→Value}{lk:bc}(hρ:∀x,ay C (al lk x) (ρ x)){place:Nat→Option (Nat×Nat)}{fs:List Fld}(hp:∀k f,fs[k]? =some f→place k=some (f.off,f.size)):
  ∀(ps:List (Nat×Operand)) (z r:List AV) (cells:Array Value),jL lk fs ps z=some r→au C z cells.toList→∃cells',Instr.fill place cells (ps.map fun p=>(p.1,ρ p.2))=some cells'∧au C r cells'.toList
 |[],z,r,cells,h,hz=>by
  simp only[jL,Option.some.injEq]at h
  subst h
  exact⟨cells,by simp[Instr.fill],hz⟩
 |(j,x)::ps,z,r,cells,h,hz=>by
  simp only[jL]at h
  split at h
  ·cases h
  ·rename_i f hf
   rw[cP]at hf
   split at h
   ·rename_i hck
    simp only[Bool.and_eq_true]at hck
    obtain⟨hlen,hleaf,hle⟩:=hck
    have hlen:=beq_eq hlen
    have hle:=Nat.le_of_ble_eq_true hle
    have hzl:=hz.len
    obtain⟨hrel,hsz⟩:=eO (hρ x) hleaf
    obtain⟨cells1,e1,e2,e3⟩:=qz (cells:=cells) (rest:=ps.map fun p=>(p.1,ρ p.2)) (hp j f hf) (show(ρ x).cells.size=f.size by rw[hsz,hlen]) (by simp at hzl;omega)
    obtain⟨cells',h1,h2⟩:=qn hρ hp ps _ r cells1 h (by
     rw[e2]
     exact((hz.take).append hrel).append hz.drop)
    exact⟨cells',by simp only[List.map_cons];rw[e1];exact h1,h2⟩
   ·cases h
theorem uz(hE:EnvOK E P)(hs:SRel C)(hρ:∀x,ay C (al lk x) (ρ x)){t:TypeId}{ps:Array (Nat×Operand)}(ho:o.op= .build t ps)
  (h:(opA E lk C.m id (.build t ps)).run=some r):b9 P C ρ o r:=by
 simp only[opA]at h
 split at h
 ·rename_i ti hti
  obtain⟨i,d,z,hT⟩:=hE.T hti
  have hz:au C ti.zero (z.cells.toList.drop 0):=by rw[hT.zeros];exact eX C _
  have hzl:ti.zero.length=z.cells.size:=by rw[hT.zeros];simp
  have fin:∀{cs:List AV} {cells:Array Value},P.built t ((ps.map fun p=>(p.1,ρ p.2)).toList)=some cells→au C cs cells.toList→Good P C ρ o (.agg cs) C.m:=by
   intro cs cells hb hr
   refine Good.pure hs (v:=.agg cells) ?_ ⟨cells,rfl,hr⟩
   have:=run_build (P:=P) C.w t (ps.map fun p=>(p.1,ρ p.2)) cells hb
   simp[execOp,ho,this]
  split at h
  ·rename_i fs hfs
   obtain⟨fields,hd,hm⟩:=lG hT hfs
   split at h
   ·rename_i hc
    obtain⟨av,hav,rfl⟩:=fv h
    simp only[Option.map_eq_some_iff]at hav
    obtain⟨cs,hg,rfl⟩:=hav
    have hfl:=hT.flds
    rw[hd]at hfl
    obtain⟨places,hp1,hp2⟩:=qf (P:=P) fields.toList fun f hf=>List.all_eq_true.1 hfl f hf
    unfold sR at hg
    split at hg
    rotate_left
    ·obtain⟨cells',h1,h4⟩:=qn hρ (place:=(places.toArray[·]?)) (fs:=fs) (fun k f hk=>by
      rw[←hm,List.getElem?_map,Option.map_eq_some_iff]at hk
      obtain⟨fl,hk,rfl⟩:=hk
      simpa [fo]using hp2 k fl hk) ps.toList ti.zero cs z.cells hg (by simpa using hz)
     refine fin (cells:=cells') ?_ h4
     unfold Program.built
     rw[hT.info,hT.und,hd]
     simp only[hT.zero,hp1]
     simpa using h1
    rename_i cs' hg'
    simp only[Option.some.injEq]at hg
    rw[hg]at hg'
    have hg:=hg'
    obtain⟨cells',h1,h2,h3,h4⟩:=eT hρ (place:=(places.toArray[·]?)) fs 0 0 ps.toList ti.zero cs z.cells hg (fun k f hk=>by
     rw[←hm,List.getElem?_map,Option.map_eq_some_iff]at hk
     obtain⟨fl,hk,rfl⟩:=hk
     simpa [fo]using hp2 k fl hk) (by rw[←hzl];exact hc) (Nat.zero_le _) hz
    refine fin (cells:=cells') ?_ (by simpa using h4)
    unfold Program.built
    rw[hT.info,hT.und,hd]
    simp only[hT.zero,hp1]
    simpa using h1
   ·exact(ab h).elim
  ·rename_i n e htd
   have hd:=vH hT htd
   split at h
   ·rename_i te hte
    obtain⟨i',d',z',hT'⟩:=hE.T hte
    split at h
    ·rename_i hc
     obtain⟨av,hav,rfl⟩:=fv h
     simp only[Option.map_eq_some_iff]at hav
     obtain⟨cs,hg,rfl⟩:=hav
     obtain⟨cells',h1,h2,h3,h4⟩:=eT hρ (place:=fun i=>some (i*te.size,te.size)) (fC n te) 0 0 ps.toList ti.zero cs z.cells hg (fun k f hk=>by
      obtain⟨rfl,_⟩:=yD n te k hk
      simp) (by rw[←hzl];exact hc) (Nat.zero_le _) hz
     refine fin (cells:=cells') ?_ (by simpa using h4)
     unfold Program.built
     rw[hT.info,hT.und,hd]
     simp only[hT.zero,hT'.info,hT'.size]
     simpa using h1
    ·exact(ab h).elim
   ·exact(ab h).elim
  ·exact(ab h).elim
 ·exact(ab h).elim
end
end Go.Sx
namespace Go.Sx
open Go
variable{P:Program}{E:Env}{C:Ctx}
theorem du{α:Type}(f:Nat→α)(i:Nat):bA f i (f i)=f:=by
 funext j
 unfold bA
 split
 ·rename_i e;rw[e]
 ·rfl
theorem ml{G':G}{ee:Nat}{t:Ty}{g g2:Nat}{sh:Bool}{L:List t.den}{k o:Nat}(h:bJ G' (.list ee t g true L) k o):bJ G' (.list ee t g2 sh L) k o:=by
 cases G' with
 |cells rb=>exact h.elim
 |list a cap=>
  cases a with
  |none=>exact h.elim
  |some ad=>
   simp only[bJ,if_true]at h⊢
   refine⟨h.1,?_,h.2.2⟩
   split
   ·exact h.2.1
   ·have:=h.2.1;omega
theorem ma(hs:SRel C){b:Nat}{ee:Nat}{t:Ty}{g:Nat}{sh:Bool}{L:List t.den}(hm:C.m b=some (.list ee t g sh L)):
  let C':Ctx:=⟨C.w,bA C.m b (some (.list ee t g true L)),C.φ,C.fr,C.gl⟩
  SRel C'∧Ext C C'∧iZ C [b] C'.T:=by
 intro C'
 have hsub:∀k o,bJ (C.φ b) (.list ee t g true L) k o→bJ (C.φ b) (.list ee t g sh L) k o:=fun k o h=>ml h
 have key:=gr hs (id:=b) (b':=.list ee t g true L) (g':=C.φ b) (fun k hk=>⟨_,hm,hk⟩) (fun k o hk=>⟨_,hm,hsub k o hk⟩)
  (fun _ cs h=>by rw[hm]at h;cases h) (fun ee2 t2 g2 sh2 L2 h=>by rw[hm]at h;cases h;exact⟨g,true,L,rfl,Nat.le_refl _,fun _=>⟨rfl,rfl⟩⟩)
 simp only[du]at key
 obtain⟨hE,hok⟩:=key
 obtain⟨a,cap,hp,hz,hc,hb⟩:=hs.ok b _ hm
 have hshut:∀ad cap',C.φ b= .list (some ad) cap'→∀o,ad.off≤o→o<ad.off+L.length*t.size→¬C'.T ad.block o:=by
  intro ad cap' hp' o h1 h2 hT
  rw[hp']at hp
  cases hp
  rcases hT with hf|⟨j,bj,hj,ho⟩
  ·exact hs.frApart _ _ hf ⟨b,_,hm,by rw[hp'];rfl⟩
  ·by_cases e:j=b
   ·subst e
    simp only[C',bA,if_true,Option.some.injEq]at hj
    subst hj
    simp only[C',hp',bJ,if_true]at ho
    omega
   ·simp only[C',bA,if_neg e]at hj
    exact hs.apart j bj b _ _ hj hm e (cn ho) (by rw[hp'];rfl)
 refine⟨hok ⟨a,cap,hp,hz,hc,?_⟩,hE,fun b' hb' ee2 t2 g2 sh2 L2 hm2 ad cap' hp' o h1 h2=>?_⟩
 ·cases a with
  |none=>exact hb
  |some ad=>
   obtain⟨hsp,c,lo,hi,hh,hsz,hfz,_,hx⟩:=hb
   exact⟨hsp,c,lo,hi,hh,hsz,by{cases sh with|true=>exact hfz|false=>(simp only[Bool.false_eq_true,if_false,if_true]at hfz⊢;omega)},fun _ o h1 h2=>hshut ad cap hp o h1 h2,fun i x hi=>(hx i x hi).mono hE.keep⟩
 ·simp only[List.mem_singleton]at hb'
  subst hb'
  rw[hm]at hm2
  cases hm2
  exact hshut ad cap' hp' o h1 h2
theorem LI{C C':Ctx}(hE:Ext C C')(hw:C'.w=C.w)(hφ:C'.φ=C.φ)(hm:∀id b,C'.m id=some b→∃b0,C.m id=some b0∧∀k o,bJ (C.φ id) b k o→bJ (C.φ id) b0 k o):∀k o,C'.T k o→C.T k o:=by
 intro k o h
 rcases h with h|⟨id,b,h1,h2⟩
 ·exact .inl (hE.frEq▸h)
 ·obtain⟨b0,h3,h4⟩:=hm id b h1
  rw[hφ]at h2
  exact .inr ⟨id,b0,h3,h4 k o h2⟩
theorem cX(hs:SRel C):∀(ms:List Nat),∃C',SRel C'∧Ext C C'∧C'.m=aG C.m (bw C.m ms)∧C'.w=C.w∧C'.φ=C.φ∧C'.fr=C.fr∧iZ C ms C'.T∧(∀k o,C'.T k o→C.T k o):=by
 suffices H:∀(ms:List Nat) (C1:Ctx),SRel C1→Ext C C1→C1.w=C.w→C1.φ=C.φ→C1.fr=C.fr→(∀k o,C1.T k o→C.T k o)→
   (∀j,C1.m j=C.m j∨∃ee t g sh L,C.m j=some (.list ee t g sh L)∧C1.m j=some (.list ee t g true L))→
   ∃C',SRel C'∧Ext C C'∧C'.m=aG C1.m (bw C.m ms)∧C'.w=C.w∧C'.φ=C.φ∧C'.fr=C.fr∧iZ C ms C'.T∧(∀k o,C'.T k o→C1.T k o) by
  intro ms
  exact H ms C hs (Ext.refl C) rfl rfl rfl (fun _ _ h=>h) (fun j=>.inl rfl)
 intro ms
 induction ms with
 |nil=>intro C1 h1 h2 h3 h4 h5 h6 h7;exact⟨C1,h1,h2,rfl,h3,h4,h5,nL _,fun _ _ h=>h⟩
 |cons b ms ih=>
  intro C1 h1 h2 h3 h4 h5 h6 h7
  cases hm:C.m b with
  |none=>
   obtain⟨C',k1,k2,k3,k4,k5,k6,k7,k8⟩:=ih C1 h1 h2 h3 h4 h5 h6 h7
   refine⟨C',k1,k2,?_,k4,k5,k6,fun b' hb' ee t g sh L hL=>?_,k8⟩
   ·rw[k3];simp[bw,hm]
   ·rcases List.mem_cons.1 hb' with e|hb'
    ·subst e;rw[hm]at hL;cases hL
    ·exact k7 b' hb' ee t g sh L hL
  |some blk=>
   cases blk with
   |cells ty cs=>
    obtain⟨C',k1,k2,k3,k4,k5,k6,k7,k8⟩:=ih C1 h1 h2 h3 h4 h5 h6 h7
    refine⟨C',k1,k2,?_,k4,k5,k6,fun b' hb' ee t g sh L hL=>?_,k8⟩
    ·rw[k3];simp[bw,hm]
    ·rcases List.mem_cons.1 hb' with e|hb'
     ·subst e;rw[hm]at hL;cases hL
     ·exact k7 b' hb' ee t g sh L hL
   |list ee t g sh L=>
    obtain⟨sh1,hm1⟩:∃sh1,C1.m b=some (.list ee t g sh1 L):=by
     rcases h7 b with e|⟨ee2,t2,g2,sh2,L2,e1,e2⟩
     ·exact⟨sh,by rw[e,hm]⟩
     ·rw[hm]at e1;cases e1;exact⟨true,e2⟩
    obtain⟨s1,s2,s3⟩:=ma h1 hm1
    have hsub:∀k o,(Ctx.mk C1.w (bA C1.m b (some (.list ee t g true L))) C1.φ C1.fr C1.gl).T k o→C1.T k o:=by
     refine LI s2 rfl rfl fun id b' hid=>?_
     simp only[bA]at hid
     split at hid
     ·rename_i e
      subst e
      cases hid
      exact⟨_,hm1,fun k o h=>ml h⟩
     ·exact⟨b',hid,fun _ _ h=>h⟩
    obtain⟨C',k1,k2,k3,k4,k5,k6,k7,k8⟩:=ih _ s1 (h2.trans s2) h3 h4 h5 (fun k o h=>h6 k o (hsub k o h)) (fun j=>by
     by_cases e:j=b
     ·subst e
      exact .inr ⟨ee,t,g,sh,L,hm,by simp[bA]⟩
     ·simpa [bA,e]using h7 j)
    refine⟨C',k1,k2,?_,k4,k5,k6,fun b' hb' ee2 t2 g2 sh2 L2 hL ad cap hp o o1 o2 hT=>?_,fun k o h=>hsub k o (k8 k o h)⟩
    ·rw[k3];simp[bw,hm,aG,FN]
    ·rcases List.mem_cons.1 hb' with e|hb'
     ·subst e
      rw[hm]at hL
      cases hL
      exact s3 b' (by simp) ee t g sh1 L hm1 ad cap (by rw[h4];exact hp) o o1 o2 (k8 _ _ hT)
     ·exact k7 b' hb' ee2 t2 g2 sh2 L2 hL ad cap hp o o1 o2 hT
theorem jP(m:Get):∀(a b:Wr),aG m (a++b)=aG (aG m a) b
 |[],b=>rfl
 |(i,x)::a,b=>jP (eI m i x) a b
theorem fA{m:Get}{i:Nat}{x:Blk}:∀{a:Wr},(∀p∈a,p.1≠i)→aG (eI m i x) a=eI (aG m a) i x
 |[],_=>rfl
 |(j,y)::a,h=>by
  have hj:j≠i:=h (j,y) (by simp)
  have:eI (eI m i x) j y=eI (eI m j y) i x:=by
   funext k
   unfold eI
   by_cases e1:k=j<;>by_cases e2:k=i<;>simp_all
  simp only[aG]
  rw[this]
  exact fA fun p hp=>h p (by simp[hp])
theorem iG{m:Get}{ms:List Nat}{p:Nat×Blk}(h:p∈bw m ms):p.1∈ms∧∃ee t g sh L,m p.1=some (.list ee t g sh L):=by
 simp only[bw,List.mem_filterMap]at h
 obtain⟨b,hb,hp⟩:=h
 split at hp
 ·rename_i ee t g sh L hm
  cases hp
  exact⟨hb,ee,t,g,sh,L,hm⟩
 ·cases hp
end Go.Sx
namespace Go.Sx
open Go
variable{P:Program}{E:Env}{C:Ctx}
section
variable{ρ:Operand→Value}{lk:bc}{o:Oper}{r:OpR}{id:Nat}
theorem gY(hs:SRel C)(hid:C.m id=none){ms:List Nat}{t:Ty}{L:List t.den}{cells:Array Value}{e:TypeId}{cap:Nat}{w':World}
  (hw:w'.heap=C.w.heap.push (.cells cells e)) (hos:w'.os=C.w.os) (htape:w'.tape=C.w.tape) (hout:w'.output=C.w.output)
  (hz:0<t.size) (hl:L.length≤cap) (hsz:cap*t.size≤cells.size)
  (hrep:∀T':Nat→Nat→Prop,(∀k o,T' k o→C.T k o)→iZ C ms T'→∀i x,L[i]? =some x→Rep C.w T' t x (seg cells.toList (i*t.size) t.size))
  (hrun:(execOp ρ o).run P C.w= .ok (.value (.slice (some ⟨C.w.heap.size,0,none⟩) L.length cap)) w'):
  Good P C ρ o (.own id 0) (aG C.m ((id,.list e t 0 false L)::bw C.m ms)):=by
 obtain⟨C1,h1,h2,h3,h4,h5,h6,h7,h8⟩:=cX hs ms
 have hne:∀p∈bw C.m ms,p.1≠id:=fun p hp e=>by
  obtain⟨_,ee2,t2,g2,sh2,L2,hm⟩:=iG hp
  rw[e,hid]at hm
  cases hm
 have hid1:C1.m id=none:=by
  rw[h3]
  have:∀(a:Wr) (m:Get),m id=none→(∀p∈a,p.1≠id)→aG m a id=none:=by
   intro a
   induction a with
   |nil=>intro m hm _;exact hm
   |cons p a ih=>
    intro m hm hp
    obtain⟨j,y⟩:=p
    simp only[aG]
    refine ih _ ?_ fun q hq=>hp q (by simp[hq])
    have:=hp (j,y) (by simp)
    simp only[eI]
    rw[if_neg (Ne.symm this)]
    exact hm
  exact this _ _ hid hne
 obtain⟨hE,hok⟩:=xW h1 hid1 (b':=.list e t 0 false L) (g':=.list (some ⟨C.w.heap.size,0,none⟩) cap) (o:=.cells cells e) (w':=w') (by rw[h4];exact hw)
  (fun k hk=>by rw[h4];exact hk) (by rw[h4];exact hos) (by rw[h4];exact htape) (by rw[h4];exact hout)
 have hheap:w'.heap[C.w.heap.size]? =some (.cells cells e (0,0)):=by rw[hw];simp
 have hS:SRel ⟨w',bA C1.m id (some (.list e t 0 false L)),bA C1.φ id (.list (some ⟨C.w.heap.size,0,none⟩) cap),C1.fr,C1.gl⟩:=by
  refine hok ⟨_,cap,rfl,hz,hl,rfl,cells,0,0,hheap,by simpa using hsz,by simp,fun hh=>(by cases hh),fun i x hi=>?_⟩
  have:=hrep C1.T h8 h7 i x hi
  rw[←h4]at this
  simpa using this.mono hE.keep
 refine⟨_,_,.inl hrun,?_,hS,h2.trans hE,?_⟩
 ·simp only[aG]
  rw[fA hne,←h3]
  rfl
 ·exact⟨e,t,0,false,L,by simp[bA],Nat.le_refl _,some ⟨C.w.heap.size,0,none⟩,L.length,cap,rfl,fun _=>⟨by simp[bA],rfl⟩⟩
theorem l4(z:Array Value)(s:Nat)(hz:z.size=s)(hs:0<s):∀n,(List.range (n*s)).map (fun j=>z[j%s]!)=(List.replicate n z.toList).flatten
 |0=>by simp
 |n+1=>by
  rw[List.replicate_succ',List.flatten_append,Nat.add_mul,Nat.one_mul,List.range_add,List.map_append,l4 z s hz hs n]
  congr 1
  simp only[List.map_map,List.flatten_cons,List.flatten_nil,List.append_nil]
  apply List.ext_getElem
  ·simp[hz]
  ·intro i h1 h2
   simp only[List.length_map,List.length_range]at h1
   simp only[List.getElem_map,List.getElem_range,Function.comp_apply]
   rw[Nat.add_comm,Nat.add_mul_mod_self_right,Nat.mod_eq_of_lt h1]
   simp[getElem!_pos,hz,h1]
theorem vK:∀(n:Nat) {as:List AV} {vs:List Value},au C as vs→au C ((List.replicate n as).flatten) ((List.replicate n vs).flatten)
 |0,_,_,_=>by simp[au]
 |n+1,_,_,h=>by
  rw[List.replicate_succ,List.replicate_succ,List.flatten_cons,List.flatten_cons]
  exact h.append (vK n h)
theorem lY(hE:EnvOK E P)(hs:SRel C)(hρ:∀x,ay C (al lk x) (ρ x))(hid:C.m id=none){t:TypeId}{len:Nat}{ps:Array (Nat×Operand)}(ho:o.op= .buildSlice t len ps)
  (h:(opA E lk C.m id (.buildSlice t len ps)).run=some r):b9 P C ρ o r:=by
 simp only[opA]at h
 split at h
 ·rename_i ti hti
  obtain⟨i,d,z,hT⟩:=hE.T hti
  split at h
  ·rename_i e htd
   have hd:=im hT htd
   split at h
   ·rename_i te hte
    obtain⟨i',d',z',hT'⟩:=hE.T hte
    split at h
    ·rename_i ty hty
     split at h
     ·rename_i cs hck hg
      simp only[Bool.and_eq_true]at hck
      obtain⟨c1,c2,c3,c4⟩:=hck
      have c1:=beq_eq c1
      have c4:=beq_eq c4
      have c2:1≤te.size:=Nat.le_of_ble_eq_true c2
      have c3:len*te.size≤4096:=Nat.le_of_ble_eq_true c3
      split at h
      ·rename_i L m hL
       rw[aX h]
       have hzs:z'.cells.size=te.size:=by rw[←c4,hT'.zeros];simp
       have hz:au C te.zero z'.cells.toList:=by rw[hT'.zeros];exact eX C _
       have hrow:((Array.range (len*te.size)).map fun j=>z'.cells[j%z'.cells.size]!).toList=(List.replicate len z'.cells.toList).flatten:=by
        rw[Array.toList_map,Array.toList_range,hzs]
        exact l4 z'.cells te.size hzs c2 len
       obtain⟨cells',h1,h2,h3,h4⟩:=eT hρ (place:=fun i=>some (i*te.size,te.size)) (fC len te) 0 0 ps.toList _ cs ((Array.range (len*te.size)).map fun j=>z'.cells[j%z'.cells.size]!) hg
        (fun k f hk=>by obtain⟨rfl,_⟩:=yD len te k hk;simp)
        (by
         have:∀n a,fK (a*te.size) ((List.range' a n).map fun i=>(⟨i*te.size,te.size,te.agg,0,false⟩:Fld)) ((a+n)*te.size)=true:=by
          intro n
          induction n with
          |zero=>intro a;simp[fK]
          |succ n ih=>
           intro a
           simp only[List.range'_succ,List.map_cons,fK,Nat.beq_refl]
           have:=ih (a+1)
           rw[show a+1+n=a+(n+1) by omega,Nat.add_mul,Nat.one_mul]at this
           exact this
         have:=this len 0
         simpa [fC,List.range_eq_range']using this)
        (Nat.zero_le _) (by rw[hrow];simpa using vK len hz)
       simp only[List.drop_zero]at h4
       obtain⟨k1,k2,k3⟩:=j9 hs hL h4
       have hcs:cells'.size=len*te.size:=by rw[h2];simp
       refine gY hs hid (ms:=m) (cells:=cells') (e:=e) (cap:=len) (w':={C.w with heap:=C.w.heap.push (.cells cells' e)}) rfl rfl rfl rfl (by omega) (by omega) (by rw[hcs,c1];exact Nat.le_refl _) k3 ?_
       have hbig:¬(len*te.size>2^24):=by(have:(2:Nat)^24=16777216:=by decide);omega
       rw[k1]
       simp only[execOp,ho,Instr.buildSlice,Sem.run_bind,ao hT.und,hd,Result.andThen_ok,bm hT'.info,hT'.size,Sem.run_ite,hbig,if_false,Sem.run_pure]
       have hfill:Instr.fill (fun i=>some (i*te.size,te.size)) ((Array.range (len*te.size)).map fun j=>z'.cells[j%z'.cells.size]!) (ps.map fun x=>(x.1,ρ x.2)).toList=some cells':=by simpa using h1
       by_cases h0:len*te.size=0
       ·have e0:((Array.range (len*te.size)).map fun j=>z'.cells[j%z'.cells.size]!)= #[]:=by rw[h0];simp
        rw[e0]at hfill
        simp only[h0,if_true,Sem.run_pure,Result.andThen_ok]
        have e1:((Array.range 0).map fun j=>(#[]:Array Value)[j% (#[]:Array Value).size]!)= #[]:=by simp
        rw[e1,hfill]
        simp[newRow]
       ·simp only[h0,if_false,Sem.run_bind,dz hT'.info hT'.zero,Result.andThen_ok,Sem.run_pure,hfill]
        simp[newRow]
      ·exact(ab h).elim
     ·exact(ab h).elim
    ·exact(ab h).elim
   ·exact(ab h).elim
  ·exact(ab h).elim
 ·exact(ab h).elim
end
end Go.Sx
namespace Go.Sx
open Go
variable{P:Program}{E:Env}{C:Ctx}
section
variable{ρ:Operand→Value}{lk:bc}{o:Oper}{r:OpR}{id:Nat}
theorem yA{z:List Value}{s:Nat}(hz:z.length=s):∀(n i:Nat),i<n→seg ((List.replicate n z).flatten) (i*s) s=z
 |0,i,h=>by omega
 |n+1,0,_=>by
  rw[List.replicate_succ,List.flatten_cons]
  simp[seg,←hz]
 |n+1,i+1,h=>by
  rw[List.replicate_succ,List.flatten_cons,Nat.add_mul,Nat.one_mul]
  have:=yA hz n i (by omega)
  unfold seg at this⊢
  rw[List.drop_append,List.drop_eq_nil_of_le (by omega),List.nil_append,hz,Nat.add_sub_cancel]
  exact this
theorem wrap_small{n:Int}(h0:0≤n)(h1:n<2^62):IntKind.i64.wrap n=n:=by
 have e64:(2:Int)^64=18446744073709551616:=by decide
 have e63:(2:Int)^63=9223372036854775808:=by decide
 have e62:(2:Int)^62=4611686018427387904:=by decide
 rw[e62]at h1
 have hm:n%18446744073709551616=n:=Int.emod_eq_of_lt h0 (by omega)
 simp only[IntKind.wrap,IntKind.bits,e64,hm,Nat.reduceSub,e63]
 rw[if_neg]
 simp
 omega
theorem KF{n:Int}(h:inR n=true):0≤n∧n<(ar:Int):=by
 simp only[inR,Bool.and_eq_true,decide_eq_true_eq]at h
 omega
theorem mX(hE:EnvOK E P)(hs:SRel C)(hρ:∀x,ay C (al lk x) (ρ x))(hid:C.m id=none){t:TypeId}{l c:Operand}(ho:o.op= .makeSlice t l c)
  (h:(opA E lk C.m id (.makeSlice t l c)).run=some r):b9 P C ρ o r:=by
 simp only[opA]at h
 have hl:=hρ l
 have hc:=hρ c
 split at h
 ·rename_i ti n n' hti hln hcn
  rw[hln]at hl
  rw[hcn]at hc
  simp only[ay]at hl hc
  obtain⟨i,d,z,hT⟩:=hE.T hti
  split at h
  ·rename_i e htd
   have hd:=im hT htd
   split at h
   ·rename_i te hte
    obtain⟨i',d',z',hT'⟩:=hE.T hte
    split at h
    ·rename_i ty hty
     split at h
     ·rename_i x0 ms hck hu
      simp only[Bool.and_eq_true]at hck
      obtain⟨c1,c2,c3,c4⟩:=hck
      have c1:=beq_eq c1
      have c4:=beq_eq c4
      have c2:1≤te.size:=Nat.le_of_ble_eq_true c2
      have c3:te.bytes≤2048:=Nat.le_of_ble_eq_true c3
      obtain⟨hb,h'⟩:=bF h
      clear h
      simp only[Bool.and_eq_true,beq_iff_eq]at hb
      obtain⟨hn,rfl⟩:=hb
      obtain⟨h0,h1⟩:=KF hn
      rw[aX h']
      obtain⟨rfl,hu'⟩:=gN (fun _=>rfl) hu
      have hz:au C te.zero z'.cells.toList:=by rw[hT'.zeros];exact eX C _
      have hzs:z'.cells.size=te.size:=by rw[←c4,hT'.zeros];simp
      obtain⟨v1,v2,hv,hr2,hv1,_,hR⟩:=cR hs (hu' C.m) hz
      simp only[au]at hr2
      subst hr2
      rw[List.append_nil]at hv
      have hmr:(ar:Int)=68719476736:=by decide
      have hrow:((Array.range (n.toNat*te.size)).map fun j=>z'.cells[j%z'.cells.size]!).toList=(List.replicate n.toNat z'.cells.toList).flatten:=by
       rw[Array.toList_map,Array.toList_range,hzs]
       exact l4 z'.cells te.size hzs c2 n.toNat
      have key:=gY (P:=P) (ρ:=ρ) (o:=o) hs hid (ms:=[]) (t:=ty) (L:=List.replicate n.toNat x0) (cells:=(Array.range (n.toNat*te.size)).map fun j=>z'.cells[j%z'.cells.size]!) (e:=e) (cap:=n.toNat)
       (w':={C.w with heap:=C.w.heap.push (.cells ((Array.range (n.toNat*te.size)).map fun j=>z'.cells[j%z'.cells.size]!) e)}) rfl rfl rfl rfl (by omega) (by simp) (by simp[c1])
       (fun T' hT hS i x hi=>by
        have hi':i<n.toNat:=by have:=(List.getElem?_eq_some_iff.1 hi).1;simpa using this
        have hx:x=x0:=by have:=(List.getElem?_eq_some_iff.1 hi).2;simpa using this.symm
        subst hx
        rw[hrow,c1,yA (by simp[hzs]) n.toNat i hi',hv]
        exact hR T' hT (nL _)) ?_
      ·exact key
      ·have w0:IntKind.i64.wrap n=n:=wrap_small h0 (by omega)
       have hlt:¬n<0:=by omega
       have hbig:¬((te.bytes:Int)*n>2^48):=by
        have e48:(2:Int)^48=281474976710656:=by decide
        rw[e48]
        have h3:(te.bytes:Int)*n≤2048*n:=Int.mul_le_mul_of_nonneg_right (by omega) h0
        omega
       simp only[List.length_replicate]
       have d1:decide (n<0)=false:=by simpa using hlt
       have d2:decide ((te.bytes:Int)*n>2^48)=false:=decide_eq_false hbig
       have d3:decide (n>n)=false:=by simp
       simp only[execOp,ho,Instr.makeSlice,hl,hc,Sem.run_bind,ao hT.und,hd,Result.andThen_ok,asInt,asIntOf,Sem.run_pure,dO hT'.info,hT'.bytes,w0,Sem.run_ite,d1,d2,d3,
        Bool.or_self,Bool.or_false,Bool.false_eq_true,if_false,run_askRoom,bm hT'.info,hT'.size]
       by_cases hz0:n.toNat*te.size=0
       ·have e0:∀f:Nat→Value,Array.map f (Array.range 0)= #[]:=fun f=>by simp
        simp only[hz0,if_true,Sem.run_pure,Result.andThen_ok,e0]
        simp[newRow]
       ·simp only[hz0,if_false,Sem.run_bind,dz hT'.info hT'.zero,Result.andThen_ok,Sem.run_pure]
        simp[newRow]
     ·exact(ab h).elim
    ·exact(ab h).elim
   ·exact(ab h).elim
  ·exact(ab h).elim
 ·exact(ab h).elim
end
end Go.Sx
namespace Go.Sx
open Go
variable{P:Program}{E:Env}{C:Ctx}
section
variable{ρ:Operand→Value}{lk:bc}{o:Oper}{r:OpR}{id:Nat}
theorem sP(hs:SRel C){id:Nat}{b b':Blk}{k0:Nat}{c c':Array Value}{e:TypeId}{fz:Nat×Nat}(hm:C.m id=some b)(hh:C.w.heap[k0]? =some (.cells c e fz))(hl:cH (C.φ id) k0)
  (hown:∀k o,bJ (C.φ id) b' k o→bJ (C.φ id) b k o)
  (hkc:∀(ty:Nat) (cs:List AV),b= .cells ty cs→∃cs',b'= .cells ty cs')
  (hkl:∀(ee:Nat) t g sh L,b= .list ee t g sh L→∃g2 sh2 L2,b'= .list ee t g2 sh2 L2∧g≤g2∧(g=g2→L2.length=L.length))
  (hsame:∀j,¬bJ (C.φ id) b k0 j→c'[j]? =c[j]?):
  let C':Ctx:=⟨C.w.setRow k0 c',bA C.m id (some b'),C.φ,C.fr,C.gl⟩
  Ext C C'∧(jG C' (C.φ id) b'→SRel C'):=by
 have key:=lM hs (id:=id) (b':=b') (g':=C.φ id) (w':=C.w.setRow k0 c') (by simp) (fun k hk hn=>?_) (fun k hk=>.inl ⟨b,hm,hk⟩) (fun k o ho=>.inl ⟨b,hm,hown k o ho⟩)
  (fun ty cs h=>by rw[hm]at h;cases h;exact⟨rfl,hkc ty cs rfl⟩) (fun ee t g sh L h=>by
   rw[hm]at h
   cases h
   obtain⟨g2,sh2,L2,h1,h2,h3⟩:=hkl ee t g sh L rfl
   exact⟨g2,sh2,L2,h1,h2,fun e=>⟨rfl,h3 e⟩⟩) (fun k o v hv hn=>?_) rfl rfl rfl
 ·simp only[du]at key
  exact key
 ·rw[setRow_other]
  intro e
  subst e
  exact hn ⟨b,hm,hl⟩
 ·by_cases e:k=k0
  ·subst e
   rw[cell_setRow_same C.w k o c c' _ fz hh,hsame o fun hh=>hn ⟨b,hm,hh⟩,←cell_of hh]
   exact hv
  ·rw[cell_setRow_other]
   ·exact hv
   ·exact e
theorem Ei{x:AV}{v:Value}(h:ay C x v)(hl:x.leaf=true):v.oneCell'=true:=by
 cases x<;>simp[AV.leaf]at hl<;>simp only[ay]at h<;>first
  |(subst h;rfl)
  |(obtain⟨_,_,_,_,_,rfl|rfl⟩:=h<;>rfl)
  |(obtain⟨_,_,_,_,rfl⟩:=h;rfl)
  |(obtain⟨_,_,_,rfl,_⟩:=h;rfl)
  |(obtain⟨_,rfl,_⟩:=h;rfl)
  |(obtain⟨_,_,hv,_⟩:=h;simp only[List.cons.injEq,and_true]at hv;subst hv;rfl)
  |(obtain⟨_,_,_,_,_,_,_,_,rfl,_⟩:=h;rfl)
  |(obtain⟨_,_,_,_,_,_,_,_,_,rfl,_⟩:=h;rfl)
  |(obtain⟨_,_,_,_,_,_,_,_,_,_,rfl,_⟩:=h;rfl)
theorem jx:∀{as:List AV} {vs:List Value},au C as vs→as.all AV.leaf=true→∀v∈vs,v.oneCell'=true
 |[],_,h,_=>by simp only[au]at h;subst h;simp
 |a::as,_,h,hl=>by
  obtain⟨v,r,rfl,h1,h2⟩:=h
  simp only[List.all_cons,Bool.and_eq_true]at hl
  intro u hu
  rcases List.mem_cons.1 hu with e|hu
  ·subst e;exact Ei h1 hl.1
  ·exact jx h2 hl.2 u hu
theorem o5{C:Ctx}{cs xs:List AV}{vs us:List Value}(h:au C cs vs)(k:au C xs us)(off:Nat):au C (gZ cs off xs) (vs.take off++us++vs.drop (off+us.length)):=by
 unfold gZ
 rw[k.len,List.append_assoc]
 exact(h.take).append (k.append h.drop)
theorem ot(hE:EnvOK E P)(hs:SRel C)(hρ:∀x,ay C (al lk x) (ρ x)){t:TypeId}{a x:Operand}(ho:o.op= .store t a x){ti:TI}(hti:E.T t=some ti)
  (hsz:(al lk x).cells.length=ti.size) (hleaf:(al lk x).cells.all AV.leaf=true) {b off:Nat} (ha:al lk a= .ref b off) {ty:Nat} {cs:List AV} (hm:C.m b=some (.cells ty cs)) (hle:off+(al lk x).cells.length≤cs.length):
  Good P C ρ o (.tup []) (bA C.m b (some (.cells ty (gZ cs off (al lk x).cells)))):=by
 obtain⟨i,d,z,hT⟩:=hE.T hti
 have hra:=hρ a
 rw[ha]at hra
 obtain⟨rb,ty2,cs2,hm2,hp,hv⟩:=hra
 rw[hm]at hm2
 cases hm2
 obtain⟨rb',c,hg,hh,hr,hlf⟩:=hs.ok b _ hm
 rw[hp]at hg
 cases hg
 obtain⟨h1,h2⟩:=eO (hρ x) hleaf
 have hcl:cs.length=c.size:=by rw[hr.len];simp
 have hvl:(ρ x).cells.toList.length=(al lk x).cells.length:=by simpa using h2
 have hst:=run_storeCells_atF P rb off ty (0,0) (ρ x).cells.toList 0 c C.w hh (Nat.zero_le _) (by rw[hvl,←hcl];exact hle) (jx h1 hleaf)
 simp only[Nat.add_zero]at hst
 obtain⟨hE',hok⟩:=sP hs (b':=.cells ty (gZ cs off (al lk x).cells)) (c':=(c.toList.take off++(ρ x).cells.toList++c.toList.drop (off+(ρ x).cells.toList.length)).toArray) hm hh (by rw[hp];rfl) (fun k o' h=>by rw[hp]at h⊢;exact h)
  (fun _ _ h=>by cases h;exact⟨_,rfl⟩) (fun _ _ _ _ _ h=>by cases h) (fun j hn=>(hn (by rw[hp];rfl)).elim)
 refine⟨undef,_,.inr ⟨?_,rfl⟩,rfl,hok ?_,hE',⟨#[],rfl,by simp[au]⟩⟩
 ·have hne:¬((ρ x).cells.size≠i.size):=by rw[h2,hsz,hT.size];simp
  simp only[execOp,ho,Instr.storeAt,hv,Instr.sureAddr,storeVar,Sem.run_bind,Sem.run_pure,Result.andThen_ok,bm hT.info,hne,if_false,hst]
 ·refine⟨rb,_,hp,setRow_heap C.w rb c _ ty (0,0) hh,?_,?_⟩
  ·exact o5 (hr.mono hE') (h1.mono hE') off
  ·simp only[gZ,List.all_append,Bool.and_eq_true]
   refine⟨?_,hleaf,?_⟩
   ·exact List.all_eq_true.2 fun y hy=>List.all_eq_true.1 hlf y (List.mem_of_mem_take hy)
   ·exact List.all_eq_true.2 fun y hy=>List.all_eq_true.1 hlf y (List.mem_of_mem_drop hy)
end
end Go.Sx
namespace Go.Sx
open Go
variable{P:Program}{E:Env}{C:Ctx}
section
variable{ρ:Operand→Value}{lk:bc}{o:Oper}{r:OpR}{id:Nat}
theorem fF{m:Get}{i:Nat}:∀{a:Wr},(∀p∈a,p.1≠i)→aG m a i=m i
 |[],_=>rfl
 |(j,y)::a,h=>by
  simp only[aG]
  rw[fF fun p hp=>h p (by simp[hp])]
  have:=h (j,y) (by simp)
  simp only[eI]
  rw[if_neg (Ne.symm this)]
theorem Kz{α:Type}(c vs:List α)(A s off:Nat)(hA:A+s≤c.length)(ho:off+vs.length≤s):
  seg (c.take (A+off)++vs++c.drop (A+off+vs.length)) A s=(seg c A s).take off++vs++(seg c A s).drop (off+vs.length):=by
 apply List.ext_getElem?
 intro j
 rw[bL]
 by_cases hj:j<s
 ·rw[if_pos hj]
  have l1:(c.take (A+off)).length=A+off:=by simp;omega
  have l2:((seg c A s).take off).length=off:=by simp[seg];omega
  by_cases h1:j<off
  ·rw[List.append_assoc,List.getElem?_append_left (by omega),List.getElem?_take,if_pos (by omega),List.append_assoc,List.getElem?_append_left (by omega),List.getElem?_take,if_pos h1,bL,if_pos hj]
  ·by_cases h2:j<off+vs.length
   ·rw[List.append_assoc,List.getElem?_append_right (by omega),l1,List.getElem?_append_left (by omega),List.append_assoc,List.getElem?_append_right (by omega),l2,List.getElem?_append_left (by omega)]
    congr 1
    omega
   ·rw[List.getElem?_append_right (by simp;omega),List.getElem?_append_right (by simp[l2];omega)]
    simp only[List.length_append,l1,l2,List.getElem?_drop,bL]
    rw[if_pos (by omega)]
    congr 1
    omega
 ·rw[if_neg hj]
  symm
  apply List.getElem?_eq_none
  simp[seg]
  omega
theorem nb{α:Type}(c vs:List α)(B A n:Nat)(hB:B+vs.length≤c.length)(h:A+n≤B∨B+vs.length≤A):
  seg (c.take B++vs++c.drop (B+vs.length)) A n=seg c A n:=by
 apply List.ext_getElem?
 intro j
 rw[bL,bL]
 by_cases hj:j<n
 ·rw[if_pos hj,if_pos hj]
  have l1:(c.take B).length=B:=by simp;omega
  rcases h with h|h
  ·rw[List.append_assoc,List.getElem?_append_left (by omega),List.getElem?_take,if_pos (by omega)]
  ·rw[List.getElem?_append_right (by simp;omega)]
   simp only[List.length_append,l1,List.getElem?_drop]
   congr 1
   omega
 ·rw[if_neg hj,if_neg hj]
theorem pO(hE:EnvOK E P)(hs:SRel C)(hρ:∀x,ay C (al lk x) (ρ x)){t:TypeId}{a x:Operand}(ho:o.op= .store t a x){ti:TI}(hti:E.T t=some ti)
  (hsz:(al lk x).cells.length=ti.size) (hleaf:(al lk x).cells.all AV.leaf=true) {b g i off:Nat} (ha:al lk a= .el b g i off) {ee:Nat} {ty:Ty} {L:List ty.den} (hm:C.m b=some (.list ee ty g false L))
  (hle:off+(al lk x).cells.length≤ty.size) {y:ty.den} {ms:List Nat} (hu:aV C.m ty (gZ (flat ty (L.getD i ty.dflt)) off (al lk x).cells)=some (y,[],ms)) (hb:b∉ms):
  Good P C ρ o (.tup []) (aG C.m ((b,.list ee ty g false (L.set i y))::bw C.m ms)):=by
 obtain⟨inf,d,z,hT⟩:=hE.T hti
 have hra:=hρ a
 rw[ha]at hra
 obtain⟨ee2,t2,g2,sh2,L2,hm2,_,k,o',hv,hq⟩:=hra
 rw[hm]at hm2
 cases hm2
 obtain⟨ad,cap,hp,hil,rfl,rfl⟩:=hq rfl
 obtain⟨a',cap',hgg,hz,hc,hbk⟩:=hs.ok b _ hm
 rw[hp]at hgg
 cases hgg
 obtain⟨hsp,c,lo,hi,hh,hcs,hfz,_,hx⟩:=hbk
 simp only[Bool.false_eq_true,if_false]at hfz
 obtain⟨h1,h2⟩:=eO (hρ x) hleaf
 have hvl:(ρ x).cells.toList.length=(al lk x).cells.length:=by simpa using h2
 have hil2:(i+1)*ty.size≤cap*ty.size:=Nat.mul_le_mul_right _ (by omega)
 rw[Nat.add_mul,Nat.one_mul]at hil2
 have hst:=run_storeCells_atF P ad.block (ad.off+i*ty.size+off) ee (lo,hi) (ρ x).cells.toList 0 c C.w hh (by simp only;omega) (by rw[hvl];omega) (jx h1 hleaf)
 simp only[Nat.add_zero]at hst
 obtain⟨C1,s1,s2,s3,s4,s5,s6,s7,s8⟩:=cX hs ms
 have hne:∀p∈bw C.m ms,p.1≠b:=fun p hp e=>hb (e▸(iG hp).1)
 have hm1:C1.m b=some (.list ee ty g false L):=by rw[s3,fF hne,hm]
 have hvs:au C (gZ (flat ty (L.getD i ty.dflt)) off (al lk x).cells) ((seg c.toList (ad.off+i*ty.size) ty.size).take off++(ρ x).cells.toList++(seg c.toList (ad.off+i*ty.size) ty.size).drop (off+(ρ x).cells.toList.length)):=by
  refine o5 ?_ h1 off
  have:=hx i L[i] (by simp[hil])
  have hd:L.getD i ty.dflt=L[i]:=by simp[List.getD,hil]
  rw[hd]
  exact dw this
 obtain⟨v1,v2,hv12,hr2,hv1,_,hR⟩:=cR hs hu hvs
 simp only[au]at hr2
 subst hr2
 rw[List.append_nil]at hv12
 have hcl:(c.toList).length=c.size:=by simp
 obtain⟨c',hc'⟩:∃c':Array Value,c'=(c.toList.take (ad.off+i*ty.size+off)++(ρ x).cells.toList++c.toList.drop (ad.off+i*ty.size+off+(ρ x).cells.toList.length)).toArray:=⟨_,rfl⟩
 rw[←hc']at hst
 have hcl':c'.toList=c.toList.take (ad.off+i*ty.size+off)++(ρ x).cells.toList++c.toList.drop (ad.off+i*ty.size+off+(ρ x).cells.toList.length):=by rw[hc']
 have hsame:∀j,¬bJ (C1.φ b) (.list ee ty g false L) ad.block j→c'[j]? =c[j]? :=by
  intro j hn
  rw[s5,hp]at hn
  simp only[bJ,Bool.false_eq_true,if_false,true_and]at hn
  have:=nb c.toList (ρ x).cells.toList (ad.off+i*ty.size+off) j 1 (by rw[hvl];omega) (by rw[hvl];omega)
  rw[←hcl']at this
  have:=congrArg (·[0]?) this
  simpa [bL]using this
 obtain⟨hE',hok⟩:=sP s1 (b':=.list ee ty g false (L.set i y)) (c':=c')
  hm1 (by rw[s4];exact hh) (by rw[s5,hp];rfl) (fun k o' h=>by rw[s5,hp]at h⊢;simpa [bJ]using h) (fun _ _ h=>by cases h) (fun _ t2 g2 sh2 L2 h=>by cases h;exact⟨g,false,L.set i y,rfl,Nat.le_refl _,fun _=>by simp⟩) hsame
 refine⟨undef,_,.inr ⟨?_,rfl⟩,?_,hok ?_,s2.trans hE',⟨#[],rfl,by simp[au]⟩⟩
 ·have hne:¬((ρ x).cells.size≠inf.size):=by rw[h2,hsz,hT.size];simp
  simp only[execOp,ho,Instr.storeAt,hv,Instr.sureAddr,storeVar,Sem.run_bind,Sem.run_pure,Result.andThen_ok,bm hT.info,hne,if_false,hst]
  rw[s4]
 ·simp only[aG]
  rw[fA hne,←s3]
  rfl
 ·refine⟨some ad,cap,by rw[s5];exact hp,hz,by simpa using hc,hsp,c',lo,hi,?_,?_,by simpa using hfz,fun h=>(by cases h),fun j u hj=>?_⟩
  ·rw[s4]
   exact setRow_heap C.w ad.block c _ ee (lo,hi) hh
  ·have:c'.toList.length=c.size:=by
    rw[hcl']
    simp only[List.length_append,List.length_take,List.length_drop,hcl,hvl]
    omega
   have:c'.size=c.size:=by simpa using this
   rw[this]
   exact hcs
  ·rw[hcl']
   by_cases e':j=i
   ·subst e'
    have hy:u=y:=by
     rw[List.getElem?_set_self (by simpa using hil)]at hj
     exact(Option.some.inj hj).symm
    subst hy
    rw[Kz c.toList _ (ad.off+j*ty.size) ty.size off (by omega) (by rw[hvl];exact hle),hv12]
    have:=hR C1.T s8 s7
    rw[←s4]at this
    exact this.mono hE'.keep
   ·rw[List.getElem?_set_ne (Ne.symm e')]at hj
    have hjl:j<L.length:=(List.getElem?_eq_some_iff.1 hj).1
    have hj2:(j+1)*ty.size≤cap*ty.size:=Nat.mul_le_mul_right _ (by omega)
    rw[Nat.add_mul,Nat.one_mul]at hj2
    rw[nb c.toList _ (ad.off+i*ty.size+off) (ad.off+j*ty.size) ty.size (by rw[hvl];omega) (by
     rcases Nat.lt_or_gt_of_ne e' with h|h
     ·have:(j+1)*ty.size≤i*ty.size:=Nat.mul_le_mul_right _ h
      rw[Nat.add_mul,Nat.one_mul]at this
      left;omega
     ·have:(i+1)*ty.size≤j*ty.size:=Nat.mul_le_mul_right _ h
      rw[Nat.add_mul,Nat.one_mul]at this
      right;rw[hvl];omega)]
    have:=(hx j u hj).mono s2.keep
    exact this.mono hE'.keep
theorem vf(hE:EnvOK E P)(hs:SRel C)(hρ:∀x,ay C (al lk x) (ρ x)){t:TypeId}{a x:Operand}(ho:o.op= .store t a x)
  (h:(opA E lk C.m id (.store t a x)).run=some r):b9 P C ρ o r:=by
 simp only[opA]at h
 split at h
 ·rename_i ti hti
  split at h
  ·rename_i hn
   have hn:=beq_eq hn
   split at h
   ·rename_i r' hst
    rw[aX h]
    unfold oL at hst
    split at hst
    ·cases hst
    ·rename_i hleaf
     split at hst
     ·rename_i b off ha
      split at hst
      ·rename_i ty cs hm
       split at hst
       ·rename_i hle
        simp only[Option.some.injEq]at hst
        subst hst
        exact ot hE hs hρ ho hti hn hleaf ha hm (Nat.le_of_ble_eq_true hle)
       ·cases hst
      ·cases hst
     ·rename_i b g i off ha
      split at hst
      ·rename_i ty g' L hm
       split at hst
       ·rename_i hck
        simp only[Bool.and_eq_true]at hck
        have hg:=beq_eq hck.1
        subst hg
        split at hst
        ·rename_i y ms hu
         split at hst
         ·cases hst
         ·rename_i hb
          simp only[Option.some.injEq]at hst
          subst hst
          refine pO hE hs hρ ho hti hn hleaf ha hm (Nat.le_of_ble_eq_true hck.2) hu fun hmem=>?_
          have:ms.any (Nat.beq b)=true:=List.any_eq_true.2 ⟨b,hmem,by simp⟩
          rw[hb]at this
          cases this
        ·cases hst
       ·cases hst
      ·cases hst
     ·cases hst
   ·exact(ab h).elim
  ·exact(ab h).elim
 ·exact(ab h).elim
end
end Go.Sx
