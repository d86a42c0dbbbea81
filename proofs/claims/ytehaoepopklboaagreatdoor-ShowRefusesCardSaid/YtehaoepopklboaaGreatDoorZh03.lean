/- A part of the proof: see the row's text. -/
import Derived.Test.YtehaoepopklboaaGreatDoorZh02
set_option linter.unusedVariables false
set_option linter.unusedSimpArgs false
noncomputable section
namespace Go.Sx
open Go
variable{P:Program}{E:Env}{C:Ctx}
section
variable{ρ:Operand→Value}{lk:bc}{o:Oper}{r:OpR}{id:Nat}
theorem o6{l h:Int}{n:Nat}(hb:inB l h n=true):0≤l∧l≤h∧h≤(n:Int):=by
 simpa [inB]using hb
theorem fc{a:AV}{n:Int}{v:Value}(h:intOf? a=some n)(hv:ay C a v):v= .int .i64 n:=by
 unfold intOf? at h
 split at h
 ·cases h;simpa [ay]using hv
 ·cases h
theorem run_sliceBound{k:IntKind}{i:Int}{y:Nat}{code:BoundsCode}(h0:0≤i)(h1:i≤(y:Int))(w:World):(Instr.sliceBound (.int k i) y code).run P w= .ok i.toNat w:=by
 simp[Instr.sliceBound,asIntOf,h0,h1]
theorem nF(hρ:∀x,ay C (al lk x) (ρ x)){len cap:Nat}{lo hi:Option Operand}{l h:Int}(hl:jz lk lo=some l)(hh:kj lk len hi=some h)(h0:0≤l)(h1:l≤h)(h2:h≤(len:Int))(hc:len≤cap)(isS:Bool)(w:World):
  (Instr.sliceBounds isS len cap (lo.map ρ) (hi.map ρ) none).run P w= .ok (l.toNat,h.toNat,cap) w:=by
 cases hi with
 |none=>
  simp only[kj,Option.some.injEq]at hh
  subst hh
  cases lo with
  |none=>
   simp only[jz,Option.some.injEq]at hl
   subst hl
   simp[Instr.sliceBounds]
  |some b=>
   simp only[jz]at hl
   have e2:=fc hl (hρ b)
   have:=fun code=>run_sliceBound (P:=P) (k:=.i64) (i:=l) (y:=len) (code:=code) h0 (by omega) w
   simp[Instr.sliceBounds,e2,this]
 |some a=>
  simp only[kj]at hh
  have e1:=fc hh (hρ a)
  have g1:=fun code=>run_sliceBound (P:=P) (k:=.i64) (i:=h) (y:=cap) (code:=code) (by omega) (by omega) w
  cases lo with
  |none=>
   simp only[jz,Option.some.injEq]at hl
   subst hl
   simp[Instr.sliceBounds,e1,g1]
  |some b=>
   simp only[jz]at hl
   have e2:=fc hl (hρ b)
   have g2:=fun code=>run_sliceBound (P:=P) (k:=.i64) (i:=l) (y:=h.toNat) (code:=code) h0 (by omega) w
   simp[Instr.sliceBounds,e1,g1,e2,g2]
theorem qk{w:World}{T:Nat→Nat→Prop}{t:Ty}{L:List t.den}{a:Option Addr}{cap:Nat}(hr:Rep w T (.slice t) L [.slice a L.length cap]){l h:Nat}(h1:l≤h)(h2:h≤L.length):
  Rep w T (.slice t) ((L.take h).drop l) [.slice (if cap=l then a else a.map (·.add (l*t.size))) (h-l) (cap-l)]:=by
 obtain⟨a',cap',hv,hc,hx⟩:=hr
 simp only[List.cons.injEq,Value.slice.injEq,and_true,true_and]at hv
 obtain⟨rfl,rfl⟩:=hv
 have hlen:((L.take h).drop l).length=h-l:=by simp;omega
 have hc':L.length≤cap:=hc
 refine⟨_,_,by rw[hlen],by rw[hlen];omega,fun i x hi=>?_⟩
 have hil:i<h-l:=by
  have:=(List.getElem?_eq_some_iff.1 hi).1
  have h3:i<((L.take h).drop l).length:=this
  omega
 have hne:¬cap=l:=by omega
 have hi':L[l+i]? =some x:=by
  have:((L.take h).drop l)[i]? =some x:=hi
  rw[List.getElem?_drop,List.getElem?_take,if_pos (by omega)]at this
  exact this
 obtain⟨ad,cs,rfl,hsp,him,hrp⟩:=hx _ _ hi'
 obtain⟨bk,of,sp⟩:=ad
 simp only at hsp
 subst hsp
 refine⟨⟨bk,of+l*t.size,none⟩,cs,by rw[if_neg hne];simp[addr_add],rfl,?_,hrp⟩
 simp only
 have e:of+l*t.size+i*t.size=of+(l+i)*t.size:=by rw[Nat.add_mul];omega
 rw[e]
 exact him
theorem dX{t:TypeId}{x:Operand}{lo hi:Option Operand}(hρ:∀x,ay C (al lk x) (ρ x))(hE:EnvOK E P){es:Nat}(hes:dB E t=some es)(ho:o.op= .slice t x lo hi none){a:Option Addr}{len cap:Nat}(hv:ρ x= .slice a len cap)
  {l h:Int} (hl:jz lk lo=some l) (hh:kj lk len hi=some h) (h0:0≤l) (h1:l≤h) (h2:h≤(len:Int)) (hc:len≤cap):
  (execOp ρ o).run P C.w= .ok (.value (.slice (if cap=l.toNat then a else a.map (·.add (l.toNat*es))) (h.toNat-l.toNat) (cap-l.toNat))) C.w:=by
 obtain⟨e,ei,hund,hinf,hsz,_⟩:=ft hE hes
 have hb:=nF (P:=P) (C:=C) hρ hl hh h0 h1 h2 hc true C.w
 simp[execOp,ho,Instr.sliceAt,Instr.slice,ao hund,hv,hb,bm hinf,hsz]
theorem iu(hE:EnvOK E P)(hs:SRel C)(hρ:∀x,ay C (al lk x) (ρ x)){t:TypeId}{x:Operand}{lo hi:Option Operand}(ho:o.op= .slice t x lo hi none){es:Nat}(hes:dB E t=some es)
  {ty:Ty} {L:List ty.den} (hr:Rep C.w C.T (.slice ty) L [ρ x]) (hse:ty.size=es) {l h:Int} (hl:jz lk lo=some l) (hh:kj lk L.length hi=some h) (hb:inB l h L.length=true):
  Good P C ρ o (.sl ty ((L.take h.toNat).drop l.toNat)) C.m:=by
 obtain⟨h0,h1,h2⟩:=o6 hb
 have hr':=hr
 obtain⟨a,cap,hv,hc,_⟩:=hr
 simp only[List.cons.injEq,and_true]at hv
 have hc':L.length≤cap:=hc
 have hrun:=dX (P:=P) (C:=C) hρ hE hes ho hv hl hh h0 h1 h2 hc'
 refine Good.pure hs hrun ?_
 rw[hv]at hr'
 have:=qk hr' (l:=l.toNat) (h:=h.toNat) (by omega) (by omega)
 rw[hse]at this
 exact this
theorem mQ(hE:EnvOK E P)(hs:SRel C)(hρ:∀x,ay C (al lk x) (ρ x)){t:TypeId}{x:Operand}{lo hi:Option Operand}(ho:o.op= .slice t x lo hi none){ti:TI}(hti:E.T t=some ti)(htd:ti.td= .str)
  {s:List UInt8} (hx:al lk x= .str s) {l h:Int} (hl:jz lk lo=some l) (hh:kj lk s.length hi=some h) (hb:inB l h s.length=true):
  Good P C ρ o (.str ((s.take h.toNat).drop l.toNat)) C.m:=by
 obtain⟨h0,h1,h2⟩:=o6 hb
 obtain⟨_,_,_,hT⟩:=hE.T hti
 have hd:=n5 hT htd
 have hv:=hρ x
 rw[hx]at hv
 simp only[ay]at hv
 have hb':=nF (P:=P) (C:=C) hρ hl hh h0 h1 h2 (Nat.le_refl _) false C.w
 have hsz:(ByteArray.mk ⟨s⟩).size=s.length:=rfl
 refine Good.pure hs (v:=.string ⟨⟨(s.take h.toNat).drop l.toNat⟩⟩) ?_ (by simp[ay])
 have hex:(ByteArray.mk ⟨s⟩).extract l.toNat h.toNat=⟨⟨(s.take h.toNat).drop l.toNat⟩⟩:=by
  apply WideShapes.bytes_inj
  simp[ByteArray.data_extract,Array.toList_extract,List.extract_eq_take_drop,List.drop_take]
 simp[execOp,ho,Instr.sliceAt,Instr.slice,ao hT.und,hd,hv,hsz,hb',hex]
theorem iT(hs:SRel C){b g:Nat}{v:Value}{ee:Nat}{t:Ty}{sh:Bool}{L:List t.den}(hv:ay C (.own b g) v)(hm:C.m b=some (.list ee t g sh L)):
  ∃a cap,C.φ b= .list a cap∧v= .slice a L.length cap∧L.length≤cap∧0<t.size:=by
 obtain⟨ee2,t2,g2,sh2,L2,hm2,_,a,n,cap,rfl,hq⟩:=hv
 rw[hm]at hm2
 cases hm2
 obtain⟨hp,rfl⟩:=hq rfl
 obtain⟨a',cap',hgg,hz,hc,_⟩:=hs.ok b _ hm
 rw[hp]at hgg
 cases hgg
 exact⟨a,cap,hp,rfl,hc,hz⟩
theorem lJ(hE:EnvOK E P)(hs:SRel C)(hρ:∀x,ay C (al lk x) (ρ x)){t:TypeId}{x:Operand}{lo hi:Option Operand}(ho:o.op= .slice t x lo hi none){es:Nat}(hes:dB E t=some es)
  {b g:Nat} (hx:al lk x= .own b g) {ee:Nat} {ty:Ty} {sh:Bool} {L:List ty.den} (hm:C.m b=some (.list ee ty g sh L)) (hse:ty.size=es) {l h:Int} (hl:jz lk lo=some l) (hh:kj lk L.length hi=some h) (hb:inB l h L.length=true):
  Good P C ρ o (.sl ty ((L.take h.toNat).drop l.toNat)) (aG C.m (bw C.m [b])):=by
 obtain⟨h0,h1,h2⟩:=o6 hb
 have hvr:=hρ x
 rw[hx]at hvr
 obtain⟨a,cap,hp,hv,hc,hz⟩:=iT hs hvr hm
 have hrun:=dX (P:=P) (C:=C) hρ hE hes ho hv hl hh h0 h1 h2 hc
 obtain⟨C1,s1,s2,s3,s4,s5,s6,s7,s8⟩:=cX hs [b]
 refine⟨_,C1,.inl (by rw[s4];exact hrun),s3,s1,s2,?_⟩
 have hr:=sE hs hvr hm rfl s8 s7
 rw[hv,←s4]at hr
 have:=qk hr (l:=l.toNat) (h:=h.toNat) (by omega) (by omega)
 rw[hse]at this
 exact this
theorem mR(hE:EnvOK E P)(hs:SRel C)(hρ:∀x,ay C (al lk x) (ρ x)){t:TypeId}{x:Operand}{hi:Option Operand}(ho:o.op= .slice t x none hi none){es:Nat}(hes:dB E t=some es)
  {b g:Nat} (hx:al lk x= .own b g) {ee:Nat} {ty:Ty} {L:List ty.den} (hm:C.m b=some (.list ee ty g false L)) {h:Int} (hh:kj lk L.length hi=some h) (hb:inB 0 h L.length=true):
  Good P C ρ o (.own b (g+1)) (bA C.m b (some (.list ee ty (g+1) false (L.take h.toNat)))):=by
 obtain⟨h0,h1,h2⟩:=o6 hb
 have hvr:=hρ x
 rw[hx]at hvr
 obtain⟨a,cap,hp,hv,hc,hz⟩:=iT hs hvr hm
 have hrun:=dX (P:=P) (C:=C) hρ hE hes ho hv (l:=0) rfl hh h0 h1 h2 hc
 have hva:(Value.slice (if cap=(0:Int).toNat then a else a.map (·.add ((0:Int).toNat*es))) (h.toNat-(0:Int).toNat) (cap-(0:Int).toNat))= .slice a h.toNat cap:=by
  have e0:(0:Int).toNat=0:=rfl
  rw[e0]
  congr 1
  split
  ·rfl
  ·cases a with
   |none=>rfl
   |some ad=>simp[Addr.add]
 rw[hva]at hrun
 obtain⟨a',cap',hgg,_,_,hbk⟩:=hs.ok b _ hm
 rw[hp]at hgg
 cases hgg
 have hlen:(L.take h.toNat).length=h.toNat:=by simp;omega
 have key:=gr hs (id:=b) (b':=.list ee ty (g+1) false (L.take h.toNat)) (g':=C.φ b) (fun k hk=>⟨_,hm,hk⟩) (fun k o' hk=>⟨_,hm,by rw[hp]at hk⊢;cases a with|none=>exact hk.elim|some ad=>simpa [bJ]using hk⟩)
  (fun _ cs h=>by rw[hm]at h;cases h) (fun _ t2 g2 sh2 L2 h=>by rw[hm]at h;cases h;exact⟨g+1,false,_,rfl,by omega,fun e=>by omega⟩)
 simp only[du]at key
 obtain⟨hEx,hok⟩:=key
 refine⟨_,⟨C.w,bA C.m b (some (.list ee ty (g+1) false (L.take h.toNat))),C.φ,C.fr,C.gl⟩,.inl hrun,rfl,hok ⟨a,cap,hp,hz,by rw[hlen];omega,?_⟩,hEx,?_⟩
 ·cases a with
  |none=>exact hbk
  |some ad=>
   obtain⟨hsp,c,lo,hi',hh',hsz,hfz,_,hxx⟩:=hbk
   refine⟨hsp,c,lo,hi',hh',hsz,by simpa using hfz,fun h=>(by cases h),fun i y hy=>?_⟩
   have hy':L[i]? =some y:=by
    rw[List.getElem?_take]at hy
    split at hy
    ·exact hy
    ·cases hy
   exact(hxx i y hy').mono hEx.keep
 ·exact⟨ee,ty,g+1,false,L.take h.toNat,by simp[bA],Nat.le_refl _,a,h.toNat,cap,rfl,fun _=>⟨hp,hlen.symm⟩⟩
theorem tv(hE:EnvOK E P)(hs:SRel C)(hρ:∀x,ay C (al lk x) (ρ x)){t:TypeId}{x hi mx:Operand}(ho:o.op= .slice t x none (some hi) (some mx)){es:Nat}(hes:dB E t=some es)
  {b g:Nat} (hx:al lk x= .own b g) {ee:Nat} {ty:Ty} {sh:Bool} {L:List ty.den} (hm:C.m b=some (.list ee ty g sh L)) {h:Int} (hh:intOf? (al lk hi)=some h) (hmx:intOf? (al lk mx)=some h) (hb:inB 0 h L.length=true):
  Good P C ρ o (.sx ty (L.take h.toNat)) (aG C.m (bw C.m [b])):=by
 obtain⟨_,h0,h2⟩:=o6 hb
 have hvr:=hρ x
 rw[hx]at hvr
 obtain⟨a,cap,hp,hv,hc,hz⟩:=iT hs hvr hm
 obtain⟨e,ei,hund,hinf,hsz,_⟩:=ft hE hes
 have e1:=fc hh (hρ hi)
 have e2:=fc hmx (hρ mx)
 have g1:=fun code=>run_sliceBound (P:=P) (k:=.i64) (i:=h) (y:=cap) (code:=code) h0 (by omega) C.w
 have g2:=fun code=>run_sliceBound (P:=P) (k:=.i64) (i:=h) (y:=h.toNat) (code:=code) h0 (by omega) C.w
 obtain⟨C1,s1,s2,s3,s4,s5,s6,s7,s8⟩:=cX hs [b]
 have hlen:(L.take h.toNat).length=h.toNat:=by simp;omega
 have hrun:(execOp ρ o).run P C.w= .ok (.value (.slice a h.toNat h.toNat)) C.w:=by
  have haa:a.map (fun x=>x.add 0)=a:=by
   cases a with
   |none=>rfl
   |some ad=>simp[Addr.add]
  simp[execOp,ho,Instr.sliceAt,Instr.slice,ao hund,hv,Instr.sliceBounds,e1,e2,g1,g2,bm hinf,hsz,haa]
 have hr:=sE hs hvr hm rfl s8 s7
 rw[hv,←s4]at hr
 refine⟨_,C1,.inl (by rw[s4];exact hrun),s3,s1,s2,a,by rw[hlen],?_⟩
 obtain⟨a',cap',hv',_,hxx⟩:=hr
 simp only[List.cons.injEq,Value.slice.injEq,and_true,true_and]at hv'
 obtain⟨rfl,rfl⟩:=hv'
 refine⟨a,h.toNat,by rw[hlen],by rw[hlen];exact Nat.le_refl _,fun i y hy=>hxx i y ?_⟩
 have hy':(L.take h.toNat)[i]? =some y:=hy
 rw[List.getElem?_take]at hy'
 split at hy'
 ·exact hy'
 ·cases hy'
theorem vT(hE:EnvOK E P)(hs:SRel C)(hρ:∀x,ay C (al lk x) (ρ x)){t:TypeId}{x:Operand}{lo hi mx:Option Operand}(ho:o.op= .slice t x lo hi mx)
  (h:(opA E lk C.m id (.slice t x lo hi mx)).run=some r):b9 P C ρ o r:=by
 simp only[opA]at h
 split at h
 ·rename_i s hx
  split at h
  ·rename_i ti hti
   split at h
   ·rename_i htd
    simp only[fL]at h
    split at h
    ·rename_i l h' hl hh
     obtain⟨hb,h⟩:=bF h
     rw[aJ h]
     exact mQ hE hs hρ ho hti htd hx hl hh hb
    ·exact(ab h).elim
   ·exact(ab h).elim
  ·exact(ab h).elim
 ·rename_i v mx' hne
  split at h
  ·rename_i es hes
   unfold fL at h
   split at h
   ·rename_i m
    split at h
    ·rename_i b g hi hx
     split at h
     ·rename_i ty g' sh L hm
      split at h
      ·rename_i hck
       simp only[Bool.and_eq_true]at hck
       have hg:=beq_eq hck.1
       subst hg
       split at h
       ·rename_i hh1 mm e1 e2
        obtain⟨hb,h'⟩:=bF h
        clear h
        simp only[Bool.and_eq_true,beq_iff_eq]at hb
        obtain⟨hb,rfl⟩:=hb
        rw[aX h']
        exact tv hE hs hρ ho hes hx hm e1 e2 hb
       ·exact(ab h).elim
      ·exact(ab h).elim
     ·exact(ab h).elim
    ·rename_i hi hx
     split at h
     ·rename_i hh1 mm e1 e2
      obtain⟨hb,h'⟩:=bF h
      clear h
      simp only[Bool.and_eq_true,beq_iff_eq]at hb
      obtain⟨rfl,rfl⟩:=hb
      rw[aJ h']
      obtain⟨e,ei,hund,hinf,hsz,_⟩:=ft hE hes
      have hv:=hρ x
      rw[hx]at hv
      simp only[ay]at hv
      have k1:=fc e1 (hρ hi)
      have k2:=fc e2 (hρ m)
      have g1:=fun code=>run_sliceBound (P:=P) (k:=.i64) (i:=0) (y:=0) (code:=code) (by omega) (by omega) C.w
      refine Good.pure hs (v:=.slice none 0 0) ?_ (by simp[ay])
      simp[execOp,ho,Instr.sliceAt,Instr.slice,ao hund,hv,Instr.sliceBounds,k1,k2,g1,bm hinf,hsz]
     ·exact(ab h).elim
    ·exact(ab h).elim
   ·split at h
    ·rename_i s hx
     exact(hne s hx rfl).elim
    ·rename_i b g hx
     split at h
     ·rename_i ty g' sh L hm
      split at h
      ·rename_i l h' hck hl hh
       simp only[Bool.and_eq_true]at hck
       have hg:=beq_eq hck.1
       subst hg
       split at h
       ·rename_i hsh hlo
        obtain⟨hb,h⟩:=bF h
        rw[aX h]
        exact mR hE hs hρ ho hes hx hm hh hb
       ·obtain⟨hb,h⟩:=bF h
        rw[aX h]
        exact lJ hE hs hρ ho hes hx hm (beq_eq hck.2) hl hh hb
      ·exact(ab h).elim
     ·exact(ab h).elim
    ·rename_i ty L hx
     split at h
     ·rename_i l h' hse hl hh
      obtain⟨hb,h⟩:=bF h
      rw[aJ h]
      have hr:=hρ x
      rw[hx]at hr
      exact iu hE hs hρ ho hes hr (beq_eq hse) hl hh hb
     ·exact(ab h).elim
    ·rename_i ty L hx
     split at h
     ·rename_i l h' hse hl hh
      obtain⟨hb,h⟩:=bF h
      rw[aJ h]
      have hr:=hρ x
      rw[hx]at hr
      obtain⟨_,_,hr⟩:=hr
      exact iu hE hs hρ ho hes hr (beq_eq hse) hl hh hb
     ·exact(ab h).elim
    ·exact(ab h).elim
  ·exact(ab h).elim
end
end Go.Sx
namespace Go.Sx
open Go
variable{P:Program}{E:Env}{C:Ctx}
structure Source(P:Program)(C:Ctx)(t:Ty)(X:List t.den)(x:Value)(vs:List Value):Prop where
 len:vs.length=X.length*t.size
 lenOf:(Builtin.lenOf x).run P C.w= .ok X.length C.w
 read:∀w:World,(∀k o v,C.w.cell? ⟨k,o,none⟩=some v→w.cell? ⟨k,o,none⟩=some v)→(Builtin.firstCells t.size X.length x).run P w= .ok vs.toArray w
 rep:∀i y,X[i]? =some y→Rep C.w C.T t y (seg vs (i*t.size) t.size)
theorem lr{w:World}{T:Nat→Nat→Prop}{t:Ty}{k:Nat}:∀(X:List t.den) (o:Nat),(∀i y,X[i]? =some y→∃cs,(∀j u,cs[j]? =some u→w.cell? ⟨k,o+i*t.size+j,none⟩=some u)∧Rep w T t y cs)→
  ∃vs:List Value,vs.length=X.length*t.size∧(∀j u,vs[j]? =some u→w.cell? ⟨k,o+j,none⟩=some u)∧∀i y,X[i]? =some y→Rep w T t y (seg vs (i*t.size) t.size)
 |[],o,_=>⟨[],by simp,fun j u h=>by simp at h,fun i y h=>by simp at h⟩
 |x::X,o,h=>by
  obtain⟨cs,hc,hr⟩:=h 0 x (by simp)
  have hcl:=hr.len
  obtain⟨vs,h1,h2,h3⟩:=lr X (o+t.size) fun i y hy=>by
   obtain⟨cs',hc',hr'⟩:=h (i+1) y (by simpa using hy)
   refine⟨cs',fun j u hu=>?_,hr'⟩
   have:=hc' j u hu
   rw[Nat.add_mul,Nat.one_mul]at this
   rwa [show o+(i*t.size+t.size)+j=o+t.size+i*t.size+j by omega]at this
  refine⟨cs++vs,by simp[hcl,h1,Nat.add_mul];omega,fun j u hu=>?_,fun i y hy=>?_⟩
  ·by_cases hj:j<cs.length
   ·rw[List.getElem?_append_left hj]at hu
    have:=hc j u hu
    simpa using this
   ·rw[List.getElem?_append_right (by omega)]at hu
    have:=h2 _ u hu
    rwa [show o+t.size+(j-cs.length)=o+j by omega]at this
  ·cases i with
   |zero=>
    simp only[List.getElem?_cons_zero,Option.some.injEq]at hy
    subst hy
    have:seg (cs++vs) (0*t.size) t.size=cs:=by simp[seg,←hcl]
    rw[this]
    exact hr
   |succ i=>
    have:=h3 i y (by simpa using hy)
    have e:seg (cs++vs) ((i+1)*t.size) t.size=seg vs (i*t.size) t.size:=by
     rw[Nat.add_mul,Nat.one_mul]
     unfold seg
     rw[List.drop_append,List.drop_eq_nil_of_le (by omega),List.nil_append]
     congr 2
     omega
    rw[e]
    exact this
theorem iM{ad:Addr}(hsp:ad.spot=none){len cap size n:Nat}{vs:List Value}(hl:vs.length=n*size){w:World}(hc:∀j v,vs[j]? =some v→w.cell? ⟨ad.block,ad.off+j,none⟩=some v):
  (Builtin.firstCells size n (.slice (some ad) len cap)).run P w= .ok vs.toArray w:=by
 obtain⟨k,o,sp⟩:=ad
 simp only at hsp
 subst hsp
 simp only[Builtin.firstCells]
 rw[←hl]
 exact run_loadCells_list w _ vs fun j v hj=>by rw[addr_add];exact hc j v hj
theorem gz(hs:SRel C){x:AV}{v:Value}{t:Ty}{X:List t.den}{m:List Nat}(hv:ay C x v)(h:dd C.m x=some (.mk t X m)):∃vs,Source P C t X v vs:=by
 obtain⟨a,cap,rfl,hc,hx⟩:=iY hs hv h
 cases X with
 |nil=>
  refine⟨[],by simp,by simp[Builtin.lenOf],fun w _=>?_,fun i y h=>by simp at h⟩
  cases a with
  |none=>simp[Builtin.firstCells]
  |some ad=>simp[Builtin.firstCells,loadCells,loadCellsFrom]
 |cons y X=>
  obtain⟨ad,_,rfl,hsp,_⟩:=hx 0 y (by simp)
  obtain⟨vs,h1,h2,h3⟩:=lr (w:=C.w) (T:=C.T) (k:=ad.block) (y::X) ad.off fun i z hz=>by
   obtain⟨ad',cs,e,_,hc,hr⟩:=hx i z hz
   cases e
   exact⟨cs,hc,hr⟩
  exact⟨vs,h1,by simp[Builtin.lenOf],fun w hw=>iM hsp h1 fun j v hj=>hw _ _ _ (h2 j v hj),h3⟩
theorem xh{s:List UInt8}{v:Value}(hv:ay C (.str s) v):Source P C (.int .u8) (s.map fun b=>(b.toNat:Int)) v (s.map fun b=>.int .u8 b.toNat):=by
 simp only[ay]at hv
 subst hv
 have hsz:(ByteArray.mk ⟨s⟩).size=s.length:=rfl
 obtain⟨X,hX⟩:∃X:List Int,X=s.map fun b=>(b.toNat:Int):=⟨_,rfl⟩
 have hl:X.length=s.length:=by rw[hX];simp
 have hg:∀(i:Nat) (y:Int),X[i]? =some y→∃b:UInt8,s[i]? =some b∧y=(b.toNat:Int):=by
  intro i y h
  rw[hX,List.getElem?_map,Option.map_eq_some_iff]at h
  obtain⟨b,hb,rfl⟩:=h
  exact⟨b,hb,rfl⟩
 have main:∀(X':List (Ty.int .u8).den),X'.length=s.length→(∀(i:Nat) (y:(Ty.int .u8).den),X'[i]? =some y→∃b:UInt8,s[i]? =some b∧y=(b.toNat:Int))→
   Source P C (.int .u8) X' (.string ⟨⟨s⟩⟩) (s.map fun b=>.int .u8 b.toNat):=by
  intro X' hl hg
  refine⟨by simp[Ty.size,hl],by simp[Builtin.lenOf,hsz,hl],fun w _=>?_,fun i y h=>?_⟩
  ·simp only[Builtin.firstCells,Sem.run_pure,hl]
   congr 2
   have:(ByteArray.mk ⟨s⟩).extract 0 s.length=⟨⟨s⟩⟩:=by
    apply WideShapes.bytes_inj
    simp[ByteArray.data_extract]
   rw[this]
   simp
  ·simp only[Ty.size,Nat.mul_one]
   obtain⟨b,hb,e⟩:=hg i y h
   have:seg (s.map fun b=>Value.int .u8 b.toNat) i 1=[.int .u8 b.toNat]:=by
    apply List.ext_getElem?
    intro j
    rw[bL]
    cases j with
    |zero=>simp[hb]
    |succ j=>simp
   rw[this]
   show [Value.int .u8 b.toNat]=[Value.int .u8 y]
   rw[e]
 subst hX
 exact main _ hl hg
theorem Source.one{t:Ty}{X:List t.den}{x:Value}{vs:List Value}(h:Source P C t X x vs)(hz:0<t.size):∀v∈vs,v.oneCell'=true:=by
 intro v hv
 obtain⟨j,hj,rfl⟩:=List.getElem_of_mem hv
 have hlen:=h.len
 have hi:j/t.size<X.length:=(Nat.div_lt_iff_lt_mul hz).2 (by omega)
 have hr:=h.rep (j/t.size) X[j/t.size] (by simp[hi])
 refine jx (dw hr) (lI _ _) _ ?_
 have hm:=Nat.div_add_mod j t.size
 have hml:=Nat.mod_lt j hz
 have:(seg vs (j/t.size*t.size) t.size)[j%t.size]? =some vs[j]:=by
  rw[bL,if_pos hml,Nat.mul_comm,hm]
  simp[hj]
 exact List.mem_of_getElem? this
end Go.Sx
namespace Go.Sx
open Go
variable{P:Program}{E:Env}{C:Ctx}
structure AppTy(P:Program)(t t' e:TypeId)(ei:TypeInfo)(z:Value)(es:Nat):Prop where
 st:P.underlying t=some (.slice e)
 xt:∃d,P.underlying t'=some d∧∀k,d≠ .int k
 inf:P.info? e=some ei
 ez:ei.zero=some z
 size:ei.size=es
 zsize:z.cells.size=es
 bytes:ei.bytes≤1024
theorem je{d:TypeDesc}(h:∀k,d≠ .int k):(match d with| .int _=>true|_=>false)=false:=by
 cases d<;>first
  |rfl
  |exact(h _ rfl).elim
theorem p8(n:Nat):∀(r c:Nat),c<n→Builtin.growBy n r c≤2*n+192
 |0,c,h=>by simp[Builtin.growBy];omega
 |r+1,c,h=>by
  simp only[Builtin.growBy]
  split
  ·omega
  ·by_cases h2:c+(c+768)/4<n
   ·exact p8 n r _ h2
   ·cases r with
    |zero=>simp only[Builtin.growBy];omega
    |succ r=>
     simp only[Builtin.growBy]
     rw[if_pos (by omega)]
     omega
theorem wI{n c:Nat}(h:c<n):Builtin.nextslicecap n c≤2*n+192:=by
 unfold Builtin.nextslicecap
 split
 ·omega
 ·split
  ·omega
  ·exact p8 n 4 c h
theorem nJ(z:Array Value)(n:Nat):(Builtin.zeroCells z n).size=n*z.size:=by simp[Builtin.zeroCells]
theorem eM{t t' e ty:TypeId}{ei:TypeInfo}{z:Value}{es:Nat}(hT:AppTy P t t' e ei z es){w w':World}{base:Option Addr}{sLen sCap n:Nat}{x:Value}{vs:List Value}
  (hl:(Builtin.lenOf x).run P w= .ok n w) (hr:(Builtin.firstCells es n x).run P w= .ok vs.toArray w) (hfit:sLen+n≤sCap)
  (hst:match base with|some a=>(storeCells (a.add (sLen*es)) vs).run P w= .ok () w'|none=>w'=w):
  (Builtin.append_ #[t,t'] ty #[.slice base sLen sCap,x]).run P w= .ok (.slice base (sLen+n) sCap) w':=by
 obtain⟨d,hd,hk⟩:=hT.xt
 have hm:=je hk
 cases base with
 |none=>
  simp only at hst
  subst hst
  simp[Builtin.append_,ao hT.st,ao hd,bm hT.inf,hT.size,hl,hr,hfit]
 |some a=>
  simp only at hst
  simp[Builtin.append_,ao hT.st,ao hd,bm hT.inf,hT.size,hl,hr,hfit,hst]
theorem run_append_grow{t t' e ty:TypeId}{ei:TypeInfo}{z:Value}{es:Nat}(hT:AppTy P t t' e ei z es){w:World}{base:Option Addr}{sLen sCap n:Nat}{x:Value}{os vs:List Value}
  (hl:(Builtin.lenOf x).run P w= .ok n w) (ho:(Builtin.firstCells es sLen (.slice base sLen sCap)).run P {w with drawn:=w.drawn+1}= .ok os.toArray {w with drawn:=w.drawn+1})
  (hr:(Builtin.firstCells es n x).run P {w with drawn:=w.drawn+1}= .ok vs.toArray {w with drawn:=w.drawn+1}) (hno:sCap<sLen+n) (hbig:sLen+n<ar)
  (hol:os.length=sLen*es) (hvl:vs.length=n*es):
  ∃newCap rest,(Builtin.append_ #[t,t'] ty #[.slice base sLen sCap,x]).run P w=
    .ok (.slice (some ⟨w.heap.size,0,none⟩) (sLen+n) newCap) {w with heap:=w.heap.push (.cells (os++(vs++rest)).toArray e),drawn:=w.drawn+1}∧
   sLen+n≤newCap∧(os++(vs++rest)).length=newCap*es:=by
 obtain⟨d,hd,hk⟩:=hT.xt
 have hm:=je hk
 have hmr:ar=68719476736:=by decide
 have hcap:=wI hno
 have hfit:¬(sLen+n≤sCap):=by omega
 have h1:¬(Builtin.nextslicecap (sLen+n) sCap*ei.bytes>2^48):=by
  have e48:(2:Nat)^48=281474976710656:=by decide
  have hb:=hT.bytes
  have:=Nat.mul_le_mul hcap hb
  omega
 have h2:¬(((sLen+n:Nat):Int)>IntKind.i64.max∧((false=true)∨ei.bytes=0)):=by
  intro h
  have:IntKind.i64.max=9223372036854775807:=by decide
  rw[this]at h
  omega
 obtain⟨tp,htp⟩:∃tp,tp=(Question.appendCap (sLen+n) sCap e).cut (w.tape w.drawn (.appendCap (sLen+n) sCap e)):=⟨_,rfl⟩
 have hge:sLen+n≤tp:=by rw[htp];simp[Question.cut]
 refine⟨tp,(Builtin.zeroCells z.cells (tp-(sLen+n))).toList,?_,hge,?_⟩
 ·have h2':¬(IntKind.i64.max<(sLen:Int)+(n:Int)∧ei.bytes=0):=fun h=>h2 ⟨by simpa using h.1,.inr h.2⟩
  have hmax:IntKind.i64.max=9223372036854775807:=by decide
  simp[Builtin.append_,ao hT.st,ao hd,bm hT.inf,hT.size,hl,hr,ho,hfit,dO hT.inf,h1,Question.forced,←htp,dz hT.inf hT.ez,newRow]
  rw[if_neg (by omega)]
  have ho':(Builtin.firstCells es sLen (.slice base sLen sCap)).run P w.drew= .ok os.toArray w.drew:=ho
  have hr':(Builtin.firstCells es n x).run P w.drew= .ok vs.toArray w.drew:=hr
  rw[ho']
  simp only[Result.andThen_ok]
  rw[hr']
  simp only[Result.andThen_ok]
  have e:os.toArray++(vs.toArray++Builtin.zeroCells z.cells (tp-(sLen+n)))=(os++(vs++(Builtin.zeroCells z.cells (tp-(sLen+n))).toList)).toArray:=by
   apply Array.ext'
   simp
  rw[e]
  rfl
 ·simp only[List.length_append,hol,hvl,Array.length_toList,nJ,hT.zsize]
  rw[←Nat.add_assoc,←Nat.add_mul,←Nat.add_mul]
  congr 1
  omega
end Go.Sx
namespace Go.Sx
open Go
variable{P:Program}{E:Env}{C:Ctx}
section
variable{ρ:Operand→Value}{lk:bc}{o:Oper}{r:OpR}{id:Nat}
theorem dk{as:Array Operand}{ts:Array TypeId}(ho:o.op= .call {callee:=.builtin .append,args:=as,argTypes:=ts}){a b:Operand}(ha:as.toList=[a,b]){t t':TypeId}(ht:ts.toList=[t,t'])
  {v:Value} {w w':World} (h:(Builtin.append_ #[t,t'] o.type #[ρ a,ρ b]).run P w= .ok v w'):(execOp ρ o).run P w= .ok (.value v) w':=by
 have has:as= #[a,b]:=by apply Array.ext';simpa using ha
 have hts:ts= #[t,t']:=by apply Array.ext';simpa using ht
 subst has hts
 simp[execOp,ho,resolve,invoke,builtin,h]
theorem u7{α:Type}(a b:List α)(i n:Nat)(h:i+n≤a.length):seg (a++b) i n=seg a i n:=by
 apply List.ext_getElem?
 intro j
 rw[bL,bL]
 by_cases hj:j<n
 ·rw[if_pos hj,if_pos hj,List.getElem?_append_left (by omega)]
 ·rw[if_neg hj,if_neg hj]
theorem AY{α:Type}(a b:List α)(i n:Nat):seg (a++b) (a.length+i) n=seg b i n:=by
 apply List.ext_getElem?
 intro j
 rw[bL,bL]
 by_cases hj:j<n
 ·rw[if_pos hj,if_pos hj,List.getElem?_append_right (by omega)]
  congr 1
  omega
 ·rw[if_neg hj,if_neg hj]
theorem uI{w:World}{T:Nat→Nat→Prop}{t:Ty}{L X:List t.den}{os vs rest:List Value}(ho:os.length=L.length*t.size)(hv:vs.length=X.length*t.size)
  (h1:∀i y,L[i]? =some y→Rep w T t y (seg os (i*t.size) t.size)) (h2:∀i y,X[i]? =some y→Rep w T t y (seg vs (i*t.size) t.size)):
  ∀i y,(L++X)[i]? =some y→Rep w T t y (seg (os++(vs++rest)) (i*t.size) t.size):=by
 intro i y hy
 by_cases hi:i<L.length
 ·rw[List.getElem?_append_left hi]at hy
  have hb:(i+1)*t.size≤L.length*t.size:=Nat.mul_le_mul_right _ hi
  rw[Nat.add_mul,Nat.one_mul]at hb
  rw[u7 _ _ _ _ (by omega)]
  exact h1 i y hy
 ·rw[List.getElem?_append_right (by omega)]at hy
  have hb2:i-L.length<X.length:=(List.getElem?_eq_some_iff.1 hy).1
  have hb:(i-L.length+1)*t.size≤X.length*t.size:=Nat.mul_le_mul_right _ hb2
  rw[Nat.add_mul,Nat.one_mul]at hb
  have e:i*t.size=os.length+(i-L.length)*t.size:=by rw[ho,←Nat.add_mul];congr 1;omega
  rw[e,AY,u7 _ _ _ _ (by omega)]
  exact h2 _ y hy
theorem mM(hs:SRel C){as:Array Operand}{ts:Array TypeId}(ho:o.op= .call {callee:=.builtin .append,args:=as,argTypes:=ts}){a b:Operand}(ha:as.toList=[a,b]){t t':TypeId}(ht:ts.toList=[t,t'])
  {e:TypeId} {ei:TypeInfo} {z:Value} {ty:Ty} (hT:AppTy P t t' e ei z ty.size) {b0 g:Nat} (hv:ay C (.own b0 g) (ρ a)) {sh:Bool} {L X:List ty.den} (hm:C.m b0=some (.list e ty g sh L)) {vs:List Value} (hS:Source P C ty X (ρ b) vs)
  (hbig:L.length+X.length<ar):Good P C ρ o (.own b0 (g+1)) (bA C.m b0 (some (.list e ty (g+1) sh (L++X)))):=by
 obtain⟨ba,cap,hp,hva,hc,hz⟩:=iT hs hv hm
 obtain⟨ba',cap',hgg,_,_,hbk⟩:=hs.ok b0 _ hm
 rw[hp]at hgg
 cases hgg
 have hvl:=hS.len
 by_cases hfit:L.length+X.length≤cap
 ·
  cases ba with
  |none=>
   have hc0:cap=0:=hbk
   have hX:X=[]:=List.length_eq_zero_iff.1 (by omega)
   have hL:L=[]:=List.length_eq_zero_iff.1 (by omega)
   subst hX hL hc0
   have hrun:=dk (P:=P) (ρ:=ρ) ho ha ht (by rw[hva];exact eM hT (w':=C.w) hS.lenOf (hS.read C.w fun _ _ _ h=>h) hfit rfl)
   have key:=gr hs (id:=b0) (b':=.list e ty (g+1) sh []) (g':=C.φ b0) (fun k hk=>⟨_,hm,hk⟩) (fun k o' hk=>by rw[hp]at hk;exact hk.elim)
    (fun _ cs h=>by rw[hm]at h;cases h) (fun _ t2 g2 sh2 L2 h=>by rw[hm]at h;cases h;exact⟨g+1,sh,[],rfl,by omega,fun e=>by omega⟩)
   simp only[du]at key
   obtain⟨hEx,hok⟩:=key
   exact⟨_,⟨C.w,bA C.m b0 (some (.list e ty (g+1) sh [])),C.φ,C.fr,C.gl⟩,.inl hrun,rfl,hok ⟨none,0,hp,hz,Nat.le_refl _,rfl⟩,hEx,e,ty,g+1,sh,[],by simp[bA],Nat.le_refl _,none,0,0,rfl,fun _=>⟨hp,rfl⟩⟩
  |some ad=>
   obtain⟨hsp,c,lo,hi,hh,hcs,hfz,hsh,hx⟩:=hbk
   obtain⟨k0,o0,sp⟩:=ad
   simp only at hsp hh hcs hfz hsh hx
   subst hsp
   have hLX:(L.length+X.length)*ty.size≤cap*ty.size:=Nat.mul_le_mul_right _ hfit
   rw[Nat.add_mul]at hLX
   have hst:=run_storeCells_atF P k0 (o0+L.length*ty.size) e (lo,hi) vs 0 c C.w hh (by
    simp only[Nat.add_zero]
    refine Nat.le_trans hfz ?_
    split<;>omega) (by rw[hvl];omega) (hS.one hz)
   simp only[Nat.add_zero]at hst
   obtain⟨c',hc'⟩:∃c':Array Value,c'=(c.toList.take (o0+L.length*ty.size)++vs++c.toList.drop (o0+L.length*ty.size+vs.length)).toArray:=⟨_,rfl⟩
   rw[←hc']at hst
   have hcl:c.toList.length=c.size:=by simp
   have hcl':c'.toList=c.toList.take (o0+L.length*ty.size)++vs++c.toList.drop (o0+L.length*ty.size+vs.length):=by rw[hc']
   have hrun:=dk (P:=P) (ρ:=ρ) ho ha ht (by rw[hva];exact eM hT (w':=C.w.setRow k0 c') hS.lenOf (hS.read C.w fun _ _ _ h=>h) hfit (by simp only[addr_add];exact hst))
   have hlen:(L++X).length*ty.size=L.length*ty.size+X.length*ty.size:=by rw[List.length_append,Nat.add_mul]
   obtain⟨hEx,hok⟩:=sP hs (b':=.list e ty (g+1) sh (L++X)) (c':=c') hm hh (by rw[hp];rfl) (fun k o' hk=>by
     rw[hp]at hk⊢
     simp only[bJ]at hk⊢
     refine⟨hk.1,?_,hk.2.2⟩
     have h2:=hk.2.1
     cases sh with
     |true=>simp only[if_true]at h2⊢;omega
     |false=>simpa using h2)
    (fun _ _ h=>by cases h) (fun _ t2 g2 sh2 L2 h=>by cases h;exact⟨g+1,sh,L++X,rfl,by omega,fun e=>by omega⟩)
    (fun j hn=>by
     rw[hp]at hn
     simp only[bJ,true_and]at hn
     have hn':¬(o0+L.length*ty.size≤j∧j<o0+L.length*ty.size+vs.length):=by
      intro hh2
      refine hn ⟨?_,by rw[hvl]at hh2;omega⟩
      split<;>omega
     have:=nb c.toList vs (o0+L.length*ty.size) j 1 (by rw[hvl];omega) (by omega)
     rw[←hcl']at this
     have:=congrArg (·[0]?) this
     simpa [bL]using this)
   refine⟨_,⟨C.w.setRow k0 c',bA C.m b0 (some (.list e ty (g+1) sh (L++X))),C.φ,C.fr,C.gl⟩,.inl hrun,rfl,hok ⟨some ⟨k0,o0,none⟩,cap,hp,hz,by rw[List.length_append];exact hfit,rfl,c',lo,hi,setRow_heap C.w k0 c _ e (lo,hi) hh,?_,?_,?_,?_⟩,hEx,
    e,ty,g+1,sh,L++X,by simp[bA],Nat.le_refl _,_,_,_,rfl,fun _=>⟨hp,by simp⟩⟩
   ·have:c'.toList.length=c.size:=by
     rw[hcl']
     simp only[List.length_append,List.length_take,List.length_drop,hcl,hvl]
     omega
    have:c'.size=c.size:=by simpa using this
    rw[this]
    exact hcs
   ·refine Nat.le_trans hfz ?_
    simp only
    split<;>omega
   ·intro hsh' o' h1 h2 hT'
    simp only at h1 h2
    rcases hT' with hf|⟨j,bj,hj,hoj⟩
    ·exact hs.frApart _ _ hf ⟨b0,_,hm,by rw[hp];rfl⟩
    ·by_cases ej:j=b0
     ·subst ej
      simp only[bA,if_true,Option.some.injEq]at hj
      subst hj
      subst hsh'
      simp only[hp,bJ,if_true]at hoj
      omega
     ·simp only[bA,if_neg ej]at hj
      exact hs.apart j bj b0 _ _ hj hm ej (cn hoj) (by rw[hp];rfl)
   ·intro i y hy
    simp only
    rw[hcl']
    by_cases hi2:i<L.length
    ·rw[List.getElem?_append_left hi2]at hy
     have hb2:(i+1)*ty.size≤L.length*ty.size:=Nat.mul_le_mul_right _ hi2
     rw[Nat.add_mul,Nat.one_mul]at hb2
     rw[nb c.toList vs (o0+L.length*ty.size) (o0+i*ty.size) ty.size (by rw[hvl];omega) (by left;omega)]
     exact(hx i y hy).mono hEx.keep
    ·rw[List.getElem?_append_right (by omega)]at hy
     have hb2:i-L.length<X.length:=(List.getElem?_eq_some_iff.1 hy).1
     have hb3:(i-L.length+1)*ty.size≤X.length*ty.size:=Nat.mul_le_mul_right _ hb2
     rw[Nat.add_mul,Nat.one_mul]at hb3
     have ei:i*ty.size=L.length*ty.size+(i-L.length)*ty.size:=by rw[←Nat.add_mul];congr 1;omega
     have:seg (c.toList.take (o0+L.length*ty.size)++vs++c.toList.drop (o0+L.length*ty.size+vs.length)) (o0+i*ty.size) ty.size=seg vs ((i-L.length)*ty.size) ty.size:=by
      apply List.ext_getElem?
      intro j
      rw[bL,bL]
      by_cases hj:j<ty.size
      ·rw[if_pos hj,if_pos hj]
       have l1:(c.toList.take (o0+L.length*ty.size)).length=o0+L.length*ty.size:=by simp;omega
       rw[List.append_assoc,List.getElem?_append_right (by omega),l1,List.getElem?_append_left (by rw[hvl];omega)]
       congr 1
       omega
      ·rw[if_neg hj,if_neg hj]
     rw[this]
     exact(hS.rep _ y hy).mono hEx.keep
 ·
  obtain⟨os,hO⟩:=gz (P:=P) hs hv (t:=ty) (X:=L) (m:=[b0]) (by simp[dd,hm])
  obtain⟨newCap,rest,hrun0,hge,hlen⟩:=run_append_grow (ty:=o.type) hT (w:=C.w) (base:=ba) (sLen:=L.length) (sCap:=cap) (x:=ρ b) (os:=os) (vs:=vs) hS.lenOf
   (by rw[←hva];exact hO.read _ fun _ _ _ h=>h) (hS.read _ fun _ _ _ h=>h) (by omega) hbig hO.len hvl
  have hrun:=dk (P:=P) (ρ:=ρ) ho ha ht (by rw[hva];exact hrun0)
  obtain⟨hEx,hok⟩:=lM hs (id:=b0) (b':=.list e ty (g+1) sh (L++X)) (g':=.list (some ⟨C.w.heap.size,0,none⟩) newCap)
   (w':={C.w with heap:=C.w.heap.push (.cells (os++(vs++rest)).toArray e),drawn:=C.w.drawn+1}) (by simp)
   (fun k hk _=>by simp only[Array.getElem?_push];rw[if_neg (by omega)]) (fun k hk=>.inr (by rw[show k=C.w.heap.size from hk];exact Nat.le_refl _)) (fun k o' hk=>.inr (by rw[show k=C.w.heap.size from cn hk];exact Nat.le_refl _))
   (fun _ cs h=>by rw[hm]at h;cases h) (fun _ t2 g2 sh2 L2 h=>by rw[hm]at h;cases h;exact⟨g+1,sh,L++X,rfl,by omega,fun e=>by omega⟩)
   (fun k o' v hv' _=>by
    have hk:k<C.w.heap.size:=by
     unfold World.cell? at hv'
     split at hv'
     ·rename_i hh;exact(Array.getElem?_eq_some_iff.1 hh).1
     ·cases hv'
    unfold World.cell? at hv'⊢
    simp only[Array.getElem?_push]
    rw[if_neg (show ¬k=C.w.heap.size by omega)]
    exact hv') rfl rfl rfl
  refine⟨_,_,.inl hrun,rfl,hok ⟨some ⟨C.w.heap.size,0,none⟩,newCap,rfl,hz,by rw[List.length_append];exact hge,rfl,_,0,0,by simp;rfl,?_,by simp,?_,?_⟩,hEx,
   e,ty,g+1,sh,L++X,by simp[bA],Nat.le_refl _,_,_,_,rfl,fun _=>⟨by simp[bA],by simp⟩⟩
  ·simp only[Nat.zero_add,List.size_toArray]
   rw[hlen]
   exact Nat.le_refl _
  ·intro hsh' o' h1 h2 hT'
   simp only at h1 h2 hT'
   rcases hT' with hf|⟨j,bj,hj,hoj⟩
   ·have:=hs.frOld _ _ hf;omega
   ·by_cases ej:j=b0
    ·subst ej
     simp only[bA,if_true,Option.some.injEq]at hj
     subst hj
     subst hsh'
     simp only[bA,if_true,bJ]at hoj
     omega
    ·simp only[bA,if_neg ej]at hj hoj
     have:=(hs.ok j bj hj).lt (cn hoj)
     omega
  ·intro i y hy
   simp only[Nat.zero_add]
   have:=uI (w:=C.w) (T:=C.T) (rest:=rest) hO.len hvl hO.rep hS.rep i y hy
   exact this.mono hEx.keep
theorem hZ(hs:SRel C)(hid:C.m id=none){as:Array Operand}{ts:Array TypeId}(ho:o.op= .call {callee:=.builtin .append,args:=as,argTypes:=ts}){a b:Operand}(ha:as.toList=[a,b]){t t':TypeId}(ht:ts.toList=[t,t'])
  {e:TypeId} {ei:TypeInfo} {z:Value} {ty:Ty} (hT:AppTy P t t' e ei z ty.size) (hz:0<ty.size) {base:Option Addr} {cap:Nat} {L X:List ty.den} (hva:ρ a= .slice base L.length cap) {os vs:List Value} (hO:Source P C ty L (ρ a) os) (hS:Source P C ty X (ρ b) vs)
  (hbig:L.length+X.length<ar) (hno:cap<L.length+X.length):Good P C ρ o (.own id 0) (bA C.m id (some (.list e ty 0 false (L++X)))):=by
 obtain⟨newCap,rest,hrun0,hge,hlen⟩:=run_append_grow (ty:=o.type) hT (w:=C.w) (base:=base) (sLen:=L.length) (sCap:=cap) (x:=ρ b) (os:=os) (vs:=vs) hS.lenOf
  (by rw[←hva];exact hO.read _ fun _ _ _ h=>h) (hS.read _ fun _ _ _ h=>h) hno hbig hO.len hS.len
 have hrun:=dk (P:=P) (ρ:=ρ) ho ha ht (by rw[hva];exact hrun0)
 have key:=gY (P:=P) (ρ:=ρ) (o:=o) hs hid (ms:=[]) (t:=ty) (L:=L++X) (cells:=(os++(vs++rest)).toArray) (e:=e) (cap:=newCap)
  (w':={C.w with heap:=C.w.heap.push (.cells (os++(vs++rest)).toArray e),drawn:=C.w.drawn+1}) rfl rfl rfl rfl hz (by rw[List.length_append];exact hge) (by simp only[List.size_toArray];rw[hlen];exact Nat.le_refl _)
  (fun T' hT' _ i y hy=>(uI (w:=C.w) (T:=C.T) (rest:=rest) hO.len hS.len hO.rep hS.rep i y hy).monoT hT') (by rw[List.length_append];exact hrun)
 exact key
end
end Go.Sx
namespace Go.Sx
open Go
variable{P:Program}{E:Env}{C:Ctx}
section
variable{ρ:Operand→Value}{lk:bc}{o:Oper}{r:OpR}{id:Nat}
theorem na(hs:SRel C)(hid:C.m id=none){as:Array Operand}{ts:Array TypeId}(ho:o.op= .call {callee:=.builtin .append,args:=as,argTypes:=ts}){a b:Operand}(ha:as.toList=[a,b]){t t':TypeId}(ht:ts.toList=[t,t'])
  {e:TypeId} {ei:TypeInfo} {z:Value} {ty:Ty} (hT:AppTy P t t' e ei z ty.size) (hz:0<ty.size) {X:List ty.den} (hva:ρ a= .slice none 0 0) {vs:List Value} (hS:Source P C ty X (ρ b) vs)
  (hbig:X.length<ar):Good P C ρ o (.own id 0) (bA C.m id (some (.list e ty 0 false X))):=by
 cases X with
 |nil=>
  have hrun:=dk (P:=P) (ρ:=ρ) ho ha ht (by rw[hva];exact eM hT (w':=C.w) hS.lenOf (hS.read C.w fun _ _ _ h=>h) (Nat.le_refl _) rfl)
  obtain⟨hEx,hok⟩:=gr hs (id:=id) (b':=.list e ty 0 false []) (g':=.list none 0) (fun k hk=>hk.elim) (fun k o' hk=>hk.elim)
   (fun _ cs h=>by rw[hid]at h;cases h) (fun _ t2 g2 sh2 L2 h=>by rw[hid]at h;cases h)
  exact⟨_,⟨C.w,bA C.m id (some (.list e ty 0 false [])),bA C.φ id (.list none 0),C.fr,C.gl⟩,.inl hrun,rfl,hok ⟨none,0,rfl,hz,Nat.le_refl _,rfl⟩,hEx,e,ty,0,false,[],by simp[bA],Nat.le_refl _,none,0,0,rfl,fun _=>⟨by simp[bA],rfl⟩⟩
 |cons x X=>
  have hO:Source P C ty [] (ρ a) []:=⟨by simp,by rw[hva];simp[Builtin.lenOf],fun w _=>by rw[hva];simp[Builtin.firstCells],fun i y h=>by simp at h⟩
  have:=hZ hs hid ho ha ht hT hz (L:=[]) (X:=x::X) (by rw[hva];rfl) hO hS (by simpa using hbig) (by simp)
  simpa using this
theorem sO(hE:EnvOK E P)(hs:SRel C)(hρ:∀x,ay C (al lk x) (ρ x))(hid:C.m id=none){as:Array Operand}{ts:Array TypeId}(ho:o.op= .call {callee:=.builtin .append,args:=as,argTypes:=ts})
  (h:(opA E lk C.m id (.call {callee:=.builtin .append,args:=as,argTypes:=ts})).run=some r):b9 P C ρ o r:=by
 simp only[opA]at h
 split at h
 ·rename_i a b ha
  split at h
  ·rename_i t t' ht
   split at h
   ·rename_i ti ti' hti hti'
    obtain⟨i1,d1,z1,hT1⟩:=hE.T hti
    obtain⟨i2,d2,z2,hT2⟩:=hE.T hti'
    split at h
    ·exact(ab h).elim
    ·rename_i hnint
     split at h
     ·rename_i e htd
      have hd:=im hT1 htd
      split at h
      ·rename_i te hte
       obtain⟨i3,d3,z3,hT3⟩:=hE.T hte
       split at h
       ·rename_i hzl
        have hzl:=beq_eq hzl
        have mk:∀{ty:Ty},(Nat.beq ty.size te.size&&(Nat.ble 1 te.size&&Nat.ble te.bytes 1024))=true→AppTy P t t' e i3 z3 ty.size∧0<ty.size:=by
         intro ty hck
         simp only[Bool.and_eq_true]at hck
         obtain⟨c1,c2,c3⟩:=hck
         have c1:=beq_eq c1
         have c2:1≤te.size:=Nat.le_of_ble_eq_true c2
         have c3:te.bytes≤1024:=Nat.le_of_ble_eq_true c3
         refine⟨⟨by rw[hT1.und,hd],⟨d2,hT2.und,fun k hk=>?_⟩,hT3.info,hT3.zero,by rw[hT3.size,c1],?_,by rw[hT3.bytes];exact c3⟩,by omega⟩
         ·have:=hT2.td
          rw[hk]at this
          exact hnint k this.symm
         ·rw[c1,←hzl,hT3.zeros];simp
        have main:∀{ty:Ty} {X:List ty.den} {m:List Nat} {vs:List Value},Source P C ty X (ρ b) vs→(dC C.m id e te.size te.bytes (al lk a) ty X m).run=some r→b9 P C ρ o r:=by
         intro ty X m vs hS h
         unfold dC at h
         split at h
         ·exact(ab h).elim
         ·rename_i hck
          obtain⟨hT,hz⟩:=mk hck
          have hva:=hρ a
          split at h
          ·rename_i hn
           rw[hn]at hva
           simp only[ay]at hva
           obtain⟨hb,h⟩:=bF h
           simp only[decide_eq_true_eq]at hb
           rw[aX h]
           exact na hs hid ho ha ht hT hz hva hS hb
          ·rename_i b0 g hown
           rw[hown]at hva
           split at h
           ·rename_i ee ty' g' sh L hm
            split at h
            ·rename_i hg
             simp only[Bool.and_eq_true]at hg
             obtain⟨hg,hee⟩:=hg
             have hg:=beq_eq hg
             have hee:=beq_eq hee
             subst hg
             subst ee
             split at h
             ·rename_i X' hc
              obtain⟨rfl,rfl⟩:=di hc
              obtain⟨hb,h⟩:=bF h
              simp only[decide_eq_true_eq]at hb
              rw[aX h]
              exact mM hs ho ha ht hT hva hm hS hb
             ·exact(ab h).elim
            ·exact(ab h).elim
           ·exact(ab h).elim
          ·rename_i ty' L hsx
           split at h
           ·rename_i X' hc
            obtain⟨rfl,rfl⟩:=di hc
            obtain⟨hb,h⟩:=bF h
            simp only[Bool.and_eq_true,decide_eq_true_eq]at hb
            rw[aX h]
            obtain⟨os,hO⟩:=gz (P:=P) hs (hρ a) (t:=ty) (X:=L) (m:=[]) (by rw[hsx];rfl)
            rw[hsx]at hva
            obtain⟨ba,hv,_⟩:=hva
            exact hZ hs hid ho ha ht hT hz hv hO hS hb.2 (by omega)
           ·exact(ab h).elim
          ·exact(ab h).elim
        unfold kJ at h
        split at h
        ·rename_i hxn
         split at h
         ·rename_i hsn
          rw[aJ h]
          have hva:=hρ a
          have hvb:=hρ b
          rw[hsn]at hva
          rw[hxn]at hvb
          simp only[ay]at hva hvb
          refine Good.pure hs (v:=.slice none 0 0) ?_ (by simp[ay])
          have hm:AppTy P t t' e i3 z3 te.size∨True:=.inr trivial
          refine dk (P:=P) (ρ:=ρ) ho ha ht ?_
          rw[hva,hvb]
          have hnk:∀k,d2≠ .int k:=fun k hk=>by
           have:=hT2.td
           rw[hk]at this
           exact hnint k this.symm
          have hmi:=je hnk
          simp[Builtin.append_,ao hT1.und,hd,ao hT2.und,bm hT3.info,Builtin.lenOf,Builtin.firstCells]
         ·exact(ab h).elim
        ·rename_i c hxc
         have hvb:=hρ b
         rw[hxc]at hvb
         exact main (xh hvb) h
        ·split at h
         ·rename_i ty X m hso
          obtain⟨vs,hS⟩:=gz (P:=P) hs (hρ b) hso
          exact main hS h
         ·exact(ab h).elim
       ·exact(ab h).elim
      ·exact(ab h).elim
     ·exact(ab h).elim
   ·exact(ab h).elim
  ·exact(ab h).elim
 ·exact(ab h).elim
theorem xa(hE:EnvOK E P)(hs:SRel C)(hρ:∀x,ay C (al lk x) (ρ x)){as:Array Operand}{ts:Array TypeId}(ho:o.op= .call {callee:=.builtin .len,args:=as,argTypes:=ts})
  (h:(opA E lk C.m id (.call {callee:=.builtin .len,args:=as,argTypes:=ts})).run=some r):b9 P C ρ o r:=by
 simp only[opA]at h
 split at h
 ·rename_i a ha
  split at h
  ·rename_i t ht
   split at h
   ·rename_i ti hti
    split at h
    ·rename_i htd
     split at h
     ·rename_i s hs'
      rw[aJ h]
      exact l9 (av:=.undef) hE hs hρ ho ha ht hti (.inl ⟨htd,s,hs',rfl⟩)
     ·exact(ab h).elim
    ·rename_i e htd
     split at h
     ·rename_i hn
      rw[aJ h]
      exact l9 (av:=.undef) (n:=0) hE hs hρ ho ha ht hti (.inr ⟨e,htd,.inl ⟨hn,rfl⟩⟩)
     ·split at h
      ·rename_i ty L m hso
       rw[aX h]
       exact l9 (av:=.undef) hE hs hρ ho ha ht hti (.inr ⟨e,htd,.inr ⟨ty,L,m,hso,rfl⟩⟩)
      ·exact(ab h).elim
    ·exact(ab h).elim
   ·exact(ab h).elim
  ·exact(ab h).elim
 ·exact(ab h).elim
theorem wB(hs:SRel C)(hρ:∀x,ay C (al lk x) (ρ x)){as:Array Operand}{ts:Array TypeId}(ho:o.op= .call {callee:=.builtin .max,args:=as,argTypes:=ts})
  (h:(opA E lk C.m id (.call {callee:=.builtin .max,args:=as,argTypes:=ts})).run=some r):b9 P C ρ o r:=by
 simp only[opA]at h
 split at h
 ·rename_i a b ha
  split at h
  ·rename_i k x k' y hx hy
   split at h
   ·rename_i e
    subst e
    rw[aJ h]
    exact Ar hs hρ ho ha hx hy
   ·exact(ab h).elim
  ·exact(ab h).elim
 ·exact(ab h).elim
theorem Bp(hE:EnvOK E P)(hs:SRel C)(hρ:∀x,ay C (al lk x) (ρ x))(hid:C.m id=none){op:Op}(ho:o.op=op)(h:(opA E lk C.m id op).run=some r):b9 P C ρ o r:=by
 cases op with
 |move x=>exact w5 hs hρ ho h
 |assign x=>exact rQ hs hρ ho h
 |pick c a b=>exact vY hs hρ ho h
 |alloc t=>exact u6 hE hs hid ho h
 |box t x=>exact AS hs hρ hid ho h
 |build t ps=>exact uz hE hs hρ ho h
 |buildSlice t n ps=>exact lY hE hs hρ hid ho h
 |load t a=>exact wL hE hs hρ ho h
 |store t a x=>exact vf hE hs hρ ho h
 |nilCheck x=>exact pC hs hρ ho h
 |binOp op t x y t'=>exact tR hE hs hρ ho h
 |unOp op t x=>exact v7 hs hρ ho h
 |convert s d x=>exact pJ hE hs hρ ho h
 |makeInterface t x=>exact jE hE hs hρ ho h
 |makeSlice t l c=>exact mX hE hs hρ hid ho h
 |slice t x lo hi mx=>exact vT hE hs hρ ho h
 |fieldAddr t a f=>exact mS hE hs hρ ho h
 |field t x f=>exact tW hE hs hρ ho h
 |indexAddr t x i=>exact mZ hE hs hρ ho h
 |index t x i=>exact vg hE hs hρ ho h
 |extract x i=>exact pP hs hρ ho h
 |call c=>
  obtain⟨callee,as,ts⟩:=c
  cases callee with
  |value f=>exact(ab h).elim
  |invoke x m=>exact(ab h).elim
  |builtin b=>
   cases b<;>first
    |exact xa hE hs hρ ho h
    |exact sO hE hs hρ hid ho h
    |exact wB hs hρ ho h
    |exact(ab h).elim
 |_=>exact(ab h).elim
end
end Go.Sx
namespace Go.Sx
open Go
variable{P:Program}{E:Env}
structure Ren(C D:Ctx)(m:Nat→Nat)(S:Nat→Prop):Prop where
 keep:tZ C.w C.T D.w D.T
 cells:∀b ty cs,S b→C.m b=some (.cells ty cs)→D.φ (m b)=C.φ b∧∃cs',D.m (m b)=some (.cells ty cs')
 lists:∀b ee t g sh L,S b→C.m b=some (.list ee t g sh L)→D.φ (m b)=C.φ b∧D.m (m b)=some (.list ee t g sh L)
theorem Ren.refA{C D:Ctx}{m:Nat→Nat}{S:Nat→Prop}(h:Ren C D m S){a:AV}{v:Value}(hS:∀b∈refA a,S b)(hp:bZ a=true)(hv:ay C a v):ay D (kg m a) v:=by
 cases a with
 |undef=>trivial
 |bool b=>exact hv
 |int k n=>exact hv
 |flt k n=>exact hv
 |str s=>exact hv
 |nilp=>exact hv
 |nils=>exact hv
 |ref b off=>
  obtain⟨rb,ty,cs,h1,h2,h3⟩:=hv
  obtain⟨e,cs',h4⟩:=h.cells b ty cs (hS b (by simp[Sx.refA])) h1
  exact⟨rb,ty,cs',h4,e.trans h2,h3⟩
 |anyp=>exact hv
 |bself b=>
  obtain⟨rb,ty,cs,h1,h2,h3⟩:=hv
  obtain⟨e,cs',h4⟩:=h.cells b ty cs (hS b (by simp[Sx.refA])) h1
  exact⟨rb,ty,cs',h4,e.trans h2,h3⟩
 |pd t x off=>
  obtain⟨k,o,cs,h1,h2,h3⟩:=hv
  exact⟨k,o,cs,h1,h2.mono h.keep,h3.mono h.keep⟩
 |sl t L=>exact Rep.mono h.keep hv
 |sx t L=>
  obtain⟨a,h1,h2⟩:=hv
  exact⟨a,h1,Rep.mono h.keep h2⟩
 |own b g=>
  obtain⟨ee,t,g',sh,L,h1,h2,a,n,cap,h3,h4⟩:=hv
  obtain⟨e,h5⟩:=h.lists b ee t g' sh L (hS b (by simp[Sx.refA])) h1
  exact⟨ee,t,g',sh,L,h5,h2,a,n,cap,h3,fun hg=>⟨e.trans (h4 hg).1,(h4 hg).2⟩⟩
 |el b g i off=>
  obtain⟨ee,t,g',sh,L,h1,h2,k,o,h3,h4⟩:=hv
  obtain⟨e,h5⟩:=h.lists b ee t g' sh L (hS b (by simp[Sx.refA])) h1
  refine⟨ee,t,g',sh,L,h5,h2,k,o,h3,fun hg=>?_⟩
  obtain⟨a,cap,h6,h7⟩:=h4 hg
  exact⟨a,cap,e.trans h6,h7⟩
 |fn f cap=>
  obtain⟨vs,h1,h2⟩:=hv
  have:cap=[]:=by simpa [bZ]using hp
  subst this
  exact⟨vs,h1,h2⟩
 |nilf=>exact hv
 |iface t x=>
  obtain⟨u,h1,h2⟩:=hv
  refine⟨u,h1,?_⟩
  simp only[bZ]at hp
  have key:∀{y:AV} {w:Value},wT y=true→ay C y w→ay D y w:=by
   intro y w hq hy
   cases y<;>first
    |(cases hq;done)
    |exact hy
    |exact Rep.mono h.keep hy
    |(obtain⟨k,o,cs,e1,e2,e3⟩:=hy;exact⟨k,o,cs,e1,e2.mono h.keep,e3.mono h.keep⟩)
    |(obtain⟨a,e1,e2⟩:=hy;exact⟨a,e1,Rep.mono h.keep e2⟩)
  have keyL:∀{ys:List AV} {ws:List Value},ys.all wT=true→au C ys ws→au D ys ws:=by
   intro ys
   induction ys with
   |nil=>intro ws _ hy;exact hy
   |cons y ys ih=>
    intro ws hq hy
    obtain⟨w,r,rfl,e1,e2⟩:=hy
    simp only[List.all_cons,Bool.and_eq_true]at hq
    exact⟨w,r,rfl,key hq.1 e1,ih hq.2 e2⟩
  cases x with
  |agg cs=>
   obtain⟨vs,e1,e2⟩:=h2
   exact⟨vs,e1,keyL hp e2⟩
  |_=>
   simp only[AV.cells,List.all_cons,List.all_nil,Bool.and_true]at hp
   exact key hp h2
 |nili=>exact hv
 |agg cs=>simp[bZ]at hp
 |tup cs=>simp[bZ]at hp
theorem Ren.cellsL{C D:Ctx}{m:Nat→Nat}{S:Nat→Prop}(h:Ren C D m S):∀{as:List AV} {vs:List Value},(∀b∈ep as,S b)→as.all bZ=true→au C as vs→au D (as.map (kg m)) vs
 |[],_,_,_,hv=>hv
 |a::as,_,hS,hp,hv=>by
  obtain⟨v,r,rfl,h1,h2⟩:=hv
  simp only[ep,List.flatMap_cons,List.mem_append]at hS
  simp only[List.all_cons,Bool.and_eq_true]at hp
  exact⟨v,_,rfl,h.refA (fun b hb=>hS b (.inl hb)) hp.1 h1,h.cellsL (fun b hb=>hS b (.inr hb)) hp.2 h2⟩
theorem Ren.relC{C D:Ctx}{m:Nat→Nat}{S:Nat→Prop}(h:Ren C D m S){a:AV}{v:Value}(hS:∀b∈ep a.cells,S b)(hp:a.cells.all bZ=true)(hv:ay C a v):ay D (vd m a) v:=by
 cases a with
 |agg cs=>
  obtain⟨vs,h1,h2⟩:=hv
  exact⟨vs,h1,h.cellsL hS hp h2⟩
 |_=>
  simp only[AV.cells,ep,List.flatMap_cons,List.flatMap_nil,List.append_nil,List.all_cons,List.all_nil,Bool.and_true]at hS hp
  exact h.refA hS hp hv
theorem Ren.relV{C D:Ctx}{m:Nat→Nat}{S:Nat→Prop}(h:Ren C D m S){a:AV}{v:Value}(hS:∀b∈gS a,S b)(hp:bz a=true)(hv:ay C a v):ay D (il m a) v:=by
 cases a with
 |tup vs=>
  obtain⟨us,h1,h2⟩:=hv
  refine⟨us,h1,?_⟩
  simp only[gS,bz]at hS hp
  revert h2 hS hp
  generalize us.toList=ws
  clear h1
  induction vs generalizing ws with
  |nil=>intro _ _ h2;exact h2
  |cons x xs ih=>
   intro hS hp h2
   obtain⟨w,r,rfl,e1,e2⟩:=h2
   simp only[List.flatMap_cons,List.mem_append]at hS
   simp only[List.all_cons,Bool.and_eq_true]at hp
   exact⟨w,_,rfl,h.relC (fun b hb=>hS b (.inl hb)) hp.1 e1,ih _ (fun b hb=>hS b (.inr hb)) hp.2 e2⟩
 |agg cs=>exact h.relC (a:=.agg cs) hS hp hv
 |_=>exact h.refA (by simpa only[gS]using hS) (by simpa only[bz]using hp) hv
theorem Ren.args{C D:Ctx}{m:Nat→Nat}{S:Nat→Prop}(h:Ren C D m S):∀{as:List AV} {vs:List Value},(∀b∈as.flatMap gS,S b)→as.all bz=true→au C as vs→au D (as.map (il m)) vs
 |[],_,_,_,hv=>hv
 |a::as,_,hS,hp,hv=>by
  obtain⟨v,r,rfl,h1,h2⟩:=hv
  simp only[List.flatMap_cons,List.mem_append]at hS
  simp only[List.all_cons,Bool.and_eq_true]at hp
  exact⟨v,_,rfl,h.relV (fun b hb=>hS b (.inl hb)) hp.1 h1,h.args (fun b hb=>hS b (.inr hb)) hp.2 h2⟩
theorem any_beq{l:List Nat}{b:Nat}:l.any (Nat.beq b)=true↔b∈l:=by
 rw[List.any_eq_true]
 constructor
 ·rintro ⟨x,hx,h⟩;rw[beq_eq h];exact hx
 ·intro h;exact⟨b,h,by simp⟩
theorem kI{get:Get}:∀{n:Nat} {todo acc ids:List Nat},reach get n todo acc=some ids→acc.Nodup→(∀b∈acc,∀c∈kW (get b),c∈acc∨c∈todo)→
  ids.Nodup∧(∃more,ids=acc++more)∧(∀b∈todo,b∈ids)∧(∀b∈ids,∀c∈kW (get b),c∈ids)
 |n,[],acc,ids,h,hd,hc=>by
  have:ids=acc:=by cases n<;>simpa [reach,eq_comm]using h
  subst this
  exact⟨hd,⟨[],by simp⟩,by simp,fun b hb c hcc=>(hc b hb c hcc).resolve_right (by simp)⟩
 |0,_::_,_,_,h,_,_=>by simp[reach]at h
 |n+1,b::todo,acc,ids,h,hd,hc=>by
  simp only[reach]at h
  split at h
  ·rename_i hb
   have hb:=any_beq.1 hb
   obtain⟨h1,⟨more,h2⟩,h3,h4⟩:=kI h hd (fun x hx c hcx=>(hc x hx c hcx).elim .inl fun hh=>by
    rcases List.mem_cons.1 hh with e|e
    ·exact .inl (e▸hb)
    ·exact .inr e)
   exact⟨h1,⟨more,h2⟩,fun x hx=>by
    rcases List.mem_cons.1 hx with e|e
    ·rw[e,h2];exact List.mem_append_left _ hb
    ·exact h3 x e,h4⟩
  ·rename_i hb
   have hb:b∉acc:=fun hh=>by rw[any_beq.2 hh]at hb;cases hb
   obtain⟨h1,⟨more,h2⟩,h3,h4⟩:=kI h (by
     rw[List.nodup_append]
     exact⟨hd,by simp,by intro x hx y hy;simp at hy;subst hy;intro e;subst e;exact hb hx⟩) (fun x hx c hcx=>by
    rcases List.mem_append.1 hx with e|e
    ·rcases hc x e c hcx with e2|e2
     ·exact .inl (List.mem_append_left _ e2)
     ·rcases List.mem_cons.1 e2 with e3|e3
      ·exact .inl (by simp[e3])
      ·exact .inr (List.mem_append_left _ e3)
    ·simp at e;subst e;exact .inr (List.mem_append_right _ hcx))
   refine⟨h1,⟨b::more,by rw[h2];simp⟩,fun x hx=>?_,h4⟩
   rcases List.mem_cons.1 hx with e|e
   ·rw[e,h2];simp
   ·exact h3 x (List.mem_append_left _ e)
theorem ly:∀{l:List Nat} {b:Nat},b∈l→l[posOf l b]? =some b
 |[],b,h=>by cases h
 |a::l,b,h=>by
  simp only[posOf]
  split
  ·rename_i e;simp[beq_eq e]
  ·rename_i e
   have hne:a≠b:=fun hh=>by subst hh;simp at e
   simpa using ly ((List.mem_cons.1 h).resolve_left (Ne.symm hne))
theorem cu{get:Get}:∀{ids:List Nat} {l:List Blk},getAll get ids=some l→l.length=ids.length∧∀(i b:Nat),ids[i]? =some b→l[i]? =get b∧(get b).isSome=true
 |[],l,h=>by simp[getAll]at h;subst h;simp
 |a::ids,l,h=>by
  simp only[getAll]at h
  split at h
  ·rename_i x l' hx hl
   simp only[Option.some.injEq]at h
   subst h
   obtain⟨h1,h2⟩:=cu hl
   refine⟨by simp[h1],fun i b hi=>?_⟩
   cases i with
   |zero=>
    simp only[List.getElem?_cons_zero,Option.some.injEq]at hi
    subst hi
    simp[hx]
   |succ i=>simpa using h2 i b (by simpa using hi)
  ·cases h
theorem aI:∀(l:List Blk) (i j:Nat),aC (aq i l) j=if i≤j then l[j-i]? else none
 |[],i,j=>by simp[aq,aC]
 |b::l,i,j=>by
  simp only[aq,aC]
  split
  ·rename_i e
   have:=beq_eq e
   subst this
   simp
  ·rename_i e
   have hne:i≠j:=fun hh=>by subst hh;simp at e
   rw[aI l (i+1) j]
   by_cases hle:i≤j
   ·rw[if_pos hle,if_pos (by omega)]
    obtain⟨d,hd⟩:∃d,j-i=d+1:=⟨j-i-1,by omega⟩
    rw[hd,show j-(i+1)=d by omega]
    simp
   ·rw[if_neg hle,if_neg (by omega)]
end Go.Sx
namespace Go.Sx
open Go
variable{P:Program}{E:Env}{C:Ctx}
theorem zV(m:Nat→Nat)(y:AV):(kg m y).leaf=y.leaf:=by cases y<;>rfl
theorem mC{m:Nat→Nat}{cs:List AV}(h:cs.all AV.leaf=true):(cs.map (kg m)).all AV.leaf=true:=by
 rw[List.all_map]
 refine List.all_eq_true.2 fun y hy=>?_
 rw[Function.comp_apply,zV]
 exact List.all_eq_true.1 h y hy
theorem lV{a:AV}{v:Value}(h:ay C a v):∀b∈refA a,(C.m b).isSome=true:=by
 intro b hb
 cases a<;>simp[refA]at hb
 case ref b' off=>subst hb;obtain⟨_,_,cs,h1,_⟩:=h;simp[h1]
 case bself b'=>subst hb;obtain⟨_,_,cs,h1,_⟩:=h;simp[h1]
 case own b' g=>subst hb;obtain⟨_,_,_,_,_,h1,_⟩:=h;simp[h1]
 case el b' g i off=>subst hb;obtain⟨_,_,_,_,_,h1,_⟩:=h;simp[h1]
theorem gG:∀{as:List AV} {vs:List Value},au C as vs→∀b∈ep as,(C.m b).isSome=true
 |[],_,_=>by simp[ep]
 |a::as,_,h=>by
  obtain⟨v,r,rfl,h1,h2⟩:=h
  intro b hb
  simp only[ep,List.flatMap_cons,List.mem_append]at hb
  rcases hb with hb|hb
  ·exact lV h1 b hb
  ·exact gG h2 b hb
theorem zR{a:AV}{v:Value}(h:ay C a v):∀b∈gS a,(C.m b).isSome=true:=by
 cases a with
 |agg cs=>obtain⟨vs,_,h2⟩:=h;exact gG h2
 |tup vs=>
  obtain⟨us,_,h2⟩:=h
  intro b hb
  simp only[gS,List.mem_flatMap]at hb
  obtain⟨x,hx,hb⟩:=hb
  obtain⟨i,hi,rfl⟩:=List.getElem_of_mem hx
  obtain⟨u,_,hu⟩:=h2.get (i:=i) (a:=vs[i]) (by simp[hi])
  rcases AL hu with⟨cs,ws,e,_,hl⟩|⟨_,e⟩
  ·rw[e]at hb;exact gG hl b hb
  ·rw[e]at hb
   simp only[ep,List.flatMap_cons,List.flatMap_nil,List.append_nil]at hb
   exact lV hu b hb
 |_=>intro b hb;exact lV h b (by simpa only[gS]using hb)
theorem rF{g:G}{b:Blk}{m:Nat→Nat}{k o:Nat}:bJ g (cf m b) k o↔bJ g b k o:=by
 cases b<;>cases g<;>simp[cf,bJ]
def Sub(C:Ctx)(ids:List Nat)(fr:Nat→Nat→Prop)(bs:List Blk):Ctx:=
 ⟨C.w,aC (aq 0 bs),fun i=>C.φ ((ids[i]?).getD 0),fr,C.gl⟩
theorem kq{ids:List Nat}{fr:Nat→Nat→Prop}{l:List Blk}(hl:getAll C.m ids=some l){f:Nat→Nat}{i:Nat}{b:Blk}(h:(Sub C ids fr (l.map (cf f))).m i=some b):
  ∃id b0,ids[i]? =some id∧C.m id=some b0∧b=cf f b0∧(Sub C ids fr (l.map (cf f))).φ i=C.φ id:=by
 obtain⟨h1,h2⟩:=cu hl
 simp only[Sub,aI,Nat.zero_le,if_true,Nat.sub_zero,List.getElem?_map,Option.map_eq_some_iff]at h
 obtain⟨b0,hb,rfl⟩:=h
 have hi:i<ids.length:=by rw[←h1];exact(List.getElem?_eq_some_iff.1 hb).1
 obtain⟨h3,_⟩:=h2 i ids[i] (by simp[hi])
 exact⟨ids[i],b0,by simp[hi],by rw[←h3,hb],rfl,by simp[Sub,hi]⟩
theorem wv{ids:List Nat}{fr:Nat→Nat→Prop}{l:List Blk}(hl:getAll C.m ids=some l){f:Nat→Nat}{b:Nat}(hb:b∈ids){b0:Blk}(h:C.m b=some b0):
  (Sub C ids fr (l.map (cf f))).m (posOf ids b)=some (cf f b0)∧(Sub C ids fr (l.map (cf f))).φ (posOf ids b)=C.φ b:=by
 have hp:=ly hb
 obtain⟨h1,h2⟩:=cu hl
 obtain⟨h3,_⟩:=h2 _ _ hp
 refine⟨?_,by simp[Sub,hp]⟩
 simp[Sub,aI,h3,h]
theorem wP(hs:SRel C){ids:List Nat}(hd:ids.Nodup){l:List Blk}(hl:getAll C.m ids=some l)(hcl:∀b∈ids,∀c∈kW (C.m b),c∈ids)(hok:l.all bH=true){fr:Nat→Nat→Prop}
  (hf1:∀k o b,fr k o→b∈ids→cH (C.φ b) k→False) (hf2:∀k o,fr k o→k<C.w.heap.size) (hf3:∀k o,fr k o→C.T k o):
  let D:=Sub C ids fr (l.map (cf (posOf ids)))
  SRel D∧Ren C D (posOf ids) (· ∈ids)∧(∀k o,D.T k o→C.T k o)∧(∀k,D.held k→∃b blk,b∈ids∧C.m b=some blk∧cH (C.φ b) k)∧(∀k o,D.own k o→∃b blk,b∈ids∧C.m b=some blk∧bJ (C.φ b) blk k o):=by
 intro D
 have hown:∀k o,D.own k o→∃b blk,b∈ids∧C.m b=some blk∧bJ (C.φ b) blk k o:=by
  rintro k o ⟨i,b,h1,h2⟩
  obtain⟨id,b0,e1,e2,e3,e4⟩:=kq hl h1
  rw[e4,e3,rF]at h2
  exact⟨id,b0,List.mem_of_getElem? e1,e2,h2⟩
 have hheld:∀k,D.held k→∃b blk,b∈ids∧C.m b=some blk∧cH (C.φ b) k:=by
  rintro k ⟨i,b,h1,h2⟩
  obtain⟨id,b0,e1,e2,e3,e4⟩:=kq hl h1
  rw[e4]at h2
  exact⟨id,b0,List.mem_of_getElem? e1,e2,h2⟩
 have hT:∀k o,D.T k o→C.T k o:=by
  rintro k o (h|h)
  ·exact hf3 k o h
  ·obtain⟨b,blk,_,h1,h2⟩:=hown k o h
   exact .inr ⟨b,blk,h1,h2⟩
 have hren:Ren C D (posOf ids) (· ∈ids):={
  keep:=fun k o v h1 h2=>⟨h1,fun h3=>h2 (hT k o h3)⟩
  cells:=fun b ty cs hb hm=>by
   obtain⟨h1,h2⟩:=wv (fr:=fr) (f:=posOf ids) hl hb hm
   exact⟨h2,_,h1⟩
  lists:=fun b ee t g sh L hb hm=>by
   obtain⟨h1,h2⟩:=wv (fr:=fr) (f:=posOf ids) hl hb hm
   exact⟨h2,h1⟩}
 refine⟨{ok:=?_,apart:=?_,frApart:=?_,frOld:=hf2,gl:=fun k o h=>⟨(hs.gl k o h).1,fun hh=>by{obtain⟨b,blk,_,h2,h3⟩:=hheld k hh;exact(hs.gl k o h).2.1 ⟨b,blk,h2,h3⟩},fun x hx=>(hf3 k x hx).elim ((hs.gl k o h).2.2 x) (fun⟨b,blk,h2,h3⟩=>(hs.gl k o h).2.1 ⟨b,blk,h2,cn h3⟩)⟩},hren,hT,hheld,hown⟩
 ·intro i b hi
  obtain⟨id,b0,e1,e2,e3,e4⟩:=kq hl hi
  rw[e4,e3]
  have hmem:=List.mem_of_getElem? e1
  have hb:=hs.ok id b0 e2
  have hokb:bH b0=true:=by
   obtain⟨h1,h2⟩:=cu hl
   have h3:=(h2 i id e1).1
   rw[e2]at h3
   exact List.all_eq_true.1 hok _ (List.mem_of_getElem? h3)
  cases b0 with
  |cells ty cs=>
   obtain⟨rb,c,hg,hh,hr,hlf⟩:=hb
   exact⟨rb,c,hg,hh,hren.cellsL (fun b hb=>hcl id hmem b (by rw[e2];exact hb)) hokb hr,mC hlf⟩
  |list ee t g sh L=>
   obtain⟨a,cap,hg,hz,hc,hbk⟩:=hb
   refine⟨a,cap,hg,hz,hc,?_⟩
   cases a with
   |none=>exact hbk
   |some ad=>
    obtain⟨hsp,c,lo,hi',hh,hsz,hfz,hsh,hx⟩:=hbk
    exact⟨hsp,c,lo,hi',hh,hsz,hfz,fun h o h1 h2 h3=>hsh h o h1 h2 (hT _ _ h3),fun i x hi=>(hx i x hi).mono hren.keep⟩
 ·intro i b j b2 k hi hj hne h1 h2
  obtain⟨id,b0,e1,e2,e3,e4⟩:=kq hl hi
  obtain⟨id',b0',e1',e2',e3',e4'⟩:=kq hl hj
  rw[e4]at h1
  rw[e4']at h2
  have hii:i<ids.length:=(List.getElem?_eq_some_iff.1 e1).1
  have hjj:j<ids.length:=(List.getElem?_eq_some_iff.1 e1').1
  have:id≠id':=fun e=>by
   subst e
   have:=(List.getElem_inj (h₀:=hii) (h₁:=hjj) hd).1 (by rw[(List.getElem?_eq_some_iff.1 e1).2,(List.getElem?_eq_some_iff.1 e1').2])
   exact hne this
  exact hs.apart id b0 id' b0' k e2 e2' this h1 h2
 ·intro k o hf hh
  obtain⟨b,blk,h1,_,h3⟩:=hheld k hh
  exact hf1 k o b hf h1 h3
end Go.Sx
