/- A part of the proof: see the row's text. -/
import Derived.Test.YtaklpoiaicepoaaGreatDoorZa02
import Derived.Laws.Tables
set_option linter.unusedVariables false
set_option linter.unusedSimpArgs false
noncomputable section
namespace Go.Sx
open Go
variable {P : Program} {E : Env} {C : Ctx}
section
variable {ρ : Operand → Value} {lk : Look} {o : Oper} {r : OpR} {id : Nat}
theorem goodR_box (hs : SRel C) (hρ : ∀ x, VRel C (evalO lk x) (ρ x)) (hid : C.m id = none) {t : TypeId} {x : Operand} (ho : o.op = .box t x)
  (h : (opA E lk C.m id (.box t x)).run = some r) : GoodR P C ρ o r := by
 simp only [opA] at h
 split at h
 ·rename_i hl
  rw [run_leaf h]
  obtain ⟨h1, h2⟩ := leaf_cells (hρ x) hl
  exact good_newVar hs hid (cs := (evalO lk x).cells) (vs := (ρ x).cells) (t := t) h1 hl (by simp [execOp, ho, Instr.box, newVar, newRow])
 ·exact (run_fail h).elim
theorem arr_get (n : Nat) (te : TI) (k : Nat) {f : Fld} (h : (arrFlds n te)[k]? = some f) : f = ⟨k * te.size, te.size, te.agg, 0, false⟩ ∧ k < n := by
 simp only [arrFlds, List.getElem?_map, Option.map_eq_some_iff] at h
 obtain ⟨a, ha, rfl⟩ := h
 obtain ⟨hl, he⟩ := List.getElem?_eq_some_iff.1 ha
 have hk : k < n := by simpa using hl
 have : a = k := by simpa using he.symm
 subst this
 exact ⟨rfl, hk⟩
theorem places_of : ∀ (fs : List Field), (∀ f ∈ fs, (P.info? f.type).isSome = true) →
  ∃ places, fs.mapM (fun f => (P.info? f.type).map fun i => (f.offset, i.size)) = some places ∧ ∀ (k : Nat) (f : Field), fs[k]? = some f → places[k]? = some (f.offset, sizeD P f.type)
 | [], _ => ⟨[], rfl, fun k f h => by simp at h⟩
 | f :: fs, h => by
  obtain ⟨places, h1, h2⟩ := places_of fs fun g hg => h g (List.mem_cons_of_mem _ hg)
  obtain ⟨i, hi⟩ := Option.isSome_iff_exists.1 (h f (by simp))
  refine ⟨(f.offset, i.size) :: places, by simp [List.mapM_cons, hi, h1], fun k g hk => ?_⟩
  cases k with
  | zero =>
   simp only [List.getElem?_cons_zero, Option.some.injEq] at hk
   subst hk
   simp [sizeD, hi]
  | succ k => simpa using h2 k g (by simpa using hk)
theorem fillA_rel {ρ : Operand → Value} {lk : Look} (hρ : ∀ x, VRel C (evalO lk x) (ρ x)) {place : Nat → Option (Nat × Nat)} {fs : List Fld} (hp : ∀ k f, fs[k]? = some f → place k = some (f.off, f.size)) :
  ∀ (ps : List (Nat × Operand)) (z r : List AV) (cells : Array Value), fillA lk fs ps z = some r → VRelL C z cells.toList → ∃ cells', Instr.fill place cells (ps.map fun p => (p.1, ρ p.2)) = some cells' ∧ VRelL C r cells'.toList
 | [], z, r, cells, h, hz => by
  simp only [fillA, Option.some.injEq] at h
  subst h
  exact ⟨cells, by simp [Instr.fill], hz⟩
 | (j, x) :: ps, z, r, cells, h, hz => by
  simp only [fillA] at h
  split at h
  ·cases h
  ·rename_i f hf
   rw [nth_eq] at hf
   split at h
   ·rename_i hck
    simp only [Bool.and_eq_true] at hck
    obtain ⟨hlen, hleaf, hle⟩ := hck
    have hlen := beq_eq hlen
    have hle := Nat.le_of_ble_eq_true hle
    have hzl := hz.len
    obtain ⟨hrel, hsz⟩ := leaf_cells (hρ x) hleaf
    obtain ⟨cells1, e1, e2, e3⟩ := fill_step (cells := cells) (rest := ps.map fun p => (p.1, ρ p.2)) (hp j f hf) (show (ρ x).cells.size = f.size by rw [hsz, hlen]) (by simp at hzl; omega)
    obtain ⟨cells', h1, h2⟩ := fillA_rel hρ hp ps _ r cells1 h (by
     rw [e2]
     exact ((hz.take).append hrel).append hz.drop)
    exact ⟨cells', by simp only [List.map_cons]; rw [e1]; exact h1, h2⟩
   ·cases h
theorem goodR_build (hE : EnvOK E P) (hs : SRel C) (hρ : ∀ x, VRel C (evalO lk x) (ρ x)) {t : TypeId} {ps : Array (Nat × Operand)} (ho : o.op = .build t ps)
  (h : (opA E lk C.m id (.build t ps)).run = some r) : GoodR P C ρ o r := by
 simp only [opA] at h
 split at h
 ·rename_i ti hti
  obtain ⟨i, d, z, hT⟩ := hE.T hti
  have hz : VRelL C ti.zero (z.cells.toList.drop 0) := by rw [hT.zeros]; exact consts_rel C _
  have hzl : ti.zero.length = z.cells.size := by rw [hT.zeros]; simp
  have fin : ∀ {cs : List AV} {cells : Array Value}, P.built t ((ps.map fun p => (p.1, ρ p.2)).toList) = some cells → VRelL C cs cells.toList → Good P C ρ o (.agg cs) C.m := by
   intro cs cells hb hr
   refine Good.pure hs (v := .agg cells) ?_ ⟨cells, rfl, hr⟩
   have := run_build (P := P) C.w t (ps.map fun p => (p.1, ρ p.2)) cells hb
   simp [execOp, ho, this]
  split at h
  ·rename_i fs hfs
   obtain ⟨fields, hd, hm⟩ := td_struct hT hfs
   split at h
   ·rename_i hc
    obtain ⟨av, hav, rfl⟩ := run_ofO h
    simp only [Option.map_eq_some_iff] at hav
    obtain ⟨cs, hg, rfl⟩ := hav
    have hfl := hT.flds
    rw [hd] at hfl
    obtain ⟨places, hp1, hp2⟩ := places_of (P := P) fields.toList fun f hf => List.all_eq_true.1 hfl f hf
    unfold gatherS at hg
    split at hg
    rotate_left
    ·obtain ⟨cells', h1, h4⟩ := fillA_rel hρ (place := (places.toArray[·]?)) (fs := fs) (fun k f hk => by
      rw [← hm, List.getElem?_map, Option.map_eq_some_iff] at hk
      obtain ⟨fl, hk, rfl⟩ := hk
      simpa [fldOf] using hp2 k fl hk) ps.toList ti.zero cs z.cells hg (by simpa using hz)
     refine fin (cells := cells') ?_ h4
     unfold Program.built
     rw [hT.info, hT.und, hd]
     simp only [hT.zero, hp1]
     simpa using h1
    rename_i cs' hg'
    simp only [Option.some.injEq] at hg
    rw [hg] at hg'
    have hg := hg'
    obtain ⟨cells', h1, h2, h3, h4⟩ := gather_rel hρ (place := (places.toArray[·]?)) fs 0 0 ps.toList ti.zero cs z.cells hg (fun k f hk => by
     rw [← hm, List.getElem?_map, Option.map_eq_some_iff] at hk
     obtain ⟨fl, hk, rfl⟩ := hk
     simpa [fldOf] using hp2 k fl hk) (by rw [← hzl]; exact hc) (Nat.zero_le _) hz
    refine fin (cells := cells') ?_ (by simpa using h4)
    unfold Program.built
    rw [hT.info, hT.und, hd]
    simp only [hT.zero, hp1]
    simpa using h1
   ·exact (run_fail h).elim
  ·rename_i n e htd
   have hd := td_array hT htd
   split at h
   ·rename_i te hte
    obtain ⟨i', d', z', hT'⟩ := hE.T hte
    split at h
    ·rename_i hc
     obtain ⟨av, hav, rfl⟩ := run_ofO h
     simp only [Option.map_eq_some_iff] at hav
     obtain ⟨cs, hg, rfl⟩ := hav
     obtain ⟨cells', h1, h2, h3, h4⟩ := gather_rel hρ (place := fun i => some (i * te.size, te.size)) (arrFlds n te) 0 0 ps.toList ti.zero cs z.cells hg (fun k f hk => by
      obtain ⟨rfl, _⟩ := arr_get n te k hk
      simp) (by rw [← hzl]; exact hc) (Nat.zero_le _) hz
     refine fin (cells := cells') ?_ (by simpa using h4)
     unfold Program.built
     rw [hT.info, hT.und, hd]
     simp only [hT.zero, hT'.info, hT'.size]
     simpa using h1
    ·exact (run_fail h).elim
   ·exact (run_fail h).elim
  ·exact (run_fail h).elim
 ·exact (run_fail h).elim
end
end Go.Sx
namespace Go.Sx
open Go
variable {P : Program} {E : Env} {C : Ctx}
theorem updF_self {α : Type} (f : Nat → α) (i : Nat) : updF f i (f i) = f := by
 funext j
 unfold updF
 split
 ·rename_i e; rw [e]
 ·rfl
theorem ownsB_share {G' : G} {ee : Nat} {t : Ty} {g g2 : Nat} {sh : Bool} {L : List t.den} {k o : Nat} (h : ownsB G' (.list ee t g true L) k o) : ownsB G' (.list ee t g2 sh L) k o := by
 cases G' with
 | cells rb => exact h.elim
 | list a cap =>
  cases a with
  | none => exact h.elim
  | some ad =>
   simp only [ownsB, if_true] at h ⊢
   refine ⟨h.1, ?_, h.2.2⟩
   split
   ·exact h.2.1
   ·have := h.2.1; omega
theorem share_one (hs : SRel C) {b : Nat} {ee : Nat} {t : Ty} {g : Nat} {sh : Bool} {L : List t.den} (hm : C.m b = some (.list ee t g sh L)) :
  let C' : Ctx := ⟨C.w, updF C.m b (some (.list ee t g true L)), C.φ, C.fr, C.gl⟩
  SRel C' ∧ Ext C C' ∧ Shut C [b] C'.T := by
 intro C'
 have hsub : ∀ k o, ownsB (C.φ b) (.list ee t g true L) k o → ownsB (C.φ b) (.list ee t g sh L) k o := fun k o h => ownsB_share h
 have key := same_ok hs (id := b) (b' := .list ee t g true L) (g' := C.φ b) (fun k hk => ⟨_, hm, hk⟩) (fun k o hk => ⟨_, hm, hsub k o hk⟩)
  (fun _ cs h => by rw [hm] at h; cases h) (fun ee2 t2 g2 sh2 L2 h => by rw [hm] at h; cases h; exact ⟨g, true, L, rfl, Nat.le_refl _, fun _ => ⟨rfl, rfl⟩⟩)
 simp only [updF_self] at key
 obtain ⟨hE, hok⟩ := key
 obtain ⟨a, cap, hp, hz, hc, hb⟩ := hs.ok b _ hm
 have hshut : ∀ ad cap', C.φ b = .list (some ad) cap' → ∀ o, ad.off ≤ o → o < ad.off + L.length * t.size → ¬ C'.T ad.block o := by
  intro ad cap' hp' o h1 h2 hT
  rw [hp'] at hp
  cases hp
  rcases hT with hf | ⟨j, bj, hj, ho⟩
  ·exact hs.frApart _ _ hf ⟨b, _, hm, by rw [hp']; rfl⟩
  ·by_cases e : j = b
   ·subst e
    simp only [C', updF, if_true, Option.some.injEq] at hj
    subst hj
    simp only [C', hp', ownsB, if_true] at ho
    omega
   ·simp only [C', updF, if_neg e] at hj
    exact hs.apart j bj b _ _ hj hm e (ownsB_lies ho) (by rw [hp']; rfl)
 refine ⟨hok ⟨a, cap, hp, hz, hc, ?_⟩, hE, fun b' hb' ee2 t2 g2 sh2 L2 hm2 ad cap' hp' o h1 h2 => ?_⟩
 ·cases a with
  | none => exact hb
  | some ad =>
   obtain ⟨hsp, c, lo, hi, hh, hsz, hfz, _, hx⟩ := hb
   exact ⟨hsp, c, lo, hi, hh, hsz, by { cases sh with | true => exact hfz | false => (simp only [Bool.false_eq_true, if_false, if_true] at hfz ⊢; omega) }, fun _ o h1 h2 => hshut ad cap hp o h1 h2, fun i x hi => (hx i x hi).mono hE.keep⟩
 ·simp only [List.mem_singleton] at hb'
  subst hb'
  rw [hm] at hm2
  cases hm2
  exact hshut ad cap' hp' o h1 h2
theorem T_sub {C C' : Ctx} (hE : Ext C C') (hw : C'.w = C.w) (hφ : C'.φ = C.φ) (hm : ∀ id b, C'.m id = some b → ∃ b0, C.m id = some b0 ∧ ∀ k o, ownsB (C.φ id) b k o → ownsB (C.φ id) b0 k o) : ∀ k o, C'.T k o → C.T k o := by
 intro k o h
 rcases h with h | ⟨id, b, h1, h2⟩
 ·exact .inl (hE.frEq ▸ h)
 ·obtain ⟨b0, h3, h4⟩ := hm id b h1
  rw [hφ] at h2
  exact .inr ⟨id, b0, h3, h4 k o h2⟩
theorem share_ok (hs : SRel C) : ∀ (ms : List Nat), ∃ C', SRel C' ∧ Ext C C' ∧ C'.m = applyM C.m (shareWr C.m ms) ∧ C'.w = C.w ∧ C'.φ = C.φ ∧ C'.fr = C.fr ∧ Shut C ms C'.T ∧ (∀ k o, C'.T k o → C.T k o) := by
 suffices H : ∀ (ms : List Nat) (C1 : Ctx), SRel C1 → Ext C C1 → C1.w = C.w → C1.φ = C.φ → C1.fr = C.fr → (∀ k o, C1.T k o → C.T k o) →
   (∀ j, C1.m j = C.m j ∨ ∃ ee t g sh L, C.m j = some (.list ee t g sh L) ∧ C1.m j = some (.list ee t g true L)) →
   ∃ C', SRel C' ∧ Ext C C' ∧ C'.m = applyM C1.m (shareWr C.m ms) ∧ C'.w = C.w ∧ C'.φ = C.φ ∧ C'.fr = C.fr ∧ Shut C ms C'.T ∧ (∀ k o, C'.T k o → C1.T k o) by
  intro ms
  exact H ms C hs (Ext.refl C) rfl rfl rfl (fun _ _ h => h) (fun j => .inl rfl)
 intro ms
 induction ms with
 | nil => intro C1 h1 h2 h3 h4 h5 h6 h7; exact ⟨C1, h1, h2, rfl, h3, h4, h5, shut_nil _, fun _ _ h => h⟩
 | cons b ms ih =>
  intro C1 h1 h2 h3 h4 h5 h6 h7
  cases hm : C.m b with
  | none =>
   obtain ⟨C', k1, k2, k3, k4, k5, k6, k7, k8⟩ := ih C1 h1 h2 h3 h4 h5 h6 h7
   refine ⟨C', k1, k2, ?_, k4, k5, k6, fun b' hb' ee t g sh L hL => ?_, k8⟩
   ·rw [k3]; simp [shareWr, hm]
   ·rcases List.mem_cons.1 hb' with e | hb'
    ·subst e; rw [hm] at hL; cases hL
    ·exact k7 b' hb' ee t g sh L hL
  | some blk =>
   cases blk with
   | cells ty cs =>
    obtain ⟨C', k1, k2, k3, k4, k5, k6, k7, k8⟩ := ih C1 h1 h2 h3 h4 h5 h6 h7
    refine ⟨C', k1, k2, ?_, k4, k5, k6, fun b' hb' ee t g sh L hL => ?_, k8⟩
    ·rw [k3]; simp [shareWr, hm]
    ·rcases List.mem_cons.1 hb' with e | hb'
     ·subst e; rw [hm] at hL; cases hL
     ·exact k7 b' hb' ee t g sh L hL
   | list ee t g sh L =>
    obtain ⟨sh1, hm1⟩ : ∃ sh1, C1.m b = some (.list ee t g sh1 L) := by
     rcases h7 b with e | ⟨ee2, t2, g2, sh2, L2, e1, e2⟩
     ·exact ⟨sh, by rw [e, hm]⟩
     ·rw [hm] at e1; cases e1; exact ⟨true, e2⟩
    obtain ⟨s1, s2, s3⟩ := share_one h1 hm1
    have hsub : ∀ k o, (Ctx.mk C1.w (updF C1.m b (some (.list ee t g true L))) C1.φ C1.fr C1.gl).T k o → C1.T k o := by
     refine T_sub s2 rfl rfl fun id b' hid => ?_
     simp only [updF] at hid
     split at hid
     ·rename_i e
      subst e
      cases hid
      exact ⟨_, hm1, fun k o h => ownsB_share h⟩
     ·exact ⟨b', hid, fun _ _ h => h⟩
    obtain ⟨C', k1, k2, k3, k4, k5, k6, k7, k8⟩ := ih _ s1 (h2.trans s2) h3 h4 h5 (fun k o h => h6 k o (hsub k o h)) (fun j => by
     by_cases e : j = b
     ·subst e
      exact .inr ⟨ee, t, g, sh, L, hm, by simp [updF]⟩
     ·simpa [updF, e] using h7 j)
    refine ⟨C', k1, k2, ?_, k4, k5, k6, fun b' hb' ee2 t2 g2 sh2 L2 hL ad cap hp o o1 o2 hT => ?_, fun k o h => hsub k o (k8 k o h)⟩
    ·rw [k3]; simp [shareWr, hm, applyM, updM_eq]
    ·rcases List.mem_cons.1 hb' with e | hb'
     ·subst e
      rw [hm] at hL
      cases hL
      exact s3 b' (by simp) ee t g sh1 L hm1 ad cap (by rw [h4]; exact hp) o o1 o2 (k8 _ _ hT)
     ·exact k7 b' hb' ee2 t2 g2 sh2 L2 hL ad cap hp o o1 o2 hT
theorem applyM_append (m : Get) : ∀ (a b : Wr), applyM m (a ++ b) = applyM (applyM m a) b
 | [], b => rfl
 | (i, x) :: a, b => applyM_append (updM m i x) a b
theorem applyM_comm {m : Get} {i : Nat} {x : Blk} : ∀ {a : Wr}, (∀ p ∈ a, p.1 ≠ i) → applyM (updM m i x) a = updM (applyM m a) i x
 | [], _ => rfl
 | (j, y) :: a, h => by
  have hj : j ≠ i := h (j, y) (by simp)
  have : updM (updM m i x) j y = updM (updM m j y) i x := by
   funext k
   unfold updM
   by_cases e1 : k = j <;> by_cases e2 : k = i <;> simp_all
  simp only [applyM]
  rw [this]
  exact applyM_comm fun p hp => h p (by simp [hp])
theorem shareWr_mem {m : Get} {ms : List Nat} {p : Nat × Blk} (h : p ∈ shareWr m ms) : p.1 ∈ ms ∧ ∃ ee t g sh L, m p.1 = some (.list ee t g sh L) := by
 simp only [shareWr, List.mem_filterMap] at h
 obtain ⟨b, hb, hp⟩ := h
 split at hp
 ·rename_i ee t g sh L hm
  cases hp
  exact ⟨hb, ee, t, g, sh, L, hm⟩
 ·cases hp
end Go.Sx
namespace Go.Sx
open Go
variable {P : Program} {E : Env} {C : Ctx}
section
variable {ρ : Operand → Value} {lk : Look} {o : Oper} {r : OpR} {id : Nat}
theorem good_newList (hs : SRel C) (hid : C.m id = none) {ms : List Nat} {t : Ty} {L : List t.den} {cells : Array Value} {e : TypeId} {cap : Nat} {w' : World}
  (hw : w'.heap = C.w.heap.push (.cells cells e)) (hos : w'.os = C.w.os) (htape : w'.tape = C.w.tape) (hout : w'.output = C.w.output)
  (hz : 0 < t.size) (hl : L.length ≤ cap) (hsz : cap * t.size ≤ cells.size)
  (hrep : ∀ T' : Nat → Nat → Prop, (∀ k o, T' k o → C.T k o) → Shut C ms T' → ∀ i x, L[i]? = some x → Rep C.w T' t x (seg cells.toList (i * t.size) t.size))
  (hrun : (execOp ρ o).run P C.w = .ok (.value (.slice (some ⟨C.w.heap.size, 0, none⟩) L.length cap)) w') :
  Good P C ρ o (.own id 0) (applyM C.m ((id, .list e t 0 false L) :: shareWr C.m ms)) := by
 obtain ⟨C1, h1, h2, h3, h4, h5, h6, h7, h8⟩ := share_ok hs ms
 have hne : ∀ p ∈ shareWr C.m ms, p.1 ≠ id := fun p hp e => by
  obtain ⟨_, ee2, t2, g2, sh2, L2, hm⟩ := shareWr_mem hp
  rw [e, hid] at hm
  cases hm
 have hid1 : C1.m id = none := by
  rw [h3]
  have : ∀ (a : Wr) (m : Get), m id = none → (∀ p ∈ a, p.1 ≠ id) → applyM m a id = none := by
   intro a
   induction a with
   | nil => intro m hm _; exact hm
   | cons p a ih =>
    intro m hm hp
    obtain ⟨j, y⟩ := p
    simp only [applyM]
    refine ih _ ?_ fun q hq => hp q (by simp [hq])
    have := hp (j, y) (by simp)
    simp only [updM]
    rw [if_neg (Ne.symm this)]
    exact hm
  exact this _ _ hid hne
 obtain ⟨hE, hok⟩ := push_ok h1 hid1 (b' := .list e t 0 false L) (g' := .list (some ⟨C.w.heap.size, 0, none⟩) cap) (o := .cells cells e) (w' := w') (by rw [h4]; exact hw)
  (fun k hk => by rw [h4]; exact hk) (by rw [h4]; exact hos) (by rw [h4]; exact htape) (by rw [h4]; exact hout)
 have hheap : w'.heap[C.w.heap.size]? = some (.cells cells e (0, 0)) := by rw [hw]; simp
 have hS : SRel ⟨w', updF C1.m id (some (.list e t 0 false L)), updF C1.φ id (.list (some ⟨C.w.heap.size, 0, none⟩) cap), C1.fr, C1.gl⟩ := by
  refine hok ⟨_, cap, rfl, hz, hl, rfl, cells, 0, 0, hheap, by simpa using hsz, by simp, fun hh => (by cases hh), fun i x hi => ?_⟩
  have := hrep C1.T h8 h7 i x hi
  rw [← h4] at this
  simpa using this.mono hE.keep
 refine ⟨_, _, .inl hrun, ?_, hS, h2.trans hE, ?_⟩
 ·simp only [applyM]
  rw [applyM_comm hne, ← h3]
  rfl
 ·exact ⟨e, t, 0, false, L, by simp [updF], Nat.le_refl _, some ⟨C.w.heap.size, 0, none⟩, L.length, cap, rfl, fun _ => ⟨by simp [updF], rfl⟩⟩
theorem range_mod (z : Array Value) (s : Nat) (hz : z.size = s) (hs : 0 < s) : ∀ n, (List.range (n * s)).map (fun j => z[j % s]!) = (List.replicate n z.toList).flatten
 | 0 => by simp
 | n + 1 => by
  rw [List.replicate_succ', List.flatten_append, Nat.add_mul, Nat.one_mul, List.range_add, List.map_append, range_mod z s hz hs n]
  congr 1
  simp only [List.map_map, List.flatten_cons, List.flatten_nil, List.append_nil]
  apply List.ext_getElem
  ·simp [hz]
  ·intro i h1 h2
   simp only [List.length_map, List.length_range] at h1
   simp only [List.getElem_map, List.getElem_range, Function.comp_apply]
   rw [Nat.add_comm, Nat.add_mul_mod_self_right, Nat.mod_eq_of_lt h1]
   simp [getElem!_pos, hz, h1]
theorem flat_rep : ∀ (n : Nat) {as : List AV} {vs : List Value}, VRelL C as vs → VRelL C ((List.replicate n as).flatten) ((List.replicate n vs).flatten)
 | 0, _, _, _ => by simp [VRelL]
 | n + 1, _, _, h => by
  rw [List.replicate_succ, List.replicate_succ, List.flatten_cons, List.flatten_cons]
  exact h.append (flat_rep n h)
theorem goodR_buildSlice (hE : EnvOK E P) (hs : SRel C) (hρ : ∀ x, VRel C (evalO lk x) (ρ x)) (hid : C.m id = none) {t : TypeId} {len : Nat} {ps : Array (Nat × Operand)} (ho : o.op = .buildSlice t len ps)
  (h : (opA E lk C.m id (.buildSlice t len ps)).run = some r) : GoodR P C ρ o r := by
 simp only [opA] at h
 split at h
 ·rename_i ti hti
  obtain ⟨i, d, z, hT⟩ := hE.T hti
  split at h
  ·rename_i e htd
   have hd := td_slice hT htd
   split at h
   ·rename_i te hte
    obtain ⟨i', d', z', hT'⟩ := hE.T hte
    split at h
    ·rename_i ty hty
     split at h
     ·rename_i cs hck hg
      simp only [Bool.and_eq_true] at hck
      obtain ⟨c1, c2, c3, c4⟩ := hck
      have c1 := beq_eq c1
      have c4 := beq_eq c4
      have c2 : 1 ≤ te.size := Nat.le_of_ble_eq_true c2
      have c3 : len * te.size ≤ 4096 := Nat.le_of_ble_eq_true c3
      split at h
      ·rename_i L m hL
       rw [run_leaf h]
       have hzs : z'.cells.size = te.size := by rw [← c4, hT'.zeros]; simp
       have hz : VRelL C te.zero z'.cells.toList := by rw [hT'.zeros]; exact consts_rel C _
       have hrow : ((Array.range (len * te.size)).map fun j => z'.cells[j % z'.cells.size]!).toList = (List.replicate len z'.cells.toList).flatten := by
        rw [Array.toList_map, Array.toList_range, hzs]
        exact range_mod z'.cells te.size hzs c2 len
       obtain ⟨cells', h1, h2, h3, h4⟩ := gather_rel hρ (place := fun i => some (i * te.size, te.size)) (arrFlds len te) 0 0 ps.toList _ cs ((Array.range (len * te.size)).map fun j => z'.cells[j % z'.cells.size]!) hg
        (fun k f hk => by obtain ⟨rfl, _⟩ := arr_get len te k hk; simp)
        (by
         have : ∀ n a, contig (a * te.size) ((List.range' a n).map fun i => (⟨i * te.size, te.size, te.agg, 0, false⟩ : Fld)) ((a + n) * te.size) = true := by
          intro n
          induction n with
          | zero => intro a; simp [contig]
          | succ n ih =>
           intro a
           simp only [List.range'_succ, List.map_cons, contig, Nat.beq_refl]
           have := ih (a + 1)
           rw [show a + 1 + n = a + (n + 1) by omega, Nat.add_mul, Nat.one_mul] at this
           exact this
         have := this len 0
         simpa [arrFlds, List.range_eq_range'] using this)
        (Nat.zero_le _) (by rw [hrow]; simpa using flat_rep len hz)
       simp only [List.drop_zero] at h4
       obtain ⟨k1, k2, k3⟩ := listOf_rel hs hL h4
       have hcs : cells'.size = len * te.size := by rw [h2]; simp
       refine good_newList hs hid (ms := m) (cells := cells') (e := e) (cap := len) (w' := { C.w with heap := C.w.heap.push (.cells cells' e) }) rfl rfl rfl rfl (by omega) (by omega) (by rw [hcs, c1]; exact Nat.le_refl _) k3 ?_
       have hbig : ¬ (len * te.size > 2 ^ 24) := by (have : (2 : Nat) ^ 24 = 16777216 := by decide); omega
       rw [k1]
       simp only [execOp, ho, Instr.buildSlice, Sem.run_bind, run_underlyingS hT.und, hd, Result.andThen_ok, run_sizeOfS hT'.info, hT'.size, Sem.run_ite, hbig, if_false, Sem.run_pure]
       have hfill : Instr.fill (fun i => some (i * te.size, te.size)) ((Array.range (len * te.size)).map fun j => z'.cells[j % z'.cells.size]!) (ps.map fun x => (x.1, ρ x.2)).toList = some cells' := by simpa using h1
       by_cases h0 : len * te.size = 0
       ·have e0 : ((Array.range (len * te.size)).map fun j => z'.cells[j % z'.cells.size]!) = #[] := by rw [h0]; simp
        rw [e0] at hfill
        simp only [h0, if_true, Sem.run_pure, Result.andThen_ok]
        have e1 : ((Array.range 0).map fun j => (#[] : Array Value)[j % (#[] : Array Value).size]!) = #[] := by simp
        rw [e1, hfill]
        simp [newRow]
       ·simp only [h0, if_false, Sem.run_bind, run_zeroValueS hT'.info hT'.zero, Result.andThen_ok, Sem.run_pure, hfill]
        simp [newRow]
      ·exact (run_fail h).elim
     ·exact (run_fail h).elim
    ·exact (run_fail h).elim
   ·exact (run_fail h).elim
  ·exact (run_fail h).elim
 ·exact (run_fail h).elim
end
end Go.Sx
namespace Go.Sx
open Go
variable {P : Program} {E : Env} {C : Ctx}
section
variable {ρ : Operand → Value} {lk : Look} {o : Oper} {r : OpR} {id : Nat}
theorem seg_rep {z : List Value} {s : Nat} (hz : z.length = s) : ∀ (n i : Nat), i < n → seg ((List.replicate n z).flatten) (i * s) s = z
 | 0, i, h => by omega
 | n + 1, 0, _ => by
  rw [List.replicate_succ, List.flatten_cons]
  simp [seg, ← hz]
 | n + 1, i + 1, h => by
  rw [List.replicate_succ, List.flatten_cons, Nat.add_mul, Nat.one_mul]
  have := seg_rep hz n i (by omega)
  unfold seg at this ⊢
  rw [List.drop_append, List.drop_eq_nil_of_le (by omega), List.nil_append, hz, Nat.add_sub_cancel]
  exact this
theorem wrap_small {n : Int} (h0 : 0 ≤ n) (h1 : n < 2 ^ 62) : IntKind.i64.wrap n = n := by
 have e64 : (2 : Int) ^ 64 = 18446744073709551616 := by decide
 have e63 : (2 : Int) ^ 63 = 9223372036854775808 := by decide
 have e62 : (2 : Int) ^ 62 = 4611686018427387904 := by decide
 rw [e62] at h1
 have hm : n % 18446744073709551616 = n := Int.emod_eq_of_lt h0 (by omega)
 simp only [IntKind.wrap, IntKind.bits, e64, hm, Nat.reduceSub, e63]
 rw [if_neg]
 simp
 omega
theorem inR_ok {n : Int} (h : inR n = true) : 0 ≤ n ∧ n < (maxRoom : Int) := by
 simp only [inR, Bool.and_eq_true, decide_eq_true_eq] at h
 omega
theorem goodR_makeSlice (hE : EnvOK E P) (hs : SRel C) (hρ : ∀ x, VRel C (evalO lk x) (ρ x)) (hid : C.m id = none) {t : TypeId} {l c : Operand} (ho : o.op = .makeSlice t l c)
  (h : (opA E lk C.m id (.makeSlice t l c)).run = some r) : GoodR P C ρ o r := by
 simp only [opA] at h
 have hl := hρ l
 have hc := hρ c
 split at h
 ·rename_i ti n n' hti hln hcn
  rw [hln] at hl
  rw [hcn] at hc
  simp only [VRel] at hl hc
  obtain ⟨i, d, z, hT⟩ := hE.T hti
  split at h
  ·rename_i e htd
   have hd := td_slice hT htd
   split at h
   ·rename_i te hte
    obtain ⟨i', d', z', hT'⟩ := hE.T hte
    split at h
    ·rename_i ty hty
     split at h
     ·rename_i x0 ms hck hu
      simp only [Bool.and_eq_true] at hck
      obtain ⟨c1, c2, c3, c4⟩ := hck
      have c1 := beq_eq c1
      have c4 := beq_eq c4
      have c2 : 1 ≤ te.size := Nat.le_of_ble_eq_true c2
      have c3 : te.bytes ≤ 2048 := Nat.le_of_ble_eq_true c3
      obtain ⟨hb, h'⟩ := run_brT h
      clear h
      simp only [Bool.and_eq_true, beq_iff_eq] at hb
      obtain ⟨hn, rfl⟩ := hb
      obtain ⟨h0, h1⟩ := inR_ok hn
      rw [run_leaf h']
      obtain ⟨rfl, hu'⟩ := unflat_nil (fun _ => rfl) hu
      have hz : VRelL C te.zero z'.cells.toList := by rw [hT'.zeros]; exact consts_rel C _
      have hzs : z'.cells.size = te.size := by rw [← c4, hT'.zeros]; simp
      obtain ⟨v1, v2, hv, hr2, hv1, _, hR⟩ := unflat_rel hs (hu' C.m) hz
      simp only [VRelL] at hr2
      subst hr2
      rw [List.append_nil] at hv
      have hmr : (maxRoom : Int) = 68719476736 := by decide
      have hrow : ((Array.range (n.toNat * te.size)).map fun j => z'.cells[j % z'.cells.size]!).toList = (List.replicate n.toNat z'.cells.toList).flatten := by
       rw [Array.toList_map, Array.toList_range, hzs]
       exact range_mod z'.cells te.size hzs c2 n.toNat
      have key := good_newList (P := P) (ρ := ρ) (o := o) hs hid (ms := []) (t := ty) (L := List.replicate n.toNat x0) (cells := (Array.range (n.toNat * te.size)).map fun j => z'.cells[j % z'.cells.size]!) (e := e) (cap := n.toNat)
       (w' := { C.w with heap := C.w.heap.push (.cells ((Array.range (n.toNat * te.size)).map fun j => z'.cells[j % z'.cells.size]!) e) }) rfl rfl rfl rfl (by omega) (by simp) (by simp [c1])
       (fun T' hT hS i x hi => by
        have hi' : i < n.toNat := by have := (List.getElem?_eq_some_iff.1 hi).1; simpa using this
        have hx : x = x0 := by have := (List.getElem?_eq_some_iff.1 hi).2; simpa using this.symm
        subst hx
        rw [hrow, c1, seg_rep (by simp [hzs]) n.toNat i hi', hv]
        exact hR T' hT (shut_nil _)) ?_
      ·exact key
      ·have w0 : IntKind.i64.wrap n = n := wrap_small h0 (by omega)
       have hlt : ¬ n < 0 := by omega
       have hbig : ¬ ((te.bytes : Int) * n > 2 ^ 48) := by
        have e48 : (2 : Int) ^ 48 = 281474976710656 := by decide
        rw [e48]
        have h3 : (te.bytes : Int) * n ≤ 2048 * n := Int.mul_le_mul_of_nonneg_right (by omega) h0
        omega
       simp only [List.length_replicate]
       have d1 : decide (n < 0) = false := by simpa using hlt
       have d2 : decide ((te.bytes : Int) * n > 2 ^ 48) = false := decide_eq_false hbig
       have d3 : decide (n > n) = false := by simp
       simp only [execOp, ho, Instr.makeSlice, hl, hc, Sem.run_bind, run_underlyingS hT.und, hd, Result.andThen_ok, asInt, asIntOf, Sem.run_pure, run_typeInfoS hT'.info, hT'.bytes, w0, Sem.run_ite, d1, d2, d3,
        Bool.or_self, Bool.or_false, Bool.false_eq_true, if_false, run_askRoom, run_sizeOfS hT'.info, hT'.size]
       by_cases hz0 : n.toNat * te.size = 0
       ·have e0 : ∀ f : Nat → Value, Array.map f (Array.range 0) = #[] := fun f => by simp
        simp only [hz0, if_true, Sem.run_pure, Result.andThen_ok, e0]
        simp [newRow]
       ·simp only [hz0, if_false, Sem.run_bind, run_zeroValueS hT'.info hT'.zero, Result.andThen_ok, Sem.run_pure]
        simp [newRow]
     ·exact (run_fail h).elim
    ·exact (run_fail h).elim
   ·exact (run_fail h).elim
  ·exact (run_fail h).elim
 ·exact (run_fail h).elim
end
end Go.Sx
namespace Go.Sx
open Go
variable {P : Program} {E : Env} {C : Ctx}
section
variable {ρ : Operand → Value} {lk : Look} {o : Oper} {r : OpR} {id : Nat}
theorem row_ok (hs : SRel C) {id : Nat} {b b' : Blk} {k0 : Nat} {c c' : Array Value} {e : TypeId} {fz : Nat × Nat} (hm : C.m id = some b) (hh : C.w.heap[k0]? = some (.cells c e fz)) (hl : liesB (C.φ id) k0)
  (hown : ∀ k o, ownsB (C.φ id) b' k o → ownsB (C.φ id) b k o)
  (hkc : ∀ (ty : Nat) (cs : List AV), b = .cells ty cs → ∃ cs', b' = .cells ty cs')
  (hkl : ∀ (ee : Nat) t g sh L, b = .list ee t g sh L → ∃ g2 sh2 L2, b' = .list ee t g2 sh2 L2 ∧ g ≤ g2 ∧ (g = g2 → L2.length = L.length))
  (hsame : ∀ j, ¬ ownsB (C.φ id) b k0 j → c'[j]? = c[j]?) :
  let C' : Ctx := ⟨C.w.setRow k0 c', updF C.m id (some b'), C.φ, C.fr, C.gl⟩
  Ext C C' ∧ (BlkOK C' (C.φ id) b' → SRel C') := by
 have key := upd_ok hs (id := id) (b' := b') (g' := C.φ id) (w' := C.w.setRow k0 c') (by simp) (fun k hk hn => ?_) (fun k hk => .inl ⟨b, hm, hk⟩) (fun k o ho => .inl ⟨b, hm, hown k o ho⟩)
  (fun ty cs h => by rw [hm] at h; cases h; exact ⟨rfl, hkc ty cs rfl⟩) (fun ee t g sh L h => by
   rw [hm] at h
   cases h
   obtain ⟨g2, sh2, L2, h1, h2, h3⟩ := hkl ee t g sh L rfl
   exact ⟨g2, sh2, L2, h1, h2, fun e => ⟨rfl, h3 e⟩⟩) (fun k o v hv hn => ?_) rfl rfl rfl
 ·simp only [updF_self] at key
  exact key
 ·rw [setRow_other]
  intro e
  subst e
  exact hn ⟨b, hm, hl⟩
 ·by_cases e : k = k0
  ·subst e
   rw [cell_setRow_same C.w k o c c' _ fz hh, hsame o fun hh => hn ⟨b, hm, hh⟩, ← cell_of hh]
   exact hv
  ·rw [cell_setRow_other]
   ·exact hv
   ·exact e
theorem leaf_one {x : AV} {v : Value} (h : VRel C x v) (hl : x.leaf = true) : v.oneCell' = true := by
 cases x <;> simp [AV.leaf] at hl <;> simp only [VRel] at h <;> first
  | (subst h; rfl)
  | (obtain ⟨_, _, _, _, _, rfl | rfl⟩ := h <;> rfl)
  | (obtain ⟨_, _, _, _, rfl⟩ := h; rfl)
  | (obtain ⟨_, _, _, rfl, _⟩ := h; rfl)
  | (obtain ⟨_, rfl, _⟩ := h; rfl)
  | (obtain ⟨_, _, hv, _⟩ := h; simp only [List.cons.injEq, and_true] at hv; subst hv; rfl)
  | (obtain ⟨_, _, _, _, _, _, _, _, rfl, _⟩ := h; rfl)
  | (obtain ⟨_, _, _, _, _, _, _, _, _, rfl, _⟩ := h; rfl)
  | (obtain ⟨_, _, _, _, _, _, _, _, _, _, rfl, _⟩ := h; rfl)
theorem leafs_one : ∀ {as : List AV} {vs : List Value}, VRelL C as vs → as.all AV.leaf = true → ∀ v ∈ vs, v.oneCell' = true
 | [], _, h, _ => by simp only [VRelL] at h; subst h; simp
 | a :: as, _, h, hl => by
  obtain ⟨v, r, rfl, h1, h2⟩ := h
  simp only [List.all_cons, Bool.and_eq_true] at hl
  intro u hu
  rcases List.mem_cons.1 hu with e | hu
  ·subst e; exact leaf_one h1 hl.1
  ·exact leafs_one h2 hl.2 u hu
theorem splice_rel {C : Ctx} {cs xs : List AV} {vs us : List Value} (h : VRelL C cs vs) (k : VRelL C xs us) (off : Nat) : VRelL C (splice cs off xs) (vs.take off ++ us ++ vs.drop (off + us.length)) := by
 unfold splice
 rw [k.len, List.append_assoc]
 exact (h.take).append (k.append h.drop)
theorem goodR_storeRef (hE : EnvOK E P) (hs : SRel C) (hρ : ∀ x, VRel C (evalO lk x) (ρ x)) {t : TypeId} {a x : Operand} (ho : o.op = .store t a x) {ti : TI} (hti : E.T t = some ti)
  (hsz : (evalO lk x).cells.length = ti.size) (hleaf : (evalO lk x).cells.all AV.leaf = true) {b off : Nat} (ha : evalO lk a = .ref b off) {ty : Nat} {cs : List AV} (hm : C.m b = some (.cells ty cs)) (hle : off + (evalO lk x).cells.length ≤ cs.length) :
  Good P C ρ o (.tup []) (updF C.m b (some (.cells ty (splice cs off (evalO lk x).cells)))) := by
 obtain ⟨i, d, z, hT⟩ := hE.T hti
 have hra := hρ a
 rw [ha] at hra
 obtain ⟨rb, ty2, cs2, hm2, hp, hv⟩ := hra
 rw [hm] at hm2
 cases hm2
 obtain ⟨rb', c, hg, hh, hr, hlf⟩ := hs.ok b _ hm
 rw [hp] at hg
 cases hg
 obtain ⟨h1, h2⟩ := leaf_cells (hρ x) hleaf
 have hcl : cs.length = c.size := by rw [hr.len]; simp
 have hvl : (ρ x).cells.toList.length = (evalO lk x).cells.length := by simpa using h2
 have hst := run_storeCells_atF P rb off ty (0, 0) (ρ x).cells.toList 0 c C.w hh (Nat.zero_le _) (by rw [hvl, ← hcl]; exact hle) (leafs_one h1 hleaf)
 simp only [Nat.add_zero] at hst
 obtain ⟨hE', hok⟩ := row_ok hs (b' := .cells ty (splice cs off (evalO lk x).cells)) (c' := (c.toList.take off ++ (ρ x).cells.toList ++ c.toList.drop (off + (ρ x).cells.toList.length)).toArray) hm hh (by rw [hp]; rfl) (fun k o' h => by rw [hp] at h ⊢; exact h)
  (fun _ _ h => by cases h; exact ⟨_, rfl⟩) (fun _ _ _ _ _ h => by cases h) (fun j hn => (hn (by rw [hp]; rfl)).elim)
 refine ⟨undef, _, .inr ⟨?_, rfl⟩, rfl, hok ?_, hE', ⟨#[], rfl, by simp [VRelL]⟩⟩
 ·have hne : ¬ ((ρ x).cells.size ≠ i.size) := by rw [h2, hsz, hT.size]; simp
  simp only [execOp, ho, Instr.storeAt, hv, Instr.sureAddr, storeVar, Sem.run_bind, Sem.run_pure, Result.andThen_ok, run_sizeOfS hT.info, hne, if_false, hst]
 ·refine ⟨rb, _, hp, setRow_heap C.w rb c _ ty (0, 0) hh, ?_, ?_⟩
  ·exact splice_rel (hr.mono hE') (h1.mono hE') off
  ·simp only [splice, List.all_append, Bool.and_eq_true]
   refine ⟨?_, hleaf, ?_⟩
   ·exact List.all_eq_true.2 fun y hy => List.all_eq_true.1 hlf y (List.mem_of_mem_take hy)
   ·exact List.all_eq_true.2 fun y hy => List.all_eq_true.1 hlf y (List.mem_of_mem_drop hy)
end
end Go.Sx
namespace Go.Sx
open Go
variable {P : Program} {E : Env} {C : Ctx}
section
variable {ρ : Operand → Value} {lk : Look} {o : Oper} {r : OpR} {id : Nat}
theorem applyM_none {m : Get} {i : Nat} : ∀ {a : Wr}, (∀ p ∈ a, p.1 ≠ i) → applyM m a i = m i
 | [], _ => rfl
 | (j, y) :: a, h => by
  simp only [applyM]
  rw [applyM_none fun p hp => h p (by simp [hp])]
  have := h (j, y) (by simp)
  simp only [updM]
  rw [if_neg (Ne.symm this)]
theorem seg_in {α : Type} (c vs : List α) (A s off : Nat) (hA : A + s ≤ c.length) (ho : off + vs.length ≤ s) :
  seg (c.take (A + off) ++ vs ++ c.drop (A + off + vs.length)) A s = (seg c A s).take off ++ vs ++ (seg c A s).drop (off + vs.length) := by
 apply List.ext_getElem?
 intro j
 rw [seg_get]
 by_cases hj : j < s
 ·rw [if_pos hj]
  have l1 : (c.take (A + off)).length = A + off := by simp; omega
  have l2 : ((seg c A s).take off).length = off := by simp [seg]; omega
  by_cases h1 : j < off
  ·rw [List.append_assoc, List.getElem?_append_left (by omega), List.getElem?_take, if_pos (by omega), List.append_assoc, List.getElem?_append_left (by omega), List.getElem?_take, if_pos h1, seg_get, if_pos hj]
  ·by_cases h2 : j < off + vs.length
   ·rw [List.append_assoc, List.getElem?_append_right (by omega), l1, List.getElem?_append_left (by omega), List.append_assoc, List.getElem?_append_right (by omega), l2, List.getElem?_append_left (by omega)]
    congr 1
    omega
   ·rw [List.getElem?_append_right (by simp; omega), List.getElem?_append_right (by simp [l2]; omega)]
    simp only [List.length_append, l1, l2, List.getElem?_drop, seg_get]
    rw [if_pos (by omega)]
    congr 1
    omega
 ·rw [if_neg hj]
  symm
  apply List.getElem?_eq_none
  simp [seg]
  omega
theorem seg_out {α : Type} (c vs : List α) (B A n : Nat) (hB : B + vs.length ≤ c.length) (h : A + n ≤ B ∨ B + vs.length ≤ A) :
  seg (c.take B ++ vs ++ c.drop (B + vs.length)) A n = seg c A n := by
 apply List.ext_getElem?
 intro j
 rw [seg_get, seg_get]
 by_cases hj : j < n
 ·rw [if_pos hj, if_pos hj]
  have l1 : (c.take B).length = B := by simp; omega
  rcases h with h | h
  ·rw [List.append_assoc, List.getElem?_append_left (by omega), List.getElem?_take, if_pos (by omega)]
  ·rw [List.getElem?_append_right (by simp; omega)]
   simp only [List.length_append, l1, List.getElem?_drop]
   congr 1
   omega
 ·rw [if_neg hj, if_neg hj]
theorem goodR_storeEl (hE : EnvOK E P) (hs : SRel C) (hρ : ∀ x, VRel C (evalO lk x) (ρ x)) {t : TypeId} {a x : Operand} (ho : o.op = .store t a x) {ti : TI} (hti : E.T t = some ti)
  (hsz : (evalO lk x).cells.length = ti.size) (hleaf : (evalO lk x).cells.all AV.leaf = true) {b g i off : Nat} (ha : evalO lk a = .el b g i off) {ee : Nat} {ty : Ty} {L : List ty.den} (hm : C.m b = some (.list ee ty g false L))
  (hle : off + (evalO lk x).cells.length ≤ ty.size) {y : ty.den} {ms : List Nat} (hu : unflat C.m ty (splice (flat ty (L.getD i ty.dflt)) off (evalO lk x).cells) = some (y, [], ms)) (hb : b ∉ ms) :
  Good P C ρ o (.tup []) (applyM C.m ((b, .list ee ty g false (L.set i y)) :: shareWr C.m ms)) := by
 obtain ⟨inf, d, z, hT⟩ := hE.T hti
 have hra := hρ a
 rw [ha] at hra
 obtain ⟨ee2, t2, g2, sh2, L2, hm2, _, k, o', hv, hq⟩ := hra
 rw [hm] at hm2
 cases hm2
 obtain ⟨ad, cap, hp, hil, rfl, rfl⟩ := hq rfl
 obtain ⟨a', cap', hgg, hz, hc, hbk⟩ := hs.ok b _ hm
 rw [hp] at hgg
 cases hgg
 obtain ⟨hsp, c, lo, hi, hh, hcs, hfz, _, hx⟩ := hbk
 simp only [Bool.false_eq_true, if_false] at hfz
 obtain ⟨h1, h2⟩ := leaf_cells (hρ x) hleaf
 have hvl : (ρ x).cells.toList.length = (evalO lk x).cells.length := by simpa using h2
 have hil2 : (i + 1) * ty.size ≤ cap * ty.size := Nat.mul_le_mul_right _ (by omega)
 rw [Nat.add_mul, Nat.one_mul] at hil2
 have hst := run_storeCells_atF P ad.block (ad.off + i * ty.size + off) ee (lo, hi) (ρ x).cells.toList 0 c C.w hh (by simp only; omega) (by rw [hvl]; omega) (leafs_one h1 hleaf)
 simp only [Nat.add_zero] at hst
 obtain ⟨C1, s1, s2, s3, s4, s5, s6, s7, s8⟩ := share_ok hs ms
 have hne : ∀ p ∈ shareWr C.m ms, p.1 ≠ b := fun p hp e => hb (e ▸ (shareWr_mem hp).1)
 have hm1 : C1.m b = some (.list ee ty g false L) := by rw [s3, applyM_none hne, hm]
 have hvs : VRelL C (splice (flat ty (L.getD i ty.dflt)) off (evalO lk x).cells) ((seg c.toList (ad.off + i * ty.size) ty.size).take off ++ (ρ x).cells.toList ++ (seg c.toList (ad.off + i * ty.size) ty.size).drop (off + (ρ x).cells.toList.length)) := by
  refine splice_rel ?_ h1 off
  have := hx i L[i] (by simp [hil])
  have hd : L.getD i ty.dflt = L[i] := by simp [List.getD, hil]
  rw [hd]
  exact flat_rel this
 obtain ⟨v1, v2, hv12, hr2, hv1, _, hR⟩ := unflat_rel hs hu hvs
 simp only [VRelL] at hr2
 subst hr2
 rw [List.append_nil] at hv12
 have hcl : (c.toList).length = c.size := by simp
 obtain ⟨c', hc'⟩ : ∃ c' : Array Value, c' = (c.toList.take (ad.off + i * ty.size + off) ++ (ρ x).cells.toList ++ c.toList.drop (ad.off + i * ty.size + off + (ρ x).cells.toList.length)).toArray := ⟨_, rfl⟩
 rw [← hc'] at hst
 have hcl' : c'.toList = c.toList.take (ad.off + i * ty.size + off) ++ (ρ x).cells.toList ++ c.toList.drop (ad.off + i * ty.size + off + (ρ x).cells.toList.length) := by rw [hc']
 have hsame : ∀ j, ¬ ownsB (C1.φ b) (.list ee ty g false L) ad.block j → c'[j]? = c[j]? := by
  intro j hn
  rw [s5, hp] at hn
  simp only [ownsB, Bool.false_eq_true, if_false, true_and] at hn
  have := seg_out c.toList (ρ x).cells.toList (ad.off + i * ty.size + off) j 1 (by rw [hvl]; omega) (by rw [hvl]; omega)
  rw [← hcl'] at this
  have := congrArg (·[0]?) this
  simpa [seg_get] using this
 obtain ⟨hE', hok⟩ := row_ok s1 (b' := .list ee ty g false (L.set i y)) (c' := c')
  hm1 (by rw [s4]; exact hh) (by rw [s5, hp]; rfl) (fun k o' h => by rw [s5, hp] at h ⊢; simpa [ownsB] using h) (fun _ _ h => by cases h) (fun _ t2 g2 sh2 L2 h => by cases h; exact ⟨g, false, L.set i y, rfl, Nat.le_refl _, fun _ => by simp⟩) hsame
 refine ⟨undef, _, .inr ⟨?_, rfl⟩, ?_, hok ?_, s2.trans hE', ⟨#[], rfl, by simp [VRelL]⟩⟩
 ·have hne : ¬ ((ρ x).cells.size ≠ inf.size) := by rw [h2, hsz, hT.size]; simp
  simp only [execOp, ho, Instr.storeAt, hv, Instr.sureAddr, storeVar, Sem.run_bind, Sem.run_pure, Result.andThen_ok, run_sizeOfS hT.info, hne, if_false, hst]
  rw [s4]
 ·simp only [applyM]
  rw [applyM_comm hne, ← s3]
  rfl
 ·refine ⟨some ad, cap, by rw [s5]; exact hp, hz, by simpa using hc, hsp, c', lo, hi, ?_, ?_, by simpa using hfz, fun h => (by cases h), fun j u hj => ?_⟩
  ·rw [s4]
   exact setRow_heap C.w ad.block c _ ee (lo, hi) hh
  ·have : c'.toList.length = c.size := by
    rw [hcl']
    simp only [List.length_append, List.length_take, List.length_drop, hcl, hvl]
    omega
   have : c'.size = c.size := by simpa using this
   rw [this]
   exact hcs
  ·rw [hcl']
   by_cases e' : j = i
   ·subst e'
    have hy : u = y := by
     rw [List.getElem?_set_self (by simpa using hil)] at hj
     exact (Option.some.inj hj).symm
    subst hy
    rw [seg_in c.toList _ (ad.off + j * ty.size) ty.size off (by omega) (by rw [hvl]; exact hle), hv12]
    have := hR C1.T s8 s7
    rw [← s4] at this
    exact this.mono hE'.keep
   ·rw [List.getElem?_set_ne (Ne.symm e')] at hj
    have hjl : j < L.length := (List.getElem?_eq_some_iff.1 hj).1
    have hj2 : (j + 1) * ty.size ≤ cap * ty.size := Nat.mul_le_mul_right _ (by omega)
    rw [Nat.add_mul, Nat.one_mul] at hj2
    rw [seg_out c.toList _ (ad.off + i * ty.size + off) (ad.off + j * ty.size) ty.size (by rw [hvl]; omega) (by
     rcases Nat.lt_or_gt_of_ne e' with h | h
     ·have : (j + 1) * ty.size ≤ i * ty.size := Nat.mul_le_mul_right _ h
      rw [Nat.add_mul, Nat.one_mul] at this
      left; omega
     ·have : (i + 1) * ty.size ≤ j * ty.size := Nat.mul_le_mul_right _ h
      rw [Nat.add_mul, Nat.one_mul] at this
      right; rw [hvl]; omega)]
    have := (hx j u hj).mono s2.keep
    exact this.mono hE'.keep
theorem goodR_store (hE : EnvOK E P) (hs : SRel C) (hρ : ∀ x, VRel C (evalO lk x) (ρ x)) {t : TypeId} {a x : Operand} (ho : o.op = .store t a x)
  (h : (opA E lk C.m id (.store t a x)).run = some r) : GoodR P C ρ o r := by
 simp only [opA] at h
 split at h
 ·rename_i ti hti
  split at h
  ·rename_i hn
   have hn := beq_eq hn
   split at h
   ·rename_i r' hst
    rw [run_leaf h]
    unfold storeA at hst
    split at hst
    ·cases hst
    ·rename_i hleaf
     split at hst
     ·rename_i b off ha
      split at hst
      ·rename_i ty cs hm
       split at hst
       ·rename_i hle
        simp only [Option.some.injEq] at hst
        subst hst
        exact goodR_storeRef hE hs hρ ho hti hn hleaf ha hm (Nat.le_of_ble_eq_true hle)
       ·cases hst
      ·cases hst
     ·rename_i b g i off ha
      split at hst
      ·rename_i ty g' L hm
       split at hst
       ·rename_i hck
        simp only [Bool.and_eq_true] at hck
        have hg := beq_eq hck.1
        subst hg
        split at hst
        ·rename_i y ms hu
         split at hst
         ·cases hst
         ·rename_i hb
          simp only [Option.some.injEq] at hst
          subst hst
          refine goodR_storeEl hE hs hρ ho hti hn hleaf ha hm (Nat.le_of_ble_eq_true hck.2) hu fun hmem => ?_
          have : ms.any (Nat.beq b) = true := List.any_eq_true.2 ⟨b, hmem, by simp⟩
          rw [hb] at this
          cases this
        ·cases hst
       ·cases hst
      ·cases hst
     ·cases hst
   ·exact (run_fail h).elim
  ·exact (run_fail h).elim
 ·exact (run_fail h).elim
end
end Go.Sx
namespace Go.Sx
open Go
variable {P : Program} {E : Env} {C : Ctx}
section
variable {ρ : Operand → Value} {lk : Look} {o : Oper} {r : OpR} {id : Nat}
theorem inB_ok {l h : Int} {n : Nat} (hb : inB l h n = true) : 0 ≤ l ∧ l ≤ h ∧ h ≤ (n : Int) := by
 simpa [inB] using hb
theorem intOf_ok {a : AV} {n : Int} {v : Value} (h : intOf? a = some n) (hv : VRel C a v) : v = .int .i64 n := by
 unfold intOf? at h
 split at h
 ·cases h; simpa [VRel] using hv
 ·cases h
theorem run_sliceBound {k : IntKind} {i : Int} {y : Nat} {code : BoundsCode} (h0 : 0 ≤ i) (h1 : i ≤ (y : Int)) (w : World) : (Instr.sliceBound (.int k i) y code).run P w = .ok i.toNat w := by
 simp [Instr.sliceBound, asIntOf, h0, h1]
theorem run_bounds (hρ : ∀ x, VRel C (evalO lk x) (ρ x)) {len cap : Nat} {lo hi : Option Operand} {l h : Int} (hl : loOf lk lo = some l) (hh : hiOf lk len hi = some h) (h0 : 0 ≤ l) (h1 : l ≤ h) (h2 : h ≤ (len : Int)) (hc : len ≤ cap) (isS : Bool) (w : World) :
  (Instr.sliceBounds isS len cap (lo.map ρ) (hi.map ρ) none).run P w = .ok (l.toNat, h.toNat, cap) w := by
 cases hi with
 | none =>
  simp only [hiOf, Option.some.injEq] at hh
  subst hh
  cases lo with
  | none =>
   simp only [loOf, Option.some.injEq] at hl
   subst hl
   simp [Instr.sliceBounds]
  | some b =>
   simp only [loOf] at hl
   have e2 := intOf_ok hl (hρ b)
   have := fun code => run_sliceBound (P := P) (k := .i64) (i := l) (y := len) (code := code) h0 (by omega) w
   simp [Instr.sliceBounds, e2, this]
 | some a =>
  simp only [hiOf] at hh
  have e1 := intOf_ok hh (hρ a)
  have g1 := fun code => run_sliceBound (P := P) (k := .i64) (i := h) (y := cap) (code := code) (by omega) (by omega) w
  cases lo with
  | none =>
   simp only [loOf, Option.some.injEq] at hl
   subst hl
   simp [Instr.sliceBounds, e1, g1]
  | some b =>
   simp only [loOf] at hl
   have e2 := intOf_ok hl (hρ b)
   have g2 := fun code => run_sliceBound (P := P) (k := .i64) (i := l) (y := h.toNat) (code := code) h0 (by omega) w
   simp [Instr.sliceBounds, e1, g1, e2, g2]
theorem piece_rep {w : World} {T : Nat → Nat → Prop} {t : Ty} {L : List t.den} {a : Option Addr} {cap : Nat} (hr : Rep w T (.slice t) L [.slice a L.length cap]) {l h : Nat} (h1 : l ≤ h) (h2 : h ≤ L.length) :
  Rep w T (.slice t) ((L.take h).drop l) [.slice (if cap = l then a else a.map (·.add (l * t.size))) (h - l) (cap - l)] := by
 obtain ⟨a', cap', hv, hc, hx⟩ := hr
 simp only [List.cons.injEq, Value.slice.injEq, and_true, true_and] at hv
 obtain ⟨rfl, rfl⟩ := hv
 have hlen : ((L.take h).drop l).length = h - l := by simp; omega
 have hc' : L.length ≤ cap := hc
 refine ⟨_, _, by rw [hlen], by rw [hlen]; omega, fun i x hi => ?_⟩
 have hil : i < h - l := by
  have := (List.getElem?_eq_some_iff.1 hi).1
  have h3 : i < ((L.take h).drop l).length := this
  omega
 have hne : ¬ cap = l := by omega
 have hi' : L[l + i]? = some x := by
  have : ((L.take h).drop l)[i]? = some x := hi
  rw [List.getElem?_drop, List.getElem?_take, if_pos (by omega)] at this
  exact this
 obtain ⟨ad, cs, rfl, hsp, him, hrp⟩ := hx _ _ hi'
 obtain ⟨bk, of, sp⟩ := ad
 simp only at hsp
 subst hsp
 refine ⟨⟨bk, of + l * t.size, none⟩, cs, by rw [if_neg hne]; simp [addr_add], rfl, ?_, hrp⟩
 simp only
 have e : of + l * t.size + i * t.size = of + (l + i) * t.size := by rw [Nat.add_mul]; omega
 rw [e]
 exact him
theorem run_slice_slice {t : TypeId} {x : Operand} {lo hi : Option Operand} (hρ : ∀ x, VRel C (evalO lk x) (ρ x)) (hE : EnvOK E P) {es : Nat} (hes : elemSize E t = some es) (ho : o.op = .slice t x lo hi none) {a : Option Addr} {len cap : Nat} (hv : ρ x = .slice a len cap)
  {l h : Int} (hl : loOf lk lo = some l) (hh : hiOf lk len hi = some h) (h0 : 0 ≤ l) (h1 : l ≤ h) (h2 : h ≤ (len : Int)) (hc : len ≤ cap) :
  (execOp ρ o).run P C.w = .ok (.value (.slice (if cap = l.toNat then a else a.map (·.add (l.toNat * es))) (h.toNat - l.toNat) (cap - l.toNat))) C.w := by
 obtain ⟨e, ei, hund, hinf, hsz, _⟩ := elemSize_ok hE hes
 have hb := run_bounds (P := P) (C := C) hρ hl hh h0 h1 h2 hc true C.w
 simp [execOp, ho, Instr.sliceAt, Instr.slice, run_underlyingS hund, hv, hb, run_sizeOfS hinf, hsz]
theorem goodR_slice_sl (hE : EnvOK E P) (hs : SRel C) (hρ : ∀ x, VRel C (evalO lk x) (ρ x)) {t : TypeId} {x : Operand} {lo hi : Option Operand} (ho : o.op = .slice t x lo hi none) {es : Nat} (hes : elemSize E t = some es)
  {ty : Ty} {L : List ty.den} (hr : Rep C.w C.T (.slice ty) L [ρ x]) (hse : ty.size = es) {l h : Int} (hl : loOf lk lo = some l) (hh : hiOf lk L.length hi = some h) (hb : inB l h L.length = true) :
  Good P C ρ o (.sl ty ((L.take h.toNat).drop l.toNat)) C.m := by
 obtain ⟨h0, h1, h2⟩ := inB_ok hb
 have hr' := hr
 obtain ⟨a, cap, hv, hc, _⟩ := hr
 simp only [List.cons.injEq, and_true] at hv
 have hc' : L.length ≤ cap := hc
 have hrun := run_slice_slice (P := P) (C := C) hρ hE hes ho hv hl hh h0 h1 h2 hc'
 refine Good.pure hs hrun ?_
 rw [hv] at hr'
 have := piece_rep hr' (l := l.toNat) (h := h.toNat) (by omega) (by omega)
 rw [hse] at this
 exact this
theorem goodR_slice_str (hE : EnvOK E P) (hs : SRel C) (hρ : ∀ x, VRel C (evalO lk x) (ρ x)) {t : TypeId} {x : Operand} {lo hi : Option Operand} (ho : o.op = .slice t x lo hi none) {ti : TI} (hti : E.T t = some ti) (htd : ti.td = .str)
  {s : List UInt8} (hx : evalO lk x = .str s) {l h : Int} (hl : loOf lk lo = some l) (hh : hiOf lk s.length hi = some h) (hb : inB l h s.length = true) :
  Good P C ρ o (.str ((s.take h.toNat).drop l.toNat)) C.m := by
 obtain ⟨h0, h1, h2⟩ := inB_ok hb
 obtain ⟨_, _, _, hT⟩ := hE.T hti
 have hd := td_str hT htd
 have hv := hρ x
 rw [hx] at hv
 simp only [VRel] at hv
 have hb' := run_bounds (P := P) (C := C) hρ hl hh h0 h1 h2 (Nat.le_refl _) false C.w
 have hsz : (ByteArray.mk ⟨s⟩).size = s.length := rfl
 refine Good.pure hs (v := .string ⟨⟨(s.take h.toNat).drop l.toNat⟩⟩) ?_ (by simp [VRel])
 have hex : (ByteArray.mk ⟨s⟩).extract l.toNat h.toNat = ⟨⟨(s.take h.toNat).drop l.toNat⟩⟩ := by
  apply WideShapes.bytes_inj
  simp [ByteArray.data_extract, Array.toList_extract, List.extract_eq_take_drop, List.drop_take]
 simp [execOp, ho, Instr.sliceAt, Instr.slice, run_underlyingS hT.und, hd, hv, hsz, hb', hex]
theorem own_info (hs : SRel C) {b g : Nat} {v : Value} {ee : Nat} {t : Ty} {sh : Bool} {L : List t.den} (hv : VRel C (.own b g) v) (hm : C.m b = some (.list ee t g sh L)) :
  ∃ a cap, C.φ b = .list a cap ∧ v = .slice a L.length cap ∧ L.length ≤ cap ∧ 0 < t.size := by
 obtain ⟨ee2, t2, g2, sh2, L2, hm2, _, a, n, cap, rfl, hq⟩ := hv
 rw [hm] at hm2
 cases hm2
 obtain ⟨hp, rfl⟩ := hq rfl
 obtain ⟨a', cap', hgg, hz, hc, _⟩ := hs.ok b _ hm
 rw [hp] at hgg
 cases hgg
 exact ⟨a, cap, hp, rfl, hc, hz⟩
theorem goodR_slice_snap (hE : EnvOK E P) (hs : SRel C) (hρ : ∀ x, VRel C (evalO lk x) (ρ x)) {t : TypeId} {x : Operand} {lo hi : Option Operand} (ho : o.op = .slice t x lo hi none) {es : Nat} (hes : elemSize E t = some es)
  {b g : Nat} (hx : evalO lk x = .own b g) {ee : Nat} {ty : Ty} {sh : Bool} {L : List ty.den} (hm : C.m b = some (.list ee ty g sh L)) (hse : ty.size = es) {l h : Int} (hl : loOf lk lo = some l) (hh : hiOf lk L.length hi = some h) (hb : inB l h L.length = true) :
  Good P C ρ o (.sl ty ((L.take h.toNat).drop l.toNat)) (applyM C.m (shareWr C.m [b])) := by
 obtain ⟨h0, h1, h2⟩ := inB_ok hb
 have hvr := hρ x
 rw [hx] at hvr
 obtain ⟨a, cap, hp, hv, hc, hz⟩ := own_info hs hvr hm
 have hrun := run_slice_slice (P := P) (C := C) hρ hE hes ho hv hl hh h0 h1 h2 hc
 obtain ⟨C1, s1, s2, s3, s4, s5, s6, s7, s8⟩ := share_ok hs [b]
 refine ⟨_, C1, .inl (by rw [s4]; exact hrun), s3, s1, s2, ?_⟩
 have hr := own_rep hs hvr hm rfl s8 s7
 rw [hv, ← s4] at hr
 have := piece_rep hr (l := l.toNat) (h := h.toNat) (by omega) (by omega)
 rw [hse] at this
 exact this
theorem goodR_slice_cut (hE : EnvOK E P) (hs : SRel C) (hρ : ∀ x, VRel C (evalO lk x) (ρ x)) {t : TypeId} {x : Operand} {hi : Option Operand} (ho : o.op = .slice t x none hi none) {es : Nat} (hes : elemSize E t = some es)
  {b g : Nat} (hx : evalO lk x = .own b g) {ee : Nat} {ty : Ty} {L : List ty.den} (hm : C.m b = some (.list ee ty g false L)) {h : Int} (hh : hiOf lk L.length hi = some h) (hb : inB 0 h L.length = true) :
  Good P C ρ o (.own b (g + 1)) (updF C.m b (some (.list ee ty (g + 1) false (L.take h.toNat)))) := by
 obtain ⟨h0, h1, h2⟩ := inB_ok hb
 have hvr := hρ x
 rw [hx] at hvr
 obtain ⟨a, cap, hp, hv, hc, hz⟩ := own_info hs hvr hm
 have hrun := run_slice_slice (P := P) (C := C) hρ hE hes ho hv (l := 0) rfl hh h0 h1 h2 hc
 have hva : (Value.slice (if cap = (0 : Int).toNat then a else a.map (·.add ((0 : Int).toNat * es))) (h.toNat - (0 : Int).toNat) (cap - (0 : Int).toNat)) = .slice a h.toNat cap := by
  have e0 : (0 : Int).toNat = 0 := rfl
  rw [e0]
  congr 1
  split
  ·rfl
  ·cases a with
   | none => rfl
   | some ad => simp [Addr.add]
 rw [hva] at hrun
 obtain ⟨a', cap', hgg, _, _, hbk⟩ := hs.ok b _ hm
 rw [hp] at hgg
 cases hgg
 have hlen : (L.take h.toNat).length = h.toNat := by simp; omega
 have key := same_ok hs (id := b) (b' := .list ee ty (g + 1) false (L.take h.toNat)) (g' := C.φ b) (fun k hk => ⟨_, hm, hk⟩) (fun k o' hk => ⟨_, hm, by rw [hp] at hk ⊢; cases a with | none => exact hk.elim | some ad => simpa [ownsB] using hk⟩)
  (fun _ cs h => by rw [hm] at h; cases h) (fun _ t2 g2 sh2 L2 h => by rw [hm] at h; cases h; exact ⟨g + 1, false, _, rfl, by omega, fun e => by omega⟩)
 simp only [updF_self] at key
 obtain ⟨hEx, hok⟩ := key
 refine ⟨_, ⟨C.w, updF C.m b (some (.list ee ty (g + 1) false (L.take h.toNat))), C.φ, C.fr, C.gl⟩, .inl hrun, rfl, hok ⟨a, cap, hp, hz, by rw [hlen]; omega, ?_⟩, hEx, ?_⟩
 ·cases a with
  | none => exact hbk
  | some ad =>
   obtain ⟨hsp, c, lo, hi', hh', hsz, hfz, _, hxx⟩ := hbk
   refine ⟨hsp, c, lo, hi', hh', hsz, by simpa using hfz, fun h => (by cases h), fun i y hy => ?_⟩
   have hy' : L[i]? = some y := by
    rw [List.getElem?_take] at hy
    split at hy
    ·exact hy
    ·cases hy
   exact (hxx i y hy').mono hEx.keep
 ·exact ⟨ee, ty, g + 1, false, L.take h.toNat, by simp [updF], Nat.le_refl _, a, h.toNat, cap, rfl, fun _ => ⟨hp, hlen.symm⟩⟩
theorem goodR_slice3 (hE : EnvOK E P) (hs : SRel C) (hρ : ∀ x, VRel C (evalO lk x) (ρ x)) {t : TypeId} {x hi mx : Operand} (ho : o.op = .slice t x none (some hi) (some mx)) {es : Nat} (hes : elemSize E t = some es)
  {b g : Nat} (hx : evalO lk x = .own b g) {ee : Nat} {ty : Ty} {sh : Bool} {L : List ty.den} (hm : C.m b = some (.list ee ty g sh L)) {h : Int} (hh : intOf? (evalO lk hi) = some h) (hmx : intOf? (evalO lk mx) = some h) (hb : inB 0 h L.length = true) :
  Good P C ρ o (.sx ty (L.take h.toNat)) (applyM C.m (shareWr C.m [b])) := by
 obtain ⟨_, h0, h2⟩ := inB_ok hb
 have hvr := hρ x
 rw [hx] at hvr
 obtain ⟨a, cap, hp, hv, hc, hz⟩ := own_info hs hvr hm
 obtain ⟨e, ei, hund, hinf, hsz, _⟩ := elemSize_ok hE hes
 have e1 := intOf_ok hh (hρ hi)
 have e2 := intOf_ok hmx (hρ mx)
 have g1 := fun code => run_sliceBound (P := P) (k := .i64) (i := h) (y := cap) (code := code) h0 (by omega) C.w
 have g2 := fun code => run_sliceBound (P := P) (k := .i64) (i := h) (y := h.toNat) (code := code) h0 (by omega) C.w
 obtain ⟨C1, s1, s2, s3, s4, s5, s6, s7, s8⟩ := share_ok hs [b]
 have hlen : (L.take h.toNat).length = h.toNat := by simp; omega
 have hrun : (execOp ρ o).run P C.w = .ok (.value (.slice a h.toNat h.toNat)) C.w := by
  have haa : a.map (fun x => x.add 0) = a := by
   cases a with
   | none => rfl
   | some ad => simp [Addr.add]
  simp [execOp, ho, Instr.sliceAt, Instr.slice, run_underlyingS hund, hv, Instr.sliceBounds, e1, e2, g1, g2, run_sizeOfS hinf, hsz, haa]
 have hr := own_rep hs hvr hm rfl s8 s7
 rw [hv, ← s4] at hr
 refine ⟨_, C1, .inl (by rw [s4]; exact hrun), s3, s1, s2, a, by rw [hlen], ?_⟩
 obtain ⟨a', cap', hv', _, hxx⟩ := hr
 simp only [List.cons.injEq, Value.slice.injEq, and_true, true_and] at hv'
 obtain ⟨rfl, rfl⟩ := hv'
 refine ⟨a, h.toNat, by rw [hlen], by rw [hlen]; exact Nat.le_refl _, fun i y hy => hxx i y ?_⟩
 have hy' : (L.take h.toNat)[i]? = some y := hy
 rw [List.getElem?_take] at hy'
 split at hy'
 ·exact hy'
 ·cases hy'
theorem goodR_slice (hE : EnvOK E P) (hs : SRel C) (hρ : ∀ x, VRel C (evalO lk x) (ρ x)) {t : TypeId} {x : Operand} {lo hi mx : Option Operand} (ho : o.op = .slice t x lo hi mx)
  (h : (opA E lk C.m id (.slice t x lo hi mx)).run = some r) : GoodR P C ρ o r := by
 simp only [opA] at h
 split at h
 ·rename_i s hx
  split at h
  ·rename_i ti hti
   split at h
   ·rename_i htd
    simp only [sliceA] at h
    split at h
    ·rename_i l h' hl hh
     obtain ⟨hb, h⟩ := run_brT h
     rw [run_pureV h]
     exact goodR_slice_str hE hs hρ ho hti htd hx hl hh hb
    ·exact (run_fail h).elim
   ·exact (run_fail h).elim
  ·exact (run_fail h).elim
 ·rename_i v mx' hne
  split at h
  ·rename_i es hes
   unfold sliceA at h
   split at h
   ·rename_i m
    split at h
    ·rename_i b g hi hx
     split at h
     ·rename_i ty g' sh L hm
      split at h
      ·rename_i hck
       simp only [Bool.and_eq_true] at hck
       have hg := beq_eq hck.1
       subst hg
       split at h
       ·rename_i hh1 mm e1 e2
        obtain ⟨hb, h'⟩ := run_brT h
        clear h
        simp only [Bool.and_eq_true, beq_iff_eq] at hb
        obtain ⟨hb, rfl⟩ := hb
        rw [run_leaf h']
        exact goodR_slice3 hE hs hρ ho hes hx hm e1 e2 hb
       ·exact (run_fail h).elim
      ·exact (run_fail h).elim
     ·exact (run_fail h).elim
    ·rename_i hi hx
     split at h
     ·rename_i hh1 mm e1 e2
      obtain ⟨hb, h'⟩ := run_brT h
      clear h
      simp only [Bool.and_eq_true, beq_iff_eq] at hb
      obtain ⟨rfl, rfl⟩ := hb
      rw [run_pureV h']
      obtain ⟨e, ei, hund, hinf, hsz, _⟩ := elemSize_ok hE hes
      have hv := hρ x
      rw [hx] at hv
      simp only [VRel] at hv
      have k1 := intOf_ok e1 (hρ hi)
      have k2 := intOf_ok e2 (hρ m)
      have g1 := fun code => run_sliceBound (P := P) (k := .i64) (i := 0) (y := 0) (code := code) (by omega) (by omega) C.w
      refine Good.pure hs (v := .slice none 0 0) ?_ (by simp [VRel])
      simp [execOp, ho, Instr.sliceAt, Instr.slice, run_underlyingS hund, hv, Instr.sliceBounds, k1, k2, g1, run_sizeOfS hinf, hsz]
     ·exact (run_fail h).elim
    ·exact (run_fail h).elim
   ·split at h
    ·rename_i s hx
     exact (hne s hx rfl).elim
    ·rename_i b g hx
     split at h
     ·rename_i ty g' sh L hm
      split at h
      ·rename_i l h' hck hl hh
       simp only [Bool.and_eq_true] at hck
       have hg := beq_eq hck.1
       subst hg
       split at h
       ·rename_i hsh hlo
        obtain ⟨hb, h⟩ := run_brT h
        rw [run_leaf h]
        exact goodR_slice_cut hE hs hρ ho hes hx hm hh hb
       ·obtain ⟨hb, h⟩ := run_brT h
        rw [run_leaf h]
        exact goodR_slice_snap hE hs hρ ho hes hx hm (beq_eq hck.2) hl hh hb
      ·exact (run_fail h).elim
     ·exact (run_fail h).elim
    ·rename_i ty L hx
     split at h
     ·rename_i l h' hse hl hh
      obtain ⟨hb, h⟩ := run_brT h
      rw [run_pureV h]
      have hr := hρ x
      rw [hx] at hr
      exact goodR_slice_sl hE hs hρ ho hes hr (beq_eq hse) hl hh hb
     ·exact (run_fail h).elim
    ·rename_i ty L hx
     split at h
     ·rename_i l h' hse hl hh
      obtain ⟨hb, h⟩ := run_brT h
      rw [run_pureV h]
      have hr := hρ x
      rw [hx] at hr
      obtain ⟨_, _, hr⟩ := hr
      exact goodR_slice_sl hE hs hρ ho hes hr (beq_eq hse) hl hh hb
     ·exact (run_fail h).elim
    ·exact (run_fail h).elim
  ·exact (run_fail h).elim
end
end Go.Sx
