/- A part of the proof: see the row's text. -/
import Derived.Test.YtbpfdbbijfpjkaaDoorUxR
import Derived.ChangeBears
import Derived.ChangeReads
import Derived.DataReads
import Derived.ChangeArms
set_option linter.unusedVariables false
set_option linter.unusedSimpArgs false
namespace Go.Sx
open Go
variable {G : Nat → Obj → Prop} {P : Program} {E : Env} {K : Callee} {R : Type} {C : Ctx}

def Free (m : Get) (n : Nat) : Prop := ∀ k, n ≤ k → m k = none

theorem applyM_free {m : Get} {n : Nat} : ∀ {wr : Wr}, Free m n → (∀ p ∈ wr, p.1 < n) → Free (applyM m wr) n
  | [], h, _ => h
  | (i, b) :: r, h, hw => applyM_free (wr := r) (fun k hk => by
      simp only [updM]
      have := hw (i, b) (by simp)
      rw [if_neg (by intro e; subst e; simp only at this; omega)]
      exact h k hk) fun p hp => hw p (by simp [hp])

theorem shareWr_lt {m : Get} {n : Nat} (hf : Free m n) {ms : List Nat} : ∀ p ∈ shareWr m ms, p.1 < n := fun p hp => by
  obtain ⟨_, ee, t, g, sh, L, hm⟩ := shareWr_mem hp
  rcases Nat.lt_or_ge p.1 n with h | h
  · exact h
  · rw [hf p.1 h] at hm; cases hm

theorem castA_ok (hs : SRel C) {self n : Nat} {s : Sh} {a a' : AV} {wr : Wr} {n' : Nat} (h : castA C.m self n s a = some (a', wr, n')) (hf : Free C.m n) {v : Value} (hv : VRel C a v) :
    ∃ C', C'.w = C.w ∧ C'.m = applyM C.m wr ∧ SRel C' ∧ Ext C C' ∧ VRel C' a' v ∧ Free C'.m n' ∧ n ≤ n' ∧ (a.leaf = true → a'.leaf = true) := by
  cases s with
  | keep =>
    simp only [castA, Option.some.injEq, Prod.mk.injEq] at h
    obtain ⟨rfl, rfl, rfl⟩ := h
    exact ⟨C, rfl, rfl, hs, Ext.refl C, hv, hf, Nat.le_refl _, fun h => h⟩
  | sl t =>
    simp only [castA] at h
    split at h
    · rename_i L m hu
      simp only [Option.some.injEq, Prod.mk.injEq] at h
      obtain ⟨rfl, rfl, rfl⟩ := h
      obtain ⟨v1, v2, e1, e2, _, _, hR⟩ := unflat_rel hs hu (vs := [v]) ⟨v, [], rfl, hv, rfl⟩
      simp only [VRelL] at e2
      subst e2
      rw [List.append_nil] at e1
      subst e1
      obtain ⟨C1, s1, s2, s3, s4, s5, s6, s7, s8⟩ := share_ok hs m
      refine ⟨C1, s4, s3, s1, s2, ?_, ?_, Nat.le_refl _, fun _ => rfl⟩
      · have := hR C1.T s8 s7
        rw [← s4] at this
        exact this
      · rw [s3]; exact applyM_free hf (shareWr_lt hf)
    · cases h
  | own e t =>
    simp only [castA] at h
    split at h
    · rename_i hz
      have hz : 1 ≤ t.size := Nat.le_of_ble_eq_true hz
      split at h
      · simp only [Option.some.injEq, Prod.mk.injEq] at h
        obtain ⟨rfl, rfl, rfl⟩ := h
        simp only [VRel] at hv
        subst hv
        have hid : C.m n = none := hf n (Nat.le_refl _)
        obtain ⟨hEx, hok⟩ := same_ok hs (id := n) (b' := .list e t 0 false []) (g' := .list none 0) (fun k hk => hk.elim) (fun k o' hk => hk.elim)
          (fun _ cs h => by rw [hid] at h; cases h) (fun _ t2 g2 sh2 L2 h => by rw [hid] at h; cases h)
        refine ⟨⟨C.w, updF C.m n (some (.list e t 0 false [])), updF C.φ n (.list none 0), C.fr, C.gl⟩, rfl, rfl, hok ⟨none, 0, rfl, by omega, Nat.le_refl _, rfl⟩, hEx, ⟨e, t, 0, false, [], by simp [updF], Nat.le_refl _, none, 0, 0, rfl, fun _ => ⟨by simp [updF], rfl⟩⟩, ?_, Nat.le_succ _, fun _ => rfl⟩
        intro k hk
        simp only [updF]
        rw [if_neg (by omega)]
        exact hf k (by omega)
      · rename_i b g
        split at h
        · split at h
          · split at h
            · simp only [Option.some.injEq, Prod.mk.injEq] at h
              obtain ⟨rfl, rfl, rfl⟩ := h
              exact ⟨C, rfl, rfl, hs, Ext.refl C, hv, hf, Nat.le_refl _, fun h => h⟩
            · cases h
          · cases h
        · cases h
      · cases h
    · cases h
  | bself =>
    simp only [castA] at h
    split at h
    · rename_i ty cs hm
      obtain ⟨rb, c, hφ, _⟩ := hs.ok self _ hm
      have done : ∀ {u : Value}, (u = .pointer none ∨ u = .pointer (some ⟨rb, 0, none⟩)) → some (AV.bself self, ([] : Wr), n) = some (a', wr, n') → v = u →
          ∃ C', C'.w = C.w ∧ C'.m = applyM C.m wr ∧ SRel C' ∧ Ext C C' ∧ VRel C' a' v ∧ Free C'.m n' ∧ n ≤ n' ∧ (a.leaf = true → a'.leaf = true) := by
        intro u hu h e
        simp only [Option.some.injEq, Prod.mk.injEq] at h
        obtain ⟨rfl, rfl, rfl⟩ := h
        subst e
        exact ⟨C, rfl, rfl, hs, Ext.refl C, ⟨rb, ty, cs, hm, hφ, hu⟩, hf, Nat.le_refl _, fun _ => rfl⟩
      split at h
      · simp only [VRel] at hv
        exact done (.inl rfl) h hv
      · rename_i b o
        split at h
        · split at h
          · rename_i hb
            have hb := beq_eq hb
            subst hb
            obtain ⟨rb', ty', cs', h1, h2, h3⟩ := hv
            rw [hφ] at h2
            cases h2
            exact done (.inr rfl) h h3
          · cases h
        · cases h
      · rename_i b
        split at h
        · rename_i hb
          have hb := beq_eq hb
          subst hb
          obtain ⟨rb', ty', cs', h1, h2, h3⟩ := hv
          rw [hφ] at h2
          cases h2
          rcases h3 with h3 | h3
          · exact done (.inl rfl) h h3
          · exact done (.inr rfl) h h3
        · cases h
      · cases h
    · cases h

theorem castC_ok {self : Nat} : ∀ {ss : List Sh} {as as' : List AV} {bs bs' : Blks} {n n' : Nat} {C : Ctx} {vs : List Value}, castC self ss as bs n = some (as', bs', n') → C.m = getB bs → SRel C → Free C.m n → VRelL C as vs →
    ∃ C', C'.w = C.w ∧ C'.m = getB bs' ∧ SRel C' ∧ Ext C C' ∧ VRelL C' as' vs ∧ Free C'.m n' ∧ (as.all AV.leaf = true → as'.all AV.leaf = true)
  | [], as, as', bs, bs', n, n', C, vs, h, hm, hs, hf, hv => by
    simp only [castC, Option.some.injEq, Prod.mk.injEq] at h
    obtain ⟨rfl, rfl, rfl⟩ := h
    exact ⟨C, rfl, hm, hs, Ext.refl C, hv, hf, fun h => h⟩
  | s :: ss, [], as', bs, bs', n, n', C, vs, h, hm, hs, hf, hv => by simp [castC] at h
  | s :: ss, a :: as, as', bs, bs', n, n', C, vs, h, hm, hs, hf, hv => by
    simp only [castC] at h
    split at h
    · rename_i a1 wr n1 h1
      split at h
      · rename_i as2 bs2 n2 h2
        simp only [Option.some.injEq, Prod.mk.injEq] at h
        obtain ⟨rfl, rfl, rfl⟩ := h
        obtain ⟨v, r, rfl, hv1, hv2⟩ := hv
        rw [← hm] at h1
        obtain ⟨C1, w1, m1, s1, e1, r1, f1, _, l1⟩ := castA_ok hs h1 hf hv1
        obtain ⟨C2, w2, m2, s2, e2, r2, f2, l2⟩ := castC_ok h2 (by rw [m1, getB_apply, hm]) s1 f1 (VRelL.mono e1 hv2)
        refine ⟨C2, w2.trans w1, m2, s2, e1.trans e2, ⟨v, r, rfl, r1.mono e2, r2⟩, f2, fun hl => ?_⟩
        simp only [List.all_cons, Bool.and_eq_true] at hl ⊢
        exact ⟨l1 hl.1, l2 hl.2⟩
      · cases h
    · cases h

theorem castV_ok {ss : List Sh} {a a' : AV} {bs bs' : Blks} {n n' : Nat} {C : Ctx} {v : Value} (h : castV ss a bs n = some (a', bs', n')) (hm : C.m = getB bs) (hs : SRel C) (hf : Free C.m n) (hv : VRel C a v) :
    ∃ C', C'.w = C.w ∧ C'.m = getB bs' ∧ SRel C' ∧ Ext C C' ∧ VRel C' a' v ∧ Free C'.m n' := by
  unfold castV at h
  split at h
  · simp only [Option.some.injEq, Prod.mk.injEq] at h
    obtain ⟨rfl, rfl, rfl⟩ := h
    exact ⟨C, rfl, hm, hs, Ext.refl C, hv, hf⟩
  · split at h
    · rename_i cs
      split at h
      · rename_i cs' bs1 n1 h1
        simp only [Option.some.injEq, Prod.mk.injEq] at h
        obtain ⟨rfl, rfl, rfl⟩ := h
        obtain ⟨vs, rfl, hl⟩ := hv
        obtain ⟨C1, w1, m1, s1, e1, r1, f1, _⟩ := castC_ok h1 hm hs hf hl
        exact ⟨C1, w1, m1, s1, e1, ⟨vs, rfl, r1⟩, f1⟩
      · cases h
    · cases h
    · split at h
      · rename_i v' bs1 n1 h1
        simp only [Option.some.injEq, Prod.mk.injEq] at h
        obtain ⟨rfl, rfl, rfl⟩ := h
        obtain ⟨C1, w1, m1, s1, e1, r1, f1, _⟩ := castC_ok h1 hm hs hf (vs := [v]) ⟨v, [], rfl, hv, rfl⟩
        obtain ⟨u, r, e, r2, r3⟩ := r1
        simp only [List.cons.injEq] at e
        obtain ⟨rfl, rfl⟩ := e
        exact ⟨C1, w1, m1, s1, e1, r2, f1⟩
      · cases h

theorem castSlots_ok {lk : Look} : ∀ {sl : List (Nat × List Sh)} {tm : Tmps} {bs bs' : Blks} {n n' : Nat} {C : Ctx} {ρ : Nat → Value}, castSlots lk sl bs n = some (tm, bs', n') → C.m = getB bs → SRel C → Free C.m n → (∀ i, VRel C (lk i) (ρ i)) →
    ∃ C', C'.w = C.w ∧ C'.m = getB bs' ∧ SRel C' ∧ Ext C C' ∧ (∀ i, VRel C' (look tm i) (ρ i)) ∧ Free C'.m n'
  | [], tm, bs, bs', n, n', C, ρ, h, hm, hs, hf, hv => by
    simp only [castSlots, Option.some.injEq, Prod.mk.injEq] at h
    obtain ⟨rfl, rfl, rfl⟩ := h
    exact ⟨C, rfl, hm, hs, Ext.refl C, fun i => trivial, hf⟩
  | (i, ss) :: r, tm, bs, bs', n, n', C, ρ, h, hm, hs, hf, hv => by
    simp only [castSlots] at h
    split at h
    · rename_i v bs1 n1 h1
      split at h
      · rename_i tm2 bs2 n2 h2
        simp only [Option.some.injEq, Prod.mk.injEq] at h
        obtain ⟨rfl, rfl, rfl⟩ := h
        obtain ⟨C1, w1, m1, s1, e1, r1, f1⟩ := castV_ok h1 hm hs hf (hv i)
        obtain ⟨C2, w2, m2, s2, e2, r2, f2⟩ := castSlots_ok h2 m1 s1 f1 (fun j => (hv j).mono e1)
        refine ⟨C2, w2.trans w1, m2, s2, e1.trans e2, fun j => ?_, f2⟩
        simp only [look]
        split
        · rename_i e; rw [← beq_eq e]; exact r1.mono e2
        · exact r2 j
      · cases h
    · cases h

theorem castBlks_ok : ∀ {bl : List (Nat × List Sh)} {bs bs' : Blks} {n n' : Nat} {C : Ctx}, castBlks bl bs n = some (bs', n') → C.m = getB bs → SRel C → Free C.m n →
    ∃ C', C'.w = C.w ∧ C'.m = getB bs' ∧ SRel C' ∧ Ext C C' ∧ Free C'.m n'
  | [], bs, bs', n, n', C, h, hm, hs, hf => by
    simp only [castBlks, Option.some.injEq, Prod.mk.injEq] at h
    obtain ⟨rfl, rfl⟩ := h
    exact ⟨C, rfl, hm, hs, Ext.refl C, hf⟩
  | (b, []) :: r, bs, bs', n, n', C, h, hm, hs, hf => castBlks_ok (bl := r) (by simpa only [castBlks] using h) hm hs hf
  | (b, s :: ss) :: r, bs, bs', n, n', C, h, hm, hs, hf => by
    simp only [castBlks] at h
    split at h
    · rename_i ty cs hb
      split at h
      · rename_i cs1 bs1 n1 h1
        rw [← hm] at hb
        obtain ⟨rb, c, hφ, hh, hrel, hleaf⟩ := hs.ok b _ hb
        obtain ⟨C1, w1, m1, s1, e1, r1, f1, l1⟩ := castC_ok h1 hm hs hf hrel
        obtain ⟨hφ1, cs', hb1⟩ := e1.cells b ty cs hb
        obtain ⟨hE, hok⟩ := same_ok s1 (id := b) (b' := .cells ty cs1) (g' := C1.φ b) (fun k hk => ⟨_, hb1, hk⟩) (fun k o hk => ⟨_, hb1, by rw [hφ1, hφ] at hk ⊢; exact hk⟩)
          (fun ty2 cs2 e => by rw [hb1] at e; cases e; exact ⟨rfl, _, rfl⟩) (fun _ _ _ _ _ e => by rw [hb1] at e; cases e)
        simp only [updF_self] at hE hok
        have s2 := hok ⟨rb, c, hφ1.trans hφ, by rw [w1]; exact hh, r1.mono hE, l1 hleaf⟩
        obtain ⟨C3, w3, m3, s3, e3, f3⟩ := castBlks_ok (C := ⟨C1.w, updF C1.m b (some (.cells ty cs1)), C1.φ, C1.fr, C1.gl⟩) h (by
            funext j
            simp only [updF, getB, m1]
            by_cases hj : j = b
            · subst hj; simp
            · rw [if_neg hj]
              split
              · rename_i e; exact (hj (beq_eq e).symm).elim
              · rfl) s2 (fun k hk => by
            simp only [updF]
            rw [if_neg (fun e => by subst e; rw [f1 k hk] at hb1; cases hb1)]
            exact f1 k hk)
        exact ⟨C3, w3.trans w1, m3, s3, (e1.trans hE).trans e3, f3⟩
      · cases h
    · cases h
end Go.Sx
namespace Go.Sx
open Go
variable {P : Program} {E : Env} {C : Ctx}

theorem plainA_ren (m : Nat → Nat) (a : AV) : plainA (renA m a) = plainA a := by cases a <;> rfl
theorem plainC_ren (m : Nat → Nat) {cs : List AV} (h : cs.all plainA = true) : (cs.map (renA m)).all plainA = true := by
  rw [List.all_map]
  refine List.all_eq_true.2 fun y hy => ?_
  rw [Function.comp_apply, plainA_ren]
  exact List.all_eq_true.1 h y hy
theorem cells_ren (m : Nat → Nat) (a : AV) (h : a.cells.all plainA = true) : (renC m a).cells.all plainA = true := by
  cases a with
  | agg cs => exact plainC_ren m h
  | _ => exact h
theorem plainV_ren (m : Nat → Nat) (a : AV) (h : plainV a = true) : plainV (renV m a) = true := by
  cases a with
  | tup vs =>
    simp only [renV, plainV] at h ⊢
    rw [List.all_map]
    exact List.all_eq_true.2 fun y hy => cells_ren m y (List.all_eq_true.1 h y hy)
  | agg cs => exact plainC_ren m h
  | _ => exact h
theorem okBlk_ren (m : Nat → Nat) {l : List Blk} (h : l.all okBlk = true) : (l.map (renB m)).all okBlk = true := by
  rw [List.all_map]
  refine List.all_eq_true.2 fun y hy => ?_
  have := List.all_eq_true.1 h y hy
  cases y with
  | cells ty cs => exact plainC_ren m this
  | list ee t g sh L => rfl

theorem reach_range {get : Get} {np : Nat} : ∀ (d k n : Nat) (ids rest : List Nat), d + k = np → reach get n (List.range' k d ++ rest) (List.range k) = some ids → ∀ i, i < np → ids[i]? = some i
  | 0, k, n, ids, rest, hk, h, i, hi => by
    have e : k = np := by omega
    subst e
    have hx : ∀ (n : Nat) (todo acc ids : List Nat), reach get n todo acc = some ids → ∃ more, ids = acc ++ more := by
      intro n
      induction n with
      | zero =>
        intro todo acc ids h
        cases todo with
        | nil => simp only [reach, Option.some.injEq] at h; exact ⟨[], by simp [h]⟩
        | cons b todo => simp [reach] at h
      | succ n ih =>
        intro todo acc ids h
        cases todo with
        | nil => simp only [reach, Option.some.injEq] at h; exact ⟨[], by simp [h]⟩
        | cons b todo =>
          simp only [reach] at h
          split at h
          · exact ih _ _ _ h
          · obtain ⟨more, hm⟩ := ih _ _ _ h
            exact ⟨b :: more, by rw [hm, List.append_assoc]; rfl⟩
    obtain ⟨more, rfl⟩ := hx _ _ _ _ h
    rw [List.getElem?_append_left (by simpa using hi)]
    simp [hi]
  | d + 1, k, 0, ids, rest, hk, h, i, hi => by simp [reach, List.range'_succ] at h
  | d + 1, k, n + 1, ids, rest, hk, h, i, hi => by
    rw [List.range'_succ, List.cons_append] at h
    simp only [reach] at h
    split at h
    · rename_i hb
      have := any_beq.1 hb
      simp at this
    · rw [← List.range_succ, List.append_assoc] at h
      exact reach_range d (k + 1) n ids _ (by omega) h i hi
theorem posOf_at {ids : List Nat} (hd : ids.Nodup) {i b : Nat} (h : ids[i]? = some b) : posOf ids b = i := by
  have hm := List.mem_of_getElem? h
  have h2 := posOf_get hm
  obtain ⟨h3, h4⟩ := List.getElem?_eq_some_iff.1 h
  obtain ⟨h5, h6⟩ := List.getElem?_eq_some_iff.1 h2
  exact (List.getElem_inj (h₀ := h5) (h₁ := h3) hd).1 (h6.trans h4.symm)


/-- some blocks of a state, numbered anew: those of the beginning keep their numbers -/
theorem collect_ok {D C : Ctx} {bs : List Blk} (hm : D.m = getB (withIds 0 bs)) (hE : Ext D C) (hs : SRel C) {more ids : List Nat} {l : List Blk} (hr : reach C.m 200 (List.range bs.length ++ more) [] = some ids) (hl : getAll C.m ids = some l) (hok : l.all okBlk = true) :
    SRel (Sub C ids C.fr (l.map (renB (posOf ids)))) ∧ Ext D (Sub C ids C.fr (l.map (renB (posOf ids)))) ∧ Ren C (Sub C ids C.fr (l.map (renB (posOf ids)))) (posOf ids) (· ∈ ids) ∧ (∀ b ∈ more, b ∈ ids) ∧
      (∀ i, i < bs.length → ids[i]? = some i) ∧ ids.Nodup ∧ (∀ i < bs.length, i ∈ ids) := by
  obtain ⟨hd, _, hids, hcl⟩ := reach_ok hr (by simp) (by simp)
  have hrange : ∀ i, i < bs.length → ids[i]? = some i := by
    rw [List.range_eq_range'] at hr
    exact reach_range bs.length 0 200 ids more (by omega) (by simpa using hr)
  obtain ⟨hsD, hren, hTD, hheld, hown⟩ := sub_ok hs hd hl hcl hok (fr := C.fr)
    (fun k o b hf hb hk => by
      obtain ⟨_, h2⟩ := getAll_ok hl
      obtain ⟨i, hi, e⟩ := List.getElem_of_mem hb
      obtain ⟨b0, hb0⟩ := Option.isSome_iff_exists.1 (h2 i b (by simp [hi, e])).2
      exact hs.frApart k o hf ⟨b, b0, hb0, hk⟩)
    (fun k o hf => hs.frOld k o hf) (fun k o hf => .inl hf)
  have hlive : ∀ i b, D.m i = some b → i < bs.length := fun i b h => by
    rw [hm, withIds_get] at h
    simp only [Nat.zero_le, if_true, Nat.sub_zero] at h
    exact (List.getElem?_eq_some_iff.1 h).1
  have hat : ∀ i b b', D.m i = some b → C.m i = some b' → (Sub C ids C.fr (l.map (renB (posOf ids)))).m i = some (renB (posOf ids) b') ∧ (Sub C ids C.fr (l.map (renB (posOf ids)))).φ i = C.φ i := fun i b b' h h' => by
    have hi := hrange i (hlive i b h)
    have := sub_at (fr := C.fr) (f := posOf ids) hl (List.mem_of_getElem? hi) h'
    rwa [posOf_at hd hi] at this
  refine ⟨hsD, ?_, hren, fun b hb => hids b (List.mem_append_right _ hb), hrange, hd, fun i hi => List.mem_of_getElem? (hrange i hi)⟩
  exact {
    cells := fun i ty cs hi => by
      obtain ⟨e1, cs', e2⟩ := hE.cells i ty cs hi
      obtain ⟨e3, e4⟩ := hat i _ _ hi e2
      exact ⟨e4.trans e1, _, e3⟩
    lists := fun i ee t g sh L hi => by
      obtain ⟨g', sh', L', e1, e2, e3⟩ := hE.lists i ee t g sh L hi
      obtain ⟨e4, e5⟩ := hat i _ _ hi e1
      exact ⟨g', sh', L', e4, e2, fun e => ⟨e5.trans (e3 e).1, (e3 e).2⟩⟩
    keep := fun k o x h1 h2 => by
      obtain ⟨h3, h4⟩ := hE.keep k o x h1 h2
      exact ⟨h3, fun h5 => h4 (hTD k o h5)⟩
    frEq := hE.frEq
    glEq := hE.glEq
    frKeep := hE.frKeep
    size := hE.size
    old := hE.old
    held := fun k h => by
      obtain ⟨b, blk, _, h2, h3⟩ := hheld k h
      exact hE.held k ⟨b, blk, h2, h3⟩
    own := fun k o h => by
      obtain ⟨b, blk, _, h2, h3⟩ := hown k o h
      exact hE.own k o ⟨b, blk, h2, h3⟩
    os := hE.os
    tape := hE.tape
    output := hE.output }

/-- the state's generations turned -/
def Gen (C : Ctx) (l : List Blk) : Ctx := ⟨C.w, getB (withIds 0 l), C.φ, C.fr, C.gl⟩

theorem renA_id (a : AV) : renA (fun i => i) a = a := by cases a <;> rfl

structure GenRel (C C' : Ctx) (q : Nat → Nat) : Prop where
  keep : Keep C.w C.T C'.w C'.T
  cells : ∀ b ty cs, C.m b = some (.cells ty cs) → C'.φ b = C.φ b ∧ ∃ cs', C'.m b = some (.cells ty cs')
  lists : ∀ b ee t g sh L, C.m b = some (.list ee t g sh L) → C'.φ b = C.φ b ∧ C'.m b = some (.list ee t (q b) sh L)

theorem GenRel.relA {C' : Ctx} {q : Nat → Nat} (h : GenRel C C' q) {a a' : AV} (hg : gA C.m q a = some a') (hp : plainA a = true) {v : Value} (hv : VRel C a v) : VRel C' a' v ∧ (a.leaf = true → a'.leaf = true) := by
  have hren : Ren C C' (fun i => i) (fun b => ∃ ty cs, C.m b = some (.cells ty cs)) := {
    keep := h.keep
    cells := fun b ty cs _ hm => h.cells b ty cs hm
    lists := fun b ee t g sh L ⟨_, _, e⟩ hm => by rw [e] at hm; cases hm }
  have other : gA C.m q a = some a → (∀ b ∈ refA a, ∃ ty cs, C.m b = some (.cells ty cs)) → VRel C' a' v ∧ (a.leaf = true → a'.leaf = true) := fun e hS => by
    rw [e] at hg
    cases hg
    have := hren.refA hS hp hv
    rw [renA_id] at this
    exact ⟨this, fun h => h⟩
  cases a with
  | own b g =>
    obtain ⟨ee, t, g', sh, L, h1, h2, a, n, cap, h3, h4⟩ := hv
    simp only [gA, h1] at hg
    split at hg
    · rename_i e
      have e := beq_eq e
      simp only [Option.some.injEq] at hg
      subst hg
      obtain ⟨e1, e2⟩ := h.lists b _ _ _ _ _ h1
      exact ⟨⟨ee, t, q b, sh, L, e2, Nat.le_refl _, a, n, cap, h3, fun _ => ⟨e1.trans (h4 e).1, (h4 e).2⟩⟩, fun _ => rfl⟩
    · cases hg
  | el b g i off =>
    obtain ⟨ee, t, g', sh, L, h1, h2, k, o, h3, h4⟩ := hv
    simp only [gA, h1] at hg
    split at hg
    · rename_i e
      have e := beq_eq e
      simp only [Option.some.injEq] at hg
      subst hg
      obtain ⟨e1, e2⟩ := h.lists b _ _ _ _ _ h1
      obtain ⟨ad, cap, e3, e4⟩ := h4 e
      exact ⟨⟨ee, t, q b, sh, L, e2, Nat.le_refl _, k, o, h3, fun _ => ⟨ad, cap, e1.trans e3, e4⟩⟩, fun _ => rfl⟩
    · cases hg
  | ref b off => exact other rfl (fun c hc => by
      simp only [Sx.refA, List.mem_singleton] at hc
      subst hc
      obtain ⟨_, ty, cs, h1, _⟩ := hv
      exact ⟨ty, cs, h1⟩)
  | bself b => exact other rfl (fun c hc => by
      simp only [Sx.refA, List.mem_singleton] at hc
      subst hc
      obtain ⟨_, ty, cs, h1, _⟩ := hv
      exact ⟨ty, cs, h1⟩)
  | _ => exact other rfl (fun c hc => by simp [Sx.refA] at hc)

theorem GenRel.relAs {C' : Ctx} {q : Nat → Nat} (h : GenRel C C' q) : ∀ {as as' : List AV} {vs : List Value}, mapO (gA C.m q) as = some as' → as.all plainA = true → VRelL C as vs → VRelL C' as' vs ∧ (as.all AV.leaf = true → as'.all AV.leaf = true)
  | [], as', vs, hg, _, hv => by simp only [mapO, Option.some.injEq] at hg; subst hg; exact ⟨hv, fun h => h⟩
  | a :: as, as', vs, hg, hp, hv => by
    simp only [mapO] at hg
    split at hg
    · rename_i b r e1 e2
      simp only [Option.some.injEq] at hg
      subst hg
      obtain ⟨v, r, rfl, h1, h2⟩ := hv
      simp only [List.all_cons, Bool.and_eq_true] at hp
      obtain ⟨k1, k2⟩ := h.relA e1 hp.1 h1
      obtain ⟨k3, k4⟩ := h.relAs e2 hp.2 h2
      refine ⟨⟨v, _, rfl, k1, k3⟩, fun hl => ?_⟩
      simp only [List.all_cons, Bool.and_eq_true] at hl ⊢
      exact ⟨k2 hl.1, k4 hl.2⟩
    · cases hg

theorem GenRel.relC {C' : Ctx} {q : Nat → Nat} (h : GenRel C C' q) {a a' : AV} (hg : gC C.m q a = some a') (hp : a.cells.all plainA = true) {v : Value} (hv : VRel C a v) : VRel C' a' v := by
  cases a with
  | agg cs =>
    simp only [gC] at hg
    split at hg
    · rename_i cs' e
      simp only [Option.some.injEq] at hg
      subst hg
      obtain ⟨vs, rfl, hl⟩ := hv
      exact ⟨vs, rfl, (h.relAs e hp hl).1⟩
    · cases hg
  | _ =>
    simp only [gC] at hg
    exact (h.relA hg (by simpa [AV.cells] using hp) hv).1

theorem GenRel.relCs {C' : Ctx} {q : Nat → Nat} (h : GenRel C C' q) : ∀ {as as' : List AV} {vs : List Value}, mapO (gC C.m q) as = some as' → (as.all fun v => v.cells.all plainA) = true → VRelL C as vs → VRelL C' as' vs
  | [], as', vs, hg, _, hv => by simp only [mapO, Option.some.injEq] at hg; subst hg; exact hv
  | a :: as, as', vs, hg, hp, hv => by
    simp only [mapO] at hg
    split at hg
    · rename_i b r e1 e2
      simp only [Option.some.injEq] at hg
      subst hg
      obtain ⟨v, r, rfl, h1, h2⟩ := hv
      simp only [List.all_cons, Bool.and_eq_true] at hp
      exact ⟨v, _, rfl, h.relC e1 hp.1 h1, h.relCs e2 hp.2 h2⟩
    · cases hg

theorem GenRel.relV {C' : Ctx} {q : Nat → Nat} (h : GenRel C C' q) {a a' : AV} (hg : gV C.m q a = some a') (hp : plainV a = true) {v : Value} (hv : VRel C a v) : VRel C' a' v := by
  cases a with
  | tup vs =>
    simp only [gV] at hg
    split at hg
    · rename_i vs' e
      simp only [Option.some.injEq] at hg
      subst hg
      obtain ⟨us, rfl, hl⟩ := hv
      exact ⟨us, rfl, h.relCs e hp hl⟩
    · cases hg
  | agg cs => exact h.relC (a := .agg cs) (show gC C.m q (.agg cs) = some a' from hg) hp hv
  | _ =>
    rw [gV.eq_2 _ _ _ (by intro _ h; cases h), gC.eq_2 _ _ _ (by intro _ h; cases h)] at hg
    exact (h.relA hg (by simpa only [plainV] using hp) hv).1

theorem gBs_get {get : Get} {q : Nat → Nat} : ∀ {l l' : List Blk} {i : Nat}, gBs get q i l = some l' → l'.length = l.length ∧ ∀ (j : Nat) b, l[j]? = some b → ∃ b', l'[j]? = some b' ∧ gB get q (i + j) b = some b'
  | [], l', i, h => by simp only [gBs, Option.some.injEq] at h; subst h; simp
  | b :: l, l', i, h => by
    simp only [gBs] at h
    split at h
    · rename_i b' r e1 e2
      simp only [Option.some.injEq] at h
      subst h
      obtain ⟨h1, h2⟩ := gBs_get e2
      refine ⟨by simp [h1], fun j x hj => ?_⟩
      cases j with
      | zero => simp only [List.getElem?_cons_zero, Option.some.injEq] at hj; subst hj; exact ⟨b', rfl, e1⟩
      | succ j =>
        obtain ⟨b2, h3, h4⟩ := h2 j x (by simpa using hj)
        exact ⟨b2, by simpa using h3, by rw [show i + (j + 1) = i + 1 + j by omega]; exact h4⟩
    · cases h

theorem gen_ok (hs : SRel C) {l l' : List Blk} (hm : C.m = getB (withIds 0 l)) (hok : l.all okBlk = true) {q : Nat → Nat} (hg : gBs C.m q 0 l = some l') :
    SRel (Gen C l') ∧ GenRel C (Gen C l') q ∧ (∀ k o, (Gen C l').own k o ↔ C.own k o) ∧ (∀ k, (Gen C l').held k ↔ C.held k) := by
  obtain ⟨h1, h2⟩ := gBs_get hg
  have get1 : ∀ j, C.m j = l[j]? := fun j => by rw [hm, withIds_get]; simp
  have get2 : ∀ j, (Gen C l').m j = l'[j]? := fun j => by simp [Gen, withIds_get]
  have fwd : ∀ j b, C.m j = some b → ∃ b', (Gen C l').m j = some b' ∧ gB C.m q j b = some b' := fun j b h => by
    rw [get1] at h
    obtain ⟨b', e1, e2⟩ := h2 j b h
    exact ⟨b', by rw [get2]; exact e1, by simpa using e2⟩
  have bwd : ∀ j b', (Gen C l').m j = some b' → ∃ b, C.m j = some b ∧ gB C.m q j b = some b' := fun j b' h => by
    rw [get2] at h
    have hj : j < l.length := by rw [← h1]; exact (List.getElem?_eq_some_iff.1 h).1
    obtain ⟨b2, e1, e2⟩ := h2 j l[j] (by simp [hj])
    rw [h] at e1
    cases e1
    exact ⟨l[j], by rw [get1]; simp [hj], by simpa using e2⟩
  have ownEq : ∀ {j b b'}, gB C.m q j b = some b' → ∀ g k o, ownsB g b' k o ↔ ownsB g b k o := by
    intro j b b' h g k o
    cases b with
    | cells ty cs =>
      simp only [gB] at h
      split at h
      · simp only [Option.some.injEq] at h; subst h; cases g <;> simp [ownsB]
      · cases h
    | list e t g0 sh L => simp only [gB, Option.some.injEq] at h; subst h; cases g with | cells rb => simp [ownsB] | list a cap => cases a <;> simp [ownsB]
  have hown : ∀ k o, (Gen C l').own k o ↔ C.own k o := fun k o => by
    constructor
    · rintro ⟨j, b', e1, e2⟩
      obtain ⟨b, e3, e4⟩ := bwd j b' e1
      exact ⟨j, b, e3, (ownEq e4 _ _ _).1 e2⟩
    · rintro ⟨j, b, e1, e2⟩
      obtain ⟨b', e3, e4⟩ := fwd j b e1
      exact ⟨j, b', e3, (ownEq e4 _ _ _).2 e2⟩
  have hheld : ∀ k, (Gen C l').held k ↔ C.held k := fun k => by
    constructor
    · rintro ⟨j, b', e1, e2⟩
      obtain ⟨b, e3, e4⟩ := bwd j b' e1
      exact ⟨j, b, e3, e2⟩
    · rintro ⟨j, b, e1, e2⟩
      obtain ⟨b', e3, e4⟩ := fwd j b e1
      exact ⟨j, b', e3, e2⟩
  have hT : ∀ k o, (Gen C l').T k o ↔ C.T k o := fun k o => or_congr Iff.rfl (hown k o)
  have hkeep : Keep C.w C.T (Gen C l').w (Gen C l').T := fun k o v e1 e2 => ⟨e1, fun e3 => e2 ((hT k o).1 e3)⟩
  have hgr : GenRel C (Gen C l') q := {
    keep := hkeep
    cells := fun b ty cs hb => by
      obtain ⟨b', e1, e2⟩ := fwd b _ hb
      simp only [gB] at e2
      split at e2
      · simp only [Option.some.injEq] at e2; subst e2; exact ⟨rfl, _, e1⟩
      · cases e2
    lists := fun b ee t g sh L hb => by
      obtain ⟨b', e1, e2⟩ := fwd b _ hb
      simp only [gB, Option.some.injEq] at e2
      subst e2
      exact ⟨rfl, e1⟩ }
  refine ⟨{ ok := ?_, apart := ?_, frApart := fun k o hf hh => hs.frApart k o hf ((hheld k).1 hh), frOld := hs.frOld, gl := fun k o h => ⟨(hs.gl k o h).1, fun hh => (hs.gl k o h).2.1 ((hheld k).1 hh), (hs.gl k o h).2.2⟩ }, hgr, hown, hheld⟩
  · intro j b' hj
    obtain ⟨b, e1, e2⟩ := bwd j b' hj
    have hb := hs.ok j b e1
    have hokb : okBlk b = true := by
      rw [get1] at e1
      exact List.all_eq_true.1 hok _ (List.mem_of_getElem? e1)
    cases b with
    | cells ty cs =>
      obtain ⟨rb, c, e3, e4, e5, e6⟩ := hb
      simp only [gB] at e2
      split at e2
      · rename_i cs' e7
        simp only [Option.some.injEq] at e2
        subst e2
        obtain ⟨k1, k2⟩ := hgr.relAs e7 hokb e5
        exact ⟨rb, c, e3, e4, k1, k2 e6⟩
      · cases e2
    | list ee t g sh L =>
      simp only [gB, Option.some.injEq] at e2
      subst e2
      obtain ⟨a, cap, e3, e4, e5, e6⟩ := hb
      refine ⟨a, cap, e3, e4, e5, ?_⟩
      cases a with
      | none => exact e6
      | some ad =>
        obtain ⟨hsp, c, lo, hi, hh, hsz, hfz, hsh, hx⟩ := e6
        exact ⟨hsp, c, lo, hi, hh, hsz, hfz, fun hs o k1 k2 k3 => hsh hs o k1 k2 ((hT _ _).1 k3), fun i x hi => (hx i x hi).mono hkeep⟩
  · intro i b j b2 k hi hj hne k1 k2
    obtain ⟨b', e1, _⟩ := bwd i b hi
    obtain ⟨b2', e2, _⟩ := bwd j b2 hj
    exact hs.apart i b' j b2' k e1 e2 hne k1 k2
end Go.Sx
namespace Go.Sx
open Go
variable {P : Program} {E : Env}

theorem look_map (f : AV → AV) (hf : f .undef = .undef) : ∀ (tm : Tmps) (i : Nat), look (tm.map fun p => (p.1, f p.2)) i = f (look tm i)
  | [], i => by simp [look, hf]
  | (j, v) :: tm, i => by
    simp only [List.map_cons, look]
    split
    · rfl
    · exact look_map f hf tm i

theorem look_mem : ∀ (tm : Tmps) (i : Nat), look tm i = .undef ∨ ∃ p ∈ tm, p.2 = look tm i
  | [], i => .inl rfl
  | (j, v) :: tm, i => by
    simp only [look]
    split
    · exact .inr ⟨(j, v), by simp, rfl⟩
    · rcases look_mem tm i with h | ⟨p, h1, h2⟩
      · exact .inl h
      · exact .inr ⟨p, by simp [h1], h2⟩

theorem gT_look {get : Get} {q : Nat → Nat} : ∀ {tm tm' : Tmps} (i : Nat), gT get q tm = some tm' → gV get q (look tm i) = some (look tm' i)
  | [], tm', i, h => by simp only [gT, Option.some.injEq] at h; subst h; rfl
  | (j, v) :: tm, tm', i, h => by
    simp only [gT] at h
    split at h
    · rename_i v' r' e1 e2
      simp only [Option.some.injEq] at h
      subst h
      simp only [look]
      split
      · exact e1
      · exact gT_look i e2
    · cases h

/-- all lists are of the first generation -/
def Gen0 (bs : List Blk) : Prop := ∀ ee t g sh L, Blk.list ee t g sh L ∈ bs → g = 0

theorem norm_ok {D : Ctx} {bs : List Blk} (hm : D.m = getB (withIds 0 bs)) (h0 : Gen0 bs) {tp : Tpl} {st st' : St} (h : norm bs.length tp st = some st') {C : Ctx} {a : Act} {N : Nat} {ds : List Deferred} (hr : StR C a st N ds) (hE : Ext D C) :
    ∃ C', C'.w = C.w ∧ StR C' a st' N ds ∧ Ext D C' := by
  unfold norm at h
  split at h
  · cases h
  rename_i tm bs1 n h1
  split at h
  · cases h
  rename_i ids hr1
  split at h
  · cases h
  rename_i bs2 n2 h2
  split at h
  · cases h
  rename_i ids2 hr2
  split at h
  · cases h
  rename_i l hl
  split at h
  · cases h
  rename_i hck
  simp only [Bool.and_eq_true] at hck
  obtain ⟨hp, hok⟩ := hck
  dsimp only at h
  split at h
  rotate_left
  · cases h
  rename_i tm3 l3 h3 h4
  simp only [Option.some.injEq] at h
  subst h
  obtain ⟨C1, w1, m1, s1, e1, r1, f1⟩ := castSlots_ok (ρ := fun i => a.eval (.tmp i)) h1 hr.r.m hr.r.s (by rw [hr.r.m]; exact hr.free) (fun i => hr.r.t (.tmp i))
  obtain ⟨C2, w2, m2, s2, e2, f2⟩ := castBlks_ok h2 m1 s1 f1
  rw [← m2] at hr2 hl
  obtain ⟨s3, e3, hren, hids, hrange, _, _⟩ := collect_ok hm ((hE.trans e1).trans e2) s2 hr2 hl hok
  have hok2 := okBlk_ren (posOf ids2) hok
  generalize hD : Sub C2 ids2 C2.fr (l.map (renB (posOf ids2))) = D2 at s3 e3 hren
  have m3 : D2.m = getB (withIds 0 (l.map (renB (posOf ids2)))) := by rw [← hD]; rfl
  have w3 : D2.w = C2.w := by rw [← hD]; rfl
  rw [← m3] at h3 h4
  obtain ⟨s4, hg, hown, hheld⟩ := gen_ok s3 m3 hok2 h4
  refine ⟨Gen D2 l3, (w3.trans w2).trans w1, ⟨⟨rfl, s4, ?_⟩, ?_, hr.size, hr.defers⟩, ?_⟩
  · intro x
    cases x with
    | tmp i =>
      simp only [evalO]
      have hv := (r1 i).mono e2
      have hplain : plainV (look tm i) = true := by
        rcases look_mem tm i with e | ⟨p, hpm, e⟩
        · rw [e]; rfl
        · rw [← e]; exact List.all_eq_true.1 hp p hpm
      have href : ∀ b ∈ refV (look tm i), b ∈ ids2 := fun b hb => hids b (by
        rcases look_mem tm i with e | ⟨p, hpm, e⟩
        · rw [e] at hb; simp [refV, refA] at hb
        · rw [← e] at hb
          exact List.mem_flatMap.2 ⟨p, hpm, hb⟩)
      have h5 := hren.relV href hplain hv
      have h6 := gT_look i h3
      rw [look_map (renV (posOf ids2)) rfl] at h6
      exact hg.relV h6 (plainV_ren _ _ hplain) h5
    | const c => exact constAV_rel c
    | global g => exact trivial
    | func f => exact ⟨#[], rfl, rfl⟩
  · intro k hk
    simp only [withIds_get, Nat.zero_le, if_true, Nat.sub_zero]
    exact List.getElem?_eq_none hk
  · have hlive : ∀ i b, D.m i = some b → i < bs.length ∧ bs[i]? = some b := fun i b h => by
      rw [hm, withIds_get] at h
      simp only [Nat.zero_le, if_true, Nat.sub_zero] at h
      exact ⟨(List.getElem?_eq_some_iff.1 h).1, h⟩
    have hT : ∀ k o, (Gen D2 l3).T k o → D2.T k o := fun k o h => h.imp id (hown k o).1
    exact {
      cells := fun i ty cs hi => by
        obtain ⟨k1, cs', k2⟩ := e3.cells i ty cs hi
        obtain ⟨k3, k4⟩ := hg.cells i ty cs' k2
        exact ⟨k3.trans k1, k4⟩
      lists := fun i ee t g sh L hi => by
        obtain ⟨g', sh', L', k1, k2, k3⟩ := e3.lists i ee t g sh L hi
        obtain ⟨k4, k5⟩ := hg.lists i _ _ _ _ _ k1
        obtain ⟨k6, k7⟩ := hlive i _ hi
        have hg0 := h0 _ _ _ _ _ (List.mem_of_getElem? k7)
        have hq : Nat.blt i bs.length = true := Nat.ble_eq_true_of_le k6
        simp only [hq] at k5
        exact ⟨1, sh', L', k5, by omega, fun e => by omega⟩
      keep := fun k o x k1 k2 => by
        obtain ⟨k3, k4⟩ := e3.keep k o x k1 k2
        exact ⟨k3, fun k5 => k4 (hT k o k5)⟩
      frEq := e3.frEq
      glEq := e3.glEq
      frKeep := e3.frKeep
      size := e3.size
      old := e3.old
      held := fun k h => e3.held k ((hheld k).1 h)
      own := fun k o h => e3.own k o ((hown k o).1 h)
      os := e3.os
      tape := e3.tape
      output := e3.output }
end Go.Sx
namespace Go.Sx
open Go
variable {P : Program} {E : Env} {K : Callee} {C : Ctx}

def resSem (tmps : Array Value) : ResultVar → Sem Value
  | .tmp t => pure (tmps.getD t undef)
  | .cell a t => do loadVar t (← asAddr (tmps.getD a undef))

theorem resV_rel (hE : EnvOK E P) (hs : SRel C) {a : Act} {lk : Look} (ht : TRel C lk a) {r : ResultVar} {v : AV} (h : resV E lk C.m r = some v) :
    ∃ u, (resSem a.tmps r).run P C.w = .ok u C.w ∧ VRel C v u := by
  cases r with
  | tmp t =>
    simp only [resV, Option.some.injEq] at h
    subst h
    exact ⟨_, rfl, ht (.tmp t)⟩
  | cell ad t =>
    simp only [resV] at h
    split at h
    · rename_i ti hti
      split at h
      · rename_i cs rd hc
        split at h
        · rename_i hn
          obtain ⟨i, d, z, hT⟩ := hE.T hti
          have hv := ht (.tmp ad)
          simp only [evalO] at hv
          obtain ⟨k, off, vs, hp, hr, hcell⟩ := cellsAt_rel hs hv hc
          obtain ⟨u, hu, hrel⟩ := mkVal_rel hr h
          refine ⟨u, ?_, hrel⟩
          have hp' : a.tmps.getD ad undef = .pointer (some ⟨k, off, none⟩) := hp
          simp only [resSem, hp', asAddr, Sem.run_bind, Sem.run_pure, Result.andThen_ok]
          exact run_loadVarS hT (by rw [← hr.len]; exact beq_eq hn) hcell hu
        · cases h
      · cases h
    · cases h

theorem resVs_rel (hE : EnvOK E P) (hs : SRel C) {a : Act} {lk : Look} (ht : TRel C lk a) : ∀ {rs : List ResultVar} {vs : List AV}, resVs E lk C.m rs = some vs →
    ∃ us, (rs.mapM (resSem a.tmps)).run P C.w = .ok us C.w ∧ VRelL C vs us
  | [], vs, h => by
    simp only [resVs, Option.some.injEq] at h
    subst h
    exact ⟨[], by simp, rfl⟩
  | r :: rs, vs, h => by
    simp only [resVs] at h
    split at h
    · rename_i v vs' h1 h2
      simp only [Option.some.injEq] at h
      subst h
      obtain ⟨u, e1, e2⟩ := resV_rel hE hs ht h1
      obtain ⟨us, e3, e4⟩ := resVs_rel hE hs ht h2
      refine ⟨u :: us, ?_, u, us, rfl, e2, e4⟩
      simp only [List.mapM_cons, Sem.run_bind, e1, Result.andThen_ok, e3, Sem.run_pure]
    · cases h

def resOf : List AV → AV
  | [v] => v
  | vs => .tup vs

theorem results_run (hE : EnvOK E P) (hs : SRel C) {a : Act} {lk : Look} (ht : TRel C lk a) {fn : Func} {vs : List AV} (h : resVs E lk C.m fn.results.toList = some vs) :
    ∃ u, (results fn a.tmps).run P C.w = .ok u C.w ∧ VRel C (resOf vs) u := by
  obtain ⟨us, h1, h2⟩ := resVs_rel hE hs ht h
  have hdef : results fn a.tmps = (do let vs ← fn.results.mapM (resSem a.tmps); pure (if h : vs.size = 1 then vs[0] else .tuple vs)) := rfl
  have hrun : (results fn a.tmps).run P C.w = .ok (if h : us.toArray.size = 1 then us.toArray[0] else .tuple us.toArray) C.w := by
    rw [hdef, Array.mapM_eq_mapM_toList]
    simp only [map_eq_pure_bind, Sem.run_bind, h1, Result.andThen_ok, Sem.run_pure]
  refine ⟨_, hrun, ?_⟩
  match vs, h2 with
  | [], h2 =>
    simp only [VRelL] at h2
    subst h2
    exact ⟨#[], rfl, rfl⟩
  | [v], h2 =>
    obtain ⟨u, r, rfl, h3, h4⟩ := h2
    simp only [VRelL] at h4
    subst h4
    show VRel C v _
    simpa using h3
  | v :: v' :: vs, h2 =>
    obtain ⟨u, r, rfl, h3, u', r', rfl, h4, h5⟩ := h2
    rw [dif_neg (by simp)]
    exact ⟨_, rfl, u, _, rfl, h3, u', r', rfl, h4, h5⟩

end Go.Sx
namespace Go.Sx
open Go
variable {G : Nat → Obj → Prop} {P : Program} {E : Env} {K : Callee} {R : Type}

/-- a body leaves -/
theorem leave_ok {D C : Ctx} {bs : List Blk} (hm : D.m = getB (withIds 0 bs)) (hE : Ext D C) (hs : SRel C) {v : AV} {u : Value} (hv : VRel C v u) {k : (Out × List Blk) → Rs R} {r : R} (h : leave bs.length C.m v k = .ok r) :
    ∃ o, k o = .ok r ∧ PostOf D o (.returned u) C.w := by
  unfold leave at h
  split at h
  · cases h
  · rename_i ids hr
    split at h
    · cases h
    · rename_i l hl
      split at h
      · rename_i hck
        simp only [Bool.and_eq_true] at hck
        obtain ⟨hp, hok⟩ := hck
        obtain ⟨s3, e3, hren, hids, _⟩ := collect_ok hm hE hs hr hl hok
        exact ⟨_, h, _, Sub C ids C.fr (l.map (renB (posOf ids))), rfl, rfl, rfl, s3, e3, hren.relV hids hp hv, plainV_ren _ _ hp, okBlk_ren _ hok⟩
      · cases h

/-- a function of the table is the program's -/
structure FIOK (P : Program) (f : Nat) (fi : FI) : Prop where
  fn : ∃ fn, P.funcs[f]? = some fn ∧ fn.body = some fi.code ∧ fn.ntmps = fi.ntmps ∧ fn.results.toList = fi.results ∧ (fn.name == "runtime.NumGoroutine") = false
  code : codeOk fi.ntmps fi.code = true

theorem look_args : ∀ (as : List AV) (i j : Nat), look (argTmps i as) j = if i ≤ j then (as[j - i]?).getD .undef else .undef
  | [], i, j => by simp [argTmps, look]
  | a :: as, i, j => by
    simp only [argTmps, look]
    split
    · rename_i e
      have := beq_eq e
      subst this
      simp
    · rename_i e
      have hne : i ≠ j := fun hh => by subst hh; simp at e
      rw [look_args as (i + 1) j]
      by_cases hle : i ≤ j
      · rw [if_pos hle, if_pos (by omega)]
        obtain ⟨d, hd⟩ : ∃ d, j - i = d + 1 := ⟨j - i - 1, by omega⟩
        rw [hd, show j - (i + 1) = d by omega]
        simp
      · rw [if_neg hle, if_neg (by omega)]

theorem enter_rel {C : Ctx} {args : List AV} {vals : List Value} (hv : VRelL C args vals) (n : Nat) : TRel C (look (argTmps 0 args)) { tmps := vals.toArray ++ Array.replicate n undef, defers := [] } := by
  intro x
  cases x with
  | tmp t =>
    simp only [evalO, Act.eval, look_args, Nat.zero_le, if_true, Nat.sub_zero]
    cases h : args[t]? with
    | none => exact trivial
    | some a =>
      obtain ⟨v, h1, h2⟩ := hv.get h
      have hlt : t < vals.length := (List.getElem?_eq_some_iff.1 h1).1
      have : (vals.toArray ++ Array.replicate n undef).getD t undef = v := by
        simp [Array.getD_eq_getD_getElem?, Array.getElem?_append, hlt]
        have := List.getElem?_eq_getElem hlt
        rw [h1] at this
        exact (Option.some.inj this).symm
      rw [this]
      exact h2
  | const c => exact constAV_rel c
  | global g => exact trivial
  | func f => exact ⟨#[], rfl, rfl⟩


/-- where a function ends, seen from its caller -/
def Ends (P : Program) (fn : Func) (D : Ctx) (k : (Out × List Blk) → Rs R) (r : R) : Post := fun e a w => match e with
  | .normal | .ret => a.defers = [] ∧ ∃ v, (results fn a.tmps).run P w = .ok v w ∧ ∃ o, k o = .ok r ∧ PostOf D o (.returned v) w
  | .panic ch => a.defers = [] ∧ ∃ o, k o = .ok r ∧ PostOf D o (.panicked ch) w
  | _ => False

theorem finK_ok (hE : EnvOK E P) {D : Ctx} {bs : List Blk} (hm : D.m = getB (withIds 0 bs)) {fn : Func} {rs : List ResultVar} (hrs : fn.results.toList = rs) {k : (Out × List Blk) → Rs R} {r : R} {N : Nat} :
    KS D N [] (finK E bs.length rs k) r (Ends P fn D k r) := by
  have fin : ∀ (st : St) (C : Ctx) (a : Act), (match resVs E (look st.tmps) (getB st.blks) rs with
      | some [v] => leave bs.length (getB st.blks) v k
      | some vs => leave bs.length (getB st.blks) (.tup vs) k
      | none => .err 14) = .ok r → StR C a st N [] → Ext D C → a.defers = [] ∧ ∃ v, (results fn a.tmps).run P C.w = .ok v C.w ∧ ∃ o, k o = .ok r ∧ PostOf D o (.returned v) C.w := by
    intro st C a hk hr hX
    refine ⟨hr.defers, ?_⟩
    have hmm := hr.r.m
    rw [← hmm] at hk
    cases hres : resVs E (look st.tmps) C.m rs with
    | none => rw [hres] at hk; cases hk
    | some vs =>
      rw [hres] at hk
      have hres' : resVs E (look st.tmps) C.m fn.results.toList = some vs := by rw [hrs]; exact hres
      obtain ⟨u, hu1, hu2⟩ := results_run hE hr.r.s hr.r.t (fn := fn) hres'
      refine ⟨u, hu1, ?_⟩
      clear hres hres'
      match vs, hk, hu2 with
      | [], hk, hu2 => exact leave_ok hm hX hr.r.s hu2 hk
      | [v], hk, hu2 => exact leave_ok hm hX hr.r.s hu2 hk
      | v :: v' :: vs, hk, hu2 => exact leave_ok hm hX hr.r.s hu2 hk
  exact {
    normal := fun st C a h hr hX => fin st C a h hr hX
    exit := fun id st C a h hr hX => by cases h
    ret := fun st C a h hr hX => fin st C a h hr hX
    panic := fun v st a w ch h hp hd => ⟨hd, _, h, v, rfl, hp⟩ }

theorem answers_of {f : Nat} {fi : FI} (hf : FIOK P f fi) {args : List AV} {bs : List Blk} (hn : Nat.ble args.length fi.ntmps = true) {o : Out × List Blk}
    (h : ∀ (fn : Func), fn.results.toList = fi.results → ∀ (D : Ctx) (vals : List Value) (a : Act), D.gl = G → D.m = getB (withIds 0 bs) → SRel D → VRelL D args vals → StR D a { tmps := argTmps 0 args, blks := withIds 0 bs, next := bs.length } fi.ntmps [] →
      fi.code.wp P (Ends P fn D .ok o) a D.w) : SA P G f args bs o := by
  intro D vals hG hm hs hv
  have hn := Nat.le_of_ble_eq_true hn
  obtain ⟨fn, h1, h2, h3, h4, h5⟩ := hf.fn
  have h5' : ¬ fn.name = "runtime.NumGoroutine" := by simpa using h5
  refine .inl ⟨by simp [callFunc, h1, h2, h5'], calls_of_wp h1 h2 ?_⟩
  have hlen := hv.len
  have hst : StR D { tmps := vals.toArray ++ Array.replicate (fn.ntmps - vals.toArray.size) undef, defers := [] } { tmps := argTmps 0 args, blks := withIds 0 bs, next := bs.length } fi.ntmps [] :=
    ⟨⟨hm, hs, enter_rel hv _⟩, fun k hk => by simp only [withIds_get, Nat.zero_le, if_true, Nat.sub_zero]; exact List.getElem?_eq_none hk, by simp [h3]; omega, rfl⟩
  refine wp_mono (h fn h4 D vals _ hG hm hs hv hst) fun e a w hq => ?_
  have fin : (a.defers = [] ∧ ∃ v, (results fn a.tmps).run P w = .ok v w ∧ ∃ o', Rs.ok o' = Rs.ok o ∧ PostOf D o' (.returned v) w) → a.defers = [] ∧ ∃ v, (results fn a.tmps).run P w = .ok v w ∧ PostOf D o (.returned v) w := by
    rintro ⟨e1, v, e2, o', e3, e4⟩
    cases e3
    exact ⟨e1, v, e2, e4⟩
  cases e with
  | normal => exact fin hq
  | ret => exact fin hq
  | exit id => exact hq.elim
  | panic ch =>
    obtain ⟨e1, o', e2, e3⟩ := hq
    cases e2
    exact ⟨e1, e3⟩
  | goto l => exact hq.elim
  | outgrown => exact hq.elim

theorem noTurns {D : Ctx} {N : Nat} {ds : List Deferred} : TurnsOK D N ds noCuts := fun p j f h => by cases h

theorem body_ok (hE : EnvOK E P) (hK : KOK P G K) {f : Nat} {fi : FI} (hf : FIOK P f fi) {args : List AV} {bs : List Blk} {o : Out × List Blk} (h : body E K fi args bs .ok = .ok o) : SA P G f args bs o := by
  unfold body at h
  split at h
  · cases h
  · rename_i hn
    refine answers_of hf hn fun fn hrs D vals a hG hm hs hv hst => ?_
    exact ev_sound hE hK hG noTurns fi.code 1 _ _ _ D a hf.code (CS_of _ _ _ fun d r c' Q' _ j f hh => by cases hh) (finK_ok hE hm hrs) h hst (Ext.refl D)

/-! functions that are cut into pieces -/
structure Cut where
  path : List Bool
  tp : Option Tpl

def turn (np : Nat) (tp : Option Tpl) (st : St) : Option St := match tp with
  | none => some st
  | some t => norm np t st

def cutsOf (np : Nat) : List Cut → Nat → Cuts
  | [], _, _ => none
  | c :: r, i, p => match Nat.beq (num c.path 1) p with
    | true => some (i, turn np c.tp)
    | false => cutsOf np r (i + 1) p

/-- the pieces, with some fuel -/
noncomputable def pieces (E : Env) (K : Callee) (fi : FI) (cs : List Cut) (np : Nat) (k : (Out × List Blk) → Rs R) (n : Nat) : Jump R :=
  Nat.rec (motive := fun _ => Jump R) noJump (fun _ J j st => match nth cs j with
    | some c => resume E K (cutsOf np cs 0) J c.path fi.code 1 st (finK E np fi.results k)
    | none => .err 17) n

/-- the first piece -/
noncomputable def start (E : Env) (K : Callee) (fi : FI) (cs : List Cut) (J : Jump R) (args : List AV) (bs : List Blk) (k : (Out × List Blk) → Rs R) : Rs R :=
  match Nat.ble args.length fi.ntmps with
  | false => .err 16
  | true => ev E K (cutsOf bs.length cs 0) J fi.code 1 { tmps := argTmps 0 args, blks := withIds 0 bs, next := bs.length } (finK E bs.length fi.results k)

theorem nth_mem {α : Type} : ∀ {l : List α} {i : Nat} {a : α}, nth l i = some a → a ∈ l
  | [], _, _, h => by cases h
  | a :: l, 0, b, h => by simp only [nth, Option.some.injEq] at h; subst h; simp
  | a :: l, i + 1, b, h => by simp only [nth] at h; simp [nth_mem h]

/-- may the pieces be joined so? -/
def Joins (bs : List Blk) (cs : List Cut) : Prop := Gen0 bs ∨ ∀ c ∈ cs, c.tp = none

theorem cutsOf_get {np : Nat} : ∀ {cs : List Cut} {i p j : Nat} {f : St → Option St}, cutsOf np cs i p = some (j, f) → ∃ c, i ≤ j ∧ nth cs (j - i) = some c ∧ num c.path 1 = p ∧ f = turn np c.tp
  | [], _, _, _, _, h => by cases h
  | c :: r, i, p, j, f, h => by
    simp only [cutsOf] at h
    split at h
    · rename_i e
      simp only [Option.some.injEq, Prod.mk.injEq] at h
      obtain ⟨rfl, rfl⟩ := h
      exact ⟨c, Nat.le_refl _, by simp [nth], beq_eq e, rfl⟩
    · obtain ⟨c', h1, h2, h3, h4⟩ := cutsOf_get h
      refine ⟨c', by omega, ?_, h3, h4⟩
      rw [show j - i = (j - (i + 1)) + 1 by omega]
      exact h2

theorem turns_ok {D : Ctx} {bs : List Blk} (hm : D.m = getB (withIds 0 bs)) {cs : List Cut} (h0 : Joins bs cs) {N : Nat} {ds : List Deferred} : TurnsOK D N ds (cutsOf bs.length cs 0) := fun p j f h st st' C a hf hr hX => by
  obtain ⟨c, _, hc, _, rfl⟩ := cutsOf_get h
  unfold turn at hf
  split at hf
  · simp only [Option.some.injEq] at hf
    subst hf
    exact ⟨C, rfl, hr, hX⟩
  · rename_i t ht
    rcases h0 with h0 | h0
    · exact norm_ok hm h0 hf hr hX
    · rw [h0 c (nth_mem hc)] at ht; cases ht

theorem pieces_ok (hE : EnvOK E P) (hK : KOK P G K) {fi : FI} (hcode : codeOk fi.ntmps fi.code = true) {cs : List Cut} {D : Ctx} {bs : List Blk} (hG : D.gl = G) (hm : D.m = getB (withIds 0 bs)) (h0 : Joins bs cs) {k : (Out × List Blk) → Rs R} {r : R} {Q : Post} (hQ : KS D fi.ntmps [] (finK E bs.length fi.results k) r Q) :
    ∀ n, CS P (XJ P D fi.ntmps [] (cutsOf bs.length cs 0) (pieces E K fi cs bs.length k n) r) fi.code 1 Q
  | 0 => CS_of _ _ _ fun d rr c' Q' _ j f _ st C a h => by cases h
  | n + 1 => CS_of _ _ _ fun d rr c' Q' hp j f hf st C a h hr hX => by
    obtain ⟨c, _, h1, h2, _⟩ := cutsOf_get hf
    have h : (match nth cs j with
      | some c => resume E K (cutsOf bs.length cs 0) (pieces E K fi cs bs.length k n) c.path fi.code 1 st (finK E bs.length fi.results k)
      | none => .err 17) = .ok r := h
    rw [Nat.sub_zero] at h1
    rw [h1] at h
    have hpath : c.path = d :: rr := num_inj _ _ _ (Nat.le_refl _) h2
    exact resume_sound hE hK hG (turns_ok hm h0) c.path fi.code 1 Q _ st C a c' Q' hcode (pieces_ok hE hK hcode hG hm h0 hQ n) hQ h hr hX (by rw [hpath]; exact hp)

/-- a function that is cut into pieces answers so -/
theorem start_ok (hE : EnvOK E P) (hK : KOK P G K) {f : Nat} {fi : FI} (hf : FIOK P f fi) {cs : List Cut} {args : List AV} {bs : List Blk} (h0 : Joins bs cs) {n : Nat} {o : Out × List Blk} (h : start E K fi cs (pieces E K fi cs bs.length .ok n) args bs .ok = .ok o) : SA P G f args bs o := by
  unfold start at h
  split at h
  · cases h
  · rename_i hn
    refine answers_of hf hn fun fn hrs D vals a hG hm hs hv hst => ?_
    have hQ := finK_ok (P := P) (R := Out × List Blk) hE hm hrs (k := .ok) (r := o) (N := fi.ntmps)
    exact ev_sound hE hK hG (turns_ok hm h0) fi.code 1 _ _ _ D a hf.code (pieces_ok hE hK hf.code hG hm h0 hQ n) hQ h hst (Ext.refl D)
end Go.Sx
namespace Go.Sx
open Go
variable {G : Nat → Obj → Prop} {P : Program} {C : Ctx}

/-- what a function takes and gives: data, each in one cell or in some -/
abbrev Sig := List (Bool × Ty)
def Dens : Sig → Type
  | [] => Unit
  | (_, t) :: r => t.den × Dens r

def canA (b : Bool) (t : Ty) (x : t.den) : AV := match b with
  | true => .agg (flat t x)
  | false => match flat t x with
    | [a] => a
    | _ => .undef
def canL : (ts : Sig) → Dens ts → List AV
  | [], _ => []
  | (b, t) :: r, x => canA b t x.1 :: canL r x.2

def takeA (get : Get) (b : Bool) (t : Ty) (a : AV) : Option (t.den × List Nat) :=
  match b with
  | true => (match a with
    | .agg cs => (match unflat get t cs with | some (x, [], m) => some (x, m) | _ => none)
    | _ => none)
  | false => (match a with
    | .agg _ => none
    | .tup _ => none
    | a => (match unflat get t [a] with | some (x, [], m) => some (x, m) | _ => none))
def takeL (get : Get) : (ts : Sig) → List AV → Option (Dens ts × List Nat)
  | [], [] => some ((), [])
  | [], _ :: _ => none
  | _ :: _, [] => none
  | (b, t) :: r, a :: as => match takeA get b t a with
    | some (x, m) => (match takeL get r as with
      | some (y, m') => some ((x, y), m ++ m')
      | none => none)
    | none => none

def dat : AV → Bool
  | .undef | .bool _ | .int _ _ | .flt _ _ | .str _ | .nilp | .sl _ _ | .pd _ _ _ => true
  | _ => false
theorem dat_spec {a : AV} (h : dat a = true) : refA a = [] ∧ plainA a = true ∧ ∀ m, renA m a = a := by
  cases a <;> first | (cases h; done) | exact ⟨rfl, rfl, fun _ => rfl⟩
theorem dats_spec : ∀ {as : List AV}, as.all dat = true → refsC as = [] ∧ as.all plainA = true ∧ ∀ m, as.map (renA m) = as
  | [], _ => ⟨rfl, rfl, fun _ => rfl⟩
  | a :: as, h => by
    simp only [List.all_cons, Bool.and_eq_true] at h
    obtain ⟨h1, h2, h3⟩ := dat_spec h.1
    obtain ⟨h4, h5, h6⟩ := dats_spec h.2
    refine ⟨?_, by simp [h2, h5], fun m => by simp [h3 m, h6 m]⟩
    simp only [refsC, List.flatMap_cons, h1, List.nil_append]
    exact h4
theorem flat_dat : ∀ (t : Ty) (x : t.den), (flat t x).all dat = true
  | .unit, _ => rfl
  | .bool, _ => rfl
  | .int _, _ => rfl
  | .flt _, _ => rfl
  | .str, _ => rfl
  | .pair a b, x => by simp [flat, List.all_append, flat_dat a, flat_dat b]
  | .slice _, _ => rfl
  | .ptr _, none => rfl
  | .ptr _, some _ => rfl

theorem canA_leaf {t : Ty} {x : t.den} : (∃ a, flat t x = [a] ∧ canA false t x = a ∧ dat a = true) ∨ canA false t x = .undef := by
  unfold canA
  have := flat_dat t x
  split
  · rename_i e; cases e
  · split
    · rename_i a e; rw [e] at this; exact .inl ⟨a, e, rfl, by simpa using this⟩
    · exact .inr rfl

theorem canA_spec {b : Bool} {t : Ty} {x : t.den} : refV (canA b t x) = [] ∧ refsC (canA b t x).cells = [] ∧ plainV (canA b t x) = true ∧ (canA b t x).cells.all plainA = true ∧ (∀ m, renV m (canA b t x) = canA b t x) ∧ ∀ m, renC m (canA b t x) = canA b t x := by
  cases b with
  | true =>
    obtain ⟨h1, h2, h3⟩ := dats_spec (flat_dat t x)
    exact ⟨h1, h1, h2, h2, fun m => by simp [canA, renV, renC, h3 m], fun m => by simp [canA, renC, h3 m]⟩
  | false =>
    rcases canA_leaf (t := t) (x := x) with ⟨a, _, e, h⟩ | e
    · rw [e]
      cases a <;> first | (cases h; done) | exact ⟨rfl, rfl, rfl, rfl, fun _ => rfl, fun _ => rfl⟩
    · rw [e]; exact ⟨rfl, rfl, rfl, rfl, fun _ => rfl, fun _ => rfl⟩

theorem canL_spec : ∀ {ts : Sig} {x : Dens ts}, (canL ts x).flatMap refV = [] ∧ (canL ts x).flatMap (fun v => refsC v.cells) = [] ∧ (canL ts x).all plainV = true ∧ ((canL ts x).all fun v => v.cells.all plainA) = true ∧ (∀ m, (canL ts x).map (renV m) = canL ts x) ∧ ∀ m, (canL ts x).map (renC m) = canL ts x
  | [], _ => ⟨rfl, rfl, rfl, rfl, fun _ => rfl, fun _ => rfl⟩
  | (b, t) :: r, x => by
    obtain ⟨h1, h2, h3, h4, h5, h6⟩ := canA_spec (b := b) (t := t) (x := x.1)
    obtain ⟨k1, k2, k3, k4, k5, k6⟩ := canL_spec (ts := r) (x := x.2)
    refine ⟨?_, ?_, ?_, ?_, fun m => ?_, fun m => ?_⟩
    · simp only [canL, List.flatMap_cons, h1, k1, List.append_nil]
    · simp only [canL, List.flatMap_cons, h2, k2, List.append_nil]
    · simp only [canL, List.all_cons, h3, k3, Bool.and_self]
    · simp only [canL, List.all_cons, h4, k4, Bool.and_self]
    · simp only [canL, List.map_cons, h5, k5]
    · simp only [canL, List.map_cons, h6, k6]

theorem takeA_rel (hs : SRel C) {b : Bool} {t : Ty} {a : AV} {x : t.den} {m : List Nat} (h : takeA C.m b t a = some (x, m)) {v : Value} (hv : VRel C a v) {C' : Ctx} (hw : C'.w = C.w) (hT : ∀ k o, C'.T k o → C.T k o) (hsh : Shut C m C'.T) : VRel C' (canA b t x) v := by
  unfold takeA at h
  split at h
  · split at h
    · rename_i cs
      split at h
      · rename_i x' m' hu
        simp only [Option.some.injEq, Prod.mk.injEq] at h
        obtain ⟨rfl, rfl⟩ := h
        obtain ⟨vs, rfl, hl⟩ := hv
        obtain ⟨v1, v2, e1, e2, _, _, hR⟩ := unflat_rel hs hu hl
        simp only [VRelL] at e2
        subst e2
        rw [List.append_nil] at e1
        have := hR C'.T hT hsh
        rw [← hw] at this
        exact ⟨vs, rfl, by rw [e1]; exact flat_rel this⟩
      · cases h
    · cases h
  · have key : (match unflat C.m t [a] with | some (x, [], m) => some (x, m) | _ => none) = some (x, m) → VRel C' (canA false t x) v := fun h => by
      split at h
      · rename_i x' m' hu
        simp only [Option.some.injEq, Prod.mk.injEq] at h
        obtain ⟨hx, hm'⟩ := h
        subst hx hm'
        obtain ⟨v1, v2, e1, e2, e3, e4, hR⟩ := unflat_rel hs hu (vs := [v]) ⟨v, [], rfl, hv, rfl⟩
        simp only [VRelL] at e2
        subst e2
        rw [List.append_nil] at e1
        subst e1
        have := hR C'.T hT hsh
        rw [← hw] at this
        have hf := flat_rel this
        have hlen := flat_len t x'
        simp only [List.length_singleton, List.length_nil] at e4
        obtain ⟨y, hy⟩ := List.length_eq_one_iff.1 (by rw [hlen]; omega : (flat t x').length = 1)
        rw [hy] at hf
        obtain ⟨w, r, e5, h1, h2⟩ := hf
        simp only [List.cons.injEq] at e5
        obtain ⟨rfl, rfl⟩ := e5
        simp only [canA, hy]
        exact h1
      · cases h
    split at h
    · cases h
    · cases h
    · exact key h

theorem takeL_rel (hs : SRel C) : ∀ {ts : Sig} {as : List AV} {x : Dens ts} {m : List Nat}, takeL C.m ts as = some (x, m) → ∀ {vs : List Value}, VRelL C as vs → ∀ {C' : Ctx}, C'.w = C.w → (∀ k o, C'.T k o → C.T k o) → Shut C m C'.T → VRelL C' (canL ts x) vs
  | [], [], x, m, h, vs, hv, C', hw, hT, hsh => hv
  | [], _ :: _, x, m, h, vs, hv, C', hw, hT, hsh => by simp [takeL] at h
  | _ :: _, [], x, m, h, vs, hv, C', hw, hT, hsh => by simp [takeL] at h
  | (b, t) :: r, a :: as, x, m, h, vs, hv, C', hw, hT, hsh => by
    simp only [takeL] at h
    split at h
    · rename_i x1 m1 h1
      split at h
      · rename_i y m2 h2
        simp only [Option.some.injEq, Prod.mk.injEq] at h
        obtain ⟨rfl, rfl⟩ := h
        obtain ⟨v, r', rfl, hv1, hv2⟩ := hv
        exact ⟨v, r', rfl, takeA_rel hs h1 hv1 hw hT hsh.left, takeL_rel hs h2 hv2 hw hT hsh.right⟩
      · cases h
    · cases h

/-- what is handed back -/
def retC (rs : Sig) (y : Dens rs) : AV := match canL rs y with
  | [v] => v
  | vs => .tup vs
def takeR (get : Get) (rs : Sig) (v : AV) : Option (Dens rs × List Nat) := match rs with
  | [(b, t)] => (match takeA get b t v with
    | some (x, m) => some ((x, ()), m)
    | none => none)
  | rs => match v with
    | .tup vs => takeL get rs vs
    | _ => none

theorem retC_spec {rs : Sig} {y : Dens rs} : refV (retC rs y) = [] ∧ plainV (retC rs y) = true ∧ ∀ m, renV m (retC rs y) = retC rs y := by
  obtain ⟨h1, h2, h3, h4, h5, h6⟩ := canL_spec (ts := rs) (x := y)
  unfold retC
  split
  · rename_i v e
    rw [e] at h1 h3 h5
    exact ⟨by simpa using h1, by simpa using h3, fun m => by simpa using h5 m⟩
  · exact ⟨h2, h4, fun m => by simp only [renV, h6 m]⟩

theorem takeR_rel (hs : SRel C) {rs : Sig} {v : AV} {y : Dens rs} {m : List Nat} (h : takeR C.m rs v = some (y, m)) {u : Value} (hv : VRel C v u) {C' : Ctx} (hw : C'.w = C.w) (hT : ∀ k o, C'.T k o → C.T k o) (hsh : Shut C m C'.T) : VRel C' (retC rs y) u := by
  unfold takeR at h
  split at h
  · split at h
    · rename_i x m' h1
      simp only [Option.some.injEq, Prod.mk.injEq] at h
      obtain ⟨rfl, rfl⟩ := h
      exact takeA_rel hs h1 hv hw hT hsh
    · cases h
  · rename_i hne
    split at h
    · obtain ⟨us, rfl, hl⟩ := hv
      have := takeL_rel hs h hl hw hT hsh
      unfold retC
      split
      · rename_i w e
        exfalso
        match rs, y, hne, e with
        | [], _, _, e => simp [canL] at e
        | [(b, t)], _, hne, _ => exact hne b t rfl
        | _ :: _ :: _, _, _, e => simp [canL] at e
      · exact ⟨us, rfl, this⟩
    · cases h

theorem Answers.mono {f : Nat} {vals : Array Value} {w : World} {R R' : Ending → World → Prop} (hA : Answers P f vals w R) (hi : ∀ e w', R e w' → R' e w') : Answers P f vals w R' := by
  rcases hA with ⟨h1, h2⟩ | ⟨v, w', h1, h2⟩ | ⟨v, w', h1, h2⟩
  · exact .inl ⟨h1, Calls.mono h2 hi⟩
  · exact .inr (.inl ⟨v, w', h1, hi _ _ h2⟩)
  · exact .inr (.inr ⟨v, w', h1, hi _ _ h2⟩)

/-- a function takes data and gives data -/
def SAD (P : Program) (G : Nat → Obj → Prop) (f : Nat) (ts rs : Sig) (x : Dens ts) (y : Dens rs) : Prop := SA P G f (canL ts x) [] (.ret (retC rs y), [])

/-- what is handed back is data, however it was grown -/
theorem SA.data {f : Nat} {args : List AV} {rs : Sig} {v : AV} {bs : List Blk} (h : SA P G f args [] (.ret v, bs)) {y : Dens rs} {m : List Nat} (ht : takeR (getB (withIds 0 bs)) rs v = some (y, m)) : SA P G f args [] (.ret (retC rs y), []) := fun D vals hG hm hs hv => by
  refine (h D vals hG hm hs hv).mono fun e w' hR => ?_
  cases e with
  | returned u =>
    obtain ⟨v', D', e1, e2, e3, e4, e5, e6, e7, e8⟩ := hR
    simp only [Out.ret.injEq] at e1
    subst e1
    obtain ⟨C1, s1, s2, s3, s4, s5, s6, s7, s8⟩ := share_ok e4 m
    rw [← e3] at ht
    have hv := takeR_rel e4 ht e6 s4 s8 s7
    obtain ⟨s9, eE, hren, _⟩ := collect_ok (bs := []) (more := []) (ids := []) (l := []) hm (e5.trans s2) s1 rfl rfl rfl
    obtain ⟨r1, r2, r3⟩ := retC_spec (rs := rs) (y := y)
    have := hren.relV (a := retC rs y) (fun b hb => by rw [r1] at hb; cases hb) r2 hv
    rw [r3] at this
    exact ⟨_, Sub C1 [] C1.fr ([].map (renB (posOf []))), rfl, s4.trans e2, rfl, s9, eE, this, r2, rfl⟩
  | panicked ch => obtain ⟨v', e1, _⟩ := hR; cases e1
  | outgrown => exact hR
end Go.Sx
namespace Go.Sx
open Go
variable {G : Nat → Obj → Prop} {P : Program} {C : Ctx}

def shareL (m : List Nat) : Nat → List Blk → List Blk
  | _, [] => []
  | i, b :: r => (match b with
    | .list e t g sh L => .list e t g (match m.any (Nat.beq i) with | true => true | false => sh) L
    | .cells ty cs => .cells ty cs) :: shareL m (i + 1) r

def shareB (m : List Nat) (i : Nat) : Option Blk → Option Blk
  | some (.list e t g sh L) => some (.list e t g (match m.any (Nat.beq i) with | true => true | false => sh) L)
  | b => b

theorem shareL_get {m : List Nat} : ∀ (bs : List Blk) (i j : Nat), getB (withIds i (shareL m i bs)) j = shareB m j (getB (withIds i bs) j)
  | [], i, j => rfl
  | b :: bs, i, j => by
    simp only [shareL, withIds, getB]
    split
    · rename_i e
      rw [← beq_eq e]
      cases b <;> rfl
    · exact shareL_get bs (i + 1) j

theorem shareWr_get (get : Get) (j : Nat) : ∀ (ms : List Nat) (m0 : Get), (m0 j = get j ∨ ∃ e t g sh L, get j = some (.list e t g sh L) ∧ m0 j = some (.list e t g true L)) →
    applyM m0 (shareWr get ms) j = if j ∈ ms then (match get j with | some (.list e t g _ L) => some (.list e t g true L) | _ => m0 j) else m0 j
  | [], m0, h => by simp [shareWr, applyM]
  | b :: ms, m0, h => by
    have hcons : shareWr get (b :: ms) = (match get b with | some (.list ee t g _ L) => [(b, Blk.list ee t g true L)] | _ => []) ++ shareWr get ms := by
      simp only [shareWr, List.filterMap_cons]
      cases hb : get b with
      | none => rfl
      | some x => cases x <;> rfl
    rw [hcons, applyM_append]
    by_cases hj : b = j
    · subst hj
      cases hg : get b with
      | none =>
        simp only [applyM]
        rw [shareWr_get get b ms m0 h, hg]
        simp
      | some x =>
        cases x with
        | cells ty cs =>
          simp only [applyM]
          rw [shareWr_get get b ms m0 h, hg]
          simp
        | list e t g sh L =>
          simp only [applyM]
          rw [shareWr_get get b ms _ (.inr ⟨e, t, g, sh, L, hg, by simp [updM]⟩), hg]
          simp [updM]
    · have h1 : ∀ x, updM m0 b x j = m0 j := fun x => by simp [updM, Ne.symm hj]
      have hmem : (j ∈ b :: ms) = (j ∈ ms) := by simp [Ne.symm hj]
      simp only [hmem]
      cases hg : get b with
      | none => exact shareWr_get get j ms m0 h
      | some x =>
        cases x with
        | cells ty cs => exact shareWr_get get j ms m0 h
        | list e t g sh L =>
          simp only [applyM]
          rw [shareWr_get get j ms _ (by rw [h1]; exact h), h1]

theorem share_eq {get : Get} {bs : List Blk} (hm : get = getB (withIds 0 bs)) (m : List Nat) : applyM get (shareWr get m) = getB (withIds 0 (shareL m 0 bs)) := by
  funext j
  rw [shareWr_get get j m get (.inl rfl), shareL_get, ← hm]
  cases hg : get j with
  | none => simp [shareB]
  | some x =>
    cases x with
    | cells ty cs => simp [shareB]
    | list e t g sh L =>
      by_cases hj : j ∈ m
      · rw [if_pos hj]
        simp only [shareB, any_beq.2 hj]
      · rw [if_neg hj]
        have : m.any (Nat.beq j) = false := by
          cases h : m.any (Nat.beq j) with
          | true => exact (hj (any_beq.1 h)).elim
          | false => rfl
        simp only [shareB, this]

theorem shareL_ok {m : List Nat} : ∀ {bs : List Blk} {i : Nat}, bs.all okBlk = true → (shareL m i bs).all okBlk = true
  | [], _, _ => rfl
  | b :: bs, i, h => by
    simp only [List.all_cons, Bool.and_eq_true] at h
    simp only [shareL, List.all_cons, Bool.and_eq_true]
    exact ⟨by cases b <;> first | exact h.1 | rfl, shareL_ok h.2⟩

/-- what stands in for a function is so -/
def IntrOne (P : Program) (G : Nat → Obj → Prop) (f : Nat) (g : Intr) : Prop :=
  ∀ (R : Type) args bs k (r : R), g R args bs k = .ok r → ∃ o, k o = .ok r ∧ SA P G f args bs o

def tableK (t : List (Option Intr)) : Callee := fun R f args bs k => match nth t f with
  | some (some g) => g R args bs k
  | _ => .err (4000000 + f)

theorem tableK_ok {t : List (Option Intr)} (h : ∀ f g, nth t f = some (some g) → IntrOne P G f g) : KOK P G (tableK t) := fun R f args bs k r hr => by
  unfold tableK at hr
  split at hr
  · rename_i g hg; exact h f g hg R args bs k r hr
  · cases hr

def shareIf (m : List Nat) (bs : List Blk) : List Blk := match m with
  | [] => bs
  | m => shareL m 0 bs

/-- a function that takes data and gives data -/
def specI (f : Nat) (ts rs : Sig) (p : Dens ts → Bool) (out : Dens ts → Dens rs) : Intr := fun R args bs k =>
  match bs.all okBlk with
  | false => .err (1000000 + f)
  | true => match takeL (getB (withIds 0 bs)) ts args with
    | none => .err (2000000 + f)
    | some (x, m) => match p x with
      | false => .err (3000000 + f)
      | true => k (.ret (retC rs (out x)), shareIf m bs)

theorem specI_ok {f : Nat} {ts rs : Sig} {p : Dens ts → Bool} {out : Dens ts → Dens rs} (h : ∀ x, p x = true → SAD P G f ts rs x (out x)) : IntrOne P G f (specI f ts rs p out) := fun R args bs k r hr => by
  unfold specI at hr
  split at hr
  · cases hr
  rename_i hokb
  split at hr
  · cases hr
  rename_i x m ht
  split at hr
  · cases hr
  rename_i hp
  have hnil : shareL [] 0 bs = bs := by
    generalize 0 = i
    clear hr ht hokb
    induction bs generalizing i with
    | nil => rfl
    | cons b bs ih => simp only [shareL, ih]; cases b <;> rfl
  have hsh : shareIf m bs = shareL m 0 bs := by
    cases m with
    | nil => exact hnil.symm
    | cons a m => rfl
  rw [hsh] at hr
  refine ⟨_, hr, fun D vals hG hm hs hv => ?_⟩
  rw [← hm] at ht
  obtain ⟨C1, s1, s2, s3, s4, s5, s6, s7, s8⟩ := share_ok hs m
  have hv1 := takeL_rel hs ht hv s4 s8 s7
  rw [share_eq hm m] at s3
  obtain ⟨c1, c2, c3, c4, c5, c6⟩ := canL_spec (ts := ts) (x := x)
  obtain ⟨r1, r2, r3⟩ := retC_spec (rs := rs) (y := out x)
  have hlen : (shareL m 0 bs).length = bs.length := by
    generalize 0 = i
    clear hr ht hokb hm hsh hnil s3
    induction bs generalizing i with
    | nil => rfl
    | cons b bs ih => simp only [shareL, List.length_cons, ih]
  have hA := doCall_good (G := G) (P := P) (s2.glEq.trans hG) s1 (f := f) hv1 (base := bs.length) (fun j hj _ => by
      rw [s3, withIds_get]
      simp only [Nat.zero_le, if_true, Nat.sub_zero]
      exact List.getElem?_eq_none (by rw [hlen]; exact hj)) (out := .ret (retC rs (out x))) (wr := []) (rd := [])
    ⟨[], by rw [c1]; rfl, rfl, by rw [c3]; rfl, .inl ⟨retC rs (out x), [], by rw [c5]; exact h x hp, rfl, by rw [r3], rfl⟩⟩
  rw [s4] at hA
  refine hA.mono fun e w' hR => ?_
  cases e with
  | returned u =>
    obtain ⟨v, C2, e1, e2, e3, e4, e5, e6⟩ := hR
    simp only [Out.ret.injEq] at e1
    subst e1
    exact ⟨_, C2, rfl, e2, by rw [e3]; exact s3, e4, s2.trans e5, e6, r2, shareL_ok hokb⟩
  | panicked ch => obtain ⟨v, e1, _⟩ := hR; cases e1
  | outgrown => exact hR

end Go.Sx
namespace Go.Sx
open Go
variable {G : Nat → Obj → Prop} {P : Program} {E : Env}

/-- straight on, call by call: for runs that nothing is left open of -/
noncomputable def runD (E : Env) (lib : List (Option Intr)) (cl : List (List Cut)) (N : Nat) (n : Nat) : Callee :=
  Nat.rec (motive := fun _ => Callee) (fun _ f _ _ _ => .err (5000000 + f)) (fun _ ih R f args bs k =>
    match nth lib f with
    | some (some g) => g R args bs k
    | _ => match nth E.fi f, nth cl f with
      | some (some fi), some cs => (match cs.all fun c => c.tp.isNone with
        | true => (match start E ih fi cs (pieces E ih fi cs bs.length .ok N) args bs .ok with
          | .ok o => k o
          | .err e => .err e)
        | false => .err 18)
      | _, _ => .err (4000000 + f)) n

theorem runD_ok (hE : EnvOK E P) {lib : List (Option Intr)} (hI : ∀ f g, nth lib f = some (some g) → IntrOne P G f g) (hF : ∀ f fi, nth E.fi f = some (some fi) → FIOK P f fi) {cl : List (List Cut)} {N : Nat} : ∀ n, KOK P G (runD E lib cl N n)
  | 0 => fun R f args bs k r h => by cases h
  | n + 1 => fun R f args bs k r h => by
    have h : (match nth lib f with
      | some (some g) => g R args bs k
      | _ => match nth E.fi f, nth cl f with
        | some (some fi), some cs => (match cs.all fun c => c.tp.isNone with
          | true => (match start E (runD E lib cl N n) fi cs (pieces E (runD E lib cl N n) fi cs bs.length .ok N) args bs .ok with
            | .ok o => k o
            | .err e => .err e)
          | false => .err 18)
        | _, _ => .err (4000000 + f)) = .ok r := h
    split at h
    · rename_i g hg
      exact hI f g hg R args bs k r h
    · split at h
      · rename_i fi cs hfi hcs
        split at h
        · rename_i hall
          split at h
          · rename_i o ho
            exact ⟨o, h, start_ok hE (runD_ok hE hI hF n) (hF f fi hfi) (.inr fun c hc => by
              have := List.all_eq_true.1 hall c hc
              simpa using this) ho⟩
          · cases h
        · cases h
      · cases h

/-- all that lies there when a law's call begins -/
def GW (w0 : World) : Nat → Obj → Prop := fun k o => w0.heap[k]? = some o

/-- where a law begins: the machine owns nothing -/
def Ctx0 (w : World) : Ctx := ⟨w, getB (withIds 0 []), fun _ => .cells 0, fun _ _ => False, GW w⟩
theorem ctx0_ok (w : World) : SRel (Ctx0 w) where
  ok := fun id b h => by simp [Ctx0, withIds, getB] at h
  apart := fun id b id' b' k h => by simp [Ctx0, withIds, getB] at h
  frApart := fun k o h => h.elim
  frOld := fun k o h => h.elim
  gl := fun k o h => ⟨h, fun ⟨id, b, h1, _⟩ => by simp [Ctx0, withIds, getB] at h1, fun x hx => hx⟩

theorem fi_enter {f : Nat} {fi : FI} (hf : FIOK P f fi) (vals : Array Value) (w : World) : (callFunc f vals).run P w = .ok (.enter f vals) w := by
  obtain ⟨fn, h1, h2, h3, h4, h5⟩ := hf.fn
  have h5' : ¬ fn.name = "runtime.NumGoroutine" := by simpa using h5
  simp [callFunc, h1, h2, h5']
end Go.Sx
namespace Go.Sx
open Go
/-! an argument that reads as data is data of the machine's -/
def chain : List Ty → Ty
  | [] => .unit
  | t :: r => .pair t (chain r)
def NoT : Nat → Nat → Prop := fun _ _ => False
/-- how many bytes a datum takes, at least -/
def tyB : Ty → Nat
  | .unit => 0
  | .bool => 1
  | .int k => k.bits / 8
  | .flt _ => 4
  | .str => 16
  | .pair a b => tyB a + tyB b
  | .slice _ => 24
  | .ptr _ => 8
/-- its numbers lie in their ranges; its slices and strings are as long as a memory may hold -/
def Fine : (t : Ty) → t.den → Prop
  | .int k, n => (Lit.int k n).wf = true
  | .str, s => List.length (show List UInt8 from s) ≤ reachBytes
  | .pair a b, x => Fine a x.1 ∧ Fine b x.2
  | .slice e, L => List.length (show List e.den from L) * tyB e ≤ reachBytes ∧ ∀ x ∈ (show List e.den from L), Fine e x
  | .ptr e, some x => Fine e x
  | _, _ => True
def LeafRep (w : World) : List Ty → List Value → Prop
  | [], vs => vs = []
  | t :: ts, vs => ∃ v r, vs = v :: r ∧ (∃ x, Rep w NoT t x [v] ∧ Fine t x) ∧ LeafRep w ts r

theorem LeafRep.chain {w : World} : ∀ {l : List Ty} {vs : List Value}, LeafRep w l vs → ∃ x, Rep w NoT (Sx.chain l) x vs ∧ Fine (Sx.chain l) x
  | [], _, h => ⟨(), h, trivial⟩
  | t :: l, _, h => by
    obtain ⟨v, r, rfl, ⟨x, hx, fx⟩, h2⟩ := h
    obtain ⟨y, hy, fy⟩ := LeafRep.chain h2
    exact ⟨(x, y), ⟨[v], r, rfl, hx, hy⟩, fx, fy⟩
theorem LeafRep.append {w : World} : ∀ {l l' : List Ty} {vs vs' : List Value}, LeafRep w l vs → LeafRep w l' vs' → LeafRep w (l ++ l') (vs ++ vs')
  | [], _, _, _, h, h' => by simp only [LeafRep] at h; subst h; exact h'
  | t :: l, _, _, _, h, h' => by
    obtain ⟨v, r, rfl, hx, h2⟩ := h
    exact ⟨v, _, rfl, hx, h2.append h'⟩

def isStruct (P : Program) (t : TypeId) : Bool := match P.underlying t with
  | some (.struct _) => true
  | _ => false
/-- the leaves of a type -/
def leafTys (P : Program) : Nat → TypeId → Option (List Ty)
  | 0, _ => none
  | n + 1, t => match P.underlying t with
    | some .bool => some [.bool]
    | some (.int k) => some [.int k]
    | some .string => some [.str]
    | some (.slice e) => (match leafTys P n e with
      | some l => (match isStruct P e with
        | true => (match (Nat.ble 1 (P.cellsOf e) && Nat.beq (Sx.chain l).size (P.cellsOf e)) && Nat.ble (tyB (Sx.chain l)) (P.bytesOf e) with
          | true => some [.slice (Sx.chain l)]
          | false => none)
        | false => (match l with
          | [x] => (match (Nat.ble 1 (P.cellsOf e) && Nat.beq x.size (P.cellsOf e)) && Nat.ble (tyB x) (P.bytesOf e) with
            | true => some [.slice x]
            | false => none)
          | _ => none))
      | none => none)
    | some (.struct fs) => (match mapO (fun f : Field => leafTys P n f.type) fs.toList with
      | some ls => some ls.flatten
      | none => none)
    | _ => none

theorem list_of {α : Type} {p : Nat → α → Prop} : ∀ (n : Nat), (∀ i, i < n → ∃ x, p i x) → ∃ L : List α, L.length = n ∧ ∀ i x, L[i]? = some x → p i x
  | 0, _ => ⟨[], rfl, by simp⟩
  | n + 1, h => by
    obtain ⟨L, h1, h2⟩ := list_of n fun i hi => h i (by omega)
    obtain ⟨x, hx⟩ := h n (by omega)
    refine ⟨L ++ [x], by simp [h1], fun i y hi => ?_⟩
    by_cases hlt : i < L.length
    · rw [List.getElem?_append_left hlt] at hi
      exact h2 i y hi
    · rw [List.getElem?_append_right (by omega)] at hi
      have : i - L.length = 0 := by
        rcases Nat.eq_zero_or_pos (i - L.length) with h | h
        · exact h
        · rw [List.getElem?_eq_none (by simp; omega)] at hi; cases hi
      rw [this] at hi
      simp only [List.getElem?_cons_zero, Option.some.injEq] at hi
      subst hi
      have : i = n := by omega
      subst this
      exact hx

variable {H : Type} {enc : TypeId × Value → H} {P : Program} {w : World} {sp : Nat → Bool} {held : Bool}

theorem spot_none {a : Addr} {v : Value} (h : w.cell? a = some v) : a.spot = none := by
  cases hsp : a.spot with
  | none => rfl
  | some s =>
    simp only [World.cell?] at h
    split at h
    · simp [hsp] at h
    · cases h

/-- a slice out of its elements -/
theorem rep_slice {a : Addr} {len cap : Nat} {e : Ty} {c : Nat} (hc : 1 ≤ c) (hes : e.size = c) (hcap : len ≤ cap) (hb : len * tyB e ≤ reachBytes)
    (h : ∀ i, i < len → ∃ cs, w.cells? 0 (a.add (i * c)) c = some cs ∧ ∃ x, Rep w NoT e x cs ∧ Fine e x) : ∃ L, Rep w NoT (.slice e) L [.slice (some a) len cap] ∧ Fine (.slice e) L := by
  have hsp : 0 < len → a.spot = none := fun h0 => by
    obtain ⟨cs, h1, _⟩ := h 0 h0
    obtain ⟨_, h2, h3⟩ := World.cells?_some h1
    have h4 := h3 0 (by omega)
    rw [List.getElem?_eq_getElem (by omega)] at h4
    have h5 : (a.add (0 * c)).add 0 = a := by simp [Addr.add]
    rw [h5] at h4
    exact spot_none h4
  have key : ∀ i, i < len → ∃ x : e.den, (∃ cs, Imm w NoT a.block (a.off + i * e.size) cs ∧ Rep w NoT e x cs) ∧ Fine e x := fun i hi => by
    obtain ⟨cs, h1, x, h2, fx⟩ := h i hi
    have hs := hsp (by omega)
    obtain ⟨_, h3, h4⟩ := World.cells?_some h1
    refine ⟨x, ⟨cs, fun j v hj => ⟨?_, fun h => h⟩, h2⟩, fx⟩
    have hjl : j < c := by rw [← h3]; exact (List.getElem?_eq_some_iff.1 hj).1
    have h5 := (h4 j hjl).trans hj
    have e1 : (a.add (i * c)).add j = ⟨a.block, a.off + i * e.size + j, none⟩ := by
      have ea : a.add (i * c) = ⟨a.block, a.off + i * e.size, none⟩ := by
        unfold Addr.add
        split
        · rename_i h0
          obtain ⟨b, o, s⟩ := a
          simp only at hs
          subst hs
          rw [hes, h0]; rfl
        · rw [hes]
      rw [ea]
      unfold Addr.add
      split
      · rename_i h0; subst h0; rfl
      · rfl
    rw [e1] at h5
    exact h5
  obtain ⟨L, hL, hp⟩ := list_of len key
  refine ⟨L, ⟨some a, cap, by rw [← hL], by rw [hL]; exact hcap, fun i x hi => ?_⟩, by rw [← hL] at hb; exact hb, fun x hx => by
    obtain ⟨i, hi⟩ := List.mem_iff_getElem?.1 hx
    exact (hp i x hi).2⟩
  obtain ⟨⟨cs, h1, h2⟩, _⟩ := hp i x hi
  have hlt : i < len := by rw [← hL]; exact (List.getElem?_eq_some_iff.1 hi).1
  exact ⟨a, cs, rfl, hsp (by omega), h1, h2⟩

theorem mapO_get {α β : Type} {f : α → Option β} : ∀ {l : List α} {r : List β}, mapO f l = some r → r.length = l.length ∧ ∀ (i : Nat) (a : α), l[i]? = some a → ∃ b, r[i]? = some b ∧ f a = some b
  | [], r, h => by simp only [mapO, Option.some.injEq] at h; subst h; simp
  | a :: l, r, h => by
    simp only [mapO] at h
    split at h
    · rename_i b r' h1 h2
      simp only [Option.some.injEq] at h
      subst h
      obtain ⟨h3, h4⟩ := mapO_get h2
      refine ⟨by simp [h3], fun i x hi => ?_⟩
      cases i with
      | zero => simp only [List.getElem?_cons_zero, Option.some.injEq] at hi; subst hi; exact ⟨b, rfl, h1⟩
      | succ i => simpa using h4 i x (by simpa using hi)
    · cases h

/-- the fields of a struct, one behind the other -/
theorem fields_rep (f : Field → Nat) {cs : List Value} : ∀ (fs : List Field) (ls : List (List Ty)) (o : Nat), ls.length = fs.length → cs.length = o + (fs.map f).sum →
    (∀ i fl l, fs[i]? = some fl → ls[i]? = some l → LeafRep w l ((cs.drop (o + ((fs.take i).map f).sum)).take (f fl))) → LeafRep w ls.flatten (cs.drop o)
  | [], [], o, _, hl, _ => by
    simp only [List.map_nil, List.sum_nil, Nat.add_zero] at hl
    simp only [List.flatten_nil, LeafRep]
    rw [List.drop_eq_nil_iff]
    omega
  | [], _ :: _, _, h, _, _ => by simp at h
  | _ :: _, [], _, h, _, _ => by simp at h
  | fl :: fs, l :: ls, o, hn, hl, h => by
    have h0 := h 0 fl l rfl rfl
    simp only [List.take_zero, List.map_nil, List.sum_nil, Nat.add_zero] at h0
    have ih := fields_rep f (cs := cs) fs ls (o + f fl) (by simpa using hn) (by simp only [List.map_cons, List.sum_cons] at hl; omega) (fun i g k hi hk => by
      have := h (i + 1) g k (by simpa using hi) (by simpa using hk)
      simp only [List.take_succ_cons, List.map_cons, List.sum_cons] at this
      rw [Nat.add_assoc]
      exact this)
    have e : cs.drop o = (cs.drop o).take (f fl) ++ cs.drop (o + f fl) := by
      rw [← List.drop_drop, List.take_append_drop]
    rw [e, List.flatten_cons]
    exact h0.append ih

theorem weights_all {e : TypeId} : ∀ {ds : List (DataW H)} {d : DataW H}, d ∈ ds → ∀ b ∈ d.weights P e, b ∈ DataW.weightsAll P e ds
  | c :: ds, d, h, b, hb => by
    simp only [DataW.weightsAll, List.mem_append]
    rcases List.mem_cons.1 h with rfl | h
    · exact .inl hb
    · exact .inr (weights_all h b hb)
theorem weights_each : ∀ {ts : List TypeId} {ds : List (DataW H)} {i : Nat} {t : TypeId} {d : DataW H}, ts[i]? = some t → ds[i]? = some d → ∀ b ∈ d.weights P t, b ∈ DataW.weightsEach P ts ds
  | t' :: ts, d' :: ds, 0, t, d, ht, hd, b, hb => by
    simp only [List.getElem?_cons_zero, Option.some.injEq] at ht hd
    subst ht hd
    simp only [DataW.weightsEach, List.mem_append]
    exact .inl hb
  | t' :: ts, d' :: ds, i + 1, t, d, ht, hd, b, hb => by
    simp only [DataW.weightsEach, List.mem_append]
    exact .inr (weights_each (by simpa using ht) (by simpa using hd) b hb)
  | [], _, i, t, d, ht, _, _, _ => by simp at ht
  | _ :: _, [], i, t, d, _, hd, _, _ => by simp at hd
theorem trod_leaf (K : Kids P (· < P.types.size)) : ∀ (m n : Nat) (t : TypeId) (cs : List Value) (x : DataW H × List MemPlace) (l : List Ty), t < P.types.size → DataW.trod enc P w 0 sp held n t cs = some x → leafTys P m t = some l →
    (∀ b ∈ x.1.weights P t, b ≤ reachBytes) → LeafRep w l cs
  | 0, n, t, cs, x, l, _, _, hl, _ => by simp [leafTys] at hl
  | m + 1, n, t, cs, x, l, hlt, h, hl, hwt => by
    simp only [leafTys] at hl
    split at hl
    · rename_i hu
      simp only [Option.some.injEq] at hl
      subst hl
      obtain ⟨b, rfl, _⟩ := DataW.trod_bool hu h
      exact ⟨_, [], rfl, ⟨b, rfl, trivial⟩, rfl⟩
    · rename_i k hu
      simp only [Option.some.injEq] at hl
      subst hl
      obtain ⟨z, rfl, _, hz⟩ := DataW.trod_int hu h
      exact ⟨_, [], rfl, ⟨z, rfl, hz⟩, rfl⟩
    · rename_i hu
      simp only [Option.some.injEq] at hl
      subst hl
      obtain ⟨s, rfl, hx, _⟩ := DataW.trod_string hu h
      rw [hx] at hwt
      exact ⟨_, [], rfl, ⟨s.data.toList, rfl, hwt _ (by simp [DataW.weights])⟩, rfl⟩
    · rename_i e hu
      have hte := K.slice hlt hu
      have fin : ∀ (ty : Ty), 1 ≤ P.cellsOf e → ty.size = P.cellsOf e → tyB ty ≤ P.bytesOf e → (∀ n cs x, DataW.trod enc P w 0 sp held n e cs = some x → (∀ b ∈ x.1.weights P e, b ≤ reachBytes) → ∃ y, Rep w NoT ty y cs ∧ Fine ty y) → LeafRep w [.slice ty] cs := fun ty h1 h2 hby h3 => by
        rcases DataW.trod_slice hu h with ⟨rfl, _⟩ | ⟨a, len, cap, elems, rest, n', _, rfl, hxe, _, hcap, _, hel, hx, _, _⟩
        · exact ⟨_, [], rfl, ⟨[], ⟨none, 0, rfl, Nat.le_refl _, fun i x hi => by simp at hi⟩, by simp, fun x hx => by cases hx⟩, rfl⟩
        · rw [hxe] at hwt
          simp only [DataW.weights, hu, List.length_map] at hwt
          have hb0 := hwt _ (List.mem_cons_self)
          refine ⟨_, [], rfl, rep_slice h1 h2 hcap (Nat.le_trans (Nat.mul_le_mul (by omega) hby) hb0) fun i hi => ?_, rfl⟩
          have := hx i hi
          rw [List.getElem?_eq_getElem (by omega)] at this
          simp only [Option.bind_eq_some_iff] at this
          obtain ⟨cs', h4, h5⟩ := this
          refine ⟨cs', h4, h3 _ _ _ h5 fun b hb => hwt b (List.mem_cons_of_mem _ (List.mem_append.2 (.inl (weights_all (d := elems[i].1) ?_ b hb))))⟩
          exact List.mem_map.2 ⟨elems[i], List.getElem_mem _, rfl⟩
      split at hl
      · rename_i le hle
        split at hl
        · split at hl
          · rename_i hck
            simp only [Bool.and_eq_true] at hck
            simp only [Option.some.injEq] at hl
            subst hl
            exact fin _ (Nat.le_of_ble_eq_true hck.1.1) (beq_eq hck.1.2) (Nat.le_of_ble_eq_true hck.2) fun n cs x hx hw => (trod_leaf K m n e cs x le hte hx hle hw).chain
          · cases hl
        · split at hl
          · rename_i ty
            split at hl
            · rename_i hck
              simp only [Bool.and_eq_true] at hck
              simp only [Option.some.injEq] at hl
              subst hl
              refine fin _ (Nat.le_of_ble_eq_true hck.1.1) (beq_eq hck.1.2) (Nat.le_of_ble_eq_true hck.2) fun n cs x hx hw => ?_
              obtain ⟨v, r, rfl, hv, hr⟩ := trod_leaf K m n e cs x _ hte hx hle hw
              simp only [LeafRep] at hr
              subst hr
              exact hv
            · cases hl
          · cases hl
      · cases hl
    · rename_i fs hu
      split at hl
      · rename_i ls hls
        simp only [Option.some.injEq] at hl
        subst hl
        obtain ⟨h1, h2, h3⟩ := K.struct hlt hu
        obtain ⟨xs, n', _, hxe, hlen, hxl, hx⟩ := DataW.trod_struct hu h
        rw [hxe] at hwt
        simp only [DataW.weights, hu] at hwt
        obtain ⟨h4, h5⟩ := mapO_get hls
        have := fields_rep (w := w) (fun f => P.cellsOf f.type) (cs := cs) fs.toList ls 0 h4 (by rw [hlen, h2]; simp) fun i fl lf hi hk => by
          obtain ⟨b, hb1, hb2⟩ := h5 i fl hi
          rw [hk] at hb1
          cases hb1
          have hxi := hx i fl (by rw [← Array.getElem?_toList]; exact hi)
          have hil : i < xs.length := by
            have := (List.getElem?_eq_some_iff.1 hi).1
            simp only [Array.length_toList] at this
            omega
          rw [List.getElem?_eq_getElem hil] at hxi
          have := trod_leaf K m n' fl.type _ _ lf (h1 fl (List.mem_of_getElem? hi)) hxi hb2 fun b hb => hwt b (weights_each (i := i) (t := fl.type) (d := xs[i].1) (by rw [List.getElem?_map, hi]; rfl) (by rw [List.getElem?_map, List.getElem?_eq_getElem hil]; rfl) b hb)
          rw [h3 i fl hi] at this
          simpa using this
        simpa using this
      · cases hl
    · cases hl

/-- a struct that is handed in -/
theorem arg_struct (K : Kids P (· < P.types.size)) {t : TypeId} {cs : Array Value} {d : DataW H} {p : List MemPlace} {l : List Ty} {m : Nat} (ht : t < P.types.size) (hl : leafTys P m t = some l) (h : DataW.Trod enc P w 0 sp held t (.agg cs) d p) (hwt : ∀ b ∈ d.weights P t, b ≤ reachBytes) :
    ∃ x : (Sx.chain l).den, VRel (Ctx0 w) (.agg (flat (Sx.chain l) x)) (.agg cs) ∧ Fine (Sx.chain l) x := by
  obtain ⟨n, hn⟩ := h
  obtain ⟨x, hx, fx⟩ := (trod_leaf K m n t _ _ l ht hn hl hwt).chain
  refine ⟨x, ⟨cs, rfl, flat_rel (C := Ctx0 w) (x := x) (Rep.mono (fun k o v h1 _ => ⟨h1, fun h3 => ?_⟩) hx)⟩, fx⟩
  rcases h3 with h3 | ⟨id, b, h4, _⟩
  · exact h3
  · simp [Ctx0, withIds, getB] at h4
end Go.Sx
