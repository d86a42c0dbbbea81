/- A part of the proof: see the row's text. -/
import Derived.Test.YtaklpoiaicepoaaGreatDoorZa05
set_option linter.unusedVariables false
set_option linter.unusedSimpArgs false
noncomputable section
namespace Go.Sx
open Go
variable {G : Nat → Obj → Prop} {P : Program} {E : Env} {C : Ctx}
def lkF (S : Nat → Bool) : List Rec → Nat → Look → Look
 | [], _, lk => lk
 | r :: rs, i, lk => lkF S rs (i + 1) (if S i = true then putL lk r.dst r.v else lk)
def mF (S : Nat → Bool) : List Rec → Nat → Get → Get
 | [], _, m => m
 | r :: rs, i, m => mF S rs (i + 1) (if S i = true then applyM m r.wr else m)
theorem putL_ne {lk : Look} {d : Option Tmp} {v : AV} {s : Nat} (h : d ≠ some s) : putL lk d v s = lk s := by
 cases d with
 | none => rfl
 | some d => simp only [putL]; rw [if_neg]; intro e; exact h (by rw [e])
theorem putL_congr {lk lk' : Look} {d : Option Tmp} {v : AV} {s : Nat} (h : lk s = lk' s) : putL lk d v s = putL lk' d v s := by
 cases d with
 | none => exact h
 | some d => simp only [putL]; split <;> first | rfl | exact h
theorem applyM_congr {m m' : Get} {b : Nat} : ∀ {wr : Wr}, m b = m' b → applyM m wr b = applyM m' wr b := by
 intro wr
 induction wr generalizing m m' with
 | nil => exact fun h => h
 | cons p wr ih =>
  intro h
  simp only [applyM]
  refine ih ?_
  simp only [updM]
  split <;> first | rfl | exact h
theorem lkF_agree {S S' : Nat → Bool} {s : Nat} : ∀ (rs : List Rec) (k : Nat) (lk lk' : Look), (∀ i r, rs[i]? = some r → S (k + i) ≠ S' (k + i) → r.dst ≠ some s) → lk s = lk' s → lkF S rs k lk s = lkF S' rs k lk' s
 | [], _, _, _, _, h => h
 | r :: rs, k, lk, lk', hd, h => by
  simp only [lkF]
  refine lkF_agree rs (k + 1) _ _ (fun i r hi hne => hd (i + 1) r (by simpa using hi) (by rwa [show k + (i + 1) = k + 1 + i by omega])) ?_
  have h0 := hd 0 r (by simp)
  simp only [Nat.add_zero] at h0
  by_cases e : S k = S' k
  ·rw [e]
   split
   ·exact putL_congr h
   ·exact h
  ·have hn := h0 e
   split <;> split <;> first | exact h | (simp only [putL_ne hn]; exact h)
theorem mF_agree {S S' : Nat → Bool} {b : Nat} : ∀ (rs : List Rec) (k : Nat) (m m' : Get), (∀ i r, rs[i]? = some r → S (k + i) ≠ S' (k + i) → ∀ p ∈ r.wr, p.1 ≠ b) → m b = m' b → mF S rs k m b = mF S' rs k m' b
 | [], _, _, _, _, h => h
 | r :: rs, k, m, m', hd, h => by
  simp only [mF]
  refine mF_agree rs (k + 1) _ _ (fun i r hi hne => hd (i + 1) r (by simpa using hi) (by rwa [show k + (i + 1) = k + 1 + i by omega])) ?_
  have h0 := hd 0 r (by simp)
  simp only [Nat.add_zero] at h0
  by_cases e : S k = S' k
  ·rw [e]
   split
   ·exact applyM_congr h
   ·exact h
  ·have hn := h0 e
   split <;> split <;> first | exact h | (simp only [applyM_none hn]; exact h)
theorem putL_comm {lk : Look} {d d' : Option Tmp} {v v' : AV} (h : ∀ t, d = some t → d' ≠ some t) : putL (putL lk d v) d' v' = putL (putL lk d' v') d v := by
 funext s
 cases d with
 | none => rfl
 | some d =>
  cases d' with
  | none => rfl
  | some d' =>
   have hne : d' ≠ d := fun e => h d rfl (by rw [e])
   simp only [putL]
   split <;> split <;> simp_all
theorem lkF_put {S : Nat → Bool} {d : Option Tmp} {v : AV} : ∀ (rs : List Rec) (k : Nat) (lk : Look), (∀ i r, rs[i]? = some r → S (k + i) = true → ∀ t, d = some t → r.dst ≠ some t) → lkF S rs k (putL lk d v) = putL (lkF S rs k lk) d v
 | [], _, _, _ => rfl
 | r :: rs, k, lk, h => by
  simp only [lkF]
  have h0 := h 0 r (by simp)
  simp only [Nat.add_zero] at h0
  have ih := fun lk => lkF_put (S := S) (d := d) (v := v) rs (k + 1) lk (fun i r hi hs => h (i + 1) r (by simpa using hi) (by rwa [show k + (i + 1) = k + 1 + i by omega]))
  split
  ·rename_i hs
   rw [putL_comm (h0 hs), ih]
  ·exact ih lk
theorem applyM_swap {m : Get} : ∀ {wr wr' : Wr}, (∀ p ∈ wr, ∀ q ∈ wr', q.1 ≠ p.1) → applyM (applyM m wr) wr' = applyM (applyM m wr') wr := by
 intro wr
 induction wr generalizing m with
 | nil => intro wr' _; rfl
 | cons p wr ih =>
  intro wr' h
  simp only [applyM]
  rw [ih fun x hx => h x (by simp [hx]), applyM_comm fun q hq => h p (by simp) q hq]
theorem mF_app {S : Nat → Bool} {wr : Wr} : ∀ (rs : List Rec) (k : Nat) (m : Get), (∀ i r, rs[i]? = some r → S (k + i) = true → ∀ p ∈ wr, ∀ q ∈ r.wr, q.1 ≠ p.1) → mF S rs k (applyM m wr) = applyM (mF S rs k m) wr
 | [], _, _, _ => rfl
 | r :: rs, k, m, h => by
  simp only [mF]
  have h0 := h 0 r (by simp)
  simp only [Nat.add_zero] at h0
  have ih := fun m => mF_app (S := S) (wr := wr) rs (k + 1) m (fun i r hi hs => h (i + 1) r (by simpa using hi) (by rwa [show k + (i + 1) = k + 1 + i by omega]))
  split
  ·rename_i hs
   rw [applyM_swap (h0 hs), ih]
  ·exact ih m
theorem lkF_ext {S S' : Nat → Bool} : ∀ (rs : List Rec) (k : Nat) (lk : Look), (∀ i, i < rs.length → S (k + i) = S' (k + i)) → lkF S rs k lk = lkF S' rs k lk
 | [], _, _, _ => rfl
 | r :: rs, k, lk, h => by
  simp only [lkF]
  have h0 := h 0 (by simp)
  simp only [Nat.add_zero] at h0
  rw [h0]
  exact lkF_ext rs (k + 1) _ fun i hi => by have := h (i + 1) (by simpa using hi); rwa [show k + (i + 1) = k + 1 + i by omega] at this
theorem mF_ext {S S' : Nat → Bool} : ∀ (rs : List Rec) (k : Nat) (m : Get), (∀ i, i < rs.length → S (k + i) = S' (k + i)) → mF S rs k m = mF S' rs k m
 | [], _, _, _ => rfl
 | r :: rs, k, m, h => by
  simp only [mF]
  have h0 := h 0 (by simp)
  simp only [Nat.add_zero] at h0
  rw [h0]
  exact mF_ext rs (k + 1) _ fun i hi => by have := h (i + 1) (by simpa using hi); rwa [show k + (i + 1) = k + 1 + i by omega] at this
theorem lkF_ins {S S' : Nat → Bool} : ∀ (rs : List Rec) (k j : Nat) (lk : Look) (r : Rec), rs[j]? = some r → S (k + j) = false → S' (k + j) = true → (∀ i, i ≠ k + j → S' i = S i) →
  (∀ i r', rs[i]? = some r' → j < i → S (k + i) = true → ∀ t, r.dst = some t → r'.dst ≠ some t) → lkF S' rs k lk = putL (lkF S rs k lk) r.dst r.v
 | [], _, _, _, _, h, _, _, _, _ => by simp at h
 | r0 :: rs, k, 0, lk, r, h, h1, h2, h3, h4 => by
  simp only [List.getElem?_cons_zero, Option.some.injEq] at h
  subst h
  simp only [Nat.add_zero] at h1 h2 h3
  simp only [lkF, h1, h2, if_true, Bool.false_eq_true, if_false]
  rw [lkF_ext (S := S') (S' := S) rs (k + 1) _ fun i _ => h3 _ (by omega)]
  exact lkF_put rs (k + 1) lk fun i r' hi hs => h4 (i + 1) r' (by simpa using hi) (by omega) (by rwa [show k + (i + 1) = k + 1 + i by omega])
 | r0 :: rs, k, j + 1, lk, r, h, h1, h2, h3, h4 => by
  simp only [lkF]
  rw [h3 k (by omega)]
  have e : k + (j + 1) = k + 1 + j := by omega
  exact lkF_ins rs (k + 1) j _ r (by simpa using h) (by rwa [← e]) (by rwa [← e]) (fun i hi => h3 i (by omega)) fun i r' hi hlt hs => h4 (i + 1) r' (by simpa using hi) (by omega) (by rwa [show k + (i + 1) = k + 1 + i by omega])
theorem mF_ins {S S' : Nat → Bool} : ∀ (rs : List Rec) (k j : Nat) (m : Get) (r : Rec), rs[j]? = some r → S (k + j) = false → S' (k + j) = true → (∀ i, i ≠ k + j → S' i = S i) →
  (∀ i r', rs[i]? = some r' → j < i → S (k + i) = true → ∀ p ∈ r.wr, ∀ q ∈ r'.wr, q.1 ≠ p.1) → mF S' rs k m = applyM (mF S rs k m) r.wr
 | [], _, _, _, _, h, _, _, _, _ => by simp at h
 | r0 :: rs, k, 0, lk, r, h, h1, h2, h3, h4 => by
  simp only [List.getElem?_cons_zero, Option.some.injEq] at h
  subst h
  simp only [Nat.add_zero] at h1 h2 h3
  simp only [mF, h1, h2, if_true, Bool.false_eq_true, if_false]
  rw [mF_ext (S := S') (S' := S) rs (k + 1) _ fun i _ => h3 _ (by omega)]
  exact mF_app rs (k + 1) lk fun i r' hi hs => h4 (i + 1) r' (by simpa using hi) (by omega) (by rwa [show k + (i + 1) = k + 1 + i by omega])
 | r0 :: rs, k, j + 1, lk, r, h, h1, h2, h3, h4 => by
  simp only [mF]
  rw [h3 k (by omega)]
  have e : k + (j + 1) = k + 1 + j := by omega
  exact mF_ins rs (k + 1) j _ r (by simpa using h) (by rwa [← e]) (by rwa [← e]) (fun i hi => h3 i (by omega)) fun i r' hi hlt hs => h4 (i + 1) r' (by simpa using hi) (by omega) (by rwa [show k + (i + 1) = k + 1 + i by omega])
def Tr (E : Env) (P : Program) (G : Nat → Obj → Prop) (dead : Nat → Bool) (all : List Oper) (next : Nat) : Nat → Look → Get → List Oper → List Rec → Prop
 | _, _, _, [], [] => True
 | i, lk, m, o :: os, r :: rs => (r.dst = o.dst ∧ below r.wr (next + 16 * i + 16) = true ∧ (dead i = false → StepIs E P G all lk m (next + 16 * i) o r)) ∧ Tr E P G dead all next (i + 1) (putL lk r.dst r.v) (applyM m r.wr) os rs
 | _, _, _, _, _ => False
theorem Tr.len {dead : Nat → Bool} {all : List Oper} {next : Nat} : ∀ {i : Nat} {lk : Look} {m : Get} {os : List Oper} {rs : List Rec}, Tr E P G dead all next i lk m os rs → os.length = rs.length
 | _, _, _, [], [], _ => rfl
 | _, _, _, _ :: _, _ :: _, h => by simp [Tr.len h.2]
 | _, _, _, [], _ :: _, h => by exact h.elim
 | _, _, _, _ :: _, [], h => by exact h.elim
theorem lkF_none {S : Nat → Bool} (rs : List Rec) (k : Nat) (lk : Look) (h : ∀ i, k ≤ i → S i = false) : lkF S rs k lk = lk := by
 induction rs generalizing k lk with
 | nil => rfl
 | cons r rs ih => simp only [lkF, h k (Nat.le_refl _), Bool.false_eq_true, if_false]; exact ih (k + 1) lk fun i hi => h i (by omega)
theorem mF_none {S : Nat → Bool} (rs : List Rec) (k : Nat) (m : Get) (h : ∀ i, k ≤ i → S i = false) : mF S rs k m = m := by
 induction rs generalizing k m with
 | nil => rfl
 | cons r rs ih => simp only [mF, h k (Nat.le_refl _), Bool.false_eq_true, if_false]; exact ih (k + 1) m fun i hi => h i (by omega)
theorem Tr.at {dead : Nat → Bool} {all : List Oper} {next : Nat} : ∀ {i : Nat} {lk : Look} {m : Get} {os : List Oper} {rs : List Rec}, Tr E P G dead all next i lk m os rs → ∀ {j : Nat} {o : Oper}, os[j]? = some o →
  ∃ r, rs[j]? = some r ∧ r.dst = o.dst ∧ below r.wr (next + 16 * (i + j) + 16) = true ∧ (dead (i + j) = false → StepIs E P G all (lkF (fun x => decide (x < i + j)) rs i lk) (mF (fun x => decide (x < i + j)) rs i m) (next + 16 * (i + j)) o r)
 | _, _, _, [], [], _, j, o, h => by simp at h
 | i, lk, m, o0 :: os, r :: rs, h, 0, o, ho => by
  simp only [List.getElem?_cons_zero, Option.some.injEq] at ho
  subst ho
  refine ⟨r, by simp, ?_⟩
  rw [lkF_none _ _ _ (by intro x hx; simp; omega), mF_none _ _ _ (by intro x hx; simp; omega)]
  exact h.1
 | i, lk, m, o0 :: os, r :: rs, h, j + 1, o, ho => by
  obtain ⟨r', h1, h2⟩ := h.2.at (j := j) (by simpa using ho)
  refine ⟨r', by simpa using h1, ?_⟩
  rw [show i + 1 + j = i + (j + 1) by omega] at h2
  simp only [lkF, mF, show (decide (i < i + (j + 1))) = true by simp, if_true]
  exact h2
 | _, _, _, [], _ :: _, h, _, _, _ => h.elim
 | _, _, _, _ :: _, [], h, _, _, _ => h.elim
end Go.Sx
namespace Go.Sx
open Go
variable {G : Nat → Obj → Prop} {P : Program} {E : Env} {C : Ctx}
theorem meets_iff {a b : List Nat} : meets a b = true ↔ ∃ x, x ∈ a ∧ x ∈ b := by
 unfold meets
 rw [List.any_eq_true]
 constructor
 ·rintro ⟨x, hx, h⟩; exact ⟨x, hx, any_beq.1 h⟩
 ·rintro ⟨x, hx, h⟩; exact ⟨x, hx, any_beq.2 h⟩
theorem meets_no {a b : List Nat} (h : meets a b = false) {x : Nat} (ha : x ∈ a) : x ∉ b := fun hb => by
 rw [meets_iff.2 ⟨x, ha, hb⟩] at h; cases h
theorem befs_pre : ∀ (os : List Oper) (acc : List Nat), ∃ t, befs os acc = acc ++ t
 | [], acc => ⟨[], by simp [befs]⟩
 | o :: os, acc => by
  obtain ⟨t, h⟩ := befs_pre os (acc ++ [befOf acc o])
  exact ⟨befOf acc o :: t, by simp [befs, h]⟩
theorem befs_at : ∀ (os : List Oper) (acc : List Nat) (j : Nat) (o : Oper), os[j]? = some o → (befs os acc)[acc.length + j]? = some (befOf ((befs os acc).take (acc.length + j)) o)
 | [], _, j, o, h => by simp at h
 | o0 :: os, acc, 0, o, h => by
  simp only [List.getElem?_cons_zero, Option.some.injEq] at h
  subst h
  obtain ⟨t, ht⟩ := befs_pre os (acc ++ [befOf acc o0])
  simp only [befs, ht, Nat.add_zero]
  simp
 | o0 :: os, acc, j + 1, o, h => by
  have := befs_at os (acc ++ [befOf acc o0]) j o (by simpa using h)
  simp only [befs]
  simpa [Nat.add_assoc, Nat.add_comm 1 j] using this
theorem foldr_bit {acc : List Nat} {i : Nat} : ∀ {es : List Edge}, Nat.testBit (es.foldr (fun e s => match Region.binds .any e with | true => s ||| (1 <<< e.on) ||| ((nth acc e.on).getD 0) | false => s) 0) i = true →
  ∃ e ∈ es, Region.binds .any e = true ∧ (e.on = i ∨ Nat.testBit ((nth acc e.on).getD 0) i = true)
 | [], h => by simp at h
 | e :: es, h => by
  simp only [List.foldr_cons] at h
  split at h
  ·rename_i hb
   simp only [Nat.testBit_or, Bool.or_eq_true] at h
   rcases h with (h | h) | h
   ·obtain ⟨e', h1, h2⟩ := foldr_bit h
    exact ⟨e', by simp [h1], h2⟩
   ·refine ⟨e, by simp, hb, .inl ?_⟩
    rw [Nat.testBit_shiftLeft] at h
    simp only [Bool.and_eq_true, decide_eq_true_eq] at h
    obtain ⟨h1, h2⟩ := h
    have : i - e.on = 0 := by
     rcases Nat.eq_zero_or_pos (i - e.on) with h0 | h0
     ·exact h0
     ·exfalso
      have : Nat.testBit 1 (i - e.on) = false := by
       obtain ⟨d, hd⟩ : ∃ d, i - e.on = d + 1 := ⟨i - e.on - 1, by omega⟩
       rw [hd, Nat.testBit_succ]
       simp
      rw [this] at h2
      cases h2
    omega
   ·exact ⟨e, by simp, hb, .inr h⟩
  ·obtain ⟨e', h1, h2⟩ := foldr_bit h
   exact ⟨e', by simp [h1], h2⟩
structure SlotsOK (all : List Oper) : Prop where
 edge : ∀ (j : Nat) (o : Oper), all[j]? = some o → ∀ e ∈ o.after, Region.binds .any e = true → e.on < j
 apart : ∀ (i j : Nat) (oi oj : Oper), all[i]? = some oi → all[j]? = some oj → i < j → bitAt (befs all []) j i = false →
  (∀ t, oi.dst = some t → t ∉ sees all oj ∧ oj.dst ≠ some t) ∧ (∀ t, oj.dst = some t → t ∉ sees all oi)
theorem slotsOk_spec {all : List Oper} (h : slotsOk all (befs all []) = true) : SlotsOK all := by
 unfold slotsOk at h
 simp only [List.all_eq_true, List.mem_range] at h
 constructor
 ·intro j o hj e he hb
  have hlt : j < all.length := (List.getElem?_eq_some_iff.1 hj).1
  have := h j hlt
  simp only [nth_eq, hj, Bool.and_eq_true, List.all_eq_true, Bool.or_eq_true, Bool.not_eq_true'] at this
  rcases this.1.1 e (by simpa using he) with h0 | h0
  ·rw [hb] at h0; cases h0
  ·exact Nat.le_of_ble_eq_true h0
 ·intro i j oi oj hi hj hij hbit
  have hlt : j < all.length := (List.getElem?_eq_some_iff.1 hj).1
  have hlti : i < all.length := (List.getElem?_eq_some_iff.1 hi).1
  have := h j hlt
  simp only [nth_eq, hj, Bool.and_eq_true, List.all_eq_true, List.mem_range] at this
  have := this.2 i hlti
  simp only [hi, Bool.or_eq_true, Bool.not_eq_true'] at this
  rcases this with h0 | h0 | h0
  ·have : Nat.blt i j = true := by simpa [Nat.blt_eq] using hij
   rw [this] at h0; cases h0
  ·rw [hbit] at h0; cases h0
  ·rw [Bool.or_eq_false_iff] at h0
   refine ⟨fun t ht => ?_, fun t ht => ?_⟩
   ·have := meets_no h0.1 (x := t) (by simp [ht])
    simp only [List.mem_append, not_or] at this
    exact ⟨this.1, fun hh => this.2 (by simp [hh])⟩
   ·exact meets_no h0.2 (x := t) (by simp [ht])
def down (all : List Oper) (S : Nat → Bool) : Prop := ∀ (i : Nat) (o : Oper), all[i]? = some o → S i = true → ∀ e ∈ o.after, Region.binds .any e = true → S e.on = true
theorem bit_in {all : List Oper} (hs : SlotsOK all) {S : Nat → Bool} (hd : down all S) {i : Nat} : ∀ (j : Nat) (o : Oper), all[j]? = some o → (∀ e ∈ o.after, Region.binds .any e = true → S e.on = true) → bitAt (befs all []) j i = true → S i = true := by
 intro j
 induction j using Nat.strongRecOn with
 | _ j ih =>
  intro o ho he hb
  unfold bitAt at hb
  have h1 := befs_at all [] j o ho
  simp only [List.length_nil, Nat.zero_add] at h1
  rw [nth_eq, h1, Option.getD_some] at hb
  unfold befOf at hb
  obtain ⟨e, h2, h3, h4⟩ := foldr_bit hb
  have h2 : e ∈ o.after := by simpa using h2
  rcases h4 with h4 | h4
  ·rw [← h4]; exact he e h2 h3
  ·have hlt := hs.edge j o ho e h2 h3
   have hjl : j < all.length := (List.getElem?_eq_some_iff.1 ho).1
   have hget : all[e.on]? = some all[e.on] := by simp
   refine ih e.on hlt _ hget (fun e' he' hb' => hd e.on _ hget (he e h2 h3) e' he' hb') ?_
   unfold bitAt
   rw [nth_eq] at h4 ⊢
   rwa [List.getElem?_take_of_lt hlt] at h4
def clashR (a b : Rec) : Prop := ∃ k, (k ∈ a.wr.map (·.1) ∧ (k ∈ b.rd ∨ k ∈ b.wr.map (·.1))) ∨ (k ∈ a.rd ∧ k ∈ b.wr.map (·.1))
structure TrOK (E : Env) (P : Program) (G : Nat → Obj → Prop) (dead : Nat → Bool) (all : List Oper) (next : Nat) (lk0 : Look) (m0 : Get) (rs : List Rec) : Prop where
 tr : Tr E P G dead all next 0 lk0 m0 all rs
 clash : ∀ (i j : Nat) (ri rj : Rec), i < j → rs[i]? = some ri → rs[j]? = some rj → clashR ri rj → bitAt (befs all []) j i = true
 keys : ∀ (i : Nat) (ri : Rec), rs[i]? = some ri → ∀ p ∈ ri.wr, p.1 < next ∨ next + 16 * i ≤ p.1 ∨ ∃ i' ri', i' < i ∧ rs[i']? = some ri' ∧ ∃ q ∈ ri'.wr, q.1 = p.1
 free : ∀ k, next ≤ k → m0 k = none
theorem TrOK.whose {dead : Nat → Bool} {all : List Oper} {next : Nat} {lk0 : Look} {m0 : Get} {rs : List Rec} (h : TrOK E P G dead all next lk0 m0 rs) :
  ∀ (i : Nat) (ri : Rec), rs[i]? = some ri → ∀ p ∈ ri.wr, p.1 < next ∨ ∃ i0 r0, i0 ≤ i ∧ rs[i0]? = some r0 ∧ (∃ q ∈ r0.wr, q.1 = p.1) ∧ next + 16 * i0 ≤ p.1 ∧ p.1 < next + 16 * i0 + 16 := by
 intro i
 induction i using Nat.strongRecOn with
 | _ i ih =>
  intro ri hi p hp
  rcases h.keys i ri hi p hp with h0 | h0 | ⟨i', ri', h1, h2, q, hq, he⟩
  ·exact .inl h0
  ·have hlen := h.tr.len
   have hil : i < all.length := by rw [hlen]; exact (List.getElem?_eq_some_iff.1 hi).1
   obtain ⟨r, hr, hst⟩ := h.tr.at (j := i) (o := all[i]) (by simp)
   rw [hi] at hr
   cases hr
   have hb : p.1 < next + 16 * i + 16 := by
    have := hst.2.1
    rw [Nat.zero_add] at this
    unfold below at this
    have := List.all_eq_true.1 this p hp
    have := Nat.le_of_ble_eq_true this
    omega
   exact .inr ⟨i, ri, Nat.le_refl _, hi, ⟨p, hp, rfl⟩, h0, hb⟩
  ·rcases ih i' h1 ri' h2 q hq with h3 | ⟨i0, r0, h4, h5, h6, h7, h8⟩
   ·exact .inl (he ▸ h3)
   ·exact .inr ⟨i0, r0, by omega, h5, by rw [← he]; exact h6, by omega, by omega⟩
end Go.Sx
namespace Go.Sx
open Go
variable {G : Nat → Obj → Prop} {P : Program} {E : Env} {K : Callee} {C : Ctx}
theorem sees_opnd {all : List Oper} {o : Oper} {t : Nat} (h : .tmp t ∈ o.op.operands) : t ∈ sees all o := by
 unfold sees
 refine List.mem_append_left _ (List.mem_flatMap.2 ⟨.tmp t, by simpa using h, by simp [opnd]⟩)
theorem wants_congr {all : List Oper} {lk lk' : Look} {o : Oper} (h : ∀ t ∈ sees all o, lk' t = lk t) : wants all lk' o = wants all lk o := by
 unfold wants
 cases hg : o.guard with
 | none => rfl
 | some gw =>
  obtain ⟨j, want⟩ := gw
  simp only
  cases hd : slotOf all j with
  | none => rfl
  | some d =>
   simp only
   rw [h d (by simp [sees, guardSlot, hg, hd])]
theorem evalO_congr {all : List Oper} {lk lk' : Look} {o : Oper} (h : ∀ t ∈ sees all o, lk' t = lk t) : ∀ x ∈ o.op.operands, evalO lk' x = evalO lk x := fun x hx => by
 cases x with
 | tmp t => exact h t (sees_opnd hx)
 | _ => rfl
theorem StepIs.frame {all : List Oper} {lk lk' : Look} {m m' : Get} {id : Nat} {o : Oper} {r : Rec} (h : StepIs E P G all lk m id o r) (hl : ∀ t ∈ sees all o, lk' t = lk t)
  (hg : ∀ b ∈ r.rd, m' b = m b) (hw : ∀ p ∈ r.wr, m' p.1 = m p.1) : StepIs E P G all lk' m' id o r :=
 ⟨h.1, by rw [wants_congr hl]; exact h.2.1, fun hr => ⟨(h.2.2.1 hr).1.frame (evalO_congr hl) hg hw, (h.2.2.1 hr).2⟩, h.2.2.2⟩
def setS (S : Nat → Bool) (j : Nat) : Nat → Bool := fun i => if i = j then true else S i
def PanIs (P : Program) (G : Nat → Obj → Prop) (lk : Look) (get : Get) (id : Nat) (o : Oper) (v : AV) (rd : List Nat) : Prop :=
 match o.op with
 | .call { callee := .value f, args := as, .. } => ∃ f' cap, evalO lk f = .fn f' cap ∧ CallIs P G f' (as.toList.map (evalO lk) ++ cap) get id (.panic v) [] rd
 | _ => False
theorem PanIs.frame {lk lk' : Look} {get get' : Get} {id : Nat} {o : Oper} {v : AV} {rd : List Nat} (h : PanIs P G lk get id o v rd)
  (hl : ∀ x ∈ o.op.operands, evalO lk' x = evalO lk x) (hg : ∀ b ∈ rd, get' b = get b) : PanIs P G lk' get' id o v rd := by
 unfold PanIs at h ⊢
 split at h
 ·rename_i f as ts ho
  rw [ho] at hl
  obtain ⟨f', cap, hf, hdc⟩ := h
  have h1 : evalO lk' f = evalO lk f := hl f (by simp [Op.operands, Call.operands])
  have h2 : as.toList.map (evalO lk') = as.toList.map (evalO lk) := List.map_congr_left fun x hx => hl x (by simp [Op.operands, Call.operands]; exact .inr (by simpa using hx))
  refine ⟨f', cap, h1.trans hf, ?_⟩
  rw [h2]
  exact hdc.frame hg
 ·exact h.elim
theorem PanIs.does {ρ : Operand → Value} {lk : Look} {o : Oper} (hG : C.gl = G) (hs : SRel C) (hρ : ∀ x, VRel C (evalO lk x) (ρ x)) {id : Nat} (hid : ∀ j, id ≤ j → j < id + 16 → C.m j = none) {v : AV} {rd : List Nat}
  (h : PanIs P G lk C.m id o v rd) : OpPanics P C ρ o v := by
 unfold PanIs at h
 split at h
 ·rename_i f as ts ho
  obtain ⟨f', cap, hf, hdc⟩ := h
  have hfv := hρ f
  rw [hf] at hfv
  obtain ⟨vs, hfv, hcap⟩ := hfv
  have hargs : VRelL C (as.toList.map (evalO lk) ++ cap) (as.toList.map ρ ++ vs.toList) := (mapRel hρ _).append hcap
  have hl : (as.toList.map ρ ++ vs.toList).toArray = as.map ρ ++ vs := by
   apply Array.ext'
   simp
  intro a next Q hn
  have hA := doCall_good hG hs hargs hid hdc
  rw [hl] at hA
  refine upon_answers ho hfv hA (fun u w' hR => ?_) (fun ch w' hR => ?_) (fun w' hR => hR.elim)
  ·obtain ⟨v', C', e1, _⟩ := hR; cases e1
  ·obtain ⟨v', e1, e2⟩ := hR
   simp only [Out.panic.injEq] at e1
   subst e1
   exact hn w' ch e2
 ·exact h.elim
theorem drawn_step {dead : Nat → Bool} {all : List Oper} {next : Nat} {lk0 : Look} {m0 : Get} {rs : List Rec} (hT : TrOK E P G dead all next lk0 m0 rs) (hs : SlotsOK all) {S : Nat → Bool} (hd : down all S) {j : Nat} {o : Oper} (hj : all[j]? = some o)
  (hSj : S j = false) (he : ∀ e ∈ o.after, Region.binds .any e = true → S e.on = true) (hSl : ∀ i, S i = true → i < all.length) :
  ∃ r, rs[j]? = some r ∧ (dead j = false → StepIs E P G all (lkF S rs 0 lk0) (mF S rs 0 m0) (next + 16 * j) o r) ∧ (∀ t ∈ sees all o, lkF S rs 0 lk0 t = lkF (fun x => decide (x < j)) rs 0 lk0 t) ∧
   (∀ b ∈ r.rd, mF S rs 0 m0 b = mF (fun x => decide (x < j)) rs 0 m0 b) ∧ (∀ k, next + 16 * j ≤ k → k < next + 16 * j + 16 → mF S rs 0 m0 k = none) ∧
   lkF (setS S j) rs 0 lk0 = putL (lkF S rs 0 lk0) r.dst r.v ∧ mF (setS S j) rs 0 m0 = applyM (mF S rs 0 m0) r.wr := by
 have hlen := hT.tr.len
 obtain ⟨r, hr, hst⟩ := hT.tr.at hj
 simp only [Nat.zero_add] at hst
 have hop : ∀ (i : Nat) (ri : Rec), rs[i]? = some ri → ∃ oi, all[i]? = some oi ∧ ri.dst = oi.dst := fun i ri hi => by
  have hil : i < all.length := by rw [hlen]; exact (List.getElem?_eq_some_iff.1 hi).1
  obtain ⟨r', hr', hst'⟩ := hT.tr.at (j := i) (o := all[i]) (by simp)
  rw [hi] at hr'
  cases hr'
  exact ⟨all[i], by simp, hst'.1⟩
 have late : ∀ (i : Nat), S i = true → j < i → bitAt (befs all []) i j = false := fun i hi hji => by
  cases hb : bitAt (befs all []) i j with
  | false => rfl
  | true =>
   have hil := hSl i hi
   have := bit_in hs hd i all[i] (by simp) (fun e he hb => hd i all[i] (by simp) hi e he hb) hb
   rw [hSj] at this
   cases this
 have early : ∀ (i : Nat), S i = false → bitAt (befs all []) j i = false := fun i hi => by
  cases hb : bitAt (befs all []) j i with
  | false => rfl
  | true =>
   have := bit_in hs hd j o hj he hb
   rw [hi] at this
   cases this
 have hne : ∀ i, S (0 + i) ≠ (fun x => decide (x < j)) (0 + i) → (S i = true ∧ j < i) ∨ (S i = false ∧ i < j) := fun i h => by
  simp only [Nat.zero_add] at h
  cases hSi : S i with
  | true =>
   rw [hSi] at h
   have : ¬ i < j := fun hh => h (by simp [hh])
   have : i ≠ j := fun e => by rw [e, hSj] at hSi; cases hSi
   exact .inl ⟨rfl, by omega⟩
  | false =>
   rw [hSi] at h
   have : i < j := by
    rcases Nat.lt_or_ge i j with hh | hh
    ·exact hh
    ·exact (h (by simp; omega)).elim
   exact .inr ⟨rfl, this⟩
 have hl : ∀ t ∈ sees all o, lkF S rs 0 lk0 t = lkF (fun x => decide (x < j)) rs 0 lk0 t := fun t ht => by
  refine lkF_agree rs 0 lk0 lk0 (fun i ri hi hh hdst => ?_) rfl
  obtain ⟨oi, hoi, hdi⟩ := hop i ri hi
  rw [hdi] at hdst
  rcases hne i hh with ⟨h1, h2⟩ | ⟨h1, h2⟩
  ·exact (hs.apart j i o oi hj hoi h2 (late i h1 h2)).2 t hdst ht
  ·exact ((hs.apart i j oi o hoi hj h2 (early i h1)).1 t hdst).1 ht
 have hm : ∀ b, (b ∈ r.rd ∨ b ∈ r.wr.map (·.1)) → mF S rs 0 m0 b = mF (fun x => decide (x < j)) rs 0 m0 b := fun b hb => by
  refine mF_agree rs 0 m0 m0 (fun i ri hi hh p hp hpb => ?_) rfl
  have hbi : b ∈ ri.wr.map (·.1) := List.mem_map.2 ⟨p, hp, hpb⟩
  rcases hne i hh with ⟨h1, h2⟩ | ⟨h1, h2⟩
  ·have := hT.clash j i r ri h2 hr hi ⟨b, hb.elim (fun h => .inr ⟨h, hbi⟩) (fun h => .inl ⟨h, .inr hbi⟩)⟩
   rw [late i h1 h2] at this
   cases this
  ·have := hT.clash i j ri r h2 hi hr ⟨b, .inl ⟨hbi, hb⟩⟩
   rw [early i h1] at this
   cases this
 refine ⟨r, hr, fun hdead => (hst.2.2 hdead).frame hl (fun b hb => hm b (.inl hb)) (fun p hp => hm p.1 (.inr (List.mem_map.2 ⟨p, hp, rfl⟩))), hl, fun b hb => hm b (.inl hb), fun k hk1 hk2 => ?_, ?_, ?_⟩
 ·have : mF S rs 0 m0 k = mF (fun _ => false) rs 0 m0 k := by
   refine mF_agree rs 0 m0 m0 (fun i ri hi hh p hp hpb => ?_) rfl
   simp only [Nat.zero_add, ne_eq, Bool.not_eq_false] at hh
   rcases hT.whose i ri hi p hp with h0 | ⟨i0, r0, h1, h2, ⟨q, hq, hqp⟩, h4, h5⟩
   ·omega
   ·have : i0 = j := by omega
    subst this
    rw [hr] at h2
    cases h2
    have hij : i ≠ i0 := fun e => by rw [e, hSj] at hh; cases hh
    have hlt : i0 < i := by omega
    have := hT.clash i0 i r ri hlt hr hi ⟨p.1, .inl ⟨List.mem_map.2 ⟨q, hq, hqp⟩, .inr (List.mem_map.2 ⟨p, hp, rfl⟩)⟩⟩
    rw [late i hh hlt] at this
    cases this
  rw [this, mF_none _ _ _ (by simp)]
  exact hT.free k (by omega)
 ·refine lkF_ins rs 0 j lk0 r hr (by simpa using hSj) (by simp [setS]) (fun i hi => by simp only [setS]; rw [if_neg (by omega)]) fun i r' hi hlt hSi t ht hdt => ?_
  simp only [Nat.zero_add] at hSi
  obtain ⟨oi, hoi, hdi⟩ := hop i r' hi
  rw [hdi] at hdt
  rw [hst.1] at ht
  exact ((hs.apart j i o oi hj hoi hlt (late i hSi hlt)).1 t ht).2 hdt
 ·refine mF_ins rs 0 j m0 r hr (by simpa using hSj) (by simp [setS]) (fun i hi => by simp only [setS]; rw [if_neg (by omega)]) fun i r' hi hlt hSi p hp q hq hqp => ?_
  simp only [Nat.zero_add] at hSi
  have := hT.clash j i r r' hlt hr hi ⟨p.1, .inl ⟨List.mem_map.2 ⟨p, hp, rfl⟩, .inr (List.mem_map.2 ⟨q, hq, hqp⟩)⟩⟩
  rw [late i hSi hlt] at this
  cases this
theorem countP_setS {S : Nat → Bool} {j n : Nat} (hj : j < n) (hS : S j = false) : (List.range n).countP (setS S j) = (List.range n).countP S + 1 := by
 induction n with
 | zero => omega
 | succ n ih =>
  rw [List.range_succ, List.countP_append, List.countP_append]
  by_cases h : j = n
  ·subst h
   have : (List.range j).countP (setS S j) = (List.range j).countP S := List.countP_congr fun x hx => by
    have := List.mem_range.1 hx
    simp only [setS]
    rw [if_neg (by omega)]
   rw [this]
   simp [setS, hS]
  ·rw [ih (by omega)]
   have : setS S j n = S n := by simp only [setS]; rw [if_neg (by omega)]
   simp only [List.countP_cons, List.countP_nil, this]
   omega
theorem drawn_wp (hE : EnvOK E P) {ops : Array Oper} {next : Nat} {lk0 : Look} {m0 : Get} {rs : List Rec} (hT : TrOK E P G (fun _ => false) ops.toList next lk0 m0 rs) (hs : SlotsOK ops.toList) {Q : Exit → Act → World → Prop} {C0 : Ctx} (hG : C0.gl = G) {n : Nat} {ds : List Deferred}
  (hdst : ∀ o ∈ ops.toList, ∀ t, o.dst = some t → t < n)
  (hQ : ∀ C' a', SR C' a' (lkF (fun _ => true) rs 0 lk0) (mF (fun _ => true) rs 0 m0) → Ext C0 C' → a'.tmps.size = n → a'.defers = ds → Q .normal a' C'.w) :
  ∀ (fuel : Nat) (listed : Array Bool) (C : Ctx) (a : Act), listed.size = ops.size → down ops.toList (fun i => listed.getD i false) → ops.size ≤ fuel + (List.range ops.size).countP (fun i => listed.getD i false) →
   SR C a (lkF (fun i => listed.getD i false) rs 0 lk0) (mF (fun i => listed.getD i false) rs 0 m0) → Ext C0 C → a.tmps.size = n → a.defers = ds → wpAny P .any ops Q fuel listed a C.w := by
 have hlen : ops.size = rs.length := by have := hT.tr.len; simpa using this
 have done : ∀ (listed : Array Bool) (C : Ctx) (a : Act), (∀ i, i < ops.size → listed.getD i false = true) → SR C a (lkF (fun i => listed.getD i false) rs 0 lk0) (mF (fun i => listed.getD i false) rs 0 m0) → Ext C0 C → a.tmps.size = n → a.defers = ds → Q .normal a C.w := by
  intro listed C a hall hr hE0 hsz hds
  rw [lkF_ext (S' := fun _ => true) rs 0 lk0 fun i hi => by simp only [Nat.zero_add]; exact hall i (by omega), mF_ext (S' := fun _ => true) rs 0 m0 fun i hi => by simp only [Nat.zero_add]; exact hall i (by omega)] at hr
  exact hQ C a hr hE0 hsz hds
 have ready_nil : ∀ (listed : Array Bool), listed.size = ops.size → Region.ready .any ops listed = [] → ∀ i, i < ops.size → listed.getD i false = true := by
  intro listed hls hrn i
  induction i using Nat.strongRecOn with
  | _ i ih =>
   intro hi
   cases hli : listed.getD i false with
   | true => rfl
   | false =>
    exfalso
    have hmem : i ∈ Region.ready .any ops listed := by
     rw [mem_ready]
     refine ⟨?_, ops[i], by simp [hi], fun e he hb => ?_⟩
     ·have : i < listed.size := by omega
      simpa [Array.getD_eq_getD_getElem?, this] using hli
     ·have := hs.edge i ops[i] (by simp [hi]) e he hb
      exact ih e.on this (by omega)
    rw [hrn] at hmem
    cases hmem
 intro fuel
 induction fuel with
 | zero =>
  intro listed C a hls hd hc hr hE0 hsz hds
  have hall : ∀ i, i < ops.size → listed.getD i false = true := by
   intro i hi
   have h1 : (List.range ops.size).countP (fun i => listed.getD i false) = (List.range ops.size).length := by
    have := List.countP_le_length (p := fun i => listed.getD i false) (l := List.range ops.size)
    simp only [List.length_range] at this ⊢
    omega
   exact List.countP_eq_length.1 h1 i (List.mem_range.2 hi)
  refine ⟨?_, done listed C a hall hr hE0 hsz hds⟩
  cases hre : Region.ready .any ops listed with
  | nil => rfl
  | cons x xs =>
   have hx : x ∈ Region.ready .any ops listed := by rw [hre]; simp
   obtain ⟨h1, o, ho, _⟩ := mem_ready.1 hx
   have hxs : x < ops.size := (Array.getElem?_eq_some_iff.1 ho).1
   have := hall x hxs
   have hxl : x < listed.size := by omega
   simp [Array.getD_eq_getD_getElem?, hxl] at h1 this
   rw [h1] at this
   cases this
 | succ fuel ih =>
  intro listed C a hls hd hc hr hE0 hsz hds
  refine ⟨fun hre => done listed C a (ready_nil listed hls hre) hr hE0 hsz hds, fun j hj => ?_⟩
  obtain ⟨h1, o, ho, hedges⟩ := mem_ready.1 hj
  have hjs : j < ops.size := (Array.getElem?_eq_some_iff.1 ho).1
  have hjl : j < listed.size := by omega
  have hSj : listed.getD j false = false := by simpa [Array.getD_eq_getD_getElem?, hjl] using h1
  have hol : ops.toList[j]? = some o := by simpa using ho
  obtain ⟨r, hrj, hst, _, _, hfree, hlk, hmm⟩ := drawn_step hT hs hd hol hSj hedges (fun i hi => by
   rcases Nat.lt_or_ge i listed.size with h | h
   ·simp; omega
   ·simp [Array.getD_eq_getD_getElem?, Array.getElem?_eq_none h] at hi)
  have hS' : (fun i => (listed.setIfInBounds j true).getD i false) = setS (fun i => listed.getD i false) j := by
   funext i
   simp only [setS]
   by_cases hij : i = j
   ·subst hij; simp [Array.getD_eq_getD_getElem?, hjl]
   ·rw [if_neg hij, getD_set_ne false (Ne.symm hij)]
  have hom : o ∈ ops.toList := List.mem_of_getElem? hol
  refine step_wp hE (hE0.glEq.trans hG) (hst rfl) hr hfree (fun t ht => by rw [hsz]; exact hdst o hom t ht) ho fun C' a' hr' hE' hsz' hds' => ?_
  refine ih _ C' a' (by simpa using hls) ?_ ?_ ?_ (hE0.trans hE') (hsz'.trans hsz) (hds'.trans hds)
  ·rw [hS']
   intro i oi hi hSi e he hb
   simp only [setS] at hSi ⊢
   split at hSi
   ·rename_i hij
    subst hij
    rw [hol] at hi
    cases hi
    split
    ·rfl
    ·exact hedges e he hb
   ·split
    ·rfl
    ·exact hd i oi hi hSi e he hb
  ·rw [hS', countP_setS hjs hSj]
   omega
  ·rw [hS', hlk, hmm]
   exact hr'
theorem drawn_wpP (hE : EnvOK E P) {ops : Array Oper} {next : Nat} {lk0 : Look} {m0 : Get} {rs : List Rec} {pi : Nat} (hT : TrOK E P G (fun j => decide (j = pi) || bitAt (befs ops.toList []) j pi) ops.toList next lk0 m0 rs) (hs : SlotsOK ops.toList)
  {Q : Exit → Act → World → Prop} {C0 : Ctx} (hG : C0.gl = G) {n : Nat} {ds : List Deferred} (hdst : ∀ o ∈ ops.toList, ∀ t, o.dst = some t → t < n) {po : Oper} (hpo : ops.toList[pi]? = some po) {pv : AV} {pr : Rec} (hpr : rs[pi]? = some pr)
  (hw : wants ops.toList (lkF (fun x => decide (x < pi)) rs 0 lk0) po = some true) (hpan : PanIs P G (lkF (fun x => decide (x < pi)) rs 0 lk0) (mF (fun x => decide (x < pi)) rs 0 m0) (next + 16 * pi) po pv pr.rd)
  (hQ : ∀ a' w' ch, PanicAt C0 pv w' ch → a'.defers = ds → Q (.panic ch) a' w') :
  ∀ (fuel : Nat) (listed : Array Bool) (C : Ctx) (a : Act), listed.size = ops.size → down ops.toList (fun i => listed.getD i false) → (∀ j, (decide (j = pi) || bitAt (befs ops.toList []) j pi) = true → listed.getD j false = false) →
   ops.size ≤ fuel + (List.range ops.size).countP (fun i => listed.getD i false) →
   SR C a (lkF (fun i => listed.getD i false) rs 0 lk0) (mF (fun i => listed.getD i false) rs 0 m0) → Ext C0 C → a.tmps.size = n → a.defers = ds → wpAny P .any ops Q fuel listed a C.w := by
 have hlen : ops.size = rs.length := by have := hT.tr.len; simpa using this
 have hpis : pi < ops.size := by
  have := (List.getElem?_eq_some_iff.1 hpo).1
  simpa using this
 have notall : ∀ (listed : Array Bool), (∀ j, (decide (j = pi) || bitAt (befs ops.toList []) j pi) = true → listed.getD j false = false) → ¬ ∀ i, i < ops.size → listed.getD i false = true := fun listed hde hall => by
  have h1 := hde pi (by simp)
  rw [hall pi hpis] at h1
  cases h1
 have ready_nil : ∀ (listed : Array Bool), listed.size = ops.size → Region.ready .any ops listed = [] → ∀ i, i < ops.size → listed.getD i false = true := by
  intro listed hls hrn i
  induction i using Nat.strongRecOn with
  | _ i ih =>
   intro hi
   cases hli : listed.getD i false with
   | true => rfl
   | false =>
    exfalso
    have hmem : i ∈ Region.ready .any ops listed := by
     rw [mem_ready]
     refine ⟨?_, ops[i], by simp [hi], fun e he hb => ?_⟩
     ·have : i < listed.size := by omega
      simpa [Array.getD_eq_getD_getElem?, this] using hli
     ·have := hs.edge i ops[i] (by simp [hi]) e he hb
      exact ih e.on this (by omega)
    rw [hrn] at hmem
    cases hmem
 intro fuel
 induction fuel with
 | zero =>
  intro listed C a hls hd hde hc hr hE0 hsz hds
  refine (notall listed hde ?_).elim
  intro i hi
  have h1 : (List.range ops.size).countP (fun i => listed.getD i false) = (List.range ops.size).length := by
   have := List.countP_le_length (p := fun i => listed.getD i false) (l := List.range ops.size)
   simp only [List.length_range] at this ⊢
   omega
  exact List.countP_eq_length.1 h1 i (List.mem_range.2 hi)
 | succ fuel ih =>
  intro listed C a hls hd hde hc hr hE0 hsz hds
  refine ⟨fun hre => (notall listed hde (ready_nil listed hls hre)).elim, fun j hj => ?_⟩
  obtain ⟨h1, o, ho, hedges⟩ := mem_ready.1 hj
  have hjs : j < ops.size := (Array.getElem?_eq_some_iff.1 ho).1
  have hjl : j < listed.size := by omega
  have hSj : listed.getD j false = false := by simpa [Array.getD_eq_getD_getElem?, hjl] using h1
  have hol : ops.toList[j]? = some o := by simpa using ho
  obtain ⟨r, hrj, hst, hl, hm, hfree, hlk, hmm⟩ := drawn_step hT hs hd hol hSj hedges (fun i hi => by
   rcases Nat.lt_or_ge i listed.size with h | h
   ·simp; omega
   ·simp [Array.getD_eq_getD_getElem?, Array.getElem?_eq_none h] at hi)
  cases hdj : (decide (j = pi) || bitAt (befs ops.toList []) j pi) with
  | true =>
   have hjp : j = pi := by
    simp only [Bool.or_eq_true, decide_eq_true_eq] at hdj
    rcases hdj with h | h
    ·exact h
    ·have := bit_in hs hd j o hol hedges h
     have h5 := hde pi (by simp)
     rw [this] at h5
     cases h5
   subst hjp
   have ho2 : o = po := by
    rw [hol] at hpo
    exact Option.some.inj hpo
   subst ho2
   have hr2 : r = pr := by
    rw [hrj] at hpr
    exact Option.some.inj hpr
   subst hr2
   have hw2 : wants ops.toList (lkF (fun i => listed.getD i false) rs 0 lk0) o = some true := by rw [wants_congr hl]; exact hw
   have hp2 := hpan.frame (evalO_congr hl) hm
   have hwr := wants_rel hr.t hw2
   unfold wpOp
   simp only [ho, hwr]
   rw [if_pos trivial]
   refine .inl ?_
   unfold Oper.wp
   rw [← hr.m] at hp2 hfree
   exact hp2.does (hE0.glEq.trans hG) hr.s hr.t hfree a _ Q fun w' ch hpa => hQ a w' ch (hpa.after hE0) hds
  | false =>
   have hS' : (fun i => (listed.setIfInBounds j true).getD i false) = setS (fun i => listed.getD i false) j := by
    funext i
    simp only [setS]
    by_cases hij : i = j
    ·subst hij; simp [Array.getD_eq_getD_getElem?, hjl]
    ·rw [if_neg hij, getD_set_ne false (Ne.symm hij)]
   have hom : o ∈ ops.toList := List.mem_of_getElem? hol
   refine step_wp hE (hE0.glEq.trans hG) (hst hdj) hr hfree (fun t ht => by rw [hsz]; exact hdst o hom t ht) ho fun C' a' hr' hE' hsz' hds' => ?_
   refine ih _ C' a' (by simpa using hls) ?_ ?_ ?_ ?_ (hE0.trans hE') (hsz'.trans hsz) (hds'.trans hds)
   ·rw [hS']
    intro i oi hi hSi e he hb
    simp only [setS] at hSi ⊢
    split at hSi
    ·rename_i hij
     subst hij
     rw [hol] at hi
     cases hi
     split
     ·rfl
     ·exact hedges e he hb
    ·split
     ·rfl
     ·exact hd i oi hi hSi e he hb
   ·intro k hk
    have hkj : k ≠ j := fun e => by rw [e, hdj] at hk; cases hk
    rw [getD_set_ne false (Ne.symm hkj)]
    exact hde k hk
   ·rw [hS', countP_setS hjs hSj]
    omega
   ·rw [hS', hlk, hmm]
    exact hr'
end Go.Sx
namespace Go.Sx
open Go
variable {G : Nat → Obj → Prop} {P : Program} {E : Env} {K : Callee} {C : Ctx} {R : Type}
def entOf (i : Nat) (r : Rec) : List Ent :=
 match r.wr, r.rd with
 | [], [] => []
 | wr, rd => [⟨i, rd, wr.map (·.1)⟩]
def ents : Nat → List Rec → List Ent
 | _, [] => []
 | i, r :: rs => entOf i r ++ ents (i + 1) rs
theorem entOf_mem {i : Nat} {r : Rec} (h : r.wr ≠ [] ∨ r.rd ≠ []) : entOf i r = [⟨i, r.rd, r.wr.map (·.1)⟩] := by
 unfold entOf
 split
 ·rename_i h1 h2; simp_all
 ·rfl
theorem guard_cases {all : List Oper} {o : Oper} {st : St} {go skip : St → Rs R} {pos : Nat} {r : R}
  (h : (match o.guard with
  | none => go st
  | some (j, want) => match slotOf all j with
   | none => .err pos
   | some d => match look st.tmps d with
    | .bool b => (match b with
     | true => (match want with
      | true => go { st with tmps := (d, .bool true) :: st.tmps }
      | false => skip { st with tmps := (d, .bool true) :: st.tmps })
     | false => (match want with
      | true => skip { st with tmps := (d, .bool false) :: st.tmps }
      | false => go { st with tmps := (d, .bool false) :: st.tmps }))
    | .tup [] => skip st
    | _ => .err pos) = .ok r) :
  ∃ st' : St, look st'.tmps = look st.tmps ∧ st'.blks = st.blks ∧ st'.next = st.next ∧ ((wants all (look st.tmps) o = some true ∧ go st' = .ok r) ∨ (wants all (look st.tmps) o = some false ∧ skip st' = .ok r)) := by
 have same : ∀ {d b}, look st.tmps d = .bool b → look ((d, AV.bool b) :: st.tmps) = look st.tmps := fun {d b} hb => by
  rw [look_cons]
  funext j
  simp only [putL]
  split
  ·rename_i e; rw [← e, hb]
  ·rfl
 unfold wants
 split at h
 ·rename_i hg
  exact ⟨st, rfl, rfl, rfl, .inl ⟨by simp [hg], h⟩⟩
 ·rename_i j want hg
  try simp only [hg]
  split at h
  ·cases h
  ·rename_i d hd
   try simp only [hd]
   split at h
   ·rename_i b hb
    try simp only [hb]
    split at h
    ·split at h
     ·exact ⟨{ st with tmps := (d, .bool true) :: st.tmps }, same hb, rfl, rfl, .inl ⟨rfl, h⟩⟩
     ·exact ⟨{ st with tmps := (d, .bool true) :: st.tmps }, same hb, rfl, rfl, .inr ⟨rfl, h⟩⟩
    ·split at h
     ·exact ⟨{ st with tmps := (d, .bool false) :: st.tmps }, same hb, rfl, rfl, .inr ⟨rfl, h⟩⟩
     ·exact ⟨{ st with tmps := (d, .bool false) :: st.tmps }, same hb, rfl, rfl, .inl ⟨rfl, h⟩⟩
   ·rename_i hb
    try simp only [hb]
    exact ⟨st, rfl, rfl, rfl, .inr ⟨trivial, h⟩⟩
   ·cases h
theorem execO_cases (hK : KOK P G K) {lk : Look} {get : Get} {id : Nat} {o : Oper} {e : Nat} {kn : AV → Wr → List Nat → Rs R} {kp : AV → Rs R} {r : R} (h : execO E K lk get id o e kn kp = .ok r) :
  (∃ v wr rd, kn v wr rd = .ok r ∧ below wr (id + 16) = true ∧ ExecIs E P G lk get id o v wr rd) ∨ (∃ v, kp v = .ok r ∧ ∀ rd, callRd lk get o = some rd → PanIs P G lk get id o v rd) := by
 unfold execO at h
 split at h
 ·rename_i f as ts ho
  split at h
  ·rename_i f' cap hf
   obtain ⟨out, wr, rd, h, hdc⟩ := doCall_is hK h
   split at h
   ·rename_i v
    split at h
    ·rename_i hb
     exact .inl ⟨v, wr, rd, h, hb, by unfold ExecIs; rw [ho]; exact ⟨f', cap, hf, hdc⟩⟩
    ·cases h
   ·rename_i v
    refine .inr ⟨v, h, fun rd2 h2 => ?_⟩
    unfold callRd at h2
    rw [ho] at h2
    simp only [hf] at h2
    have hwr : wr = [] := by
     obtain ⟨l, _, _, _, h5⟩ := hdc
     rcases h5 with ⟨_, _, _, _, h6, _⟩ | ⟨_, _, _, _, h6⟩
     ·cases h6
     ·exact h6
    subst hwr
    have hrd : rd2 = rd := by
     obtain ⟨l, h6, _⟩ := hdc
     rw [h2] at h6
     exact Option.some.inj h6
    subst hrd
    unfold PanIs
    rw [ho]
    exact ⟨f', cap, hf, hdc⟩
  ·cases h
 ·rename_i x ho
  split at h
  ·split at h
   ·refine .inr ⟨_, h, fun rd2 h2 => ?_⟩
    unfold callRd at h2
    rw [ho] at h2
    cases h2
   ·cases h
  ·cases h
 ·rename_i op h1 h2
  obtain ⟨rr, hrun, hk⟩ := bindK_ok h
  split at hk
  ·rename_i hb
   refine .inl ⟨rr.v, rr.wr, rr.rd, hk, hb, ?_⟩
   unfold ExecIs
   split
   ·rename_i f as ts ho; exact (h1 _ _ _ ho).elim
   ·rename_i x ho; exact (h2 _ ho).elim
   ·exact hrun
  ·cases hk
def keysR (next i : Nat) (es : List Ent) (r : Rec) : Prop := r.wr = [] ∨ keysOk next (next + 16 * i) es r.wr = true
def keysAll (next : Nat) : Nat → List Ent → List Rec → Prop
 | _, _, [] => True
 | i, es, r :: rs => keysR next i es r ∧ keysAll next (i + 1) (entOf i r ++ es) rs
def deadOf (bf : List Nat) (pm : Option (Nat × AV)) (j : Nat) : Bool := match pm with
 | none => false
 | some (p, _) => decide (j = p) || bitAt bf j p
theorem deadOf_at {bf : List Nat} {pm : Option (Nat × AV)} {i : Nat} (h : deadAt bf pm i = true) : deadOf bf pm i = true := by
 cases pm with
 | none => cases h
 | some q => simp only [deadAt] at h; simp [deadOf, h]
def PanTold (P : Program) (G : Nat → Obj → Prop) (all : List Oper) (next i : Nat) (lk : Look) (m : Get) (os : List Oper) (rs : List Rec) (p : Nat) (v : AV) : Prop :=
 ∃ j po pr, p = i + j ∧ os[j]? = some po ∧ rs[j]? = some pr ∧ wants all (lkF (fun x => decide (x < p)) rs i lk) po = some true ∧ PanIs P G (lkF (fun x => decide (x < p)) rs i lk) (mF (fun x => decide (x < p)) rs i m) (next + 16 * p) po v pr.rd
theorem PanTold.cons {all : List Oper} {next i : Nat} {lk : Look} {m : Get} {o : Oper} {os : List Oper} {r0 : Rec} {rs : List Rec} {p : Nat} {v : AV} (h : PanTold P G all next (i + 1) (putL lk r0.dst r0.v) (applyM m r0.wr) os rs p v) :
  PanTold P G all next i lk m (o :: os) (r0 :: rs) p v := by
 obtain ⟨j, po, pr, h1, h2, h3, h4, h5⟩ := h
 refine ⟨j + 1, po, pr, by omega, by simpa using h2, by simpa using h3, ?_, ?_⟩
 ·simp only [lkF, show (decide (i < p)) = true by simp; omega, if_true]
  exact h4
 ·simp only [lkF, mF, show (decide (i < p)) = true by simp; omega, if_true]
  exact h5
theorem evOpsD_tr (hK : KOK P G K) {rid : Nat} {all : List Oper} {bf : List Nat} {kn : St → Rs R} {kp : AV → Rs R} {r : R} : ∀ (os : List Oper) (i : Nat) (st : St) (es : List Ent) (pm : Option (Nat × AV)), evOpsD E K rid all bf os i st es pm kn kp = .ok r →
  ∃ rs st' pm', Tr E P G (deadOf bf pm') all st.next i (look st.tmps) (getB st.blks) os rs ∧ keysAll st.next i es rs ∧ noClash bf ((ents i rs).reverse ++ es).reverse = true ∧
   look st'.tmps = lkF (fun _ => true) rs i (look st.tmps) ∧ getB st'.blks = mF (fun _ => true) rs i (getB st.blks) ∧ st'.next = st.next + 16 * (i + os.length) ∧
   (match pm' with
   | none => pm = none ∧ kn st' = .ok r
   | some (p, v) => kp v = .ok r ∧ (pm = some (p, v) ∨ (pm = none ∧ PanTold P G all st.next i (look st.tmps) (getB st.blks) os rs p v)))
 | [], i, st, es, pm, h => by
  simp only [evOpsD] at h
  split at h
  ·rename_i hc
   refine ⟨[], { st with next := st.next + 16 * i }, pm, trivial, trivial, by simpa [ents] using hc, rfl, rfl, rfl, ?_⟩
   cases pm with
   | none => exact ⟨rfl, h⟩
   | some q => exact ⟨h, .inl rfl⟩
  ·cases h
 | o :: os, i, st, es, pm, h => by
  simp only [evOpsD] at h
  split at h
  ·rename_i hdead
   obtain ⟨rs, st', pm', e1, e2, e3, e4, e5, e6, e7⟩ := evOpsD_tr hK os (i + 1) _ _ _ h
   have hpm : deadOf bf pm' i = true := by
    cases pm' with
    | none => rw [e7.1] at hdead; cases hdead
    | some q =>
     obtain ⟨p, v⟩ := q
     rcases e7.2 with e | ⟨e, _⟩
     ·rw [e] at hdead; exact deadOf_at hdead
     ·rw [e] at hdead; cases hdead
   refine ⟨⟨o.dst, false, .undef, [], []⟩ :: rs, st', pm', ⟨⟨rfl, rfl, fun hh => by rw [hpm] at hh; cases hh⟩, ?_⟩, ⟨.inl rfl, e2⟩, e3, ?_, ?_, ?_, ?_⟩
   ·rw [look_put] at e1; exact e1
   ·rw [e4, look_put]; simp only [lkF, if_true]
   ·rw [e5]; simp only [mF, if_true]; rfl
   ·rw [e6]; simp only [List.length_cons]; omega
   ·cases pm' with
    | none => exact e7
    | some q =>
     obtain ⟨p, v⟩ := q
     refine ⟨e7.1, ?_⟩
     rcases e7.2 with e | ⟨e, _⟩
     ·exact .inl e
     ·rw [e] at hdead; cases hdead
  ·rename_i hdead
   obtain ⟨st1, h1, h2, h3, h4⟩ := guard_cases (o := o) (all := all) (pos := 5)
    (go := fun st => execO E K (look st.tmps) (getB st.blks) (st.next + 16 * i) o (rid * 100 + i)
     (fun v wr rd => match keysOk st.next (st.next + 16 * i) es wr with
      | true => evOpsD E K rid all bf os (i + 1) { tmps := putT st.tmps o.dst v, blks := applyWr st.blks wr, next := st.next }
       (match wr, rd with | [], [] => es | wr, rd => ⟨i, rd, wr.map (·.1)⟩ :: es) pm kn kp
      | false => .err 7)
     (fun v => panNext pm (callRd (look st.tmps) (getB st.blks) o) fun rd => evOpsD E K rid all bf os (i + 1) { st with tmps := putT st.tmps o.dst .undef } (pushR i rd es) (some (i, v)) kn kp))
    (skip := fun st => evOpsD E K rid all bf os (i + 1) { st with tmps := putT st.tmps o.dst (.tup []) } es pm kn kp) h
   rcases h4 with ⟨hw, h4⟩ | ⟨hw, h4⟩
   ·rcases execO_cases hK h4 with ⟨v, wr, rd, hk, hb, hx⟩ | ⟨v, hk, hx⟩
    ·split at hk
     ·rename_i hko
      obtain ⟨rs, st', pm', e1, e2, e3, e4, e5, e6, e7⟩ := evOpsD_tr hK os (i + 1) _ _ _ hk
      simp only [look_put, getB_apply, h1, h2, h3] at e1 e4 e5 e6 e7
      refine ⟨⟨o.dst, true, v, wr, rd⟩ :: rs, st', pm', ⟨⟨rfl, by rw [← h3]; exact hb, fun _ => ⟨rfl, hw, fun _ => ⟨by rw [h1, h2, h3] at hx; exact hx, by rw [← h3]; exact hb⟩, by simp⟩⟩, e1⟩, ⟨.inr (by rw [h3] at hko; exact hko), ?_⟩, ?_, ?_, ?_, ?_, ?_⟩
      ·rw [h3] at e2
       unfold entOf
       simp only
       split at e2
       ·exact e2
       ·exact e2
      ·unfold ents
       unfold entOf
       simp only
       split at e3
       ·simpa using e3
       ·simpa using e3
      ·rw [e4]; simp only [lkF, if_true]
      ·rw [e5]; simp only [mF, if_true]
      ·rw [e6]; simp only [List.length_cons]; omega
      ·cases pm' with
       | none => exact e7
       | some q => exact ⟨e7.1, e7.2.imp id fun hh => ⟨hh.1, hh.2.cons⟩⟩
     ·cases hk
    ·unfold panNext at hk
     split at hk
     ·cases hk
     ·split at hk
      ·cases hk
      ·rename_i rd hrd
       have hp := hx rd hrd
       obtain ⟨rs, st', pm', e1, e2, e3, e4, e5, e6, e7⟩ := evOpsD_tr hK os (i + 1) _ _ _ hk
       simp only [look_put, h1, h2, h3] at e1 e4 e5 e6 e7
       have hpm : pm' = some (i, v) := by
        cases pm' with
        | none => cases e7.1
        | some q =>
         obtain ⟨p, v'⟩ := q
         rcases e7.2 with e | ⟨e, _⟩
         ·exact e.symm
         ·cases e
       subst hpm
       refine ⟨⟨o.dst, true, .undef, [], rd⟩ :: rs, st', some (i, v), ⟨⟨rfl, rfl, fun hh => by simp [deadOf] at hh⟩, e1⟩, ⟨.inl rfl, ?_⟩, ?_, ?_, ?_, ?_, e7.1, .inr ⟨rfl, 0, o, _, rfl, rfl, rfl, ?_, ?_⟩⟩
       ·rw [h3] at e2
        cases rd with
        | nil => exact e2
        | cons x rd => exact e2
       ·cases rd with
        | nil => simpa [ents, entOf, pushR] using e3
        | cons x rd => simpa [ents, entOf, pushR] using e3
       ·rw [e4]; simp only [lkF, if_true]
       ·rw [e5]; simp only [mF, if_true]; rfl
       ·rw [e6]; simp only [List.length_cons]; omega
       ·rw [lkF_none _ _ _ (by intro x hx; simp; omega)]
        exact hw
       ·rw [lkF_none _ _ _ (by intro x hx; simp; omega), mF_none _ _ _ (by intro x hx; simp; omega)]
        rw [h1, h2, h3] at hp
        exact hp
   ·obtain ⟨rs, st', pm', e1, e2, e3, e4, e5, e6, e7⟩ := evOpsD_tr hK os (i + 1) _ _ _ h4
    simp only [look_put, h1, h2, h3] at e1 e2 e4 e5 e6 e7
    refine ⟨⟨o.dst, false, .tup [], [], []⟩ :: rs, st', pm', ⟨⟨rfl, rfl, fun _ => ⟨rfl, hw, by simp, by simp⟩⟩, e1⟩, ⟨.inl rfl, e2⟩, e3, ?_, ?_, ?_, ?_⟩
    ·rw [e4]; simp only [lkF, if_true]
    ·rw [e5]; simp only [mF, if_true]; rfl
    ·rw [e6]; simp only [List.length_cons]; omega
    ·cases pm' with
     | none => exact e7
     | some q => exact ⟨e7.1, e7.2.imp id fun hh => ⟨hh.1, hh.2.cons⟩⟩
theorem ents_mem {e : Ent} : ∀ (rs : List Rec) (i : Nat), e ∈ ents i rs ↔ ∃ j r, rs[j]? = some r ∧ e ∈ entOf (i + j) r
 | [], i => by simp [ents]
 | r :: rs, i => by
  simp only [ents, List.mem_append, ents_mem rs (i + 1)]
  constructor
  ·rintro (h | ⟨j, r', h1, h2⟩)
   ·exact ⟨0, r, by simp, h⟩
   ·exact ⟨j + 1, r', by simpa using h1, by rwa [show i + (j + 1) = i + 1 + j by omega]⟩
  ·rintro ⟨j, r', h1, h2⟩
   cases j with
   | zero =>
    simp only [List.getElem?_cons_zero, Option.some.injEq] at h1
    subst h1
    exact .inl h2
   | succ j => exact .inr ⟨j, r', by simpa using h1, by rwa [show i + 1 + j = i + (j + 1) by omega]⟩
theorem noClash_pair {bf : List Nat} : ∀ {l : List Ent}, noClash bf l = true → l.Pairwise fun e d => e.clash d = true → bitAt bf d.i e.i = true
 | [], _ => .nil
 | e :: l, h => by
  simp only [noClash, Bool.and_eq_true, List.all_eq_true, Bool.or_eq_true, Bool.not_eq_true'] at h
  refine .cons (fun d hd hc => ?_) (noClash_pair h.2)
  rcases h.1 d hd with h0 | h0
  ·rw [hc] at h0; cases h0
  ·exact h0
theorem ents_pair {Q : Ent → Ent → Prop} : ∀ {rs : List Rec} {k : Nat}, (ents k rs).Pairwise Q → ∀ (i j : Nat) (ri rj : Rec) (ei ej : Ent), i < j → rs[i]? = some ri → rs[j]? = some rj → ei ∈ entOf (k + i) ri → ej ∈ entOf (k + j) rj → Q ei ej
 | [], _, _, i, j, ri, rj, ei, ej, _, hi, _, _, _ => by simp at hi
 | r :: rs, k, h, 0, j, ri, rj, ei, ej, hlt, hi, hj, he, he' => by
  obtain ⟨j', rfl⟩ : ∃ j', j = j' + 1 := ⟨j - 1, by omega⟩
  simp only [List.getElem?_cons_zero, Option.some.injEq] at hi
  subst hi
  simp only [ents, List.pairwise_append] at h
  exact h.2.2 ei he ej ((ents_mem rs (k + 1)).2 ⟨j', rj, by simpa using hj, by rwa [show k + 1 + j' = k + (j' + 1) by omega]⟩)
 | r :: rs, k, h, i + 1, j, ri, rj, ei, ej, hlt, hi, hj, he, he' => by
  obtain ⟨j', rfl⟩ : ∃ j', j = j' + 1 := ⟨j - 1, by omega⟩
  simp only [ents, List.pairwise_append] at h
  exact ents_pair h.2.1 i j' ri rj ei ej (by omega) (by simpa using hi) (by simpa using hj) (by rwa [show k + 1 + i = k + (i + 1) by omega]) (by rwa [show k + 1 + j' = k + (j' + 1) by omega])
theorem keysAll_at {next : Nat} : ∀ {rs : List Rec} {k : Nat} {es : List Ent}, keysAll next k es rs → ∀ (i : Nat) (ri : Rec), rs[i]? = some ri → ∃ es', keysR next (k + i) es' ri ∧ ∀ e ∈ es', e ∈ es ∨ ∃ i' r', i' < i ∧ rs[i']? = some r' ∧ e ∈ entOf (k + i') r'
 | [], _, _, _, i, ri, hi => by simp at hi
 | r :: rs, k, es, h, 0, ri, hi => by
  simp only [List.getElem?_cons_zero, Option.some.injEq] at hi
  subst hi
  exact ⟨es, h.1, fun e he => .inl he⟩
 | r :: rs, k, es, h, i + 1, ri, hi => by
  obtain ⟨es', h1, h2⟩ := keysAll_at h.2 i ri (by simpa using hi)
  refine ⟨es', by rwa [show k + (i + 1) = k + 1 + i by omega], fun e he => ?_⟩
  rcases h2 e he with h3 | ⟨i', r', h3, h4, h5⟩
  ·rcases List.mem_append.1 h3 with h3 | h3
   ·exact .inr ⟨0, r, by omega, by simp, h3⟩
   ·exact .inl h3
  ·exact .inr ⟨i' + 1, r', by omega, by simpa using h4, by rwa [show k + (i' + 1) = k + 1 + i' by omega]⟩
theorem evOpsD_ok (hK : KOK P G K) {rid : Nat} {all : List Oper} {kn : St → Rs R} {kp : AV → Rs R} {r : R} {st : St} (hfree : ∀ k, st.next ≤ k → getB st.blks k = none) (h : evOpsD E K rid all (befs all []) all 0 st [] none kn kp = .ok r) :
  ∃ rs st' pm', TrOK E P G (deadOf (befs all []) pm') all st.next (look st.tmps) (getB st.blks) rs ∧ look st'.tmps = lkF (fun _ => true) rs 0 (look st.tmps) ∧ getB st'.blks = mF (fun _ => true) rs 0 (getB st.blks) ∧ st'.next = st.next + 16 * all.length ∧
   (match pm' with
   | none => kn st' = .ok r
   | some (p, v) => kp v = .ok r ∧ PanTold P G all st.next 0 (look st.tmps) (getB st.blks) all rs p v) := by
 obtain ⟨rs, st', pm', e1, e2, e3, e4, e5, e6, e7⟩ := evOpsD_tr hK all 0 st [] none h
 refine ⟨rs, st', pm', ⟨e1, ?_, ?_, hfree⟩, e4, e5, by simpa using e6, ?_⟩
 rotate_left 2
 ·cases pm' with
  | none => exact e7.2
  | some q =>
   obtain ⟨p, v⟩ := q
   refine ⟨e7.1, ?_⟩
   rcases e7.2 with e | ⟨_, e⟩
   ·cases e
   ·exact e
 ·simp only [List.append_nil, List.reverse_reverse] at e3
  have hp := noClash_pair e3
  intro i j ri rj hlt hi hj ⟨k, hk⟩
  have hi' : ri.wr ≠ [] ∨ ri.rd ≠ [] := by
   rcases hk with ⟨h1, _⟩ | ⟨h1, _⟩
   ·left; intro e; rw [e] at h1; simp at h1
   ·right; intro e; rw [e] at h1; simp at h1
  have hj' : rj.wr ≠ [] ∨ rj.rd ≠ [] := by
   rcases hk with ⟨_, h1 | h1⟩ | ⟨_, h1⟩
   ·right; intro e; rw [e] at h1; simp at h1
   ·left; intro e; rw [e] at h1; simp at h1
   ·left; intro e; rw [e] at h1; simp at h1
  have := ents_pair hp i j ri rj _ _ hlt hi hj (by rw [entOf_mem hi']; exact List.mem_singleton.2 rfl) (by rw [entOf_mem hj']; exact List.mem_singleton.2 rfl)
  simp only [Nat.zero_add] at this
  refine this ?_
  unfold Ent.clash
  simp only [Bool.or_eq_true]
  rcases hk with ⟨h1, h2 | h2⟩ | ⟨h1, h2⟩
  ·exact .inl (meets_iff.2 ⟨k, h1, h2⟩)
  ·exact .inr (.inl (meets_iff.2 ⟨k, h1, h2⟩))
  ·exact .inr (.inr (meets_iff.2 ⟨k, h1, h2⟩))
 ·intro i ri hi p hp
  obtain ⟨es', h1, h2⟩ := keysAll_at e2 i ri hi
  simp only [Nat.zero_add] at h1 h2
  rcases h1 with h1 | h1
  ·rw [h1] at hp; cases hp
  ·unfold keysOk at h1
   have := List.all_eq_true.1 h1 p hp
   simp only [Bool.or_eq_true] at this
   rcases this with h3 | h3 | h3
   ·exact .inl (Nat.le_of_ble_eq_true h3)
   ·exact .inr (.inl (Nat.le_of_ble_eq_true h3))
   ·obtain ⟨e, he, hb⟩ := List.any_eq_true.1 h3
    have hb := any_beq.1 hb
    rcases h2 e he with h4 | ⟨i', r', h4, h5, h6⟩
    ·cases h4
    ·refine .inr (.inr ⟨i', r', h4, h5, ?_⟩)
     by_cases hn : r'.wr ≠ [] ∨ r'.rd ≠ []
     ·rw [entOf_mem hn] at h6
      have := List.mem_singleton.1 h6
      rw [this] at hb
      obtain ⟨q, hq, he⟩ := List.mem_map.1 hb
      exact ⟨q, hq, he⟩
     ·simp only [not_or, ne_eq, Decidable.not_not] at hn
      unfold entOf at h6
      rw [hn.1, hn.2] at h6
      cases h6
end Go.Sx
