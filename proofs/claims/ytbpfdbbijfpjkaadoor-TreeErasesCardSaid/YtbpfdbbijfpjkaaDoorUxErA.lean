/- A part of the proof: see the row's text. -/
import Derived.Test.YtbpfdbbijfpjkaaDoorUxLfB
set_option linter.unusedVariables false
set_option linter.unusedSimpArgs false
namespace Go.Sx.Tryd
open Go Go.Sx Go.Proofs
set_option maxRecDepth 100000
/-! pieces of a tree: nodes from b on, and those that nothing holds yet -/
structure Part (b : Nat) (A : List Nd) (t : List Int) : Prop where
  kids : ∀ (j : Nat) x, A[j]? = some x → ∀ k ∈ nKids x, (b : Int) ≤ k ∧ k < ((b + j : Nat) : Int)
  tops : ∀ k ∈ t, (b : Int) ≤ k ∧ k < ((b + A.length : Nat) : Int)
  once : (A.flatMap nKids ++ t).Nodup
  all : ∀ k : Nat, k < A.length → ((b + k : Nat) : Int) ∈ A.flatMap nKids ++ t
theorem Part.nil (b : Nat) : Part b [] [] := ⟨fun j x h => by simp at h, fun k h => by simp at h, by simp, fun k h => by simp at h⟩
theorem Part.used {b : Nat} {A : List Nd} {t : List Int} (p : Part b A t) : ∀ k ∈ A.flatMap nKids, (b : Int) ≤ k ∧ k < ((b + A.length : Nat) : Int) := fun k hk => by
  obtain ⟨x, hx, hk⟩ := List.mem_flatMap.1 hk
  obtain ⟨j, hj⟩ := List.mem_iff_getElem?.1 hx
  have h1 := p.kids j x hj k hk
  have h2 := (List.getElem?_eq_some_iff.1 hj).1
  omega
theorem Part.app {b : Nat} {A B : List Nd} {t s : List Int} (p : Part b A t) (q : Part (b + A.length) B s) : Part b (A ++ B) (t ++ s) where
  kids := fun j x hj k hk => by
    by_cases h : j < A.length
    · rw [List.getElem?_append_left h] at hj
      exact p.kids j x hj k hk
    · rw [List.getElem?_append_right (by omega)] at hj
      have := q.kids _ x hj k hk
      omega
  tops := fun k hk => by
    rw [List.length_append]
    rcases List.mem_append.1 hk with hk | hk
    · have := p.tops k hk; omega
    · have := q.tops k hk; omega
  once := by
    have h1 := p.once
    have h2 := q.once
    rw [List.flatMap_append]
    rw [List.nodup_append] at h1 h2 ⊢
    have pu := p.used
    have pt := p.tops
    have qu := q.used
    have qt := q.tops
    refine ⟨?_, ?_, ?_⟩
    · rw [List.nodup_append]
      refine ⟨h1.1, h2.1, fun a ha c hc => ?_⟩
      have := pu a ha
      have := qu c hc
      omega
    · rw [List.nodup_append]
      refine ⟨h1.2.1, h2.2.1, fun a ha c hc => ?_⟩
      have := pt a ha
      have := qt c hc
      omega
    · intro a ha c hc
      rcases List.mem_append.1 ha with ha | ha <;> rcases List.mem_append.1 hc with hc | hc
      · exact h1.2.2 a ha c hc
      · have := pu a ha
        have := qt c hc
        omega
      · have := qu a ha
        have := pt c hc
        omega
      · exact h2.2.2 a ha c hc
  all := fun k hk => by
    rw [List.length_append] at hk
    rw [List.flatMap_append]
    by_cases h : k < A.length
    · have := p.all k h
      simp only [List.mem_append] at this ⊢
      rcases this with h | h
      · exact .inl (.inl h)
      · exact .inr (.inl h)
    · have := q.all (k - A.length) (by omega)
      rw [show b + A.length + (k - A.length) = b + k by omega] at this
      simp only [List.mem_append] at this ⊢
      rcases this with h | h
      · exact .inl (.inr h)
      · exact .inr (.inr h)
/-- one more that holds all those that nothing held -/
theorem Part.hold {b : Nat} {A : List Nd} {t : List Int} (p : Part b A t) (x : Nd) (hx : nKids x = t) : Part b (A ++ [x]) [((b + A.length : Nat) : Int)] where
  kids := fun j y hj k hk => by
    by_cases h : j < A.length
    · rw [List.getElem?_append_left h] at hj
      exact p.kids j y hj k hk
    · rw [List.getElem?_append_right (by omega)] at hj
      have e : j - A.length = 0 := by
        have := (List.getElem?_eq_some_iff.1 hj).1
        simp only [List.length_singleton] at this
        omega
      rw [e] at hj
      simp only [List.getElem?_cons_zero, Option.some.injEq] at hj
      subst hj
      rw [hx] at hk
      have := p.tops k hk
      omega
  tops := fun k hk => by
    simp only [List.mem_singleton] at hk
    rw [List.length_append, List.length_singleton]
    omega
  once := by
    have h1 := p.once
    have pu := p.used
    have pt := p.tops
    rw [List.flatMap_append, List.flatMap_singleton, hx, List.nodup_append]
    refine ⟨h1, by simp, fun a ha c hc => ?_⟩
    simp only [List.mem_singleton] at hc
    rcases List.mem_append.1 ha with ha | ha
    · have := pu a ha; omega
    · have := pt a ha; omega
  all := fun k hk => by
    rw [List.length_append, List.length_singleton] at hk
    rw [List.flatMap_append, List.flatMap_singleton, hx]
    by_cases h : k < A.length
    · rw [List.mem_append]
      exact .inl (p.all k h)
    · have : k = A.length := by omega
      subst this
      simp
theorem Part.leaf (b : Nat) (x : Nd) (hx : nKids x = []) : Part b [x] [(b : Int)] := by
  have := (Part.nil b).hold x hx
  simpa using this
/-- the whole -/
theorem Part.good {A : List Nd} (p : Part 0 A [((A.length : Nat) : Int) - 1]) (h0 : 0 < A.length) (hn : ∀ x ∈ A, nodeE x = 0) : Good A ((A.length : Int) - 1) where
  pos := h0
  root := rfl
  kids := fun j x hj k hk => by
    have := p.kids j x hj k hk
    omega
  node := fun j x hj => hn x (List.mem_of_getElem? hj)
  once := (List.nodup_append.1 p.once).1
  all := fun k hk => by
    have := p.all k (by omega)
    rw [Nat.zero_add, List.mem_append] at this
    rcases this with h | h
    · exact h
    · simp only [List.mem_singleton] at h
      omega
/-- nodes of the erased program -/
def fineE (x : Nd) : Bool := smallN x && (fineN x && (!(decide (nKind x ≥ 40) && decide (nKind x ≤ 45)) && (nMarks x).all (· == 32)))
def EndsAt (F : Nat → List Nd) : Prop := ∀ c, 0 < (F c).length ∧ Part c (F c) [((c + (F c).length : Nat) : Int) - 1] ∧ ∀ x ∈ F c, nodeE x = 0 ∧ fineE x = true
theorem each_ok {F : Int → Nat → List Nd} : ∀ (ks : List Int) (b : Nat), (∀ k ∈ ks, EndsAt (F k)) → Part b (eachE F ks b).1 (eachE F ks b).2 ∧ (eachE F ks b).2.length = ks.length ∧ ∀ x ∈ (eachE F ks b).1, nodeE x = 0 ∧ fineE x = true
  | [], b, _ => ⟨Part.nil b, rfl, fun x h => by cases h⟩
  | k :: ks, b, h => by
    obtain ⟨h1, h2, h3⟩ := h k (by simp) b
    obtain ⟨k1, k2, k3⟩ := each_ok ks (b + (F k b).length) fun x hx => h x (by simp [hx])
    refine ⟨h2.app k1, by simp only [eachE, List.length_cons, k2], fun x hx => ?_⟩
    rcases List.mem_append.1 hx with hx | hx
    · exact h3 x hx
    · exact k3 x hx
end Go.Sx.Tryd
namespace Go.Sx.Tryd
open Go Go.Sx Go.Proofs
set_option maxRecDepth 100000
theorem node_name {x : Nd} (h : nodeE x = 0) : (nameS (nKind x) == []) = false := by
  unfold nodeE at h
  cases e1 : (nameS (nKind x) == [])
  · rfl
  · rw [e1] at h
    have : (3 : Int) = 0 := h
    omega
theorem node_of {x : Nd} (h1 : (nameS (nKind x) == []) = false) (h2 : leastS (nKind x) ≤ (nKids x).length) (h3 : mostS (nKind x) ≥ 0 → ((nKids x).length : Int) ≤ mostS (nKind x)) (h4 : txtS (nKind x) = false → nText x = [])
    (h5 : tydS (nKind x) = true → rightS (nBase x) (nName x) (nDims x) (nMarks x) = true) (h6 : tydS (nKind x) = false → nBase x = 0 ∧ nName x = [] ∧ nDims x = 0 ∧ nMarks x = []) : nodeE x = 0 := by
  unfold nodeE
  have e2 : decide (((nKids x).length : Int) < leastS (nKind x)) = false := decide_eq_false (by omega)
  have e3 : (decide (mostS (nKind x) ≥ 0) && decide (((nKids x).length : Int) > mostS (nKind x))) = false := by
    cases e : decide (mostS (nKind x) ≥ 0)
    · rfl
    · have := h3 (of_decide_eq_true e)
      rw [decide_eq_false (by omega)]; rfl
  have e4 : (!txtS (nKind x) && !(nText x == [])) = false := by
    cases e : txtS (nKind x)
    · rw [h4 e]; rfl
    · rfl
  have e5 : badT x = false := by
    unfold badT
    cases e : tydS (nKind x)
    · obtain ⟨a, b, c, d⟩ := h6 e
      rw [a, b, c, d]; rfl
    · rw [h5 e]; rfl
  rw [h1, e2, e3, e4, e5]
  rfl
theorem all_bl (m : List UInt8) : (bl m).all (· == 32) = true := by
  unfold bl
  rw [List.all_eq_true]
  intro x hx
  rw [(List.mem_replicate.1 hx).2]; rfl
theorem null_ok (x : Nd) (hw : tests (nKind x) = true) : nodeE (nullN x) = 0 ∧ fineE (nullN x) = true := ⟨rfl, rfl⟩
theorem bin_ok {x : Nd} (h : nodeE x = 0) (hs : smallN x = true) (hf : fineN x = true) (hw : tests (nKind x) = true) (a b : Int) : nodeE (binN x a b) = 0 ∧ fineE (binN x a b) = true := by
  obtain ⟨hk, ht, hu, hx, _, _⟩ := node_facts h
  have hty : tydS (nKind x) = false := by
    have : nKind x = 43 ∨ nKind x = 44 := by simpa [tests] using hw
    rcases this with e | e <;> rw [e] <;> rfl
  obtain ⟨t1, t2, t3, t4⟩ := hu hty
  refine ⟨node_of rfl (show (2 : Int) ≤ ((2 : Nat) : Int) by omega) (fun _ => show ((2 : Nat) : Int) ≤ 2 by omega) (fun h => by cases h) (fun h => by cases h) (fun _ => ⟨t1, t2, t3, t4⟩), ?_⟩
  unfold fineE
  have e1 : smallN (binN x a b) = true := by
    simp only [smallN, Bool.and_eq_true, decide_eq_true_eq] at hs ⊢
    refine ⟨by show 2 ≤ 100; omega, ?_, hs.2.2.1, hs.2.2.2⟩
    show (bif nKind x == 44 then [61, 61] else [33, 61] : List UInt8).length ≤ 200
    cases (nKind x == 44) <;> simp
  have e2 : fineN (binN x a b) = true := hf
  have e3 : nMarks (binN x a b) = [] := t4
  rw [e1, e2, e3]
  rfl
theorem end_ok {x : Nd} (h : nodeE x = 0) (hs : smallN x = true) (hf : fineN x = true) (hw : wraps (nKind x) = false) (ht : tests (nKind x) = false) {ks : List Int} (hl : ks.length = (nKids x).length) : nodeE (endN x ks) = 0 ∧ fineE (endN x ks) = true := by
  have hname := node_name h
  obtain ⟨hk, hty, hu, hx, h2, h3⟩ := node_facts h
  have e1 : smallN (endN x ks) = true := by
    simp only [smallN, Bool.and_eq_true, decide_eq_true_eq] at hs ⊢
    refine ⟨by show ks.length ≤ 100; omega, hs.2.1, hs.2.2.1, ?_⟩
    show (bl (nMarks x)).length ≤ 50
    unfold bl
    rw [List.length_replicate]
    exact hs.2.2.2
  have e2 : fineN (endN x ks) = true := hf
  have e3 : (nMarks (endN x ks)).all (· == 32) = true := all_bl _
  have e4 : (!(decide (nKind (endN x ks) ≥ 40) && decide (nKind (endN x ks) ≤ 45))) = true := by
    show (!(decide ((bif nKind x == 42 then 23 else nKind x) ≥ 40) && decide ((bif nKind x == 42 then 23 else nKind x) ≤ 45))) = true
    cases e : (nKind x == 42)
    · simp only [wraps, tests, Bool.or_eq_false_iff, beq_eq_false_iff_ne] at hw ht e
      simp only [cond_false, Bool.not_eq_true', Bool.and_eq_false_iff, decide_eq_false_iff_not]
      omega
    · rfl
  refine ⟨?_, by unfold fineE; rw [e1, e2, e3, e4]; rfl⟩
  cases e : (nKind x == 42)
  · have ek : nKind (endN x ks) = nKind x := by
      show (bif nKind x == 42 then 23 else nKind x) = _
      rw [e]; rfl
    refine node_of (by rw [ek]; exact hname) (by rw [ek]; show leastS (nKind x) ≤ (ks.length : Int); omega) (fun h => by rw [ek] at h ⊢; show (ks.length : Int) ≤ _; have := h3 h; omega) (fun h => by rw [ek] at h; exact hx h) (fun h => by rw [ek] at h; exact right_bl (hty h)) (fun h => ?_)
    rw [ek] at h
    obtain ⟨a, b, c, d⟩ := hu h
    refine ⟨a, b, c, ?_⟩
    show bl (nMarks x) = []
    rw [d]; rfl
  · have ek : nKind x = 42 := by simpa using e
    rw [ek] at h2 h3 hx hu
    have h0 : nKids x = [] := by
      have : ((nKids x).length : Int) ≤ 0 := h3 (by decide)
      exact List.eq_nil_of_length_eq_zero (by omega)
    have hk0 : ks = [] := List.eq_nil_of_length_eq_zero (by rw [hl, h0]; rfl)
    obtain ⟨a, b, c, d⟩ := hu rfl
    have ek : nKind (endN x ks) = 23 := by
      show (bif nKind x == 42 then 23 else nKind x) = _
      rw [e]; rfl
    subst hk0
    refine node_of (by rw [ek]; rfl) (by rw [ek]; show (0 : Int) ≤ ((0 : Nat) : Int); omega) (fun _ => by rw [ek]; show ((0 : Nat) : Int) ≤ 0; omega) (fun _ => hx rfl) (fun h => by rw [ek] at h; cases h) (fun _ => ⟨a, b, c, ?_⟩)
    show bl (nMarks x) = []
    rw [d]; rfl
section
variable {L : List Nd} {r : Int}
theorem er_ends (g : Good L r) (hs : L.all smallN = true) (hf : L.all fineN = true) : ∀ (n i : Nat), i < n → i < L.length → EndsAt (erN L i)
  | 0, i, h, _ => by omega
  | n + 1, i, hn, hi => fun c => by
    have hmem := List.mem_of_getElem? (getN_get hi)
    have hsm := List.all_eq_true.1 hs _ hmem
    have hfn := List.all_eq_true.1 hf _ hmem
    have hnd := g.node i _ (getN_get hi)
    rw [erN_eq g hi c]
    cases hw : wraps (nKind (getN L i))
    · cases ht : tests (nKind (getN L i))
      · simp only [cond_false]
        obtain ⟨h1, h2, h3⟩ := each_ok (F := fun k c => erN L k.toNat c) (nKids (getN L i)) c fun k hk => by
          obtain ⟨_, _, k3⟩ := g.kid hi hk
          exact er_ends g hs hf n k.toNat (by omega) (by omega)
        obtain ⟨m1, m2⟩ := end_ok hnd hsm hfn hw ht (ks := (eachE (fun k c => erN L k.toNat c) (nKids (getN L i)) c).2) h2
        refine ⟨by simp, ?_, fun x hx => ?_⟩
        · have := h1.hold (endN (getN L i) _) rfl
          rw [List.length_append, List.length_singleton]
          rw [show ((c + ((eachE (fun k c => erN L k.toNat c) (nKids (getN L i)) c).1.length + 1) : Nat) : Int) - 1 = ((c + (eachE (fun k c => erN L k.toNat c) (nKids (getN L i)) c).1.length : Nat) : Int) by omega]
          exact this
        · rcases List.mem_append.1 hx with hx | hx
          · exact h3 x hx
          · simp only [List.mem_singleton] at hx
            subst hx
            exact ⟨m1, m2⟩
      · simp only [cond_false, cond_true]
        have h0 := g.kid0s hi (by rw [ht, Bool.or_true])
        obtain ⟨_, _, k3⟩ := g.kid hi (k := kid0 (getN L i)) (by rw [h0]; simp)
        obtain ⟨h1, h2, h3⟩ := er_ends g hs hf n (kid0 (getN L i)).toNat (by omega) (by omega) c
        generalize erN L (kid0 (getN L i)).toNat c = A at h1 h2 h3 ⊢
        have p1 := h2.app (Part.leaf (c + A.length) (nullN (getN L i)) rfl)
        have p2 := p1.hold (binN (getN L i) (((c + A.length : Nat) : Int) - 1) ((c + A.length : Nat) : Int)) rfl
        refine ⟨by simp, ?_, fun x hx => ?_⟩
        · have e : A ++ [nullN (getN L i), binN (getN L i) (((c + A.length : Nat) : Int) - 1) ((c + A.length : Nat) : Int)] = A ++ [nullN (getN L i)] ++ [binN (getN L i) (((c + A.length : Nat) : Int) - 1) ((c + A.length : Nat) : Int)] := by simp
          rw [e]
          have e2 : ((c + (A ++ [nullN (getN L i)] ++ [binN (getN L i) (((c + A.length : Nat) : Int) - 1) ((c + A.length : Nat) : Int)]).length : Nat) : Int) - 1 = ((c + (A ++ [nullN (getN L i)]).length : Nat) : Int) := by
            simp only [List.length_append, List.length_singleton]
            omega
          rw [e2]
          exact p2
        · rcases List.mem_append.1 hx with hx | hx
          · exact h3 x hx
          · simp only [List.mem_cons, List.not_mem_nil, or_false] at hx
            rcases hx with rfl | rfl
            · exact null_ok _ ht
            · exact bin_ok hnd hsm hfn ht _ _
    · simp only [cond_true]
      have h0 := g.kid0s hi (by rw [hw, Bool.true_or])
      obtain ⟨_, _, k3⟩ := g.kid hi (k := kid0 (getN L i)) (by rw [h0]; simp)
      exact er_ends g hs hf n (kid0 (getN L i)).toNat (by omega) (by omega) c
/-- how many there are -/
theorem er_len (g : Good L r) (m : Nat) (hm : 1 ≤ m) (ht : m = 1 → ∀ i : Nat, i < L.length → tests (nKind (getN L i)) = false) : ∀ (n i c : Nat), i < n → i < L.length → (erN L i c).length ≤ m * (preN L i).length
  | 0, i, c, h, _ => by omega
  | n + 1, i, c, hn, hi => by
    have each : ∀ (ks : List Int) (c : Nat), (∀ k ∈ ks, k ∈ nKids (getN L i)) → (eachE (fun k c => erN L k.toNat c) ks c).1.length ≤ m * (ks.flatMap fun k => preN L k.toNat).length := by
      intro ks
      induction ks with
      | nil => intro c _; simp [eachE]
      | cons k ks ih =>
        intro c hk
        obtain ⟨_, _, k3⟩ := g.kid hi (hk k (by simp))
        have h1 := er_len g m hm ht n k.toNat c (by omega) (by omega)
        have h2 := ih (c + (erN L k.toNat c).length) fun x hx => hk x (by simp [hx])
        simp only [eachE, List.length_append, List.flatMap_cons, Nat.mul_add]
        omega
    rw [erN_eq g hi c, preN_eq g hi, List.length_cons, Nat.mul_add]
    cases hw : wraps (nKind (getN L i))
    · cases hts : tests (nKind (getN L i))
      · simp only [cond_false, List.length_append, List.length_singleton]
        have := each (nKids (getN L i)) c fun k hk => hk
        omega
      · have hm2 : 2 ≤ m := by
          rcases Nat.lt_or_ge 1 m with h | h
          · omega
          · have := ht (by omega) i hi
            rw [hts] at this
            cases this
        simp only [cond_false, cond_true, List.length_append, List.length_cons, List.length_nil]
        have h0 := g.kid0s hi (by rw [hts, Bool.or_true])
        obtain ⟨_, _, k3⟩ := g.kid hi (k := kid0 (getN L i)) (by rw [h0]; simp)
        have h1 := er_len g m hm ht n (kid0 (getN L i)).toNat c (by omega) (by omega)
        rw [h0, List.flatMap_singleton]
        omega
    · simp only [cond_true]
      have h0 := g.kid0s hi (by rw [hw, Bool.true_or])
      obtain ⟨_, _, k3⟩ := g.kid hi (k := kid0 (getN L i)) (by rw [h0]; simp)
      have h1 := er_len g m hm ht n (kid0 (getN L i)).toNat c (by omega) (by omega)
      rw [h0, List.flatMap_singleton]
      omega
end
end Go.Sx.Tryd
namespace Go.Sx.Tryd
open Go Go.Sx Go.Proofs
set_option maxRecDepth 100000
theorem quote_ne : quoteS [33, 61] = [34, 33, 61, 34] := by kernel_rfl
theorem quote_eq : quoteS [61, 61] = [34, 61, 61, 34] := by kernel_rfl
theorem hd_null (x : Nd) : hdS (nullN x) = [40, 110, 117, 108, 108] := by kernel_rfl
theorem hd_bin {x : Nd} (a b : Int) (ht : tests (nKind x) = true) : hdS (binN x a b) ++ [32] = binH (nKind x) := by
  have e : hdS (binN x a b) = [40, 98, 105, 110, 97, 114, 121] ++ ([32] ++ quoteS (bif nKind x == 44 then [61, 61] else [33, 61])) ++ [] ++ [] := rfl
  rw [e]
  unfold binH
  cases (nKind x == 44)
  · simp only [cond_false]; rw [quote_ne]; rfl
  · simp only [cond_true]; rw [quote_eq]; rfl
theorem quote_nil : True := trivial
theorem hd_end {x : Nd} (h : nodeE x = 0) (ks : List Int) (h42 : (nKind x == 42) = false) : hdS (endN x ks) = lhS (bareN x) := by
  obtain ⟨hk, hty, hu, hx, h2, h3⟩ := node_facts h
  have ek : nKind (endN x ks) = nKind x := by
    show (bif nKind x == 42 then 23 else nKind x) = _
    rw [h42]; rfl
  have e1 : shTxt (nKind x) = txtS (nKind x) := by unfold shTxt; rw [hk]; rfl
  have e2 : shTyd (nKind x) = tydS (nKind x) := by unfold shTyd; rw [hk]; rfl
  unfold hdS lhS
  rw [ek, e1, e2]
  show _ = [40] ++ nameS (nKind x) ++ (bif txtS (nKind x) then [32] ++ quoteS (nText x) else []) ++ (bif tydS (nKind x) then [32] ++ textS (nBase x) (nName x) (nDims x) (bif tydS (nKind x) then blanks.take (nMarks x).length else nMarks x) else []) ++ (bif nKind x == 19 || nKind x == 21 then [32] ++ Lib.itoa (nN x) else [])
  cases e : tydS (nKind x)
  · rfl
  · have hr := hty e
    obtain ⟨r1, r2, r3, _⟩ := right_facts hr
    simp only [cond_true]
    rw [bl_take (by omega)]
    have e3 : tyS (endN x ks) = textS (nBase x) (nName x) (nDims x) (bl (nMarks x)) := by
      unfold tyS
      show (bif rightS (nBase x) (nName x) (nDims x) (bl (nMarks x)) then textS (nBase x) (nName x) (nDims x) (bl (nMarks x)) else []) = _
      rw [right_bl hr]; rfl
    rw [e3]
    rfl
theorem hd_end42 {x : Nd} (h : nodeE x = 0) (ks : List Int) (h42 : (nKind x == 42) = true) : hdS (endN x ks) = [40, 110, 117, 108, 108] := by
  unfold hdS
  have ek : nKind (endN x ks) = 23 := by
    show (bif nKind x == 42 then 23 else nKind x) = _
    rw [h42]; rfl
  rw [ek]
  rfl
theorem getN_mid {pre A post : List Nd} {j : Nat} (h : j < A.length) : getN (pre ++ A ++ post) (pre.length + j) = getN A j := by
  unfold getN
  rw [List.getD, List.getD, List.append_assoc, List.getElem?_append_right (by omega), show pre.length + j - pre.length = j by omega, List.getElem?_append_left h]
section
variable {L : List Nd} {r : Int}
theorem er_form (g : Good L r) (hs : L.all smallN = true) (hf : L.all fineN = true) {M : List Nd} {rM : Int} (gM : Good M rM) : ∀ (n i : Nat), i < n → i < L.length → ∀ pre post : List Nd, M = pre ++ erN L i pre.length ++ post → formN M (pre.length + (erN L i pre.length).length - 1) = formB true L i
  | 0, i, h, _ => by omega
  | n + 1, i, hn, hi => fun pre post hM => by
    have hmem := List.mem_of_getElem? (getN_get hi)
    have hnd := g.node i _ (getN_get hi)
    rw [formB_eq g true hi]
    rw [erN_eq g hi] at hM ⊢
    simp only [Bool.true_and, cond_true]
    cases hw : wraps (nKind (getN L i))
    · cases ht : tests (nKind (getN L i))
      · rw [hw, ht] at hM
        simp only [cond_false] at hM ⊢
        obtain ⟨q1, q2, _⟩ := each_ok (F := fun k c => erN L k.toNat c) (nKids (getN L i)) pre.length fun k hk => by
          obtain ⟨_, _, k3⟩ := g.kid hi hk
          exact er_ends g hs hf n k.toNat (by omega) (by omega)
        have each : ∀ (ks : List Int) (p q : List Nd), (∀ k ∈ ks, k ∈ nKids (getN L i)) → M = p ++ (eachE (fun k c => erN L k.toNat c) ks p.length).1 ++ q → ((eachE (fun k c => erN L k.toNat c) ks p.length).2.flatMap fun k => [32] ++ formN M k.toNat) = kidsB true L ks := by
          intro ks
          induction ks with
          | nil => intro p q _ _; rfl
          | cons k ks ih =>
            intro p q hk hM
            obtain ⟨_, _, k3⟩ := g.kid hi (hk k (by simp))
            have h1 := er_form g hs hf gM n k.toNat (by omega) (by omega) p ((eachE (fun k c => erN L k.toNat c) ks (p.length + (erN L k.toNat p.length).length)).1 ++ q) (by rw [hM]; simp only [eachE, List.append_assoc])
            have h2 := ih (p ++ erN L k.toNat p.length) q (fun x hx => hk x (by simp [hx])) (by rw [hM, List.length_append]; simp only [eachE, List.append_assoc])
            rw [List.length_append] at h2
            have h3 := (er_ends g hs hf n k.toNat (by omega) (by omega) p.length).1
            simp only [eachE, List.flatMap_cons]
            rw [h2, kidsB_cons]
            have e : ((((p.length + (erN L k.toNat p.length).length : Nat) : Int) - 1)).toNat = p.length + (erN L k.toNat p.length).length - 1 := by omega
            rw [e, h1]
        have h4 := each (nKids (getN L i)) pre ([endN (getN L i) (eachE (fun k c => erN L k.toNat c) (nKids (getN L i)) pre.length).2] ++ post) (fun k hk => hk) (by rw [hM]; simp only [List.append_assoc])
        generalize hA : (eachE (fun k c => erN L k.toNat c) (nKids (getN L i)) pre.length).1 = A at hM h4 ⊢
        generalize hJ : (eachE (fun k c => erN L k.toNat c) (nKids (getN L i)) pre.length).2 = J at hM h4 q2 ⊢
        have e1 : pre.length + (A ++ [endN (getN L i) J]).length - 1 = pre.length + A.length := by simp only [List.length_append, List.length_singleton]; omega
        rw [e1]
        have e2 : getN M (pre.length + A.length) = endN (getN L i) J := by
          rw [hM, getN_mid (by simp)]
          exact getN_app A _ []
        have e3 : pre.length + A.length < M.length := by rw [hM]; simp only [List.length_append, List.length_singleton]; omega
        rw [formN_eq gM e3, e2]
        have e4 : nKids (endN (getN L i) J) = J := rfl
        rw [e4, h4]
        cases h42 : (nKind (getN L i) == 42)
        · rw [hd_end hnd J h42]
          rfl
        · rw [hd_end42 hnd J h42]
          have h0 : nKids (getN L i) = [] := by
            obtain ⟨_, _, _, _, m1, m2⟩ := node_facts hnd
            have ek : nKind (getN L i) = 42 := by simpa using h42
            rw [ek] at m2
            have : ((nKids (getN L i)).length : Int) ≤ 0 := m2 (by decide)
            exact List.eq_nil_of_length_eq_zero (by omega)
          rw [h0]
          rfl
      · rw [hw, ht] at hM
        simp only [cond_false, cond_true] at hM ⊢
        have h42 : (nKind (getN L i) == 42) = false := by
          have : nKind (getN L i) = 43 ∨ nKind (getN L i) = 44 := by simpa [tests] using ht
          rcases this with e | e <;> rw [e] <;> rfl
        rw [h42]
        simp only [cond_false]
        have h0 := g.kid0s hi (by rw [ht, Bool.or_true])
        obtain ⟨_, _, k3⟩ := g.kid hi (k := kid0 (getN L i)) (by rw [h0]; simp)
        have h1 := er_form g hs hf gM n (kid0 (getN L i)).toNat (by omega) (by omega) pre ([nullN (getN L i), binN (getN L i) (((pre.length + (erN L (kid0 (getN L i)).toNat pre.length).length : Nat) : Int) - 1) ((pre.length + (erN L (kid0 (getN L i)).toNat pre.length).length : Nat) : Int)] ++ post) (by rw [hM]; simp only [List.append_assoc])
        have h3 := (er_ends g hs hf n (kid0 (getN L i)).toNat (by omega) (by omega) pre.length).1
        generalize hA : erN L (kid0 (getN L i)).toNat pre.length = A at hM h1 h3 ⊢
        have e1 : pre.length + (A ++ [nullN (getN L i), binN (getN L i) (((pre.length + A.length : Nat) : Int) - 1) ((pre.length + A.length : Nat) : Int)]).length - 1 = pre.length + (A.length + 1) := by simp only [List.length_append, List.length_cons, List.length_nil]; omega
        have hl : M.length = pre.length + (A.length + 2) + post.length := by rw [hM]; simp only [List.length_append, List.length_cons, List.length_nil]
        have e2 : getN M (pre.length + (A.length + 1)) = binN (getN L i) (((pre.length + A.length : Nat) : Int) - 1) ((pre.length + A.length : Nat) : Int) := by
          rw [hM, getN_mid (by simp)]
          unfold getN
          rw [List.getD, List.getElem?_append_right (by omega), show A.length + 1 - A.length = 1 by omega]
          rfl
        have e3 : getN M (pre.length + A.length) = nullN (getN L i) := by
          rw [hM, getN_mid (by simp)]
          unfold getN
          rw [List.getD, List.getElem?_append_right (by omega), show A.length - A.length = 0 by omega]
          rfl
        rw [e1, formN_eq gM (i := pre.length + (A.length + 1)) (by omega), e2]
        have e4 : nKids (binN (getN L i) (((pre.length + A.length : Nat) : Int) - 1) ((pre.length + A.length : Nat) : Int)) = [((pre.length + A.length : Nat) : Int) - 1, ((pre.length + A.length : Nat) : Int)] := rfl
        have e5 : formN M (pre.length + A.length) = nullT := by
          rw [formN_eq gM (i := pre.length + A.length) (by omega), e3, hd_null]
          rfl
        rw [e4]
        simp only [List.flatMap_cons, List.flatMap_nil, List.append_nil]
        have e6 : (((pre.length + A.length : Nat) : Int) - 1).toNat = pre.length + A.length - 1 := by omega
        rw [e6, h1, Int.toNat_natCast, e5, ← hd_bin (((pre.length + A.length : Nat) : Int) - 1) ((pre.length + A.length : Nat) : Int) ht]
        simp only [List.append_assoc]
    · rw [hw] at hM
      simp only [cond_true] at hM ⊢
      have h0 := g.kid0s hi (by rw [hw, Bool.true_or])
      obtain ⟨_, _, k3⟩ := g.kid hi (k := kid0 (getN L i)) (by rw [h0]; simp)
      exact er_form g hs hf gM n (kid0 (getN L i)).toNat (by omega) (by omega) pre post hM
end
end Go.Sx.Tryd
