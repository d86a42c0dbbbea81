/- A part of the proof: see the row's text. -/
import Derived.Test.YtbpfdbbijfpjkaaDoorUxTypes
import Derived.Test.YtbpfdbbijfpjkaaDoorUxErA
set_option linter.unusedVariables false
set_option linter.unusedSimpArgs false
namespace Go.Sx.Tryd
open Go Go.Sx
/-! the texts of types: unlike ones are written unlike -/
inductive Marks : List UInt8 → Prop where
  | nil : Marks []
  | one (c : UInt8) : c = 32 ∨ c = 63 ∨ c = 111 → Marks [c]
  | more (c c' : UInt8) (r : List UInt8) : c = 32 ∨ c = 63 → Marks (c' :: r) → Marks (c :: c' :: r)

def q (c : UInt8) : List UInt8 := bif (c.toNat : Int) == 63 then [63] else []
def encS : List UInt8 → List UInt8
  | [] => []
  | c :: r => [91, 93] ++ (q c ++ encS r)
def lastO : List UInt8 → Bool
  | [] => false
  | [c] => (c.toNat : Int) == 111
  | _ :: c :: r => lastO (c :: r)
def optW (s : List UInt8) : List UInt8 := [79, 112, 116, 105, 111, 110, 60] ++ s ++ [62]
def mayO (w : Bool) (s : List UInt8) : List UInt8 := bif w then optW s else s
def enc0 : List UInt8 → List UInt8
  | [] => []
  | c :: r => q c ++ encS r

theorem marks_of (b d : Int) : ∀ (m : List UInt8) (i : Int), (m.length : Int) + i = d + 1 → marksOk b d i m = true → Marks m
  | [], _, _, _ => .nil
  | c :: r, i, hl, h => by
    simp only [marksOk, Bool.and_eq_true] at h
    obtain ⟨h1, h2⟩ := h
    have hr := marks_of b d r (i + 1) (by simp at hl ⊢; omega) h2
    have hc : c = 32 ∨ c = 63 ∨ (c = 111 ∧ ¬ i < d) := by
      unfold okM at h1
      cases e1 : ((c.toNat : Int) == 32)
      · cases e2 : ((c.toNat : Int) == 63)
        · cases e3 : ((c.toNat : Int) == 111)
          · simp [e1, e2, e3] at h1
          · simp only [e1, e2, e3, cond_false, cond_true, Bool.and_eq_true, Bool.not_eq_true', decide_eq_false_iff_not] at h1
            simp only [beq_iff_eq] at e3
            exact .inr (.inr ⟨UInt8.toNat_inj.1 (by have : c.toNat = 111 := by omega
                                                    simpa using this), h1.2⟩)
        · simp only [beq_iff_eq] at e2
          exact .inr (.inl (UInt8.toNat_inj.1 (by have : c.toNat = 63 := by omega
                                                  simpa using this)))
      · simp only [beq_iff_eq] at e1
        exact .inl (UInt8.toNat_inj.1 (by have : c.toNat = 32 := by omega
                                          simpa using this))
    cases r with
    | nil => exact .one c (by rcases hc with h | h | ⟨h, _⟩ <;> simp [h])
    | cons c' r =>
      refine .more c c' r ?_ hr
      rcases hc with h | h | ⟨_, h⟩
      · exact .inl h
      · exact .inr h
      · simp at hl; omega

theorem textL_eq : ∀ {m : List UInt8}, Marks m → ∀ (s : List UInt8) (i : Int), 0 < i → textL s i m = mayO (lastO m) (s ++ encS m)
  | _, .nil, s, i, _ => by simp [textL, mayO, lastO, encS]
  | _, .one c hc, s, i, hi => by
    rcases hc with rfl | rfl | rfl <;> simp [textL, stepT, hi, mayO, lastO, encS, q, optW, List.append_assoc]
  | _, .more c c' r hc h, s, i, hi => by
    have ih := textL_eq h (stepT s i c) (i + 1) (by omega)
    have e1 : textL s i (c :: c' :: r) = textL (stepT s i c) (i + 1) (c' :: r) := rfl
    have e2 : lastO (c :: c' :: r) = lastO (c' :: r) := rfl
    have e3 : encS (c :: c' :: r) = [91, 93] ++ (q c ++ encS (c' :: r)) := rfl
    rw [e1, ih, e2, e3]
    have e4 : stepT s i c = s ++ ([91, 93] ++ q c) := by
      rcases hc with rfl | rfl <;> simp [stepT, hi, q, List.append_assoc]
    rw [e4]
    simp only [List.append_assoc]

theorem textS_eq (b : Int) (n : List UInt8) (d : Int) {m : List UInt8} (h : Marks m) : textS b n d m = mayO (lastO m) (baseS b n ++ enc0 m) := by
  unfold textS
  cases h with
  | nil => simp [textL, mayO, lastO, enc0]
  | one c hc => rcases hc with rfl | rfl | rfl <;> simp [textL, stepT, mayO, lastO, enc0, encS, q, optW]
  | more c c' r hc h =>
    have e1 : textL (baseS b n) 0 (c :: c' :: r) = textL (stepT (baseS b n) 0 c) (0 + 1) (c' :: r) := rfl
    rw [e1, textL_eq h _ _ (by omega)]
    have e2 : lastO (c :: c' :: r) = lastO (c' :: r) := rfl
    have e3 : enc0 (c :: c' :: r) = q c ++ encS (c' :: r) := rfl
    have e4 : stepT (baseS b n) 0 c = baseS b n ++ q c := by
      rcases hc with rfl | rfl <;> simp [stepT, q]
    rw [e2, e3, e4, List.append_assoc]

theorem q_cases {c : UInt8} (h : c = 32 ∨ c = 63 ∨ c = 111) : (c = 63 ∧ q c = [63]) ∨ (c ≠ 63 ∧ q c = []) := by
  rcases h with rfl | rfl | rfl <;> simp [q]

theorem encS_head : ∀ {r : List UInt8}, encS r = [] ∨ ∃ t, encS r = 91 :: t
  | [] => .inl rfl
  | c :: r => .inr ⟨_, rfl⟩

theorem marks_head {c : UInt8} {r : List UInt8} (h : Marks (c :: r)) : c = 32 ∨ c = 63 ∨ c = 111 := by
  cases h with
  | one c h => exact h
  | more c c' r h _ => rcases h with h | h <;> simp [h]

/-- the marks behind a base, read back -/
theorem enc_inj : ∀ {m m' : List UInt8} {k k' : List UInt8}, Marks m → Marks m' → (k = m ∧ k' = m') → m ≠ [] → m' ≠ [] → lastO m = lastO m' → enc0 m = enc0 m' → m = m'
  | [], _, _, _, _, _, _, hm, _, _, _ => (hm rfl).elim
  | _ :: _, [], _, _, _, _, _, _, hm, _, _ => (hm rfl).elim
  | c :: r, c' :: r', _, _, h, h', _, _, _, ho, he => by
    have hc := q_cases (marks_head h)
    have hc' := q_cases (marks_head h')
    simp only [enc0] at he
    have key : (q c = q c') ∧ encS r = encS r' := by
      rcases hc with ⟨_, e⟩ | ⟨_, e⟩ <;> rcases hc' with ⟨_, e'⟩ | ⟨_, e'⟩ <;> rw [e, e'] at he ⊢
      · simp at he; exact ⟨rfl, he⟩
      · exfalso
        rcases encS_head (r := r') with h | ⟨t, h⟩ <;> rw [h] at he <;> simp at he
      · exfalso
        rcases encS_head (r := r) with h | ⟨t, h⟩ <;> rw [h] at he <;> simp at he
      · exact ⟨rfl, he⟩
    have hq : c = 63 ↔ c' = 63 := by
      rcases hc with ⟨e1, e⟩ | ⟨e1, e⟩ <;> rcases hc' with ⟨e1', e'⟩ | ⟨e1', e'⟩ <;> simp_all
    cases h with
    | one c h =>
      cases h' with
      | one c' h' =>
        simp only [lastO] at ho
        rcases h with rfl | rfl | rfl <;> rcases h' with rfl | rfl | rfl <;> simp_all
      | more c' c2 r2 h1 h2 => simp [encS] at key
    | more c c1 r1 h1 h2 =>
      cases h' with
      | one c' h' => simp [encS] at key
      | more c' c2 r2 h3 h4 =>
        have e5 : lastO (c1 :: r1) = lastO (c2 :: r2) := ho
        have e6 : enc0 (c1 :: r1) = enc0 (c2 :: r2) := by
          have := key.2
          simpa [encS, enc0] using this
        have ih := enc_inj h2 h4 ⟨rfl, rfl⟩ (by simp) (by simp) e5 e6
        have : c = c' := by rcases h1 with rfl | rfl <;> rcases h3 with rfl | rfl <;> simp_all
        rw [this, ih]
end Go.Sx.Tryd
namespace Go.Sx.Tryd
open Go Go.Sx

theorem dropW_nil {p : UInt8 → Bool} : ∀ {l : List UInt8}, l.dropWhile p = [] ↔ l.all p = true
  | [] => by simp
  | a :: l => by
    cases h : p a
    · simp [List.dropWhile, h]
    · simp only [List.dropWhile, h, List.all_cons, Bool.true_and]
      exact dropW_nil
theorem dropW_all {p : UInt8 → Bool} {l : List UInt8} : (l.dropWhile p).all p = true ↔ l.all p = true := by
  constructor
  · intro h
    refine dropW_nil.1 ?_
    cases hd : l.dropWhile p with
    | nil => rfl
    | cons a r =>
      exfalso
      have : p a = false := by
        clear h
        induction l with
        | nil => simp at hd
        | cons x l ih =>
          cases hx : p x
          · simp only [List.dropWhile, hx] at hd
            simp only [List.cons.injEq] at hd
            rw [← hd.1]; exact hx
          · simp only [List.dropWhile, hx] at hd
            exact ih hd
      rw [hd] at h
      simp [this] at h
  · intro h
    rw [dropW_nil.2 h]
    rfl

theorem trim_nil (m : List UInt8) : (Lib.trimB m 32 == []) = m.all (· == 32) := by
  have h : Lib.trimB m 32 = [] ↔ m.all (· == 32) = true := by
    show List.dropWhile (· == 32) ((m.reverse.dropWhile (· == 32)).reverse) = [] ↔ _
    rw [dropW_nil, List.all_reverse, dropW_all, List.all_reverse]
  cases e : m.all (· == 32)
  · rw [e] at h
    simp only [Bool.false_eq_true, iff_false] at h
    cases e2 : (Lib.trimB m 32 == [])
    · rfl
    · exact (h (by simpa using e2)).elim
  · rw [h.2 e]; rfl

theorem blank_all : ∀ (m : List UInt8), m.length ≤ 5 → (m == blanks.take m.length) = m.all (· == 32)
  | [], _ => rfl
  | [a], _ => by simp [blanks]
  | [a, b], _ => by simp [blanks]
  | [a, b, c], _ => by simp [blanks]
  | [a, b, c, d], _ => by simp [blanks]
  | [a, b, c, d, e], _ => by simp [blanks]
  | _ :: _ :: _ :: _ :: _ :: _ :: _, h => by simp at h

theorem blank_eq (m : List UInt8) (h : m.length ≤ 5) : (Lib.trimB m 32 == []) = (m == blanks.take m.length) := by rw [trim_nil, blank_all m h]

/-! letters -/
def isUp (c : UInt8) : Bool := decide ((c.toNat : Int) ≥ 65) && decide ((c.toNat : Int) ≤ 90)
def isLet (c : UInt8) : Bool := isUp c || (decide ((c.toNat : Int) ≥ 97) && decide ((c.toNat : Int) ≤ 122))

theorem split_let : ∀ {x x' y y' : List UInt8}, x.all isLet = true → x'.all isLet = true → (∀ c t, y = c :: t → isLet c = false) → (∀ c t, y' = c :: t → isLet c = false) → x ++ y = x' ++ y' → x = x' ∧ y = y'
  | [], [], y, y', _, _, _, _, h => ⟨rfl, h⟩
  | [], a :: x', y, y', _, hx', hy, _, h => by
    simp only [List.all_cons, Bool.and_eq_true] at hx'
    have := hy a (x' ++ y') h
    rw [hx'.1] at this
    cases this
  | a :: x, [], y, y', hx, _, _, hy', h => by
    simp only [List.all_cons, Bool.and_eq_true] at hx
    have := hy' a (x ++ y) h.symm
    rw [hx.1] at this
    cases this
  | a :: x, b :: x', y, y', hx, hx', hy, hy', h => by
    simp only [List.cons_append, List.cons.injEq] at h
    simp only [List.all_cons, Bool.and_eq_true] at hx hx'
    obtain ⟨h1, h2⟩ := split_let hx.2 hx'.2 hy hy' h.2
    exact ⟨by rw [h.1, h1], h2⟩

theorem enc0_head {m : List UInt8} : ∀ c t, enc0 m = c :: t → isLet c = false := by
  intro c t h
  cases m with
  | nil => simp [enc0] at h
  | cons a r =>
    simp only [enc0] at h
    unfold q at h
    cases e : ((a.toNat : Int) == 63)
    · rw [e] at h
      rcases encS_head (r := r) with h2 | ⟨t2, h2⟩ <;> rw [h2] at h <;> simp at h
      rw [← h.1]; rfl
    · rw [e] at h
      simp at h
      rw [← h.1]; rfl

theorem encS_no62 : ∀ (r : List UInt8), 62 ∉ encS r
  | [] => by simp [encS]
  | c :: r => by
    have := encS_no62 r
    simp only [encS, q]
    cases ((c.toNat : Int) == 63) <;> simp [this]
theorem enc0_no62 (m : List UInt8) : 62 ∉ enc0 m := by
  cases m with
  | nil => simp [enc0]
  | cons c r =>
    have := encS_no62 r
    simp only [enc0, q]
    cases ((c.toNat : Int) == 63) <;> simp [this]
theorem let_no62 {x : List UInt8} (h : x.all isLet = true) : 62 ∉ x := fun hm => by
  have := List.all_eq_true.1 h 62 hm
  exact absurd this (by decide)

theorem baseS_let {b : Int} {n : List UInt8} (h : n.all isUp = true) : (baseS b n).all isLet = true := by
  have hn : n.all isLet = true := List.all_eq_true.2 fun c hc => by simp [isLet, List.all_eq_true.1 h c hc]
  unfold baseS
  cases (b == 1)
  · cases (b == 2)
    · cases (b == 3)
      · cases (b == 4)
        · cases (b == 6)
          · exact hn
          · simp only [cond_true, cond_false]; decide
        · simp only [cond_true, cond_false]; decide
      · simp only [cond_true, cond_false]; decide
    · simp only [cond_true, cond_false]; decide
  · simp only [cond_true, cond_false]; decide

theorem baseS_inj {b b2 : Int} {n n2 : List UInt8} (h1 : 1 ≤ b) (h2 : b ≤ 6) (k1 : 1 ≤ b2) (k2 : b2 ≤ 6) (hn : (b == 5) = (n != [])) (hn2 : (b2 == 5) = (n2 != [])) (hu : n.all isUp = true) (hu2 : n2.all isUp = true) (h : baseS b n = baseS b2 n2) : b = b2 ∧ n = n2 := by
  rcases base_cases h1 h2 with rfl | rfl | rfl | rfl | rfl | rfl <;> rcases base_cases k1 k2 with rfl | rfl | rfl | rfl | rfl | rfl
  all_goals simp only [baseS, Int.reduceBEq, cond_true, cond_false] at h
  all_goals first
    | (exfalso; revert h; decide)
    | (subst h; exfalso; revert hu2; decide)
    | (subst h; exfalso; revert hu; decide)
    | skip
  all_goals first
    | exact ⟨rfl, h⟩
    | (have e1 : n = [] := by { have := hn; simpa [bne] using this }
       have e2 : n2 = [] := by { have := hn2; simpa [bne] using this }
       exact ⟨rfl, by rw [e1, e2]⟩)

theorem mayO_inj {w w' : Bool} {u u' : List UInt8} (hu : 62 ∉ u) (hu' : 62 ∉ u') (h : mayO w u = mayO w' u') : w = w' ∧ u = u' := by
  cases w <;> cases w' <;> simp only [mayO, cond_true, cond_false] at h
  · exact ⟨rfl, h⟩
  · exact (hu (by rw [h]; simp [optW])).elim
  · exact (hu' (by rw [← h]; simp [optW])).elim
  · refine ⟨rfl, ?_⟩
    unfold optW at h
    rw [List.append_assoc, List.append_assoc] at h
    exact List.append_cancel_right (List.append_cancel_left h)

/-- unlike types are written unlike -/
theorem text_inj {b b2 : Int} {n n2 : List UInt8} {d d2 : Int} {m m2 : List UInt8} (hA : rightS b n d m = true) (hB : rightS b2 n2 d2 m2 = true) (hu : n.all isUp = true) (hu2 : n2.all isUp = true) :
    (textS b n d m == textS b2 n2 d2 m2) = (b == b2 && (n == n2 && (d == d2 && m == m2))) := by
  obtain ⟨p1, p2, p3, p4, p5, p6, p7⟩ := right_facts hA
  obtain ⟨q1, q2, q3, q4, q5, q6, q7⟩ := right_facts hB
  have M := marks_of b d m 0 (by omega) p7
  have M2 := marks_of b2 d2 m2 0 (by omega) q7
  have key : textS b n d m = textS b2 n2 d2 m2 → b = b2 ∧ n = n2 ∧ d = d2 ∧ m = m2 := fun h => by
    rw [textS_eq b n d M, textS_eq b2 n2 d2 M2] at h
    have l1 := baseS_let (b := b) hu
    have l2 := baseS_let (b := b2) hu2
    obtain ⟨e1, e2⟩ := mayO_inj (by simp [let_no62 l1, enc0_no62]) (by simp [let_no62 l2, enc0_no62]) h
    obtain ⟨e3, e4⟩ := split_let l1 l2 enc0_head enc0_head e2
    obtain ⟨e5, e6⟩ := baseS_inj p4 p5 q4 q5 p6 q6 hu hu2 e3
    have e7 := enc_inj M M2 ⟨rfl, rfl⟩ (fun e => by rw [e] at p3; simp at p3; omega) (fun e => by rw [e] at q3; simp at q3; omega) e1 e4
    exact ⟨e5, e6, by rw [e7] at p3; omega, e7⟩
  cases e : (b == b2 && (n == n2 && (d == d2 && m == m2)))
  · cases e2 : (textS b n d m == textS b2 n2 d2 m2)
    · rfl
    · obtain ⟨r1, r2, r3, r4⟩ := key (by simpa using e2)
      subst r1 r2 r3 r4
      simp at e
  · simp only [Bool.and_eq_true, beq_iff_eq] at e
    obtain ⟨rfl, rfl, rfl, rfl⟩ := e
    simp
end Go.Sx.Tryd
namespace Go.Sx.Tryd
open Go Go.Sx Go.Proofs
set_option maxRecDepth 100000
/-! texts of types with marks and without -/
def isD (c : UInt8) : Bool := c == 32 || c == 41
/-- it begins with a blank or a bracket -/
def DD (S : List UInt8) : Prop := ∃ c l, S = c :: l ∧ isD c = true
def noD (S : List UInt8) : Prop := ∀ c ∈ S, isD c = false
theorem DD.ne {S : List UInt8} (h : DD S) : S ≠ [] := by obtain ⟨c, l, rfl, _⟩ := h; simp
theorem split_eq : ∀ {u u' S S' : List UInt8}, noD u → noD u' → DD S → DD S' → u ++ S = u' ++ S' → u = u'
  | [], [], _, _, _, _, _, _, _ => rfl
  | [], c :: u', S, S', _, h', ⟨d, l, e1, e2⟩, _, e => by
    rw [e1] at e
    simp only [List.nil_append, List.cons_append, List.cons.injEq] at e
    have := h' c (by simp)
    rw [← e.1, e2] at this
    cases this
  | c :: u, [], S, S', h, _, _, ⟨d, l, e1, e2⟩, e => by
    rw [e1] at e
    simp only [List.nil_append, List.cons_append, List.cons.injEq] at e
    have := h c (by simp)
    rw [e.1, e2] at this
    cases this
  | c :: u, c' :: u', S, S', h, h', hS, hS', e => by
    simp only [List.cons_append, List.cons.injEq] at e
    rw [e.1, split_eq (fun x hx => h x (by simp [hx])) (fun x hx => h' x (by simp [hx])) hS hS' e.2]
/-- what stands behind a base -/
def wS : Int → List UInt8 → List UInt8
  | _, [] => []
  | i, c :: m => (bif decide (i > 0) then [91, 93] else []) ++ (bif c == 63 then [63] else []) ++ wS (i + 1) m
theorem nat8 (c : UInt8) (k : UInt8) : ((c.toNat : Int) == (k.toNat : Int)) = (c == k) := by
  by_cases h : c = k
  · subst h; simp
  · have h1 : (c == k) = false := by simpa using h
    have h2 : ((c.toNat : Int) == (k.toNat : Int)) = false := by
      rw [beq_eq_false_iff_ne]
      intro e
      apply h
      exact UInt8.toNat_inj.1 (by omega)
    rw [h1, h2]
theorem textL_w : ∀ (m s : List UInt8) (i : Int), (∀ c ∈ m, c ≠ 111) → textL s i m = s ++ wS i m
  | [], s, i, _ => by simp [textL, wS]
  | c :: m, s, i, h => by
    have hc : c ≠ 111 := h c (by simp)
    have e1 : ((c.toNat : Int) == 111) = false := by
      have := nat8 c 111
      rw [show ((111 : UInt8).toNat : Int) = 111 from rfl] at this
      rw [this]
      simpa using hc
    have e2 : ((c.toNat : Int) == 63) = (c == 63) := nat8 c 63
    simp only [textL, wS]
    rw [textL_w m _ (i + 1) fun x hx => h x (by simp [hx])]
    unfold stepT
    rw [e1, e2]
    cases (c == 63) <;> cases decide (i > 0) <;> simp
theorem textL_app : ∀ (m m' s : List UInt8) (i : Int), textL s i (m ++ m') = textL (textL s i m) (i + m.length) m'
  | [], m', s, i => by simp [textL]
  | c :: m, m', s, i => by
    simp only [List.cons_append, textL]
    rw [textL_app m m' _ (i + 1)]
    congr 1
    simp
    omega
theorem wS_in : ∀ (m : List UInt8) (i : Int), ∀ c ∈ wS i m, c = 63 ∨ c = 91 ∨ c = 93
  | [], i, c, h => by cases h
  | x :: m, i, c, h => by
    simp only [wS, List.mem_append] at h
    rcases h with (h | h) | h
    · cases hd : decide (i > 0) <;> rw [hd] at h <;> simp at h
      rcases h with h | h <;> simp [h]
    · cases hd : (x == 63) <;> rw [hd] at h <;> simp at h
      simp [h]
    · exact wS_in m (i + 1) c h
theorem wS_len : ∀ (m : List UInt8) (i : Int), (wS i (bl m)).length ≤ (wS i m).length
  | [], i => by simp [bl, wS]
  | c :: m, i => by
    have h := wS_len m (i + 1)
    have e : bl (c :: m) = 32 :: bl m := rfl
    rw [e]
    simp only [wS, List.length_append]
    have : ((32 : UInt8) == 63) = false := rfl
    rw [this]
    simp only [cond_false, List.length_nil]
    omega
/-- marks of null alone -/
theorem w_diff : ∀ (m : List UInt8) (i : Int) (S S' : List UInt8), 0 ≤ i → DD S → DD S' → (∃ c ∈ m, c = 63) → wS i m ++ S ≠ wS i (bl m) ++ S'
  | [], i, S, S', _, _, _, ⟨c, hc, _⟩ => by cases hc
  | c :: m, i, S, S', h0, hS, hS', h => fun e => by
    have e0 : bl (c :: m) = 32 :: bl m := rfl
    rw [e0] at e
    simp only [wS, List.append_assoc] at e
    have e1 := List.append_cancel_left e
    have e2 : ((32 : UInt8) == 63) = false := rfl
    rw [e2] at e1
    by_cases hc : c = 63
    · have e3 : (c == 63) = true := by simpa using hc
      rw [e3] at e1
      simp only [cond_true, cond_false, List.nil_append, List.singleton_append] at e1
      cases m with
      | nil =>
        obtain ⟨d, l, e4, e5⟩ := hS'
        rw [e4] at e1
        simp only [bl, List.length_nil, List.replicate_zero, wS, List.nil_append, List.cons.injEq] at e1
        rw [← e1.1] at e5
        cases e5
      | cons c2 m =>
        have e6 : bl (c2 :: m) = 32 :: bl m := rfl
        have e7 : decide (i + 1 > 0) = true := decide_eq_true (by omega)
        rw [e6] at e1
        simp only [wS, e7, cond_true, List.cons_append, List.cons.injEq] at e1
        exact absurd e1.1 (by decide)
    · have e3 : (c == 63) = false := by simpa using hc
      rw [e3] at e1
      simp only [cond_false, List.nil_append] at e1
      refine w_diff m (i + 1) S S' (by omega) hS hS' ?_ e1
      obtain ⟨x, hx, hx2⟩ := h
      rcases List.mem_cons.1 hx with rfl | hx
      · exact absurd hx2 hc
      · exact ⟨x, hx, hx2⟩
def optT : List UInt8 := [79, 112, 116, 105, 111, 110, 60]
/-- the mark of an option -/
theorem o_diff {s w v2 T S' : List UInt8} (hw : ∀ c ∈ w, isD c = false) (hl : v2.length ≤ w.length) (hS : DD S') : optT ++ (s ++ w) ++ T ≠ s ++ v2 ++ S' := fun e => by
  obtain ⟨d, l, rfl, hd⟩ := hS
  have hX : (optT ++ (s ++ w)).length = 7 + (s.length + w.length) := by simp only [optT, List.length_append, List.length_cons, List.length_nil]
  have key : ∀ (n q : Nat), q < n → q ≤ (s ++ v2).length → ∀ c, (optT ++ (s ++ w))[q]? = some c → isD c = false := by
    intro n
    induction n with
    | zero => intro q h; omega
    | succ n ih =>
      intro q hq hle c hc
      by_cases h7 : q < 7
      · rw [List.getElem?_append_left (by simp [optT]; omega)] at hc
        have hm := List.mem_of_getElem? hc
        have : ∀ c ∈ optT, isD c = false := by decide
        exact this c hm
      · rw [List.getElem?_append_right (by simp [optT]; omega)] at hc
        have e7 : optT.length = 7 := rfl
        rw [e7] at hc
        by_cases hs : q - 7 < s.length
        · rw [List.getElem?_append_left hs] at hc
          have h1 : (s ++ v2 ++ d :: l)[q - 7]? = some c := by
            rw [List.append_assoc, List.getElem?_append_left hs, hc]
          rw [← e, List.getElem?_append_left (by rw [hX]; omega)] at h1
          exact ih (q - 7) (by omega) (by omega) c h1
        · rw [List.getElem?_append_right (by omega)] at hc
          exact hw c (List.mem_of_getElem? hc)
  have h1 : (s ++ v2 ++ d :: l)[(s ++ v2).length]? = some d := by simp
  rw [← e, List.getElem?_append_left (by rw [hX, List.length_append]; omega)] at h1
  have := key _ _ (Nat.lt_succ_self _) (Nat.le_refl _) d h1
  rw [hd] at this
  cases this
theorem marks_in {b d : Int} : ∀ {m : List UInt8} {i : Int}, marksOk b d i m = true → ∀ (j : Nat) c, m[j]? = some c → c = 32 ∨ c = 63 ∨ (c = 111 ∧ d ≤ i + j)
  | [], i, _, j, c, h => by simp at h
  | x :: m, i, h, j, c, hj => by
    simp only [marksOk, Bool.and_eq_true] at h
    cases j with
    | zero =>
      simp only [List.getElem?_cons_zero, Option.some.injEq] at hj
      subst hj
      have h1 := h.1
      unfold okM at h1
      rw [show ((x.toNat : Int) == 32) = (x == 32) from nat8 x 32, show ((x.toNat : Int) == 63) = (x == 63) from nat8 x 63, show ((x.toNat : Int) == 111) = (x == 111) from nat8 x 111] at h1
      cases e1 : (x == 32)
      · cases e2 : (x == 63)
        · cases e3 : (x == 111)
          · rw [e1, e2, e3] at h1; cases h1
          · rw [e1, e2, e3] at h1
            simp only [cond_false, cond_true, Bool.and_eq_true, Bool.not_eq_true', decide_eq_false_iff_not] at h1
            refine .inr (.inr ⟨by simpa using e3, by omega⟩)
        · exact .inr (.inl (by simpa using e2))
      · exact .inl (by simpa using e1)
    | succ j =>
      have := marks_in h.2 j c (by simpa using hj)
      rcases this with h | h | ⟨h, h2⟩
      · exact .inl h
      · exact .inr (.inl h)
      · exact .inr (.inr ⟨h, by omega⟩)
theorem bl_id {m : List UInt8} (h : m.all (· == 32) = true) : bl m = m := by
  induction m with
  | nil => rfl
  | cons c m ih =>
    simp only [List.all_cons, Bool.and_eq_true, beq_iff_eq] at h
    show 32 :: bl m = _
    rw [ih h.2, h.1]
theorem text_diff {b : Int} {n : List UInt8} {d : Int} {m : List UInt8} (hr : rightS b n d m = true) (hm : m.all (· == 32) = false) {S S' : List UInt8} (hS : DD S) (hS' : DD S') : textS b n d m ++ S ≠ textS b n d (bl m) ++ S' := by
  obtain ⟨h1, h2, h3, _, _, _, h4⟩ := right_facts hr
  have hin := marks_in h4
  have hblo : ∀ c ∈ bl m, c ≠ 111 := fun c hc => by
    rw [(List.mem_replicate.1 hc).2]; decide
  unfold textS
  rw [textL_w (bl m) _ 0 hblo]
  rcases List.eq_nil_or_concat m with rfl | ⟨m0, c, rfl⟩
  · simp at h3; omega
  rw [List.concat_eq_append] at *
  have hm0 : ∀ x ∈ m0, x ≠ 111 := fun x hx he => by
    obtain ⟨j, hj⟩ := List.mem_iff_getElem?.1 hx
    have hjl := (List.getElem?_eq_some_iff.1 hj).1
    have := hin j x (by rw [List.getElem?_append_left hjl]; exact hj)
    rw [List.length_append, List.length_singleton] at h3
    rcases this with h | h | ⟨_, h⟩
    · rw [he] at h; exact absurd h (by decide)
    · rw [he] at h; exact absurd h (by decide)
    · omega
  by_cases hc : c = 111
  · subst hc
    rw [textL_app, textL_w m0 _ 0 hm0]
    rw [List.length_append, List.length_singleton] at h3
    have e1 : textL (baseS b n ++ wS 0 m0) (0 + (m0.length : Int)) [111] = optT ++ (baseS b n ++ (wS 0 m0 ++ (bif decide ((0 + (m0.length : Int)) > 0) then [91, 93] else []))) ++ [62] := by
      simp only [textL]
      unfold stepT
      rw [show ((UInt8.toNat 111 : Int) == 63) = false from rfl, show ((UInt8.toNat 111 : Int) == 111) = true from rfl]
      cases decide ((0 + (m0.length : Int)) > 0) <;> simp [optT]
    rw [e1, List.append_assoc]
    refine o_diff (fun x hx => ?_) ?_ hS'
    · rcases List.mem_append.1 hx with hx | hx
      · rcases wS_in _ _ x hx with rfl | rfl | rfl <;> rfl
      · cases hd : decide ((0 + (m0.length : Int)) > 0) <;> rw [hd] at hx <;> simp at hx
        rcases hx with rfl | rfl <;> rfl
    · have wapp : ∀ (a : List UInt8) (x : UInt8) (i : Int), (wS i (a ++ [x])).length = (wS i a).length + (bif decide (i + a.length > 0) then 2 else 0) + (bif x == 63 then 1 else 0) := by
        intro a
        induction a with
        | nil =>
          intro x i
          simp only [List.nil_append, wS, List.append_nil, List.length_append, List.length_nil, Int.natCast_zero, Int.add_zero]
          cases decide (i > 0) <;> cases (x == 63) <;> rfl
        | cons y a ih =>
          intro x i
          have e : (i + 1 + (a.length : Int)) = (i + ((y :: a).length : Nat)) := by simp only [List.length_cons]; omega
          simp only [List.cons_append, wS, List.length_append]
          rw [ih x (i + 1), e]
          omega
      have e2 : bl (m0 ++ [111]) = bl m0 ++ [32] := by simp [bl, List.replicate_succ']
      have h5 := wS_len m0 0
      rw [e2, wapp, List.length_append]
      have e3 : (bl m0).length = m0.length := by simp [bl]
      have e4 : ((32 : UInt8) == 63) = false := rfl
      rw [e3, e4]
      cases decide ((0 + (m0.length : Int)) > 0)
      · simp only [cond_false, List.length_nil]; omega
      · simp only [cond_true, cond_false, List.length_cons, List.length_nil]; omega
  · have hall : ∀ x ∈ m0 ++ [c], x ≠ 111 := fun x hx => by
      rcases List.mem_append.1 hx with hx | hx
      · exact hm0 x hx
      · simp only [List.mem_singleton] at hx
        subst hx
        exact hc
    rw [textL_w _ _ 0 hall, List.append_assoc, List.append_assoc]
    intro e
    have e := List.append_cancel_left e
    refine w_diff _ 0 S S' (by omega) hS hS' ?_ e
    rw [List.all_eq_false] at hm
    obtain ⟨x, hx, hx2⟩ := hm
    obtain ⟨j, hj⟩ := List.mem_iff_getElem?.1 hx
    refine ⟨x, hx, ?_⟩
    rcases hin j x hj with h | h | ⟨h, _⟩
    · rw [h] at hx2; exact absurd rfl hx2
    · exact h
    · exact absurd h (hall x hx)
end Go.Sx.Tryd
namespace Go.Sx.Tryd
open Go Go.Sx Go.Proofs
set_option maxRecDepth 100000
/-! what is of the strict language alone is seen in the text -/
def strictN (x : Nd) : Bool := (decide (nKind x ≥ 40) && decide (nKind x ≤ 45)) || !(nMarks x).all (· == 32)
theorem DD.app {A B : List UInt8} (h : DD A) : DD (A ++ B) := by
  obtain ⟨c, l, rfl, h⟩ := h
  exact ⟨c, l ++ B, rfl, h⟩
theorem dd_app {A B : List UInt8} (h : A = [] ∨ DD A) (k : DD B) : DD (A ++ B) := by
  rcases h with rfl | h
  · exact k
  · exact h.app
theorem dd_bif {c : Bool} {A : List UInt8} (h : DD A) : (bif c then A else []) = [] ∨ DD (bif c then A else []) := by
  cases c
  · exact .inl rfl
  · exact .inr h
theorem dd32 (A : List UInt8) : DD ([32] ++ A) := ⟨32, A, rfl, rfl⟩
theorem dd41 (A : List UInt8) : DD ([41] ++ A) := ⟨41, A, rfl, rfl⟩
theorem name_noD (k : Int) : noD (nameS k) := by
  have h : names.all (fun l => l.all fun c => !isD c) = true := by kernel_rfl
  intro c hc
  unfold nameS at hc
  cases h1 : decide (k < 1)
  · cases h2 : decide (k ≥ 46)
    · rw [h1, h2] at hc
      simp only [cond_false] at hc
      by_cases hk : k.toNat < names.length
      · have h3 := List.all_eq_true.1 h (names[k.toNat]) (List.getElem_mem hk)
        simp only [List.getD, List.getElem?_eq_getElem hk, Option.getD_some] at hc
        have h4 := List.all_eq_true.1 h3 c hc
        simpa using h4
      · simp [List.getD, List.getElem?_eq_none (Nat.le_of_not_lt hk)] at hc
    · rw [h1, h2] at hc; simp at hc
  · rw [h1] at hc; simp at hc
theorem name_inj {k k' : Int} (h : nameS k = nameS k') (h0 : (nameS k == []) = false) : k = k' := by
  have ht : (List.range 46).all (fun i => (List.range 46).all fun j => Nat.beq i j || !(names.getD i [] == names.getD j [])) = true := by kernel_rfl
  have key : ∀ k : Int, (nameS k == []) = false → 1 ≤ k ∧ k < 46 ∧ nameS k = names.getD k.toNat [] := fun k hk => by
    unfold nameS at hk ⊢
    cases h1 : decide (k < 1)
    · cases h2 : decide (k ≥ 46)
      · rw [h1, h2] at hk
        simp only [decide_eq_false_iff_not] at h1 h2
        exact ⟨by omega, by omega, rfl⟩
      · rw [h1, h2] at hk; cases hk
    · rw [h1] at hk; cases hk
  obtain ⟨a1, a2, a3⟩ := key k h0
  obtain ⟨b1, b2, b3⟩ := key k' (h ▸ h0)
  have h1 := List.all_eq_true.1 ht k.toNat (List.mem_range.2 (by omega))
  have h2 := List.all_eq_true.1 h1 k'.toNat (List.mem_range.2 (by omega))
  rw [← a3, ← b3, h] at h2
  simp only [beq_self_eq_true, Bool.not_true, Bool.or_false] at h2
  have := Nat.eq_of_beq_eq_true h2
  omega
section
variable {L : List Nd} {r : Int}
theorem kidsT_dd (L : List Nd) (ks : List Int) : kidsT L ks = [] ∨ DD (kidsT L ks) := by
  cases ks with
  | nil => exact .inl rfl
  | cons k ks => rw [kidsT_cons, List.append_assoc]; exact .inr (dd32 _)
theorem kidsB_dd (b : Bool) (L : List Nd) (ks : List Int) : kidsB b L ks = [] ∨ DD (kidsB b L ks) := by
  cases ks with
  | nil => exact .inl rfl
  | cons k ks => rw [kidsB_cons, List.append_assoc]; exact .inr (dd32 _)
theorem hd_head (x : Nd) (T : List UInt8) (hT : DD T) : ∃ S, hdS x ++ T = 40 :: (nameS (nKind x) ++ S) ∧ DD S := by
  refine ⟨(bif shTxt (nKind x) then [32] ++ quoteS (nText x) else []) ++ ((bif shTyd (nKind x) then [32] ++ tyS x else []) ++ ((bif nKind x == 19 || nKind x == 21 then [32] ++ Lib.itoa (nN x) else []) ++ T)), ?_, ?_⟩
  · simp only [hdS, List.append_assoc, List.singleton_append, List.cons_append, List.nil_append]
  · exact dd_app (dd_bif (dd32 _)) (dd_app (dd_bif (dd32 _)) (dd_app (dd_bif (dd32 _)) hT))
theorem lh_head (x : Nd) (T : List UInt8) (hT : DD T) : ∃ S, lhS x ++ T = 40 :: (nameS (nKind x) ++ S) ∧ DD S := by
  refine ⟨(bif txtS (nKind x) then [32] ++ quoteS (nText x) else []) ++ ((bif tydS (nKind x) then [32] ++ textS (nBase x) (nName x) (nDims x) (nMarks x) else []) ++ ((bif nKind x == 19 || nKind x == 21 then [32] ++ Lib.itoa (nN x) else []) ++ T)), ?_, ?_⟩
  · simp only [lhS, List.append_assoc, List.singleton_append, List.cons_append, List.nil_append]
  · exact dd_app (dd_bif (dd32 _)) (dd_app (dd_bif (dd32 _)) (dd_app (dd_bif (dd32 _)) hT))
theorem headN (g : Good L r) {i : Nat} (hi : i < L.length) : ∃ S, formN L i = 40 :: (nameS (nKind (getN L i)) ++ S) ∧ DD S := by
  have e : formN L i = hdS (getN L i) ++ (kidsT L (nKids (getN L i)) ++ [41]) := by rw [formN_eq g hi, List.append_assoc]; rfl
  rw [e]
  exact hd_head _ _ (dd_app (kidsT_dd _ _) (dd41 []))
theorem headB (g : Good L r) : ∀ (n i : Nat), i < n → i < L.length → ∃ k S, formB true L i = 40 :: (nameS k ++ S) ∧ DD S ∧ ¬ (40 ≤ k ∧ k ≤ 45)
  | 0, i, h, _ => by omega
  | n + 1, i, hn, hi => by
    rw [formB_eq g true hi]
    simp only [Bool.true_and, cond_true]
    cases hw : wraps (nKind (getN L i))
    · cases h42 : (nKind (getN L i) == 42)
      · cases ht : tests (nKind (getN L i))
        · simp only [cond_false]
          obtain ⟨S, h1, h2⟩ := lh_head (bareN (getN L i)) (kidsB true L (nKids (getN L i)) ++ [41]) (dd_app (kidsB_dd _ _ _) (dd41 []))
          refine ⟨nKind (getN L i), S, by rw [List.append_assoc]; exact h1, h2, ?_⟩
          simp only [wraps, tests, Bool.or_eq_false_iff, beq_eq_false_iff_ne] at hw ht h42
          omega
        · simp only [cond_false, cond_true]
          exact ⟨34, [32, 34, bif nKind (getN L i) == 44 then 61 else 33, 61, 34, 32] ++ (formB true L (kid0 (getN L i)).toNat ++ [32] ++ nullT ++ [41]), by simp only [binH, List.append_assoc]; rfl, dd32 _, by omega⟩
      · exact ⟨23, [41], rfl, dd41 [], by omega⟩
    · simp only [cond_true]
      have h0 := g.kid0s hi (by rw [hw, Bool.true_or])
      obtain ⟨_, _, k3⟩ := g.kid hi (k := kid0 (getN L i)) (by rw [h0]; simp)
      exact headB g n (kid0 (getN L i)).toNat (by omega) (by omega)
theorem strict_not {x : Nd} (h : strictN x = false) : wraps (nKind x) = false ∧ tests (nKind x) = false ∧ (nKind x == 42) = false ∧ (nMarks x).all (· == 32) = true := by
  unfold strictN at h
  simp only [Bool.or_eq_false_iff, Bool.and_eq_false_iff, decide_eq_false_iff_not, Bool.not_eq_false'] at h
  obtain ⟨h1, h2⟩ := h
  refine ⟨?_, ?_, ?_, h2⟩
  · simp only [wraps, Bool.or_eq_false_iff, beq_eq_false_iff_ne]; omega
  · simp only [tests, Bool.or_eq_false_iff, beq_eq_false_iff_ne]; omega
  · simp only [beq_eq_false_iff_ne]; omega
theorem bare_same {x : Nd} (h : nodeE x = 0) (hm : (nMarks x).all (· == 32) = true) : lhS (bareN x) = hdS x := by
  rw [← lhS_eq h]
  obtain ⟨hk, hty, hu, hx, h2, h3⟩ := node_facts h
  unfold lhS
  show [40] ++ nameS (nKind x) ++ (bif txtS (nKind x) then [32] ++ quoteS (nText x) else []) ++ (bif tydS (nKind x) then [32] ++ textS (nBase x) (nName x) (nDims x) (bif tydS (nKind x) then blanks.take (nMarks x).length else nMarks x) else []) ++ (bif nKind x == 19 || nKind x == 21 then [32] ++ Lib.itoa (nN x) else []) = _
  cases e : tydS (nKind x)
  · rfl
  · obtain ⟨r1, r2, r3, _⟩ := right_facts (hty e)
    simp only [cond_true]
    rw [bl_take (by omega), bl_id hm]
/-- where nothing is strict all stays -/
theorem form_same (g : Good L r) : ∀ (n i : Nat), i < n → i < L.length → (∀ k ∈ preN L i, strictN (getN L k.toNat) = false) → formB true L i = formN L i
  | 0, i, h, _, _ => by omega
  | n + 1, i, hn, hi, h => by
    have h0 := h i pre_self
    rw [Int.toNat_natCast] at h0
    obtain ⟨w1, w2, w3, w4⟩ := strict_not h0
    rw [formB_eq g true hi, formN_eq g hi]
    simp only [Bool.true_and, w1, w2, w3, cond_true, cond_false]
    rw [bare_same (g.node i _ (getN_get hi)) w4]
    refine congrArg (fun z => hdS (getN L i) ++ z ++ [41]) (flatMap_congrG fun k hk => ?_)
    obtain ⟨_, _, k3⟩ := g.kid hi hk
    rw [form_same g n k.toNat (by omega) (by omega) fun x hx => h x (by rw [preN_eq g hi]; exact List.mem_cons_of_mem _ (List.mem_flatMap.2 ⟨k, hk, hx⟩))]
theorem kinds_differ {k k' : Int} {S S' R R' : List UInt8} (hS : DD S) (hS' : DD S') (h0 : (nameS k == []) = false) (hne : k ≠ k') : (40 :: (nameS k ++ S)) ++ R ≠ (40 :: (nameS k' ++ S')) ++ R' := fun e => by
  simp only [List.cons_append, List.cons.injEq, true_and, List.append_assoc] at e
  have := split_eq (name_noD k) (name_noD k') hS.app hS'.app e
  exact hne (name_inj this h0)
/-- where something is strict it differs -/
theorem form_diff (g : Good L r) : ∀ (n i : Nat), i < n → i < L.length → (∃ k ∈ preN L i, strictN (getN L k.toNat) = true) → ∀ R R' : List UInt8, (R = [] ∨ DD R) → (R' = [] ∨ DD R') → formN L i ++ R ≠ formB true L i ++ R'
  | 0, i, h, _, _ => by omega
  | n + 1, i, hn, hi, h => fun R R' hR hR' e => by
    have hnd := g.node i _ (getN_get hi)
    have hname := node_name hnd
    by_cases hk : 40 ≤ nKind (getN L i) ∧ nKind (getN L i) ≤ 45
    · obtain ⟨S, e1, hS⟩ := headN g hi
      obtain ⟨k, S', e2, hS', hk'⟩ := headB g (n + 1) i hn hi
      rw [e1, e2] at e
      exact kinds_differ hS hS' hname (fun e3 => hk' (by rw [← e3]; exact hk)) e
    · have hw : wraps (nKind (getN L i)) = false := by
        simp only [wraps, Bool.or_eq_false_iff, beq_eq_false_iff_ne]; omega
      have ht : tests (nKind (getN L i)) = false := by
        simp only [tests, Bool.or_eq_false_iff, beq_eq_false_iff_ne]; omega
      have h42 : (nKind (getN L i) == 42) = false := by
        simp only [beq_eq_false_iff_ne]; omega
      rw [formB_eq g true hi, formN_eq g hi] at e
      simp only [Bool.true_and, hw, ht, h42, cond_true, cond_false] at e
      cases hm : (nMarks (getN L i)).all (· == 32)
      · obtain ⟨hk0, hty, hu, hx, h2, h3⟩ := node_facts hnd
        have hty1 : tydS (nKind (getN L i)) = true := by
          cases e3 : tydS (nKind (getN L i))
          · obtain ⟨_, _, _, h4⟩ := hu e3
            rw [h4] at hm
            cases hm
          · rfl
        have hr := hty hty1
        obtain ⟨r1, r2, r3, _⟩ := right_facts hr
        rw [← lhS_eq hnd] at e
        have hnum : (nKind (getN L i) == 19 || nKind (getN L i) == 21) = false := by
          cases e4 : (nKind (getN L i) == 19 || nKind (getN L i) == 21)
          · rfl
          · exfalso
            simp only [Bool.or_eq_true, beq_iff_eq] at e4
            rcases e4 with e4 | e4 <;> rw [e4] at hty1 <;> cases hty1
        have a1 : lhS (getN L i) = ([40] ++ nameS (nKind (getN L i)) ++ (bif txtS (nKind (getN L i)) then [32] ++ quoteS (nText (getN L i)) else []) ++ [32]) ++ textS (nBase (getN L i)) (nName (getN L i)) (nDims (getN L i)) (nMarks (getN L i)) := by
          unfold lhS
          rw [hty1, hnum]
          simp only [cond_true, cond_false, List.append_nil, List.append_assoc]
        have a2 : lhS (bareN (getN L i)) = ([40] ++ nameS (nKind (getN L i)) ++ (bif txtS (nKind (getN L i)) then [32] ++ quoteS (nText (getN L i)) else []) ++ [32]) ++ textS (nBase (getN L i)) (nName (getN L i)) (nDims (getN L i)) (bl (nMarks (getN L i))) := by
          unfold lhS
          show [40] ++ nameS (nKind (getN L i)) ++ (bif txtS (nKind (getN L i)) then [32] ++ quoteS (nText (getN L i)) else []) ++ (bif tydS (nKind (getN L i)) then [32] ++ textS (nBase (getN L i)) (nName (getN L i)) (nDims (getN L i)) (bif tydS (nKind (getN L i)) then blanks.take (nMarks (getN L i)).length else nMarks (getN L i)) else []) ++ (bif nKind (getN L i) == 19 || nKind (getN L i) == 21 then [32] ++ Lib.itoa (nN (getN L i)) else []) = _
          rw [hty1, hnum]
          simp only [cond_true, cond_false, List.append_nil, List.append_assoc]
          rw [bl_take (by omega)]
        rw [a1, a2] at e
        simp only [List.append_assoc] at e
        have e := List.append_cancel_left e
        have e := List.append_cancel_left e
        have e := List.append_cancel_left e
        have e := List.append_cancel_left e
        exact text_diff hr hm (dd_app (kidsT_dd L (nKids (getN L i))) (dd41 R)) (dd_app (kidsB_dd true L (nKids (getN L i))) (dd41 R')) e
      · rw [bare_same hnd hm] at e
        simp only [List.append_assoc] at e
        have e := List.append_cancel_left e
        obtain ⟨k, hk1, hk2⟩ := h
        rw [preN_eq g hi] at hk1
        have hex : ∃ x ∈ nKids (getN L i), ∃ k ∈ preN L x.toNat, strictN (getN L k.toNat) = true := by
          rcases List.mem_cons.1 hk1 with rfl | hk1
          · exfalso
            rw [Int.toNat_natCast] at hk2
            unfold strictN at hk2
            rw [hm] at hk2
            simp only [Bool.not_true, Bool.or_false, Bool.and_eq_true, decide_eq_true_eq] at hk2
            exact hk hk2
          · obtain ⟨x, hx, hk1⟩ := List.mem_flatMap.1 hk1
            exact ⟨x, hx, k, hk1, hk2⟩
        have key : ∀ ks : List Int, (∀ k ∈ ks, k ∈ nKids (getN L i)) → (∃ x ∈ ks, ∃ k ∈ preN L x.toNat, strictN (getN L k.toNat) = true) → kidsT L ks ++ ([41] ++ R) ≠ kidsB true L ks ++ ([41] ++ R') := by
          intro ks
          induction ks with
          | nil => intro _ ⟨x, hx, _⟩; cases hx
          | cons x ks ih =>
            intro hks hex e
            obtain ⟨_, _, k3⟩ := g.kid hi (hks x (by simp))
            rw [kidsT_cons, kidsB_cons] at e
            simp only [List.append_assoc] at e
            have e := List.append_cancel_left e
            by_cases hx : ∃ k ∈ preN L x.toNat, strictN (getN L k.toNat) = true
            · exact form_diff g n x.toNat (by omega) (by omega) hx _ _ (.inr (dd_app (kidsT_dd L ks) (dd41 R))) (.inr (dd_app (kidsB_dd true L ks) (dd41 R'))) e
            · have h1 : ∀ k ∈ preN L x.toNat, strictN (getN L k.toNat) = false := fun k hk => by
                cases h2 : strictN (getN L k.toNat)
                · rfl
                · exact absurd ⟨k, hk, h2⟩ hx
              rw [form_same g n x.toNat (by omega) (by omega) h1] at e
              have e := List.append_cancel_left e
              refine ih (fun y hy => hks y (by simp [hy])) ?_ e
              obtain ⟨y, hy, h3⟩ := hex
              rcases List.mem_cons.1 hy with rfl | hy
              · exact absurd h3 hx
              · exact ⟨y, hy, h3⟩
        exact key _ (fun k hk => hk) hex (by simpa only [kidsT, List.append_assoc] using e)
end
end Go.Sx.Tryd
