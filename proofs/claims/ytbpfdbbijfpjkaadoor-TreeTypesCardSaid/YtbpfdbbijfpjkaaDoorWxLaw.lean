/- A part of the proof: see the row's text. -/
import Derived.Test.YtbpfdbbijfpjkaaDoorWxTypes
import Derived.Test.YtbpfdbbijfpjkaaDoorWxGrows
set_option linter.unusedVariables false
set_option linter.unusedSimpArgs false
namespace Go.Sx.Tryd
open Go Go.Sx
/-! the texts of types: unlike ones are written unlike -/
inductive Marks : List UInt8 → Prop where
  | nil : Marks []
  | one (c : UInt8) : c = 32 ∨ c = 63 ∨ c = 111 → Marks [c]
  | more (c c' : UInt8) (r : List UInt8) : c = 32 ∨ c = 63 → Marks (c' :: r) → Marks (c :: c' :: r)

def q (c : UInt8) : List UInt8 := bif (c.toNat : Int) == 63 then [63] else []
def encS : List UInt8 → List UInt8
  | [] => []
  | c :: r => [91, 93] ++ (q c ++ encS r)
def lastO : List UInt8 → Bool
  | [] => false
  | [c] => (c.toNat : Int) == 111
  | _ :: c :: r => lastO (c :: r)
def optW (s : List UInt8) : List UInt8 := [79, 112, 116, 105, 111, 110, 60] ++ s ++ [62]
def mayO (w : Bool) (s : List UInt8) : List UInt8 := bif w then optW s else s
def enc0 : List UInt8 → List UInt8
  | [] => []
  | c :: r => q c ++ encS r

theorem marks_of (b d : Int) : ∀ (m : List UInt8) (i : Int), (m.length : Int) + i = d + 1 → marksOk b d i m = true → Marks m
  | [], _, _, _ => .nil
  | c :: r, i, hl, h => by
    simp only [marksOk, Bool.and_eq_true] at h
    obtain ⟨h1, h2⟩ := h
    have hr := marks_of b d r (i + 1) (by simp at hl ⊢; omega) h2
    have hc : c = 32 ∨ c = 63 ∨ (c = 111 ∧ ¬ i < d) := by
      unfold okM at h1
      cases e1 : ((c.toNat : Int) == 32)
      · cases e2 : ((c.toNat : Int) == 63)
        · cases e3 : ((c.toNat : Int) == 111)
          · simp [e1, e2, e3] at h1
          · simp only [e1, e2, e3, cond_false, cond_true, Bool.and_eq_true, Bool.not_eq_true', decide_eq_false_iff_not] at h1
            simp only [beq_iff_eq] at e3
            exact .inr (.inr ⟨UInt8.toNat_inj.1 (by have : c.toNat = 111 := by omega
                                                    simpa using this), h1.2⟩)
        · simp only [beq_iff_eq] at e2
          exact .inr (.inl (UInt8.toNat_inj.1 (by have : c.toNat = 63 := by omega
                                                  simpa using this)))
      · simp only [beq_iff_eq] at e1
        exact .inl (UInt8.toNat_inj.1 (by have : c.toNat = 32 := by omega
                                          simpa using this))
    cases r with
    | nil => exact .one c (by rcases hc with h | h | ⟨h, _⟩ <;> simp [h])
    | cons c' r =>
      refine .more c c' r ?_ hr
      rcases hc with h | h | ⟨_, h⟩
      · exact .inl h
      · exact .inr h
      · simp at hl; omega

theorem textL_eq : ∀ {m : List UInt8}, Marks m → ∀ (s : List UInt8) (i : Int), 0 < i → textL s i m = mayO (lastO m) (s ++ encS m)
  | _, .nil, s, i, _ => by simp [textL, mayO, lastO, encS]
  | _, .one c hc, s, i, hi => by
    rcases hc with rfl | rfl | rfl <;> simp [textL, stepT, hi, mayO, lastO, encS, q, optW, List.append_assoc]
  | _, .more c c' r hc h, s, i, hi => by
    have ih := textL_eq h (stepT s i c) (i + 1) (by omega)
    have e1 : textL s i (c :: c' :: r) = textL (stepT s i c) (i + 1) (c' :: r) := rfl
    have e2 : lastO (c :: c' :: r) = lastO (c' :: r) := rfl
    have e3 : encS (c :: c' :: r) = [91, 93] ++ (q c ++ encS (c' :: r)) := rfl
    rw [e1, ih, e2, e3]
    have e4 : stepT s i c = s ++ ([91, 93] ++ q c) := by
      rcases hc with rfl | rfl <;> simp [stepT, hi, q, List.append_assoc]
    rw [e4]
    simp only [List.append_assoc]

theorem textS_eq (b : Int) (n : List UInt8) (d : Int) {m : List UInt8} (h : Marks m) : textS b n d m = mayO (lastO m) (baseS b n ++ enc0 m) := by
  unfold textS
  cases h with
  | nil => simp [textL, mayO, lastO, enc0]
  | one c hc => rcases hc with rfl | rfl | rfl <;> simp [textL, stepT, mayO, lastO, enc0, encS, q, optW]
  | more c c' r hc h =>
    have e1 : textL (baseS b n) 0 (c :: c' :: r) = textL (stepT (baseS b n) 0 c) (0 + 1) (c' :: r) := rfl
    rw [e1, textL_eq h _ _ (by omega)]
    have e2 : lastO (c :: c' :: r) = lastO (c' :: r) := rfl
    have e3 : enc0 (c :: c' :: r) = q c ++ encS (c' :: r) := rfl
    have e4 : stepT (baseS b n) 0 c = baseS b n ++ q c := by
      rcases hc with rfl | rfl <;> simp [stepT, q]
    rw [e2, e3, e4, List.append_assoc]

theorem q_cases {c : UInt8} (h : c = 32 ∨ c = 63 ∨ c = 111) : (c = 63 ∧ q c = [63]) ∨ (c ≠ 63 ∧ q c = []) := by
  rcases h with rfl | rfl | rfl <;> simp [q]

theorem encS_head : ∀ {r : List UInt8}, encS r = [] ∨ ∃ t, encS r = 91 :: t
  | [] => .inl rfl
  | c :: r => .inr ⟨_, rfl⟩

theorem marks_head {c : UInt8} {r : List UInt8} (h : Marks (c :: r)) : c = 32 ∨ c = 63 ∨ c = 111 := by
  cases h with
  | one c h => exact h
  | more c c' r h _ => rcases h with h | h <;> simp [h]

/-- the marks behind a base, read back -/
theorem enc_inj : ∀ {m m' : List UInt8} {k k' : List UInt8}, Marks m → Marks m' → (k = m ∧ k' = m') → m ≠ [] → m' ≠ [] → lastO m = lastO m' → enc0 m = enc0 m' → m = m'
  | [], _, _, _, _, _, _, hm, _, _, _ => (hm rfl).elim
  | _ :: _, [], _, _, _, _, _, _, hm, _, _ => (hm rfl).elim
  | c :: r, c' :: r', _, _, h, h', _, _, _, ho, he => by
    have hc := q_cases (marks_head h)
    have hc' := q_cases (marks_head h')
    simp only [enc0] at he
    have key : (q c = q c') ∧ encS r = encS r' := by
      rcases hc with ⟨_, e⟩ | ⟨_, e⟩ <;> rcases hc' with ⟨_, e'⟩ | ⟨_, e'⟩ <;> rw [e, e'] at he ⊢
      · simp at he; exact ⟨rfl, he⟩
      · exfalso
        rcases encS_head (r := r') with h | ⟨t, h⟩ <;> rw [h] at he <;> simp at he
      · exfalso
        rcases encS_head (r := r) with h | ⟨t, h⟩ <;> rw [h] at he <;> simp at he
      · exact ⟨rfl, he⟩
    have hq : c = 63 ↔ c' = 63 := by
      rcases hc with ⟨e1, e⟩ | ⟨e1, e⟩ <;> rcases hc' with ⟨e1', e'⟩ | ⟨e1', e'⟩ <;> simp_all
    cases h with
    | one c h =>
      cases h' with
      | one c' h' =>
        simp only [lastO] at ho
        rcases h with rfl | rfl | rfl <;> rcases h' with rfl | rfl | rfl <;> simp_all
      | more c' c2 r2 h1 h2 => simp [encS] at key
    | more c c1 r1 h1 h2 =>
      cases h' with
      | one c' h' => simp [encS] at key
      | more c' c2 r2 h3 h4 =>
        have e5 : lastO (c1 :: r1) = lastO (c2 :: r2) := ho
        have e6 : enc0 (c1 :: r1) = enc0 (c2 :: r2) := by
          have := key.2
          simpa [encS, enc0] using this
        have ih := enc_inj h2 h4 ⟨rfl, rfl⟩ (by simp) (by simp) e5 e6
        have : c = c' := by rcases h1 with rfl | rfl <;> rcases h3 with rfl | rfl <;> simp_all
        rw [this, ih]
end Go.Sx.Tryd
namespace Go.Sx.Tryd
open Go Go.Sx

theorem dropW_nil {p : UInt8 → Bool} : ∀ {l : List UInt8}, l.dropWhile p = [] ↔ l.all p = true
  | [] => by simp
  | a :: l => by
    cases h : p a
    · simp [List.dropWhile, h]
    · simp only [List.dropWhile, h, List.all_cons, Bool.true_and]
      exact dropW_nil
theorem dropW_all {p : UInt8 → Bool} {l : List UInt8} : (l.dropWhile p).all p = true ↔ l.all p = true := by
  constructor
  · intro h
    refine dropW_nil.1 ?_
    cases hd : l.dropWhile p with
    | nil => rfl
    | cons a r =>
      exfalso
      have : p a = false := by
        clear h
        induction l with
        | nil => simp at hd
        | cons x l ih =>
          cases hx : p x
          · simp only [List.dropWhile, hx] at hd
            simp only [List.cons.injEq] at hd
            rw [← hd.1]; exact hx
          · simp only [List.dropWhile, hx] at hd
            exact ih hd
      rw [hd] at h
      simp [this] at h
  · intro h
    rw [dropW_nil.2 h]
    rfl

theorem trim_nil (m : List UInt8) : (Lib.trimB m 32 == []) = m.all (· == 32) := by
  have h : Lib.trimB m 32 = [] ↔ m.all (· == 32) = true := by
    show List.dropWhile (· == 32) ((m.reverse.dropWhile (· == 32)).reverse) = [] ↔ _
    rw [dropW_nil, List.all_reverse, dropW_all, List.all_reverse]
  cases e : m.all (· == 32)
  · rw [e] at h
    simp only [Bool.false_eq_true, iff_false] at h
    cases e2 : (Lib.trimB m 32 == [])
    · rfl
    · exact (h (by simpa using e2)).elim
  · rw [h.2 e]; rfl

theorem blank_all : ∀ (m : List UInt8), m.length ≤ 5 → (m == blanks.take m.length) = m.all (· == 32)
  | [], _ => rfl
  | [a], _ => by simp [blanks]
  | [a, b], _ => by simp [blanks]
  | [a, b, c], _ => by simp [blanks]
  | [a, b, c, d], _ => by simp [blanks]
  | [a, b, c, d, e], _ => by simp [blanks]
  | _ :: _ :: _ :: _ :: _ :: _ :: _, h => by simp at h

theorem blank_eq (m : List UInt8) (h : m.length ≤ 5) : (Lib.trimB m 32 == []) = (m == blanks.take m.length) := by rw [trim_nil, blank_all m h]

/-! letters -/
def isUp (c : UInt8) : Bool := decide ((c.toNat : Int) ≥ 65) && decide ((c.toNat : Int) ≤ 90)
def isLet (c : UInt8) : Bool := isUp c || (decide ((c.toNat : Int) ≥ 97) && decide ((c.toNat : Int) ≤ 122))

theorem split_let : ∀ {x x' y y' : List UInt8}, x.all isLet = true → x'.all isLet = true → (∀ c t, y = c :: t → isLet c = false) → (∀ c t, y' = c :: t → isLet c = false) → x ++ y = x' ++ y' → x = x' ∧ y = y'
  | [], [], y, y', _, _, _, _, h => ⟨rfl, h⟩
  | [], a :: x', y, y', _, hx', hy, _, h => by
    simp only [List.all_cons, Bool.and_eq_true] at hx'
    have := hy a (x' ++ y') h
    rw [hx'.1] at this
    cases this
  | a :: x, [], y, y', hx, _, _, hy', h => by
    simp only [List.all_cons, Bool.and_eq_true] at hx
    have := hy' a (x ++ y) h.symm
    rw [hx.1] at this
    cases this
  | a :: x, b :: x', y, y', hx, hx', hy, hy', h => by
    simp only [List.cons_append, List.cons.injEq] at h
    simp only [List.all_cons, Bool.and_eq_true] at hx hx'
    obtain ⟨h1, h2⟩ := split_let hx.2 hx'.2 hy hy' h.2
    exact ⟨by rw [h.1, h1], h2⟩

theorem enc0_head {m : List UInt8} : ∀ c t, enc0 m = c :: t → isLet c = false := by
  intro c t h
  cases m with
  | nil => simp [enc0] at h
  | cons a r =>
    simp only [enc0] at h
    unfold q at h
    cases e : ((a.toNat : Int) == 63)
    · rw [e] at h
      rcases encS_head (r := r) with h2 | ⟨t2, h2⟩ <;> rw [h2] at h <;> simp at h
      rw [← h.1]; rfl
    · rw [e] at h
      simp at h
      rw [← h.1]; rfl

theorem encS_no62 : ∀ (r : List UInt8), 62 ∉ encS r
  | [] => by simp [encS]
  | c :: r => by
    have := encS_no62 r
    simp only [encS, q]
    cases ((c.toNat : Int) == 63) <;> simp [this]
theorem enc0_no62 (m : List UInt8) : 62 ∉ enc0 m := by
  cases m with
  | nil => simp [enc0]
  | cons c r =>
    have := encS_no62 r
    simp only [enc0, q]
    cases ((c.toNat : Int) == 63) <;> simp [this]
theorem let_no62 {x : List UInt8} (h : x.all isLet = true) : 62 ∉ x := fun hm => by
  have := List.all_eq_true.1 h 62 hm
  exact absurd this (by decide)

theorem baseS_let {b : Int} {n : List UInt8} (h : n.all isUp = true) : (baseS b n).all isLet = true := by
  have hn : n.all isLet = true := List.all_eq_true.2 fun c hc => by simp [isLet, List.all_eq_true.1 h c hc]
  unfold baseS
  cases (b == 1)
  · cases (b == 2)
    · cases (b == 3)
      · cases (b == 4)
        · cases (b == 6)
          · exact hn
          · simp only [cond_true, cond_false]; decide
        · simp only [cond_true, cond_false]; decide
      · simp only [cond_true, cond_false]; decide
    · simp only [cond_true, cond_false]; decide
  · simp only [cond_true, cond_false]; decide

theorem baseS_inj {b b2 : Int} {n n2 : List UInt8} (h1 : 1 ≤ b) (h2 : b ≤ 6) (k1 : 1 ≤ b2) (k2 : b2 ≤ 6) (hn : (b == 5) = (n != [])) (hn2 : (b2 == 5) = (n2 != [])) (hu : n.all isUp = true) (hu2 : n2.all isUp = true) (h : baseS b n = baseS b2 n2) : b = b2 ∧ n = n2 := by
  rcases base_cases h1 h2 with rfl | rfl | rfl | rfl | rfl | rfl <;> rcases base_cases k1 k2 with rfl | rfl | rfl | rfl | rfl | rfl
  all_goals simp only [baseS, Int.reduceBEq, cond_true, cond_false] at h
  all_goals first
    | (exfalso; revert h; decide)
    | (subst h; exfalso; revert hu2; decide)
    | (subst h; exfalso; revert hu; decide)
    | skip
  all_goals first
    | exact ⟨rfl, h⟩
    | (have e1 : n = [] := by { have := hn; simpa [bne] using this }
       have e2 : n2 = [] := by { have := hn2; simpa [bne] using this }
       exact ⟨rfl, by rw [e1, e2]⟩)

theorem mayO_inj {w w' : Bool} {u u' : List UInt8} (hu : 62 ∉ u) (hu' : 62 ∉ u') (h : mayO w u = mayO w' u') : w = w' ∧ u = u' := by
  cases w <;> cases w' <;> simp only [mayO, cond_true, cond_false] at h
  · exact ⟨rfl, h⟩
  · exact (hu (by rw [h]; simp [optW])).elim
  · exact (hu' (by rw [← h]; simp [optW])).elim
  · refine ⟨rfl, ?_⟩
    unfold optW at h
    rw [List.append_assoc, List.append_assoc] at h
    exact List.append_cancel_right (List.append_cancel_left h)

/-- unlike types are written unlike -/
theorem text_inj {b b2 : Int} {n n2 : List UInt8} {d d2 : Int} {m m2 : List UInt8} (hA : rightS b n d m = true) (hB : rightS b2 n2 d2 m2 = true) (hu : n.all isUp = true) (hu2 : n2.all isUp = true) :
    (textS b n d m == textS b2 n2 d2 m2) = (b == b2 && (n == n2 && (d == d2 && m == m2))) := by
  obtain ⟨p1, p2, p3, p4, p5, p6, p7⟩ := right_facts hA
  obtain ⟨q1, q2, q3, q4, q5, q6, q7⟩ := right_facts hB
  have M := marks_of b d m 0 (by omega) p7
  have M2 := marks_of b2 d2 m2 0 (by omega) q7
  have key : textS b n d m = textS b2 n2 d2 m2 → b = b2 ∧ n = n2 ∧ d = d2 ∧ m = m2 := fun h => by
    rw [textS_eq b n d M, textS_eq b2 n2 d2 M2] at h
    have l1 := baseS_let (b := b) hu
    have l2 := baseS_let (b := b2) hu2
    obtain ⟨e1, e2⟩ := mayO_inj (by simp [let_no62 l1, enc0_no62]) (by simp [let_no62 l2, enc0_no62]) h
    obtain ⟨e3, e4⟩ := split_let l1 l2 enc0_head enc0_head e2
    obtain ⟨e5, e6⟩ := baseS_inj p4 p5 q4 q5 p6 q6 hu hu2 e3
    have e7 := enc_inj M M2 ⟨rfl, rfl⟩ (fun e => by rw [e] at p3; simp at p3; omega) (fun e => by rw [e] at q3; simp at q3; omega) e1 e4
    exact ⟨e5, e6, by rw [e7] at p3; omega, e7⟩
  cases e : (b == b2 && (n == n2 && (d == d2 && m == m2)))
  · cases e2 : (textS b n d m == textS b2 n2 d2 m2)
    · rfl
    · obtain ⟨r1, r2, r3, r4⟩ := key (by simpa using e2)
      subst r1 r2 r3 r4
      simp at e
  · simp only [Bool.and_eq_true, beq_iff_eq] at e
    obtain ⟨rfl, rfl, rfl, rfl⟩ := e
    simp
end Go.Sx.Tryd
namespace Go.Sx.Tryd
open Go Go.Sx Go.Proofs
set_option maxRecDepth 100000
def cut7 : List Cut := [⟨[true, true, true, true, true, true, true, false, true, false, false], some ⟨[(2, []), (3, []), (5, []), (6, []), (7, []), (73, []), (74, [])], [[], []]⟩⟩,
  ⟨[true, true, true, true, true, true, true, false, true, false, false, true, true, false, false, true, true, false, false], some ⟨[(2, []), (3, []), (5, []), (6, []), (7, []), (9, []), (73, []), (74, []), (79, []), (80, [])], [[], [], []]⟩⟩]
def mk7a (b : Int) (n : List UInt8) (d : Int) (m : List UInt8) (b2 : Int) (n2 : List UInt8) (d2 : Int) (m2 s t : List UInt8) (g : Bool) (i : Int) : St :=
  { tmps := [(2, .ref 0 0), (3, .ref 1 0), (5, .str s), (6, .str t), (7, .bool g), (73, .agg (tyC b n d m ++ tyC b2 n2 d2 m2)), (74, .int .i64 i)], blks := [(0, .cells 44 (tyC b n d m)), (1, .cells 44 (tyC b2 n2 d2 m2))], next := 2 }
def mk7b (b : Int) (n : List UInt8) (d : Int) (m : List UInt8) (b2 : Int) (n2 : List UInt8) (d2 : Int) (m2 s t : List UInt8) (g : Bool) (b3 : Int) (n3 : List UInt8) (d3 : Int) (m3 : List UInt8) (i l j : Int) : St :=
  { tmps := [(2, .ref 0 0), (3, .ref 1 0), (5, .str s), (6, .str t), (7, .bool g), (9, .ref 2 0), (73, .agg (tyC b n d m ++ tyC b2 n2 d2 m2)), (74, .int .i64 i), (79, .int .i64 l), (80, .int .i64 j)],
    blks := [(0, .cells 44 (tyC b n d m)), (1, .cells 44 (tyC b2 n2 d2 m2)), (2, .cells 44 (tyC b3 n3 d3 m3))], next := 3 }
theorem libL_ok {w0 : World} (t : TabsAt w0) : IChk Tryd.prog (GW w0) libL := by
  refine .cons (oneI_ok fun args h => ?_) (.cons (specI_ok fun x h => text_SA t x h) (.cons (specI_ok fun x h => right_SA t x h) (.cons (specI_ok fun x h => type_SA t x h) (.cons (specI_ok fun x h => plain_SA t x h) (.cons (specI_ok fun x h => bare_SA t x h) (lib1_ok t))))))
  cases args with
  | nil => exact grows_SA t
  | cons a r => cases h
end Go.Sx.Tryd
namespace Go.Sx.Tryd
open Go Go.Sx
set_option maxRecDepth 100000
theorem start7 (J : Jump R0) (b : Int) (n : List UInt8) (d : Int) (m : List UInt8) (b2 : Int) (n2 : List UInt8) (d2 : Int) (m2 : List UInt8) : start E (tabI libL) fi7 cut7 J [.agg (tyC b n d m), .agg (tyC b2 n2 d2 m2)] [] .ok =
    bif decide ((↑(List.length n) : Int) > 50) then Rs.ok (Out.ret (AV.bool true), [])
  else
    bif decide ((↑(List.length n2) : Int) > 50) then Rs.ok (Out.ret (AV.bool true), [])
    else
      bif decide ((↑(List.length m) : Int) > 50) then Rs.ok (Out.ret (AV.bool true), [])
      else
        bif decide ((↑(List.length m2) : Int) > 50) then Rs.ok (Out.ret (AV.bool true), [])
        else
          bif smallX ((b, n, d, m, ()), ()) then
            bif smallX ((b2, n2, d2, m2, ()), ()) then
              bif decide (List.length m ≤ 1000) then
                bif !rightS b n d m then
                  bif !(bif rightS b n d m then textS b n d m else []) == [] then Rs.ok (Out.ret (AV.bool false), [])
                  else
                    bif rightS b n d m then
                      bif goodX ((b, n, d, m, ()), ()) && smallX ((b, n, d, m, ()), ()) then
                        bif !(bif rightS b n d m then textS b n d m else []) == textS b n d m then Rs.ok (Out.ret (AV.bool false), [])
                        else
                          bif smallX ((b, n, d, m, ()), ()) then
                            bif decide (List.length m ≤ 1000) then
                              bif rightS b n d m then
                                bif decide (List.length m ≤ 5) then
                                  bif !(Lib.trimB m 32 == []) == (b == b && (n == n && (d == d && m == List.take (List.length m) blanks))) then
                                    bif rightS b n d m then Rs.ok (Out.ret (AV.bool false), [])
                                    else
                                      J 0
                                        {
                                          tmps :=
                                            [(2, AV.ref 0 0), (3, AV.ref 1 0), (5, AV.str (bif rightS b n d m then textS b n d m else [])),
                                              (6, AV.str (bif rightS b2 n2 d2 m2 then textS b2 n2 d2 m2 else [])), (7, AV.bool (rightS b n d m)),
                                              (73,
                                                AV.agg
                                                  [AV.int IntKind.i64 b, AV.str n, AV.int IntKind.i64 d, AV.str m, AV.int IntKind.i64 b2, AV.str n2, AV.int IntKind.i64 d2,
                                                    AV.str m2]),
                                              (74, AV.int IntKind.i64 0)],
                                          blks :=
                                            [(0, Blk.cells 44 [AV.int IntKind.i64 b, AV.str n, AV.int IntKind.i64 d, AV.str m]),
                                              (1, Blk.cells 44 [AV.int IntKind.i64 b2, AV.str n2, AV.int IntKind.i64 d2, AV.str m2])],
                                          next := 2 }
                                  else
                                    J 0
                                      {
                                        tmps :=
                                          [(2, AV.ref 0 0), (3, AV.ref 1 0), (5, AV.str (bif rightS b n d m then textS b n d m else [])),
                                            (6, AV.str (bif rightS b2 n2 d2 m2 then textS b2 n2 d2 m2 else [])), (7, AV.bool (rightS b n d m)),
                                            (73,
                                              AV.agg
                                                [AV.int IntKind.i64 b, AV.str n, AV.int IntKind.i64 d, AV.str m, AV.int IntKind.i64 b2, AV.str n2, AV.int IntKind.i64 d2, AV.str m2]),
                                            (74, AV.int IntKind.i64 0)],
                                        blks :=
                                          [(0, Blk.cells 44 [AV.int IntKind.i64 b, AV.str n, AV.int IntKind.i64 d, AV.str m]),
                                            (1, Blk.cells 44 [AV.int IntKind.i64 b2, AV.str n2, AV.int IntKind.i64 d2, AV.str m2])],
                                        next := 2 }
                                else Rs.err 3000027
                              else
                                bif !(Lib.trimB m 32 == []) == false then
                                  bif rightS b n d m then Rs.ok (Out.ret (AV.bool false), [])
                                  else
                                    J 0
                                      {
                                        tmps :=
                                          [(2, AV.ref 0 0), (3, AV.ref 1 0), (5, AV.str (bif rightS b n d m then textS b n d m else [])),
                                            (6, AV.str (bif rightS b2 n2 d2 m2 then textS b2 n2 d2 m2 else [])), (7, AV.bool (rightS b n d m)),
                                            (73,
                                              AV.agg
                                                [AV.int IntKind.i64 b, AV.str n, AV.int IntKind.i64 d, AV.str m, AV.int IntKind.i64 b2, AV.str n2, AV.int IntKind.i64 d2, AV.str m2]),
                                            (74, AV.int IntKind.i64 0)],
                                        blks :=
                                          [(0, Blk.cells 44 [AV.int IntKind.i64 b, AV.str n, AV.int IntKind.i64 d, AV.str m]),
                                            (1, Blk.cells 44 [AV.int IntKind.i64 b2, AV.str n2, AV.int IntKind.i64 d2, AV.str m2])],
                                        next := 2 }
                                else
                                  J 0
                                    {
                                      tmps :=
                                        [(2, AV.ref 0 0), (3, AV.ref 1 0), (5, AV.str (bif rightS b n d m then textS b n d m else [])),
                                          (6, AV.str (bif rightS b2 n2 d2 m2 then textS b2 n2 d2 m2 else [])), (7, AV.bool (rightS b n d m)),
                                          (73,
                                            AV.agg
                                              [AV.int IntKind.i64 b, AV.str n, AV.int IntKind.i64 d, AV.str m, AV.int IntKind.i64 b2, AV.str n2, AV.int IntKind.i64 d2, AV.str m2]),
                                          (74, AV.int IntKind.i64 0)],
                                      blks :=
                                        [(0, Blk.cells 44 [AV.int IntKind.i64 b, AV.str n, AV.int IntKind.i64 d, AV.str m]),
                                          (1, Blk.cells 44 [AV.int IntKind.i64 b2, AV.str n2, AV.int IntKind.i64 d2, AV.str m2])],
                                      next := 2 }
                            else Rs.err 3000024
                          else Rs.err 3000026
                      else Rs.err 3000025
                    else
                      bif smallX ((b, n, d, m, ()), ()) then
                        bif decide (List.length m ≤ 1000) then
                          bif rightS b n d m then
                            bif decide (List.length m ≤ 5) then
                              bif !(Lib.trimB m 32 == []) == (b == b && (n == n && (d == d && m == List.take (List.length m) blanks))) then
                                bif rightS b n d m then Rs.ok (Out.ret (AV.bool false), [])
                                else
                                  J 0
                                    {
                                      tmps :=
                                        [(2, AV.ref 0 0), (3, AV.ref 1 0), (5, AV.str (bif rightS b n d m then textS b n d m else [])),
                                          (6, AV.str (bif rightS b2 n2 d2 m2 then textS b2 n2 d2 m2 else [])), (7, AV.bool (rightS b n d m)),
                                          (73,
                                            AV.agg
                                              [AV.int IntKind.i64 b, AV.str n, AV.int IntKind.i64 d, AV.str m, AV.int IntKind.i64 b2, AV.str n2, AV.int IntKind.i64 d2, AV.str m2]),
                                          (74, AV.int IntKind.i64 0)],
                                      blks :=
                                        [(0, Blk.cells 44 [AV.int IntKind.i64 b, AV.str n, AV.int IntKind.i64 d, AV.str m]),
                                          (1, Blk.cells 44 [AV.int IntKind.i64 b2, AV.str n2, AV.int IntKind.i64 d2, AV.str m2])],
                                      next := 2 }
                              else
                                J 0
                                  {
                                    tmps :=
                                      [(2, AV.ref 0 0), (3, AV.ref 1 0), (5, AV.str (bif rightS b n d m then textS b n d m else [])),
                                        (6, AV.str (bif rightS b2 n2 d2 m2 then textS b2 n2 d2 m2 else [])), (7, AV.bool (rightS b n d m)),
                                        (73,
                                          AV.agg
                                            [AV.int IntKind.i64 b, AV.str n, AV.int IntKind.i64 d, AV.str m, AV.int IntKind.i64 b2, AV.str n2, AV.int IntKind.i64 d2, AV.str m2]),
                                        (74, AV.int IntKind.i64 0)],
                                    blks :=
                                      [(0, Blk.cells 44 [AV.int IntKind.i64 b, AV.str n, AV.int IntKind.i64 d, AV.str m]),
                                        (1, Blk.cells 44 [AV.int IntKind.i64 b2, AV.str n2, AV.int IntKind.i64 d2, AV.str m2])],
                                    next := 2 }
                            else Rs.err 3000027
                          else
                            bif !(Lib.trimB m 32 == []) == false then
                              bif rightS b n d m then Rs.ok (Out.ret (AV.bool false), [])
                              else
                                J 0
                                  {
                                    tmps :=
                                      [(2, AV.ref 0 0), (3, AV.ref 1 0), (5, AV.str (bif rightS b n d m then textS b n d m else [])),
                                        (6, AV.str (bif rightS b2 n2 d2 m2 then textS b2 n2 d2 m2 else [])), (7, AV.bool (rightS b n d m)),
                                        (73,
                                          AV.agg
                                            [AV.int IntKind.i64 b, AV.str n, AV.int IntKind.i64 d, AV.str m, AV.int IntKind.i64 b2, AV.str n2, AV.int IntKind.i64 d2, AV.str m2]),
                                        (74, AV.int IntKind.i64 0)],
                                    blks :=
                                      [(0, Blk.cells 44 [AV.int IntKind.i64 b, AV.str n, AV.int IntKind.i64 d, AV.str m]),
                                        (1, Blk.cells 44 [AV.int IntKind.i64 b2, AV.str n2, AV.int IntKind.i64 d2, AV.str m2])],
                                    next := 2 }
                            else
                              J 0
                                {
                                  tmps :=
                                    [(2, AV.ref 0 0), (3, AV.ref 1 0), (5, AV.str (bif rightS b n d m then textS b n d m else [])),
                                      (6, AV.str (bif rightS b2 n2 d2 m2 then textS b2 n2 d2 m2 else [])), (7, AV.bool (rightS b n d m)),
                                      (73,
                                        AV.agg [AV.int IntKind.i64 b, AV.str n, AV.int IntKind.i64 d, AV.str m, AV.int IntKind.i64 b2, AV.str n2, AV.int IntKind.i64 d2, AV.str m2]),
                                      (74, AV.int IntKind.i64 0)],
                                  blks :=
                                    [(0, Blk.cells 44 [AV.int IntKind.i64 b, AV.str n, AV.int IntKind.i64 d, AV.str m]),
                                      (1, Blk.cells 44 [AV.int IntKind.i64 b2, AV.str n2, AV.int IntKind.i64 d2, AV.str m2])],
                                  next := 2 }
                        else Rs.err 3000024
                      else Rs.err 3000026
                else
                  bif rightS b n d m then
                    bif goodX ((b, n, d, m, ()), ()) && smallX ((b, n, d, m, ()), ()) then
                      bif !(bif rightS b n d m then textS b n d m else []) == textS b n d m then Rs.ok (Out.ret (AV.bool false), [])
                      else
                        bif smallX ((b, n, d, m, ()), ()) then
                          bif decide (List.length m ≤ 1000) then
                            bif rightS b n d m then
                              bif decide (List.length m ≤ 5) then
                                bif !(Lib.trimB m 32 == []) == (b == b && (n == n && (d == d && m == List.take (List.length m) blanks))) then
                                  bif rightS b n d m then Rs.ok (Out.ret (AV.bool false), [])
                                  else
                                    J 0
                                      {
                                        tmps :=
                                          [(2, AV.ref 0 0), (3, AV.ref 1 0), (5, AV.str (bif rightS b n d m then textS b n d m else [])),
                                            (6, AV.str (bif rightS b2 n2 d2 m2 then textS b2 n2 d2 m2 else [])), (7, AV.bool (rightS b n d m)),
                                            (73,
                                              AV.agg
                                                [AV.int IntKind.i64 b, AV.str n, AV.int IntKind.i64 d, AV.str m, AV.int IntKind.i64 b2, AV.str n2, AV.int IntKind.i64 d2, AV.str m2]),
                                            (74, AV.int IntKind.i64 0)],
                                        blks :=
                                          [(0, Blk.cells 44 [AV.int IntKind.i64 b, AV.str n, AV.int IntKind.i64 d, AV.str m]),
                                            (1, Blk.cells 44 [AV.int IntKind.i64 b2, AV.str n2, AV.int IntKind.i64 d2, AV.str m2])],
                                        next := 2 }
                                else
                                  J 0
                                    {
                                      tmps :=
                                        [(2, AV.ref 0 0), (3, AV.ref 1 0), (5, AV.str (bif rightS b n d m then textS b n d m else [])),
                                          (6, AV.str (bif rightS b2 n2 d2 m2 then textS b2 n2 d2 m2 else [])), (7, AV.bool (rightS b n d m)),
                                          (73,
                                            AV.agg
                                              [AV.int IntKind.i64 b, AV.str n, AV.int IntKind.i64 d, AV.str m, AV.int IntKind.i64 b2, AV.str n2, AV.int IntKind.i64 d2, AV.str m2]),
                                          (74, AV.int IntKind.i64 0)],
                                      blks :=
                                        [(0, Blk.cells 44 [AV.int IntKind.i64 b, AV.str n, AV.int IntKind.i64 d, AV.str m]),
                                          (1, Blk.cells 44 [AV.int IntKind.i64 b2, AV.str n2, AV.int IntKind.i64 d2, AV.str m2])],
                                      next := 2 }
                              else Rs.err 3000027
                            else
                              bif !(Lib.trimB m 32 == []) == false then
                                bif rightS b n d m then Rs.ok (Out.ret (AV.bool false), [])
                                else
                                  J 0
                                    {
                                      tmps :=
                                        [(2, AV.ref 0 0), (3, AV.ref 1 0), (5, AV.str (bif rightS b n d m then textS b n d m else [])),
                                          (6, AV.str (bif rightS b2 n2 d2 m2 then textS b2 n2 d2 m2 else [])), (7, AV.bool (rightS b n d m)),
                                          (73,
                                            AV.agg
                                              [AV.int IntKind.i64 b, AV.str n, AV.int IntKind.i64 d, AV.str m, AV.int IntKind.i64 b2, AV.str n2, AV.int IntKind.i64 d2, AV.str m2]),
                                          (74, AV.int IntKind.i64 0)],
                                      blks :=
                                        [(0, Blk.cells 44 [AV.int IntKind.i64 b, AV.str n, AV.int IntKind.i64 d, AV.str m]),
                                          (1, Blk.cells 44 [AV.int IntKind.i64 b2, AV.str n2, AV.int IntKind.i64 d2, AV.str m2])],
                                      next := 2 }
                              else
                                J 0
                                  {
                                    tmps :=
                                      [(2, AV.ref 0 0), (3, AV.ref 1 0), (5, AV.str (bif rightS b n d m then textS b n d m else [])),
                                        (6, AV.str (bif rightS b2 n2 d2 m2 then textS b2 n2 d2 m2 else [])), (7, AV.bool (rightS b n d m)),
                                        (73,
                                          AV.agg
                                            [AV.int IntKind.i64 b, AV.str n, AV.int IntKind.i64 d, AV.str m, AV.int IntKind.i64 b2, AV.str n2, AV.int IntKind.i64 d2, AV.str m2]),
                                        (74, AV.int IntKind.i64 0)],
                                    blks :=
                                      [(0, Blk.cells 44 [AV.int IntKind.i64 b, AV.str n, AV.int IntKind.i64 d, AV.str m]),
                                        (1, Blk.cells 44 [AV.int IntKind.i64 b2, AV.str n2, AV.int IntKind.i64 d2, AV.str m2])],
                                    next := 2 }
                          else Rs.err 3000024
                        else Rs.err 3000026
                    else Rs.err 3000025
                  else
                    bif smallX ((b, n, d, m, ()), ()) then
                      bif decide (List.length m ≤ 1000) then
                        bif rightS b n d m then
                          bif decide (List.length m ≤ 5) then
                            bif !(Lib.trimB m 32 == []) == (b == b && (n == n && (d == d && m == List.take (List.length m) blanks))) then
                              bif rightS b n d m then Rs.ok (Out.ret (AV.bool false), [])
                              else
                                J 0
                                  {
                                    tmps :=
                                      [(2, AV.ref 0 0), (3, AV.ref 1 0), (5, AV.str (bif rightS b n d m then textS b n d m else [])),
                                        (6, AV.str (bif rightS b2 n2 d2 m2 then textS b2 n2 d2 m2 else [])), (7, AV.bool (rightS b n d m)),
                                        (73,
                                          AV.agg
                                            [AV.int IntKind.i64 b, AV.str n, AV.int IntKind.i64 d, AV.str m, AV.int IntKind.i64 b2, AV.str n2, AV.int IntKind.i64 d2, AV.str m2]),
                                        (74, AV.int IntKind.i64 0)],
                                    blks :=
                                      [(0, Blk.cells 44 [AV.int IntKind.i64 b, AV.str n, AV.int IntKind.i64 d, AV.str m]),
                                        (1, Blk.cells 44 [AV.int IntKind.i64 b2, AV.str n2, AV.int IntKind.i64 d2, AV.str m2])],
                                    next := 2 }
                            else
                              J 0
                                {
                                  tmps :=
                                    [(2, AV.ref 0 0), (3, AV.ref 1 0), (5, AV.str (bif rightS b n d m then textS b n d m else [])),
                                      (6, AV.str (bif rightS b2 n2 d2 m2 then textS b2 n2 d2 m2 else [])), (7, AV.bool (rightS b n d m)),
                                      (73,
                                        AV.agg [AV.int IntKind.i64 b, AV.str n, AV.int IntKind.i64 d, AV.str m, AV.int IntKind.i64 b2, AV.str n2, AV.int IntKind.i64 d2, AV.str m2]),
                                      (74, AV.int IntKind.i64 0)],
                                  blks :=
                                    [(0, Blk.cells 44 [AV.int IntKind.i64 b, AV.str n, AV.int IntKind.i64 d, AV.str m]),
                                      (1, Blk.cells 44 [AV.int IntKind.i64 b2, AV.str n2, AV.int IntKind.i64 d2, AV.str m2])],
                                  next := 2 }
                          else Rs.err 3000027
                        else
                          bif !(Lib.trimB m 32 == []) == false then
                            bif rightS b n d m then Rs.ok (Out.ret (AV.bool false), [])
                            else
                              J 0
                                {
                                  tmps :=
                                    [(2, AV.ref 0 0), (3, AV.ref 1 0), (5, AV.str (bif rightS b n d m then textS b n d m else [])),
                                      (6, AV.str (bif rightS b2 n2 d2 m2 then textS b2 n2 d2 m2 else [])), (7, AV.bool (rightS b n d m)),
                                      (73,
                                        AV.agg [AV.int IntKind.i64 b, AV.str n, AV.int IntKind.i64 d, AV.str m, AV.int IntKind.i64 b2, AV.str n2, AV.int IntKind.i64 d2, AV.str m2]),
                                      (74, AV.int IntKind.i64 0)],
                                  blks :=
                                    [(0, Blk.cells 44 [AV.int IntKind.i64 b, AV.str n, AV.int IntKind.i64 d, AV.str m]),
                                      (1, Blk.cells 44 [AV.int IntKind.i64 b2, AV.str n2, AV.int IntKind.i64 d2, AV.str m2])],
                                  next := 2 }
                          else
                            J 0
                              {
                                tmps :=
                                  [(2, AV.ref 0 0), (3, AV.ref 1 0), (5, AV.str (bif rightS b n d m then textS b n d m else [])),
                                    (6, AV.str (bif rightS b2 n2 d2 m2 then textS b2 n2 d2 m2 else [])), (7, AV.bool (rightS b n d m)),
                                    (73, AV.agg [AV.int IntKind.i64 b, AV.str n, AV.int IntKind.i64 d, AV.str m, AV.int IntKind.i64 b2, AV.str n2, AV.int IntKind.i64 d2, AV.str m2]),
                                    (74, AV.int IntKind.i64 0)],
                                blks :=
                                  [(0, Blk.cells 44 [AV.int IntKind.i64 b, AV.str n, AV.int IntKind.i64 d, AV.str m]),
                                    (1, Blk.cells 44 [AV.int IntKind.i64 b2, AV.str n2, AV.int IntKind.i64 d2, AV.str m2])],
                                next := 2 }
                      else Rs.err 3000024
                    else Rs.err 3000026
              else Rs.err 3000024
            else Rs.err 3000023
          else Rs.err 3000023 := by kernel_rfl
theorem loop7a (J : Jump R0) (b : Int) (n : List UInt8) (d : Int) (m : List UInt8) (b2 : Int) (n2 : List UInt8) (d2 : Int) (m2 s t : List UInt8) (g : Bool) (i : Int) : resume E (tabI libL) (cutsOf 0 cut7 0) J [true, true, true, true, true, true, true, false, true, false, false] fi7.code 1 (mk7a b n d m b2 n2 d2 m2 s t g i) (finK E 0 fi7.results .ok) =
    bif decide (i < 2) then
    bif inI i 2 then
      J 1
        {
          tmps :=
            [(2, AV.ref 0 0), (3, AV.ref 1 0), (5, AV.str s), (6, AV.str t), (7, AV.bool g), (9, AV.ref 2 0),
              (73, AV.agg [AV.int IntKind.i64 b, AV.str n, AV.int IntKind.i64 d, AV.str m, AV.int IntKind.i64 b2, AV.str n2, AV.int IntKind.i64 d2, AV.str m2]),
              (74, AV.int IntKind.i64 i),
              (79,
                AV.int IntKind.i64
                  (↑(List.length
                        (Prod.fst
                          (Prod.snd
                            (List.getD [(b, n, d, m, ()), (b2, n2, d2, m2, ())] (Int.toNat i)
                              (Ty.dflt (Ty.pair (Ty.int IntKind.i64) (Ty.pair Ty.str (Ty.pair (Ty.int IntKind.i64) (Ty.pair Ty.str Ty.unit))))))))) :
                    Int)),
              (80, AV.int IntKind.i64 0)],
          blks :=
            [(0, Blk.cells 44 [AV.int IntKind.i64 b, AV.str n, AV.int IntKind.i64 d, AV.str m]),
              (1, Blk.cells 44 [AV.int IntKind.i64 b2, AV.str n2, AV.int IntKind.i64 d2, AV.str m2]),
              (2,
                Blk.cells 44
                  [AV.int IntKind.i64
                      (Prod.fst
                        (List.getD [(b, n, d, m, ()), (b2, n2, d2, m2, ())] (Int.toNat i)
                          (Ty.dflt (Ty.pair (Ty.int IntKind.i64) (Ty.pair Ty.str (Ty.pair (Ty.int IntKind.i64) (Ty.pair Ty.str Ty.unit))))))),
                    AV.str
                      (Prod.fst
                        (Prod.snd
                          (List.getD [(b, n, d, m, ()), (b2, n2, d2, m2, ())] (Int.toNat i)
                            (Ty.dflt (Ty.pair (Ty.int IntKind.i64) (Ty.pair Ty.str (Ty.pair (Ty.int IntKind.i64) (Ty.pair Ty.str Ty.unit)))))))),
                    AV.int IntKind.i64
                      (Prod.fst
                        (Prod.snd
                          (Prod.snd
                            (List.getD [(b, n, d, m, ()), (b2, n2, d2, m2, ())] (Int.toNat i)
                              (Ty.dflt (Ty.pair (Ty.int IntKind.i64) (Ty.pair Ty.str (Ty.pair (Ty.int IntKind.i64) (Ty.pair Ty.str Ty.unit))))))))),
                    AV.str
                      (Prod.fst
                        (Prod.snd
                          (Prod.snd
                            (Prod.snd
                              (List.getD [(b, n, d, m, ()), (b2, n2, d2, m2, ())] (Int.toNat i)
                                (Ty.dflt (Ty.pair (Ty.int IntKind.i64) (Ty.pair Ty.str (Ty.pair (Ty.int IntKind.i64) (Ty.pair Ty.str Ty.unit))))))))))])],
          next := 3 }
    else Rs.err 1300
  else
    bif !g then Rs.ok (Out.ret (AV.bool true), [])
    else
      bif decide (List.length m2 ≤ 1000) then
        bif !rightS b2 n2 d2 m2 then Rs.ok (Out.ret (AV.bool true), []) else Rs.ok (Out.ret (AV.bool ((s == t) == (b == b2 && (n == n2 && (d == d2 && m == m2))))), [])
      else Rs.err 3000024 := by kernel_rfl
theorem loop7b (J : Jump R0) (b : Int) (n : List UInt8) (d : Int) (m : List UInt8) (b2 : Int) (n2 : List UInt8) (d2 : Int) (m2 s t : List UInt8) (g : Bool) (b3 : Int) (n3 : List UInt8) (d3 : Int) (m3 : List UInt8) (i l j : Int) : resume E (tabI libL) (cutsOf 0 cut7 0) J [true, true, true, true, true, true, true, false, true, false, false, true, true, false, false, true, true, false, false] fi7.code 1 (mk7b b n d m b2 n2 d2 m2 s t g b3 n3 d3 m3 i l j) (finK E 0 fi7.results .ok) =
    bif decide (j < l) then
    bif inI j (List.length n3) then
      bif decide ((↑(UInt8.toNat (List.getD n3 (Int.toNat j) 0)) : Int) ≥ 65) then
        bif !decide ((↑(UInt8.toNat (List.getD n3 (Int.toNat j) 0)) : Int) ≤ 90) then Rs.ok (Out.ret (AV.bool true), [])
        else
          J 1
            {
              tmps :=
                [(2, AV.ref 0 0), (3, AV.ref 1 0), (5, AV.str s), (6, AV.str t), (7, AV.bool g), (9, AV.ref 2 0),
                  (73, AV.agg [AV.int IntKind.i64 b, AV.str n, AV.int IntKind.i64 d, AV.str m, AV.int IntKind.i64 b2, AV.str n2, AV.int IntKind.i64 d2, AV.str m2]),
                  (74, AV.int IntKind.i64 i), (79, AV.int IntKind.i64 l), (80, AV.int IntKind.i64 (IntKind.wrap IntKind.i64 (j + 1)))],
              blks :=
                [(0, Blk.cells 44 [AV.int IntKind.i64 b, AV.str n, AV.int IntKind.i64 d, AV.str m]),
                  (1, Blk.cells 44 [AV.int IntKind.i64 b2, AV.str n2, AV.int IntKind.i64 d2, AV.str m2]),
                  (2, Blk.cells 44 [AV.int IntKind.i64 b3, AV.str n3, AV.int IntKind.i64 d3, AV.str m3])],
              next := 3 }
      else Rs.ok (Out.ret (AV.bool true), [])
    else Rs.err 1703
  else
    J 0
      {
        tmps :=
          [(2, AV.ref 0 0), (3, AV.ref 1 0), (5, AV.str s), (6, AV.str t), (7, AV.bool g),
            (73, AV.agg [AV.int IntKind.i64 b, AV.str n, AV.int IntKind.i64 d, AV.str m, AV.int IntKind.i64 b2, AV.str n2, AV.int IntKind.i64 d2, AV.str m2]),
            (74, AV.int IntKind.i64 (IntKind.wrap IntKind.i64 (i + 1)))],
        blks :=
          [(0, Blk.cells 44 [AV.int IntKind.i64 b, AV.str n, AV.int IntKind.i64 d, AV.str m]),
            (1, Blk.cells 44 [AV.int IntKind.i64 b2, AV.str n2, AV.int IntKind.i64 d2, AV.str m2])],
        next := 2 } := by kernel_rfl
end Go.Sx.Tryd
namespace Go.Sx.Tryd
open Go Go.Sx Go.Proofs
set_option maxRecDepth 100000
abbrev okT : R0 := (.ret (.bool true), [])
/-- the pieces of the law come to an end, with some fuel -/
def Fin7 (j : Nat) (st : St) : Prop := ∃ fuel, pieces (R := R0) E (tabI libL) fi7 cut7 0 .ok fuel j st = .ok okT

section
variable {b : Int} {n : List UInt8} {d : Int} {m : List UInt8} {b2 : Int} {n2 : List UInt8} {d2 : Int} {m2 s t : List UInt8} {g : Bool}

theorem fin7b {b3 : Int} {n3 : List UInt8} {d3 : Int} {m3 : List UInt8} {i : Int} (hn : n3.length ≤ 1000) (h0 : 0 ≤ i) (h10 : i ≤ 10) : ∀ (r pre : List UInt8), n3 = pre ++ r → (r.all isUp = true → Fin7 0 (mk7a b n d m b2 n2 d2 m2 s t g (i + 1))) →
    Fin7 1 (mk7b b n d m b2 n2 d2 m2 s t g b3 n3 d3 m3 i n3.length pre.length)
  | [], pre, hr, h => by
    obtain ⟨fuel, hf⟩ := h rfl
    refine ⟨fuel + 1, (loop7b (pieces (R := R0) E (tabI libL) fi7 cut7 0 .ok fuel) b n d m b2 n2 d2 m2 s t g b3 n3 d3 m3 i n3.length pre.length).trans ?_⟩
    rw [List.append_nil] at hr
    subst hr
    have h1 : ¬ ((n3.length : Int) < n3.length) := by omega
    have h4 : IntKind.wrap .i64 (i + 1) = i + 1 := wrap64 (by omega) (by omega)
    simp only [h1, decide_false, cond_false, h4]
    exact hf
  | c :: r, pre, hr, h => by
    have hlen : pre.length + 1 + r.length = n3.length := by rw [hr]; simp; omega
    have h1 : ((pre.length : Int) < n3.length) := by omega
    have h2 : inI (pre.length : Int) n3.length = true := by rw [hr]; exact inI_app _ _ _
    have h3 : List.getD n3 (Int.toNat (pre.length : Int)) 0 = c := by rw [hr, Int.toNat_natCast]; exact getD_app _ _ _
    have h4 : IntKind.wrap .i64 ((pre.length : Int) + 1) = (pre.length : Int) + 1 := wrap64 (by omega) (by omega)
    have h5 : (((pre ++ [c]).length : Nat) : Int) = (pre.length : Int) + 1 := by simp
    cases e1 : decide ((c.toNat : Int) ≥ 65)
    · refine ⟨1, (loop7b (pieces (R := R0) E (tabI libL) fi7 cut7 0 .ok 0) b n d m b2 n2 d2 m2 s t g b3 n3 d3 m3 i n3.length pre.length).trans ?_⟩
      rw [h2, h3]
      simp only [h1, e1, decide_true, cond_true, cond_false]
    · cases e2 : decide ((c.toNat : Int) ≤ 90)
      · refine ⟨1, (loop7b (pieces (R := R0) E (tabI libL) fi7 cut7 0 .ok 0) b n d m b2 n2 d2 m2 s t g b3 n3 d3 m3 i n3.length pre.length).trans ?_⟩
        rw [h2, h3]
        simp only [h1, e1, e2, decide_true, cond_true, cond_false, Bool.not_false]
      · obtain ⟨fuel, ih⟩ := fin7b hn h0 h10 r (pre ++ [c]) (by simp [hr]) (fun hall => h (by simp [isUp, e1, e2, hall]))
        refine ⟨fuel + 1, (loop7b (pieces (R := R0) E (tabI libL) fi7 cut7 0 .ok fuel) b n d m b2 n2 d2 m2 s t g b3 n3 d3 m3 i n3.length pre.length).trans ?_⟩
        rw [h2, h3, h4]
        simp only [h1, e1, e2, decide_true, cond_true, cond_false, Bool.not_true]
        rw [h5] at ih
        exact ih

theorem fin7a2 (hm2 : m2.length ≤ 50) (h : g = true → rightS b2 n2 d2 m2 = true → (s == t) = (b == b2 && (n == n2 && (d == d2 && m == m2)))) : Fin7 0 (mk7a b n d m b2 n2 d2 m2 s t g 2) := by
  refine ⟨1, (loop7a (pieces (R := R0) E (tabI libL) fi7 cut7 0 .ok 0) b n d m b2 n2 d2 m2 s t g 2).trans ?_⟩
  have h1 : decide (List.length m2 ≤ 1000) = true := decide_eq_true (by omega)
  rw [h1]
  have h2 : decide ((2 : Int) < 2) = false := rfl
  rw [h2]
  cases g
  · rfl
  · cases e : rightS b2 n2 d2 m2
    · rfl
    · rw [h rfl e]
      simp only [Bool.not_true, cond_true, cond_false, beq_self_eq_true]

theorem fin7a1 (hn2 : n2.length ≤ 50) (h : n2.all isUp = true → Fin7 0 (mk7a b n d m b2 n2 d2 m2 s t g 2)) : Fin7 0 (mk7a b n d m b2 n2 d2 m2 s t g 1) := by
  obtain ⟨fuel, hf⟩ := fin7b (b := b) (n := n) (d := d) (m := m) (b2 := b2) (n2 := n2) (d2 := d2) (m2 := m2) (s := s) (t := t) (g := g) (b3 := b2) (n3 := n2) (d3 := d2) (m3 := m2) (i := 1) (by omega) (by omega) (by omega) n2 [] rfl h
  refine ⟨fuel + 1, (loop7a (pieces (R := R0) E (tabI libL) fi7 cut7 0 .ok fuel) b n d m b2 n2 d2 m2 s t g 1).trans ?_⟩
  exact hf

theorem fin7a0 (hn : n.length ≤ 50) (h : n.all isUp = true → Fin7 0 (mk7a b n d m b2 n2 d2 m2 s t g 1)) : Fin7 0 (mk7a b n d m b2 n2 d2 m2 s t g 0) := by
  obtain ⟨fuel, hf⟩ := fin7b (b := b) (n := n) (d := d) (m := m) (b2 := b2) (n2 := n2) (d2 := d2) (m2 := m2) (s := s) (t := t) (g := g) (b3 := b) (n3 := n) (d3 := d) (m3 := m) (i := 0) (by omega) (by omega) (by omega) n [] rfl h
  refine ⟨fuel + 1, (loop7a (pieces (R := R0) E (tabI libL) fi7 cut7 0 .ok fuel) b n d m b2 n2 d2 m2 s t g 0).trans ?_⟩
  exact hf
end

theorem law7_start (b : Int) (n : List UInt8) (d : Int) (m : List UInt8) (b2 : Int) (n2 : List UInt8) (d2 : Int) (m2 : List UInt8) :
    ∃ fuel, start (R := R0) E (tabI libL) fi7 cut7 (pieces (R := R0) E (tabI libL) fi7 cut7 0 .ok fuel) [.agg (tyC b n d m), .agg (tyC b2 n2 d2 m2)] [] .ok = .ok okT := by
  by_cases h1 : (n.length : Int) > 50
  · exact ⟨0, by rw [start7]; simp only [h1, decide_true, cond_true]⟩
  by_cases h2 : (n2.length : Int) > 50
  · exact ⟨0, by rw [start7]; simp only [h1, h2, decide_true, decide_false, cond_true, cond_false]⟩
  by_cases h3 : (m.length : Int) > 50
  · exact ⟨0, by rw [start7]; simp only [h1, h2, h3, decide_true, decide_false, cond_true, cond_false]⟩
  by_cases h4 : (m2.length : Int) > 50
  · exact ⟨0, by rw [start7]; simp only [h1, h2, h3, h4, decide_true, decide_false, cond_true, cond_false]⟩
  obtain ⟨fuel, hf⟩ : Fin7 0 (mk7a b n d m b2 n2 d2 m2 (bif rightS b n d m then textS b n d m else []) (bif rightS b2 n2 d2 m2 then textS b2 n2 d2 m2 else []) (rightS b n d m) 0) :=
    fin7a0 (by omega) fun hu => fin7a1 (by omega) fun hu2 => fin7a2 (by omega) fun hA hB => by
      rw [hA, hB]
      exact text_inj hA hB hu hu2
  refine ⟨fuel, ?_⟩
  rw [start7]
  have k1 : smallX ((b, n, d, m, ()), ()) = true := by simp only [smallX, Bool.and_eq_true, decide_eq_true_eq]; omega
  have k2 : smallX ((b2, n2, d2, m2, ()), ()) = true := by simp only [smallX, Bool.and_eq_true, decide_eq_true_eq]; omega
  have k3 : decide (List.length m ≤ 1000) = true := decide_eq_true (by omega)
  have k4 : goodX ((b, n, d, m, ()), ()) = rightS b n d m := rfl
  rw [k1, k2, k3, k4]
  simp only [h1, h2, h3, h4, decide_false, cond_true, cond_false]
  cases hg : rightS b n d m
  · rw [hg] at hf
    simp only [Bool.not_false, cond_true, cond_false, beq_self_eq_true, Bool.not_true]
    cases e : (!(Lib.trimB m 32 == []) == false) <;> exact hf
  · rw [hg] at hf
    obtain ⟨_, p2, p3, _⟩ := right_facts hg
    have k5 : decide (List.length m ≤ 5) = true := decide_eq_true (by omega)
    rw [k5, blank_eq m (by omega)]
    simp only [Bool.not_false, cond_true, cond_false, beq_self_eq_true, Bool.not_true, Bool.true_and, Bool.and_self]
    exact hf

theorem law7_SA {w0 : World} (tb : TabsAt w0) (b : Int) (n : List UInt8) (d : Int) (m : List UInt8) (b2 : Int) (n2 : List UInt8) (d2 : Int) (m2 : List UInt8) :
    SA Tryd.prog (GW w0) 7 [.agg (tyC b n d m), .agg (tyC b2 n2 d2 m2)] [] okT := by
  obtain ⟨fuel, h⟩ := law7_start b n d m b2 n2 d2 m2
  exact start_ok (envOK []) (tabI_ok (libL_ok tb)) fc7 (.inl gen0_nil) h
end Go.Sx.Tryd
