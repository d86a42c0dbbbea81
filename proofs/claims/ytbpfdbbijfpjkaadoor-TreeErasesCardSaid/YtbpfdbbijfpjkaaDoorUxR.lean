/- A part of the proof: see the row's text. -/
import Derived.Test.YtbpfdbbijfpjkaaDoorUxB
import Derived.Orders
set_option linter.unusedVariables false
set_option linter.unusedSimpArgs false
namespace Go.Sx
open Go
variable {G : Nat → Obj → Prop} {P : Program} {E : Env} {K : Callee} {C : Ctx}

def putL (lk : Look) (d : Option Tmp) (v : AV) : Look :=
  match d with
  | none => lk
  | some d => fun j => if d = j then v else lk j

theorem look_cons (tm : Tmps) (d : Nat) (v : AV) : look ((d, v) :: tm) = putL (look tm) (some d) v := by
  funext j
  simp only [look, putL]
  split
  · rename_i h; rw [if_pos (beq_eq h)]
  · rename_i h
    rw [if_neg]
    intro e
    subst e
    simp at h

theorem look_put (tm : Tmps) (d : Option Tmp) (v : AV) : look (putT tm d v) = putL (look tm) d v := by
  cases d with
  | none => rfl
  | some d => exact look_cons tm d v

theorem getB_apply : ∀ (wr : Wr) (bs : Blks), getB (applyWr bs wr) = applyM (getB bs) wr
  | [], _ => rfl
  | (i, b) :: r, bs => by
    simp only [applyWr, applyM]
    rw [getB_apply r]
    congr 1
    funext j
    simp only [getB, updM]
    split
    · rename_i h; rw [if_pos (beq_eq h).symm]
    · rename_i h
      rw [if_neg]
      intro e
      subst e
      simp at h

/-- the temporaries hold what the machine says -/
def TRel (C : Ctx) (lk : Look) (a : Act) : Prop := ∀ x, VRel C (evalO lk x) (a.eval x)

theorem evalO_put {lk : Look} {d : Option Tmp} {v : AV} {x : Operand} (h : ∀ t, d = some t → x ≠ .tmp t) : evalO (putL lk d v) x = evalO lk x := by
  cases d with
  | none => rfl
  | some d =>
    cases x with
    | tmp t =>
      simp only [evalO, putL]
      rw [if_neg]
      intro e
      exact h d rfl (by rw [e])
    | _ => rfl

theorem put_size (a : Act) (d : Option Tmp) (v : Value) : (a.put d v).tmps.size = a.tmps.size := by
  cases d <;> simp [Act.put]
theorem put_defers' (a : Act) (d : Option Tmp) (v : Value) : (a.put d v).defers = a.defers := by
  cases d <;> rfl

theorem TRel.put {lk : Look} {a : Act} (h : TRel C lk a) {d : Option Tmp} (hd : ∀ t, d = some t → t < a.tmps.size) {v : AV} {u : Value} (hv : VRel C v u) : TRel C (putL lk d v) (a.put d u) := by
  cases d with
  | none => exact h
  | some d =>
    intro x
    by_cases hx : x = .tmp d
    · subst hx
      simp only [evalO, putL, if_pos]
      have : (a.put (some d) u).eval (.tmp d) = u := by
        have := hd d rfl
        simp [Act.put, Act.eval, this]
      rw [this]
      exact hv
    · rw [evalO_put (by rintro t e; cases e; exact hx), Act.eval_put (by rintro t e; cases e; exact hx)]
      exact h x

theorem TRel.mono {C' : Ctx} (hE : Ext C C') {lk : Look} {a : Act} (h : TRel C lk a) : TRel C' lk a := fun x => (h x).mono hE

structure SR (C : Ctx) (a : Act) (lk : Look) (m : Get) : Prop where
  m : C.m = m
  s : SRel C
  t : TRel C lk a

/-- does the machine take an operation? -/
def wants (all : List Oper) (lk : Look) (o : Oper) : Option Bool :=
  match o.guard with
  | none => some true
  | some (j, want) => match slotOf all j with
    | none => none
    | some d => match lk d with
      | .bool b => some (b == want)
      | .tup [] => some false
      | _ => none

theorem wants_rel {ops : Array Oper} {lk : Look} {a : Act} (ht : TRel C lk a) {o : Oper} {t : Bool} (h : wants ops.toList lk o = some t) : Region.wanted o (yielded ops a.tmps) = t := by
  unfold wants at h
  unfold Region.wanted
  split at h
  · rename_i hg
    simpa [hg] using h
  · rename_i j want hg
    rw [hg]
    simp only
    split at h
    · cases h
    · rename_i d hd
      have hd' : (ops[j]?).bind (·.dst) = some d := by
        simpa [slotOf, nth_eq] using hd
      have hx := ht (.tmp d)
      simp only [evalO, Act.eval] at hx
      split at h
      · rename_i b hb
        rw [hb] at hx
        simp only [VRel] at hx
        have : a.tmps[d]? = some (.bool b) := by
          cases e : a.tmps[d]? with
          | none => simp [Array.getD_eq_getD_getElem?, e, undef] at hx
          | some y => simp [Array.getD_eq_getD_getElem?, e] at hx; rw [hx]
        simp only [yielded, hd', Option.bind_some, this]
        simp only [Option.some.injEq] at h
        rw [← h]
        cases b <;> cases want <;> rfl
      · rename_i hb
        rw [hb] at hx
        obtain ⟨vs, hv, hl⟩ := hx
        have hy : yielded ops a.tmps j = none := by
          simp only [yielded, hd', Option.bind_some]
          cases e : a.tmps[d]? with
          | none => rfl
          | some y =>
            have : y = .tuple vs := by simpa [Array.getD_eq_getD_getElem?, e] using hv
            subst this
            rfl
        simp only [hy]
        simpa using h
      · cases h

structure Rec where
  dst : Option Tmp
  ran : Bool
  v : AV
  wr : Wr
  rd : List Nat

def StepIs (E : Env) (P : Program) (G : Nat → Obj → Prop) (all : List Oper) (lk : Look) (m : Get) (id : Nat) (o : Oper) (r : Rec) : Prop :=
  r.dst = o.dst ∧ wants all lk o = some r.ran ∧ (r.ran = true → ExecIs E P G lk m id o r.v r.wr r.rd ∧ below r.wr (id + 16) = true) ∧ (r.ran = false → r.v = .tup [] ∧ r.wr = [] ∧ r.rd = [])

theorem undef_rel : VRel C (.tup []) undef := ⟨#[], rfl, rfl⟩

theorem step_wp (hE : EnvOK E P) (hG : C.gl = G) {ops : Array Oper} {lk : Look} {m : Get} {id : Nat} {o : Oper} {r : Rec} (h : StepIs E P G ops.toList lk m id o r) {a : Act} (hr : SR C a lk m)
    (hid : ∀ j, id ≤ j → j < id + 16 → m j = none) (hd : ∀ t, o.dst = some t → t < a.tmps.size) {j : Nat} (hj : ops[j]? = some o) {next : Act → World → Prop} {Q : Exit → Act → World → Prop}
    (hn : ∀ C' a', SR C' a' (putL lk r.dst r.v) (applyM m r.wr) → Ext C C' → a'.tmps.size = a.tmps.size → a'.defers = a.defers → next a' C'.w) : wpOp P ops Q j next a C.w := by
  obtain ⟨h1, h2, h3, h4⟩ := h
  have hw := wants_rel hr.t h2
  unfold wpOp
  simp only [hj, hw]
  cases hran : r.ran with
  | true =>
    rw [if_pos rfl]
    refine .inl ?_
    have hm := hr.m
    subst hm
    unfold Oper.wp
    refine ((h3 hran).1.does hE hG hr.s hr.t hid) a next Q fun v C' e1 e2 e3 e4 => ?_
    refine hn C' _ ⟨e1, e2, ?_⟩ e3 (put_size _ _ _) (put_defers' _ _ _)
    rw [h1]
    exact (hr.t.mono e3).put hd e4
  | false =>
    rw [if_neg (by simp)]
    obtain ⟨e1, e2, e3⟩ := h4 hran
    refine hn C _ ⟨?_, hr.s, ?_⟩ (Ext.refl C) (put_size _ _ _) (put_defers' _ _ _)
    · rw [e2]; exact hr.m
    · rw [h1, e1]
      exact hr.t.put hd undef_rel

end Go.Sx
/- what a set of operations of a region has done, in whatever order -/
namespace Go.Sx
open Go
variable {G : Nat → Obj → Prop} {P : Program} {E : Env} {C : Ctx}

def lkF (S : Nat → Bool) : List Rec → Nat → Look → Look
  | [], _, lk => lk
  | r :: rs, i, lk => lkF S rs (i + 1) (if S i = true then putL lk r.dst r.v else lk)
def mF (S : Nat → Bool) : List Rec → Nat → Get → Get
  | [], _, m => m
  | r :: rs, i, m => mF S rs (i + 1) (if S i = true then applyM m r.wr else m)

theorem putL_ne {lk : Look} {d : Option Tmp} {v : AV} {s : Nat} (h : d ≠ some s) : putL lk d v s = lk s := by
  cases d with
  | none => rfl
  | some d => simp only [putL]; rw [if_neg]; intro e; exact h (by rw [e])

theorem putL_congr {lk lk' : Look} {d : Option Tmp} {v : AV} {s : Nat} (h : lk s = lk' s) : putL lk d v s = putL lk' d v s := by
  cases d with
  | none => exact h
  | some d => simp only [putL]; split <;> first | rfl | exact h

theorem applyM_congr {m m' : Get} {b : Nat} : ∀ {wr : Wr}, m b = m' b → applyM m wr b = applyM m' wr b := by
  intro wr
  induction wr generalizing m m' with
  | nil => exact fun h => h
  | cons p wr ih =>
    intro h
    simp only [applyM]
    refine ih ?_
    simp only [updM]
    split <;> first | rfl | exact h

theorem lkF_agree {S S' : Nat → Bool} {s : Nat} : ∀ (rs : List Rec) (k : Nat) (lk lk' : Look), (∀ i r, rs[i]? = some r → S (k + i) ≠ S' (k + i) → r.dst ≠ some s) → lk s = lk' s → lkF S rs k lk s = lkF S' rs k lk' s
  | [], _, _, _, _, h => h
  | r :: rs, k, lk, lk', hd, h => by
    simp only [lkF]
    refine lkF_agree rs (k + 1) _ _ (fun i r hi hne => hd (i + 1) r (by simpa using hi) (by rwa [show k + (i + 1) = k + 1 + i by omega])) ?_
    have h0 := hd 0 r (by simp)
    simp only [Nat.add_zero] at h0
    by_cases e : S k = S' k
    · rw [e]
      split
      · exact putL_congr h
      · exact h
    · have hn := h0 e
      split <;> split <;> first | exact h | (simp only [putL_ne hn]; exact h)

theorem mF_agree {S S' : Nat → Bool} {b : Nat} : ∀ (rs : List Rec) (k : Nat) (m m' : Get), (∀ i r, rs[i]? = some r → S (k + i) ≠ S' (k + i) → ∀ p ∈ r.wr, p.1 ≠ b) → m b = m' b → mF S rs k m b = mF S' rs k m' b
  | [], _, _, _, _, h => h
  | r :: rs, k, m, m', hd, h => by
    simp only [mF]
    refine mF_agree rs (k + 1) _ _ (fun i r hi hne => hd (i + 1) r (by simpa using hi) (by rwa [show k + (i + 1) = k + 1 + i by omega])) ?_
    have h0 := hd 0 r (by simp)
    simp only [Nat.add_zero] at h0
    by_cases e : S k = S' k
    · rw [e]
      split
      · exact applyM_congr h
      · exact h
    · have hn := h0 e
      split <;> split <;> first | exact h | (simp only [applyM_none hn]; exact h)

theorem putL_comm {lk : Look} {d d' : Option Tmp} {v v' : AV} (h : ∀ t, d = some t → d' ≠ some t) : putL (putL lk d v) d' v' = putL (putL lk d' v') d v := by
  funext s
  cases d with
  | none => rfl
  | some d =>
    cases d' with
    | none => rfl
    | some d' =>
      have hne : d' ≠ d := fun e => h d rfl (by rw [e])
      simp only [putL]
      split <;> split <;> simp_all

theorem lkF_put {S : Nat → Bool} {d : Option Tmp} {v : AV} : ∀ (rs : List Rec) (k : Nat) (lk : Look), (∀ i r, rs[i]? = some r → S (k + i) = true → ∀ t, d = some t → r.dst ≠ some t) → lkF S rs k (putL lk d v) = putL (lkF S rs k lk) d v
  | [], _, _, _ => rfl
  | r :: rs, k, lk, h => by
    simp only [lkF]
    have h0 := h 0 r (by simp)
    simp only [Nat.add_zero] at h0
    have ih := fun lk => lkF_put (S := S) (d := d) (v := v) rs (k + 1) lk (fun i r hi hs => h (i + 1) r (by simpa using hi) (by rwa [show k + (i + 1) = k + 1 + i by omega]))
    split
    · rename_i hs
      rw [putL_comm (h0 hs), ih]
    · exact ih lk

theorem applyM_swap {m : Get} : ∀ {wr wr' : Wr}, (∀ p ∈ wr, ∀ q ∈ wr', q.1 ≠ p.1) → applyM (applyM m wr) wr' = applyM (applyM m wr') wr := by
  intro wr
  induction wr generalizing m with
  | nil => intro wr' _; rfl
  | cons p wr ih =>
    intro wr' h
    simp only [applyM]
    rw [ih fun x hx => h x (by simp [hx]), applyM_comm fun q hq => h p (by simp) q hq]

theorem mF_app {S : Nat → Bool} {wr : Wr} : ∀ (rs : List Rec) (k : Nat) (m : Get), (∀ i r, rs[i]? = some r → S (k + i) = true → ∀ p ∈ wr, ∀ q ∈ r.wr, q.1 ≠ p.1) → mF S rs k (applyM m wr) = applyM (mF S rs k m) wr
  | [], _, _, _ => rfl
  | r :: rs, k, m, h => by
    simp only [mF]
    have h0 := h 0 r (by simp)
    simp only [Nat.add_zero] at h0
    have ih := fun m => mF_app (S := S) (wr := wr) rs (k + 1) m (fun i r hi hs => h (i + 1) r (by simpa using hi) (by rwa [show k + (i + 1) = k + 1 + i by omega]))
    split
    · rename_i hs
      rw [applyM_swap (h0 hs), ih]
    · exact ih m

theorem lkF_ext {S S' : Nat → Bool} : ∀ (rs : List Rec) (k : Nat) (lk : Look), (∀ i, i < rs.length → S (k + i) = S' (k + i)) → lkF S rs k lk = lkF S' rs k lk
  | [], _, _, _ => rfl
  | r :: rs, k, lk, h => by
    simp only [lkF]
    have h0 := h 0 (by simp)
    simp only [Nat.add_zero] at h0
    rw [h0]
    exact lkF_ext rs (k + 1) _ fun i hi => by have := h (i + 1) (by simpa using hi); rwa [show k + (i + 1) = k + 1 + i by omega] at this
theorem mF_ext {S S' : Nat → Bool} : ∀ (rs : List Rec) (k : Nat) (m : Get), (∀ i, i < rs.length → S (k + i) = S' (k + i)) → mF S rs k m = mF S' rs k m
  | [], _, _, _ => rfl
  | r :: rs, k, m, h => by
    simp only [mF]
    have h0 := h 0 (by simp)
    simp only [Nat.add_zero] at h0
    rw [h0]
    exact mF_ext rs (k + 1) _ fun i hi => by have := h (i + 1) (by simpa using hi); rwa [show k + (i + 1) = k + 1 + i by omega] at this

/-- one more operation is done -/
theorem lkF_ins {S S' : Nat → Bool} : ∀ (rs : List Rec) (k j : Nat) (lk : Look) (r : Rec), rs[j]? = some r → S (k + j) = false → S' (k + j) = true → (∀ i, i ≠ k + j → S' i = S i) →
    (∀ i r', rs[i]? = some r' → j < i → S (k + i) = true → ∀ t, r.dst = some t → r'.dst ≠ some t) → lkF S' rs k lk = putL (lkF S rs k lk) r.dst r.v
  | [], _, _, _, _, h, _, _, _, _ => by simp at h
  | r0 :: rs, k, 0, lk, r, h, h1, h2, h3, h4 => by
    simp only [List.getElem?_cons_zero, Option.some.injEq] at h
    subst h
    simp only [Nat.add_zero] at h1 h2 h3
    simp only [lkF, h1, h2, if_true, Bool.false_eq_true, if_false]
    rw [lkF_ext (S := S') (S' := S) rs (k + 1) _ fun i _ => h3 _ (by omega)]
    exact lkF_put rs (k + 1) lk fun i r' hi hs => h4 (i + 1) r' (by simpa using hi) (by omega) (by rwa [show k + (i + 1) = k + 1 + i by omega])
  | r0 :: rs, k, j + 1, lk, r, h, h1, h2, h3, h4 => by
    simp only [lkF]
    rw [h3 k (by omega)]
    have e : k + (j + 1) = k + 1 + j := by omega
    exact lkF_ins rs (k + 1) j _ r (by simpa using h) (by rwa [← e]) (by rwa [← e]) (fun i hi => h3 i (by omega)) fun i r' hi hlt hs => h4 (i + 1) r' (by simpa using hi) (by omega) (by rwa [show k + (i + 1) = k + 1 + i by omega])
theorem mF_ins {S S' : Nat → Bool} : ∀ (rs : List Rec) (k j : Nat) (m : Get) (r : Rec), rs[j]? = some r → S (k + j) = false → S' (k + j) = true → (∀ i, i ≠ k + j → S' i = S i) →
    (∀ i r', rs[i]? = some r' → j < i → S (k + i) = true → ∀ p ∈ r.wr, ∀ q ∈ r'.wr, q.1 ≠ p.1) → mF S' rs k m = applyM (mF S rs k m) r.wr
  | [], _, _, _, _, h, _, _, _, _ => by simp at h
  | r0 :: rs, k, 0, lk, r, h, h1, h2, h3, h4 => by
    simp only [List.getElem?_cons_zero, Option.some.injEq] at h
    subst h
    simp only [Nat.add_zero] at h1 h2 h3
    simp only [mF, h1, h2, if_true, Bool.false_eq_true, if_false]
    rw [mF_ext (S := S') (S' := S) rs (k + 1) _ fun i _ => h3 _ (by omega)]
    exact mF_app rs (k + 1) lk fun i r' hi hs => h4 (i + 1) r' (by simpa using hi) (by omega) (by rwa [show k + (i + 1) = k + 1 + i by omega])
  | r0 :: rs, k, j + 1, lk, r, h, h1, h2, h3, h4 => by
    simp only [mF]
    rw [h3 k (by omega)]
    have e : k + (j + 1) = k + 1 + j := by omega
    exact mF_ins rs (k + 1) j _ r (by simpa using h) (by rwa [← e]) (by rwa [← e]) (fun i hi => h3 i (by omega)) fun i r' hi hlt hs => h4 (i + 1) r' (by simpa using hi) (by omega) (by rwa [show k + (i + 1) = k + 1 + i by omega])

/-- the run in the order in which it is written -/
def Tr (E : Env) (P : Program) (G : Nat → Obj → Prop) (all : List Oper) (next : Nat) : Nat → Look → Get → List Oper → List Rec → Prop
  | _, _, _, [], [] => True
  | i, lk, m, o :: os, r :: rs => StepIs E P G all lk m (next + 16 * i) o r ∧ Tr E P G all next (i + 1) (putL lk r.dst r.v) (applyM m r.wr) os rs
  | _, _, _, _, _ => False

theorem Tr.len {all : List Oper} {next : Nat} : ∀ {i : Nat} {lk : Look} {m : Get} {os : List Oper} {rs : List Rec}, Tr E P G all next i lk m os rs → os.length = rs.length
  | _, _, _, [], [], _ => rfl
  | _, _, _, _ :: _, _ :: _, h => by simp [Tr.len h.2]
  | _, _, _, [], _ :: _, h => by exact h.elim
  | _, _, _, _ :: _, [], h => by exact h.elim

theorem lkF_none {S : Nat → Bool} (rs : List Rec) (k : Nat) (lk : Look) (h : ∀ i, k ≤ i → S i = false) : lkF S rs k lk = lk := by
  induction rs generalizing k lk with
  | nil => rfl
  | cons r rs ih => simp only [lkF, h k (Nat.le_refl _), Bool.false_eq_true, if_false]; exact ih (k + 1) lk fun i hi => h i (by omega)
theorem mF_none {S : Nat → Bool} (rs : List Rec) (k : Nat) (m : Get) (h : ∀ i, k ≤ i → S i = false) : mF S rs k m = m := by
  induction rs generalizing k m with
  | nil => rfl
  | cons r rs ih => simp only [mF, h k (Nat.le_refl _), Bool.false_eq_true, if_false]; exact ih (k + 1) m fun i hi => h i (by omega)

theorem Tr.at {all : List Oper} {next : Nat} : ∀ {i : Nat} {lk : Look} {m : Get} {os : List Oper} {rs : List Rec}, Tr E P G all next i lk m os rs → ∀ {j : Nat} {o : Oper}, os[j]? = some o →
    ∃ r, rs[j]? = some r ∧ StepIs E P G all (lkF (fun x => decide (x < i + j)) rs i lk) (mF (fun x => decide (x < i + j)) rs i m) (next + 16 * (i + j)) o r
  | _, _, _, [], [], _, j, o, h => by simp at h
  | i, lk, m, o0 :: os, r :: rs, h, 0, o, ho => by
    simp only [List.getElem?_cons_zero, Option.some.injEq] at ho
    subst ho
    refine ⟨r, by simp, ?_⟩
    rw [lkF_none _ _ _ (by intro x hx; simp; omega), mF_none _ _ _ (by intro x hx; simp; omega)]
    exact h.1
  | i, lk, m, o0 :: os, r :: rs, h, j + 1, o, ho => by
    obtain ⟨r', h1, h2⟩ := h.2.at (j := j) (by simpa using ho)
    refine ⟨r', by simpa using h1, ?_⟩
    rw [show i + 1 + j = i + (j + 1) by omega] at h2
    simp only [lkF, mF, show (decide (i < i + (j + 1))) = true by simp, if_true]
    exact h2
  | _, _, _, [], _ :: _, h, _, _, _ => h.elim
  | _, _, _, _ :: _, [], h, _, _, _ => h.elim

end Go.Sx
namespace Go.Sx
open Go
variable {G : Nat → Obj → Prop} {P : Program} {E : Env} {C : Ctx}

theorem meets_iff {a b : List Nat} : meets a b = true ↔ ∃ x, x ∈ a ∧ x ∈ b := by
  unfold meets
  rw [List.any_eq_true]
  constructor
  · rintro ⟨x, hx, h⟩; exact ⟨x, hx, any_beq.1 h⟩
  · rintro ⟨x, hx, h⟩; exact ⟨x, hx, any_beq.2 h⟩
theorem meets_no {a b : List Nat} (h : meets a b = false) {x : Nat} (ha : x ∈ a) : x ∉ b := fun hb => by
  rw [meets_iff.2 ⟨x, ha, hb⟩] at h; cases h

/-! what must have come before -/
theorem befs_len : ∀ (os : List Oper) (acc : List Nat), (befs os acc).length = acc.length + os.length
  | [], acc => by simp [befs]
  | o :: os, acc => by simp [befs, befs_len os]; omega

theorem befs_pre : ∀ (os : List Oper) (acc : List Nat), ∃ t, befs os acc = acc ++ t
  | [], acc => ⟨[], by simp [befs]⟩
  | o :: os, acc => by
    obtain ⟨t, h⟩ := befs_pre os (acc ++ [befOf acc o])
    exact ⟨befOf acc o :: t, by simp [befs, h]⟩

theorem befs_at : ∀ (os : List Oper) (acc : List Nat) (j : Nat) (o : Oper), os[j]? = some o → (befs os acc)[acc.length + j]? = some (befOf ((befs os acc).take (acc.length + j)) o)
  | [], _, j, o, h => by simp at h
  | o0 :: os, acc, 0, o, h => by
    simp only [List.getElem?_cons_zero, Option.some.injEq] at h
    subst h
    obtain ⟨t, ht⟩ := befs_pre os (acc ++ [befOf acc o0])
    simp only [befs, ht, Nat.add_zero]
    simp
  | o0 :: os, acc, j + 1, o, h => by
    have := befs_at os (acc ++ [befOf acc o0]) j o (by simpa using h)
    simp only [befs]
    simpa [Nat.add_assoc, Nat.add_comm 1 j] using this

theorem foldr_bit {acc : List Nat} {i : Nat} : ∀ {es : List Edge}, Nat.testBit (es.foldr (fun e s => match Region.binds .any e with | true => s ||| (1 <<< e.on) ||| ((nth acc e.on).getD 0) | false => s) 0) i = true →
    ∃ e ∈ es, Region.binds .any e = true ∧ (e.on = i ∨ Nat.testBit ((nth acc e.on).getD 0) i = true)
  | [], h => by simp at h
  | e :: es, h => by
    simp only [List.foldr_cons] at h
    split at h
    · rename_i hb
      simp only [Nat.testBit_or, Bool.or_eq_true] at h
      rcases h with (h | h) | h
      · obtain ⟨e', h1, h2⟩ := foldr_bit h
        exact ⟨e', by simp [h1], h2⟩
      · refine ⟨e, by simp, hb, .inl ?_⟩
        rw [Nat.testBit_shiftLeft] at h
        simp only [Bool.and_eq_true, decide_eq_true_eq] at h
        obtain ⟨h1, h2⟩ := h
        have : i - e.on = 0 := by
          rcases Nat.eq_zero_or_pos (i - e.on) with h0 | h0
          · exact h0
          · exfalso
            have : Nat.testBit 1 (i - e.on) = false := by
              obtain ⟨d, hd⟩ : ∃ d, i - e.on = d + 1 := ⟨i - e.on - 1, by omega⟩
              rw [hd, Nat.testBit_succ]
              simp
            rw [this] at h2
            cases h2
        omega
      · exact ⟨e, by simp, hb, .inr h⟩
    · obtain ⟨e', h1, h2⟩ := foldr_bit h
      exact ⟨e', by simp [h1], h2⟩

structure SlotsOK (all : List Oper) : Prop where
  edge : ∀ (j : Nat) (o : Oper), all[j]? = some o → ∀ e ∈ o.after, Region.binds .any e = true → e.on < j
  apart : ∀ (i j : Nat) (oi oj : Oper), all[i]? = some oi → all[j]? = some oj → i < j → bitAt (befs all []) j i = false →
    (∀ t, oi.dst = some t → t ∉ sees all oj ∧ oj.dst ≠ some t) ∧ (∀ t, oj.dst = some t → t ∉ sees all oi)

theorem slotsOk_spec {all : List Oper} (h : slotsOk all (befs all []) = true) : SlotsOK all := by
  unfold slotsOk at h
  simp only [List.all_eq_true, List.mem_range] at h
  constructor
  · intro j o hj e he hb
    have hlt : j < all.length := (List.getElem?_eq_some_iff.1 hj).1
    have := h j hlt
    simp only [nth_eq, hj, Bool.and_eq_true, List.all_eq_true, Bool.or_eq_true, Bool.not_eq_true'] at this
    rcases this.1.1 e (by simpa using he) with h0 | h0
    · rw [hb] at h0; cases h0
    · exact Nat.le_of_ble_eq_true h0
  · intro i j oi oj hi hj hij hbit
    have hlt : j < all.length := (List.getElem?_eq_some_iff.1 hj).1
    have hlti : i < all.length := (List.getElem?_eq_some_iff.1 hi).1
    have := h j hlt
    simp only [nth_eq, hj, Bool.and_eq_true, List.all_eq_true, List.mem_range] at this
    have := this.2 i hlti
    simp only [hi, Bool.or_eq_true, Bool.not_eq_true'] at this
    rcases this with h0 | h0 | h0
    · have : Nat.blt i j = true := by simpa [Nat.blt_eq] using hij
      rw [this] at h0; cases h0
    · rw [hbit] at h0; cases h0
    · rw [Bool.or_eq_false_iff] at h0
      refine ⟨fun t ht => ?_, fun t ht => ?_⟩
      · have := meets_no h0.1 (x := t) (by simp [ht])
        simp only [List.mem_append, not_or] at this
        exact ⟨this.1, fun hh => this.2 (by simp [hh])⟩
      · exact meets_no h0.2 (x := t) (by simp [ht])

def down (all : List Oper) (S : Nat → Bool) : Prop := ∀ (i : Nat) (o : Oper), all[i]? = some o → S i = true → ∀ e ∈ o.after, Region.binds .any e = true → S e.on = true

theorem bit_in {all : List Oper} (hs : SlotsOK all) {S : Nat → Bool} (hd : down all S) {i : Nat} : ∀ (j : Nat) (o : Oper), all[j]? = some o → (∀ e ∈ o.after, Region.binds .any e = true → S e.on = true) → bitAt (befs all []) j i = true → S i = true := by
  intro j
  induction j using Nat.strongRecOn with
  | _ j ih =>
    intro o ho he hb
    unfold bitAt at hb
    have h1 := befs_at all [] j o ho
    simp only [List.length_nil, Nat.zero_add] at h1
    rw [nth_eq, h1, Option.getD_some] at hb
    unfold befOf at hb
    obtain ⟨e, h2, h3, h4⟩ := foldr_bit hb
    have h2 : e ∈ o.after := by simpa using h2
    rcases h4 with h4 | h4
    · rw [← h4]; exact he e h2 h3
    · have hlt := hs.edge j o ho e h2 h3
      have hjl : j < all.length := (List.getElem?_eq_some_iff.1 ho).1
      have hget : all[e.on]? = some all[e.on] := by simp
      refine ih e.on hlt _ hget (fun e' he' hb' => hd e.on _ hget (he e h2 h3) e' he' hb') ?_
      unfold bitAt
      rw [nth_eq] at h4 ⊢
      rwa [List.getElem?_take_of_lt hlt] at h4

/-- do two operations clash? -/
def clashR (a b : Rec) : Prop := ∃ k, (k ∈ a.wr.map (·.1) ∧ (k ∈ b.rd ∨ k ∈ b.wr.map (·.1))) ∨ (k ∈ a.rd ∧ k ∈ b.wr.map (·.1))

structure TrOK (E : Env) (P : Program) (G : Nat → Obj → Prop) (all : List Oper) (next : Nat) (lk0 : Look) (m0 : Get) (rs : List Rec) : Prop where
  tr : Tr E P G all next 0 lk0 m0 all rs
  clash : ∀ (i j : Nat) (ri rj : Rec), i < j → rs[i]? = some ri → rs[j]? = some rj → clashR ri rj → bitAt (befs all []) j i = true
  keys : ∀ (i : Nat) (ri : Rec), rs[i]? = some ri → ∀ p ∈ ri.wr, p.1 < next ∨ next + 16 * i ≤ p.1 ∨ ∃ i' ri', i' < i ∧ rs[i']? = some ri' ∧ ∃ q ∈ ri'.wr, q.1 = p.1
  free : ∀ k, next ≤ k → m0 k = none

theorem TrOK.whose {all : List Oper} {next : Nat} {lk0 : Look} {m0 : Get} {rs : List Rec} (h : TrOK E P G all next lk0 m0 rs) :
    ∀ (i : Nat) (ri : Rec), rs[i]? = some ri → ∀ p ∈ ri.wr, p.1 < next ∨ ∃ i0 r0, i0 ≤ i ∧ rs[i0]? = some r0 ∧ (∃ q ∈ r0.wr, q.1 = p.1) ∧ next + 16 * i0 ≤ p.1 ∧ p.1 < next + 16 * i0 + 16 := by
  intro i
  induction i using Nat.strongRecOn with
  | _ i ih =>
    intro ri hi p hp
    rcases h.keys i ri hi p hp with h0 | h0 | ⟨i', ri', h1, h2, q, hq, he⟩
    · exact .inl h0
    · have hlen := h.tr.len
      have hil : i < all.length := by rw [hlen]; exact (List.getElem?_eq_some_iff.1 hi).1
      obtain ⟨r, hr, hst⟩ := h.tr.at (j := i) (o := all[i]) (by simp)
      rw [hi] at hr
      cases hr
      obtain ⟨_, _, h3, h4⟩ := hst
      have hb : p.1 < next + 16 * i + 16 := by
        cases hran : ri.ran with
        | true =>
          have := (h3 hran).2
          unfold below at this
          have := List.all_eq_true.1 this p hp
          have := Nat.le_of_ble_eq_true this
          omega
        | false =>
          rw [(h4 hran).2.1] at hp
          cases hp
      exact .inr ⟨i, ri, Nat.le_refl _, hi, ⟨p, hp, rfl⟩, h0, hb⟩
    · rcases ih i' h1 ri' h2 q hq with h3 | ⟨i0, r0, h4, h5, h6, h7, h8⟩
      · exact .inl (he ▸ h3)
      · exact .inr ⟨i0, r0, by omega, h5, by rw [← he]; exact h6, by omega, by omega⟩

end Go.Sx
namespace Go.Sx
open Go
variable {G : Nat → Obj → Prop} {P : Program} {E : Env} {K : Callee} {C : Ctx}

theorem sees_opnd {all : List Oper} {o : Oper} {t : Nat} (h : .tmp t ∈ o.op.operands) : t ∈ sees all o := by
  unfold sees
  refine List.mem_append_left _ (List.mem_flatMap.2 ⟨.tmp t, by simpa using h, by simp [opnd]⟩)

theorem wants_congr {all : List Oper} {lk lk' : Look} {o : Oper} (h : ∀ t ∈ sees all o, lk' t = lk t) : wants all lk' o = wants all lk o := by
  unfold wants
  cases hg : o.guard with
  | none => rfl
  | some gw =>
    obtain ⟨j, want⟩ := gw
    simp only
    cases hd : slotOf all j with
    | none => rfl
    | some d =>
      simp only
      rw [h d (by simp [sees, guardSlot, hg, hd])]

theorem evalO_congr {all : List Oper} {lk lk' : Look} {o : Oper} (h : ∀ t ∈ sees all o, lk' t = lk t) : ∀ x ∈ o.op.operands, evalO lk' x = evalO lk x := fun x hx => by
  cases x with
  | tmp t => exact h t (sees_opnd hx)
  | _ => rfl

theorem StepIs.frame {all : List Oper} {lk lk' : Look} {m m' : Get} {id : Nat} {o : Oper} {r : Rec} (h : StepIs E P G all lk m id o r) (hl : ∀ t ∈ sees all o, lk' t = lk t)
    (hg : ∀ b ∈ r.rd, m' b = m b) (hw : ∀ p ∈ r.wr, m' p.1 = m p.1) : StepIs E P G all lk' m' id o r :=
  ⟨h.1, by rw [wants_congr hl]; exact h.2.1, fun hr => ⟨(h.2.2.1 hr).1.frame (evalO_congr hl) hg hw, (h.2.2.1 hr).2⟩, h.2.2.2⟩

def setS (S : Nat → Bool) (j : Nat) : Nat → Bool := fun i => if i = j then true else S i

/-- an operation comes up -/
theorem drawn_step {all : List Oper} {next : Nat} {lk0 : Look} {m0 : Get} {rs : List Rec} (hT : TrOK E P G all next lk0 m0 rs) (hs : SlotsOK all) {S : Nat → Bool} (hd : down all S) {j : Nat} {o : Oper} (hj : all[j]? = some o)
    (hSj : S j = false) (he : ∀ e ∈ o.after, Region.binds .any e = true → S e.on = true) (hSl : ∀ i, S i = true → i < all.length) :
    ∃ r, rs[j]? = some r ∧ StepIs E P G all (lkF S rs 0 lk0) (mF S rs 0 m0) (next + 16 * j) o r ∧ (∀ k, next + 16 * j ≤ k → k < next + 16 * j + 16 → mF S rs 0 m0 k = none) ∧
      lkF (setS S j) rs 0 lk0 = putL (lkF S rs 0 lk0) r.dst r.v ∧ mF (setS S j) rs 0 m0 = applyM (mF S rs 0 m0) r.wr := by
  have hlen := hT.tr.len
  obtain ⟨r, hr, hst⟩ := hT.tr.at hj
  simp only [Nat.zero_add] at hst
  have hop : ∀ (i : Nat) (ri : Rec), rs[i]? = some ri → ∃ oi, all[i]? = some oi ∧ ri.dst = oi.dst := fun i ri hi => by
    have hil : i < all.length := by rw [hlen]; exact (List.getElem?_eq_some_iff.1 hi).1
    obtain ⟨r', hr', hst'⟩ := hT.tr.at (j := i) (o := all[i]) (by simp)
    rw [hi] at hr'
    cases hr'
    exact ⟨all[i], by simp, hst'.1⟩
  -- whoever came, though later in the text, does not depend on j
  have late : ∀ (i : Nat), S i = true → j < i → bitAt (befs all []) i j = false := fun i hi hji => by
    cases hb : bitAt (befs all []) i j with
    | false => rfl
    | true =>
      have hil := hSl i hi
      have := bit_in hs hd i all[i] (by simp) (fun e he hb => hd i all[i] (by simp) hi e he hb) hb
      rw [hSj] at this
      cases this
  have early : ∀ (i : Nat), S i = false → bitAt (befs all []) j i = false := fun i hi => by
    cases hb : bitAt (befs all []) j i with
    | false => rfl
    | true =>
      have := bit_in hs hd j o hj he hb
      rw [hi] at this
      cases this
  have hne : ∀ i, S (0 + i) ≠ (fun x => decide (x < j)) (0 + i) → (S i = true ∧ j < i) ∨ (S i = false ∧ i < j) := fun i h => by
    simp only [Nat.zero_add] at h
    cases hSi : S i with
    | true =>
      rw [hSi] at h
      have : ¬ i < j := fun hh => h (by simp [hh])
      have : i ≠ j := fun e => by rw [e, hSj] at hSi; cases hSi
      exact .inl ⟨rfl, by omega⟩
    | false =>
      rw [hSi] at h
      have : i < j := by
        rcases Nat.lt_or_ge i j with hh | hh
        · exact hh
        · exact (h (by simp; omega)).elim
      exact .inr ⟨rfl, this⟩
  have hl : ∀ t ∈ sees all o, lkF S rs 0 lk0 t = lkF (fun x => decide (x < j)) rs 0 lk0 t := fun t ht => by
    refine lkF_agree rs 0 lk0 lk0 (fun i ri hi hh hdst => ?_) rfl
    obtain ⟨oi, hoi, hdi⟩ := hop i ri hi
    rw [hdi] at hdst
    rcases hne i hh with ⟨h1, h2⟩ | ⟨h1, h2⟩
    · exact (hs.apart j i o oi hj hoi h2 (late i h1 h2)).2 t hdst ht
    · exact ((hs.apart i j oi o hoi hj h2 (early i h1)).1 t hdst).1 ht
  have hm : ∀ b, (b ∈ r.rd ∨ b ∈ r.wr.map (·.1)) → mF S rs 0 m0 b = mF (fun x => decide (x < j)) rs 0 m0 b := fun b hb => by
    refine mF_agree rs 0 m0 m0 (fun i ri hi hh p hp hpb => ?_) rfl
    have hbi : b ∈ ri.wr.map (·.1) := List.mem_map.2 ⟨p, hp, hpb⟩
    rcases hne i hh with ⟨h1, h2⟩ | ⟨h1, h2⟩
    · have := hT.clash j i r ri h2 hr hi ⟨b, hb.elim (fun h => .inr ⟨h, hbi⟩) (fun h => .inl ⟨h, .inr hbi⟩)⟩
      rw [late i h1 h2] at this
      cases this
    · have := hT.clash i j ri r h2 hi hr ⟨b, .inl ⟨hbi, hb⟩⟩
      rw [early i h1] at this
      cases this
  refine ⟨r, hr, hst.frame hl (fun b hb => hm b (.inl hb)) (fun p hp => hm p.1 (.inr (List.mem_map.2 ⟨p, hp, rfl⟩))), fun k hk1 hk2 => ?_, ?_, ?_⟩
  · have : mF S rs 0 m0 k = mF (fun _ => false) rs 0 m0 k := by
      refine mF_agree rs 0 m0 m0 (fun i ri hi hh p hp hpb => ?_) rfl
      simp only [Nat.zero_add, ne_eq, Bool.not_eq_false] at hh
      rcases hT.whose i ri hi p hp with h0 | ⟨i0, r0, h1, h2, ⟨q, hq, hqp⟩, h4, h5⟩
      · omega
      · have : i0 = j := by omega
        subst this
        rw [hr] at h2
        cases h2
        have hij : i ≠ i0 := fun e => by rw [e, hSj] at hh; cases hh
        have hlt : i0 < i := by omega
        have := hT.clash i0 i r ri hlt hr hi ⟨p.1, .inl ⟨List.mem_map.2 ⟨q, hq, hqp⟩, .inr (List.mem_map.2 ⟨p, hp, rfl⟩)⟩⟩
        rw [late i hh hlt] at this
        cases this
    rw [this, mF_none _ _ _ (by simp)]
    exact hT.free k (by omega)
  · refine lkF_ins rs 0 j lk0 r hr (by simpa using hSj) (by simp [setS]) (fun i hi => by simp only [setS]; rw [if_neg (by omega)]) fun i r' hi hlt hSi t ht hdt => ?_
    simp only [Nat.zero_add] at hSi
    obtain ⟨oi, hoi, hdi⟩ := hop i r' hi
    rw [hdi] at hdt
    rw [hst.1] at ht
    exact ((hs.apart j i o oi hj hoi hlt (late i hSi hlt)).1 t ht).2 hdt
  · refine mF_ins rs 0 j m0 r hr (by simpa using hSj) (by simp [setS]) (fun i hi => by simp only [setS]; rw [if_neg (by omega)]) fun i r' hi hlt hSi p hp q hq hqp => ?_
    simp only [Nat.zero_add] at hSi
    have := hT.clash j i r r' hlt hr hi ⟨p.1, .inl ⟨List.mem_map.2 ⟨p, hp, rfl⟩, .inr (List.mem_map.2 ⟨q, hq, hqp⟩)⟩⟩
    rw [late i hSi hlt] at this
    cases this

theorem countP_setS {S : Nat → Bool} {j n : Nat} (hj : j < n) (hS : S j = false) : (List.range n).countP (setS S j) = (List.range n).countP S + 1 := by
  induction n with
  | zero => omega
  | succ n ih =>
    rw [List.range_succ, List.countP_append, List.countP_append]
    by_cases h : j = n
    · subst h
      have : (List.range j).countP (setS S j) = (List.range j).countP S := List.countP_congr fun x hx => by
        have := List.mem_range.1 hx
        simp only [setS]
        rw [if_neg (by omega)]
      rw [this]
      simp [setS, hS]
    · rw [ih (by omega)]
      have : setS S j n = S n := by simp only [setS]; rw [if_neg (by omega)]
      simp only [List.countP_cons, List.countP_nil, this]
      omega

/-- a region whose order is drawn: whatever comes up, all comes out the same -/
theorem drawn_wp (hE : EnvOK E P) {ops : Array Oper} {next : Nat} {lk0 : Look} {m0 : Get} {rs : List Rec} (hT : TrOK E P G ops.toList next lk0 m0 rs) (hs : SlotsOK ops.toList) {Q : Exit → Act → World → Prop} {C0 : Ctx} (hG : C0.gl = G) {n : Nat} {ds : List Deferred}
    (hdst : ∀ o ∈ ops.toList, ∀ t, o.dst = some t → t < n)
    (hQ : ∀ C' a', SR C' a' (lkF (fun _ => true) rs 0 lk0) (mF (fun _ => true) rs 0 m0) → Ext C0 C' → a'.tmps.size = n → a'.defers = ds → Q .normal a' C'.w) :
    ∀ (fuel : Nat) (listed : Array Bool) (C : Ctx) (a : Act), listed.size = ops.size → down ops.toList (fun i => listed.getD i false) → ops.size ≤ fuel + (List.range ops.size).countP (fun i => listed.getD i false) →
      SR C a (lkF (fun i => listed.getD i false) rs 0 lk0) (mF (fun i => listed.getD i false) rs 0 m0) → Ext C0 C → a.tmps.size = n → a.defers = ds → wpAny P .any ops Q fuel listed a C.w := by
  have hlen : ops.size = rs.length := by have := hT.tr.len; simpa using this
  have done : ∀ (listed : Array Bool) (C : Ctx) (a : Act), (∀ i, i < ops.size → listed.getD i false = true) → SR C a (lkF (fun i => listed.getD i false) rs 0 lk0) (mF (fun i => listed.getD i false) rs 0 m0) → Ext C0 C → a.tmps.size = n → a.defers = ds → Q .normal a C.w := by
    intro listed C a hall hr hE0 hsz hds
    rw [lkF_ext (S' := fun _ => true) rs 0 lk0 fun i hi => by simp only [Nat.zero_add]; exact hall i (by omega), mF_ext (S' := fun _ => true) rs 0 m0 fun i hi => by simp only [Nat.zero_add]; exact hall i (by omega)] at hr
    exact hQ C a hr hE0 hsz hds
  have ready_nil : ∀ (listed : Array Bool), listed.size = ops.size → Region.ready .any ops listed = [] → ∀ i, i < ops.size → listed.getD i false = true := by
    intro listed hls hrn i
    induction i using Nat.strongRecOn with
    | _ i ih =>
      intro hi
      cases hli : listed.getD i false with
      | true => rfl
      | false =>
        exfalso
        have hmem : i ∈ Region.ready .any ops listed := by
          rw [mem_ready]
          refine ⟨?_, ops[i], by simp [hi], fun e he hb => ?_⟩
          · have : i < listed.size := by omega
            simpa [Array.getD_eq_getD_getElem?, this] using hli
          · have := hs.edge i ops[i] (by simp [hi]) e he hb
            exact ih e.on this (by omega)
        rw [hrn] at hmem
        cases hmem
  intro fuel
  induction fuel with
  | zero =>
    intro listed C a hls hd hc hr hE0 hsz hds
    have hall : ∀ i, i < ops.size → listed.getD i false = true := by
      intro i hi
      have h1 : (List.range ops.size).countP (fun i => listed.getD i false) = (List.range ops.size).length := by
        have := List.countP_le_length (p := fun i => listed.getD i false) (l := List.range ops.size)
        simp only [List.length_range] at this ⊢
        omega
      exact List.countP_eq_length.1 h1 i (List.mem_range.2 hi)
    refine ⟨?_, done listed C a hall hr hE0 hsz hds⟩
    cases hre : Region.ready .any ops listed with
    | nil => rfl
    | cons x xs =>
      have hx : x ∈ Region.ready .any ops listed := by rw [hre]; simp
      obtain ⟨h1, o, ho, _⟩ := mem_ready.1 hx
      have hxs : x < ops.size := (Array.getElem?_eq_some_iff.1 ho).1
      have := hall x hxs
      have hxl : x < listed.size := by omega
      simp [Array.getD_eq_getD_getElem?, hxl] at h1 this
      rw [h1] at this
      cases this
  | succ fuel ih =>
    intro listed C a hls hd hc hr hE0 hsz hds
    refine ⟨fun hre => done listed C a (ready_nil listed hls hre) hr hE0 hsz hds, fun j hj => ?_⟩
    obtain ⟨h1, o, ho, hedges⟩ := mem_ready.1 hj
    have hjs : j < ops.size := (Array.getElem?_eq_some_iff.1 ho).1
    have hjl : j < listed.size := by omega
    have hSj : listed.getD j false = false := by simpa [Array.getD_eq_getD_getElem?, hjl] using h1
    have hol : ops.toList[j]? = some o := by simpa using ho
    obtain ⟨r, hrj, hst, hfree, hlk, hmm⟩ := drawn_step hT hs hd hol hSj hedges (fun i hi => by
      rcases Nat.lt_or_ge i listed.size with h | h
      · simp; omega
      · simp [Array.getD_eq_getD_getElem?, Array.getElem?_eq_none h] at hi)
    have hS' : (fun i => (listed.setIfInBounds j true).getD i false) = setS (fun i => listed.getD i false) j := by
      funext i
      simp only [setS]
      by_cases hij : i = j
      · subst hij; simp [Array.getD_eq_getD_getElem?, hjl]
      · rw [if_neg hij, getD_set_ne false (Ne.symm hij)]
    have hom : o ∈ ops.toList := List.mem_of_getElem? hol
    refine step_wp hE (hE0.glEq.trans hG) hst hr hfree (fun t ht => by rw [hsz]; exact hdst o hom t ht) ho fun C' a' hr' hE' hsz' hds' => ?_
    refine ih _ C' a' (by simpa using hls) ?_ ?_ ?_ (hE0.trans hE') (hsz'.trans hsz) (hds'.trans hds)
    · rw [hS']
      intro i oi hi hSi e he hb
      simp only [setS] at hSi ⊢
      split at hSi
      · rename_i hij
        subst hij
        rw [hol] at hi
        cases hi
        split
        · rfl
        · exact hedges e he hb
      · split
        · rfl
        · exact hd i oi hi hSi e he hb
    · rw [hS', countP_setS hjs hSj]
      omega
    · rw [hS', hlk, hmm]
      exact hr'
end Go.Sx
namespace Go.Sx
open Go
variable {G : Nat → Obj → Prop} {P : Program} {E : Env} {K : Callee} {C : Ctx} {R : Type}

/-- the entries of a run -/
def entOf (i : Nat) (r : Rec) : List Ent :=
  match r.wr, r.rd with
  | [], [] => []
  | wr, rd => [⟨i, rd, wr.map (·.1)⟩]
def ents : Nat → List Rec → List Ent
  | _, [] => []
  | i, r :: rs => entOf i r ++ ents (i + 1) rs

theorem entOf_mem {i : Nat} {r : Rec} (h : r.wr ≠ [] ∨ r.rd ≠ []) : entOf i r = [⟨i, r.rd, r.wr.map (·.1)⟩] := by
  unfold entOf
  split
  · rename_i h1 h2; simp_all
  · rfl

/-- the guard of an operation -/
theorem guard_cases {all : List Oper} {o : Oper} {st : St} {go skip : St → Rs R} {pos : Nat} {r : R}
    (h : (match o.guard with
    | none => go st
    | some (j, want) => match slotOf all j with
      | none => .err pos
      | some d => match look st.tmps d with
        | .bool b => (match b with
          | true => (match want with
            | true => go { st with tmps := (d, .bool true) :: st.tmps }
            | false => skip { st with tmps := (d, .bool true) :: st.tmps })
          | false => (match want with
            | true => skip { st with tmps := (d, .bool false) :: st.tmps }
            | false => go { st with tmps := (d, .bool false) :: st.tmps }))
        | .tup [] => skip st
        | _ => .err pos) = .ok r) :
    ∃ st' : St, look st'.tmps = look st.tmps ∧ st'.blks = st.blks ∧ st'.next = st.next ∧ ((wants all (look st.tmps) o = some true ∧ go st' = .ok r) ∨ (wants all (look st.tmps) o = some false ∧ skip st' = .ok r)) := by
  have same : ∀ {d b}, look st.tmps d = .bool b → look ((d, AV.bool b) :: st.tmps) = look st.tmps := fun {d b} hb => by
    rw [look_cons]
    funext j
    simp only [putL]
    split
    · rename_i e; rw [← e, hb]
    · rfl
  unfold wants
  split at h
  · rename_i hg
    exact ⟨st, rfl, rfl, rfl, .inl ⟨by simp [hg], h⟩⟩
  · rename_i j want hg
    try simp only [hg]
    split at h
    · cases h
    · rename_i d hd
      try simp only [hd]
      split at h
      · rename_i b hb
        try simp only [hb]
        split at h
        · split at h
          · exact ⟨{ st with tmps := (d, .bool true) :: st.tmps }, same hb, rfl, rfl, .inl ⟨rfl, h⟩⟩
          · exact ⟨{ st with tmps := (d, .bool true) :: st.tmps }, same hb, rfl, rfl, .inr ⟨rfl, h⟩⟩
        · split at h
          · exact ⟨{ st with tmps := (d, .bool false) :: st.tmps }, same hb, rfl, rfl, .inr ⟨rfl, h⟩⟩
          · exact ⟨{ st with tmps := (d, .bool false) :: st.tmps }, same hb, rfl, rfl, .inl ⟨rfl, h⟩⟩
      · rename_i hb
        try simp only [hb]
        exact ⟨st, rfl, rfl, rfl, .inr ⟨trivial, h⟩⟩
      · cases h

theorem execO_cases (hK : KOK P G K) {lk : Look} {get : Get} {id : Nat} {o : Oper} {e : Nat} {kn : AV → Wr → List Nat → Rs R} {kp : AV → Rs R} {r : R} (hp : ∀ v, kp v ≠ .ok r) (h : execO E K lk get id o e kn kp = .ok r) :
    ∃ v wr rd, kn v wr rd = .ok r ∧ below wr (id + 16) = true ∧ ExecIs E P G lk get id o v wr rd := by
  unfold execO at h
  split at h
  · rename_i f as ts ho
    split at h
    · rename_i f' cap hf
      obtain ⟨out, wr, rd, h, hdc⟩ := doCall_is hK h
      split at h
      · rename_i v
        split at h
        · rename_i hb
          exact ⟨v, wr, rd, h, hb, by unfold ExecIs; rw [ho]; exact ⟨f', cap, hf, hdc⟩⟩
        · cases h
      · exact (hp _ h).elim
    · cases h
  · split at h
    · split at h
      · exact (hp _ h).elim
      · cases h
    · cases h
  · rename_i op h1 h2
    obtain ⟨rr, hrun, hk⟩ := bindK_ok h
    split at hk
    · rename_i hb
      refine ⟨rr.v, rr.wr, rr.rd, hk, hb, ?_⟩
      unfold ExecIs
      split
      · rename_i f as ts ho; exact (h1 _ _ _ ho).elim
      · rename_i x ho; exact (h2 _ ho).elim
      · exact hrun
    · cases hk

def keysR (next i : Nat) (es : List Ent) (r : Rec) : Prop := r.wr = [] ∨ keysOk next (next + 16 * i) es r.wr = true

def keysAll (next : Nat) : Nat → List Ent → List Rec → Prop
  | _, _, [] => True
  | i, es, r :: rs => keysR next i es r ∧ keysAll next (i + 1) (entOf i r ++ es) rs

/-- what the machine's run of a region says -/
theorem evOpsD_tr (hK : KOK P G K) {rid : Nat} {all : List Oper} {bf : List Nat} {kn : St → Rs R} {r : R} : ∀ (os : List Oper) (i : Nat) (st : St) (es : List Ent), evOpsD E K rid all bf os i st es kn = .ok r →
    ∃ rs st', Tr E P G all st.next i (look st.tmps) (getB st.blks) os rs ∧ keysAll st.next i es rs ∧ noClash bf ((ents i rs).reverse ++ es).reverse = true ∧
      look st'.tmps = lkF (fun _ => true) rs i (look st.tmps) ∧ getB st'.blks = mF (fun _ => true) rs i (getB st.blks) ∧ st'.next = st.next + 16 * (i + os.length) ∧ kn st' = .ok r
  | [], i, st, es, h => by
    simp only [evOpsD] at h
    split at h
    · rename_i hc
      exact ⟨[], { st with next := st.next + 16 * i }, trivial, trivial, by simpa [ents] using hc, rfl, rfl, rfl, h⟩
    · cases h
  | o :: os, i, st, es, h => by
    simp only [evOpsD] at h
    obtain ⟨st1, h1, h2, h3, h4⟩ := guard_cases (o := o) (all := all) (pos := 5)
      (go := fun st => execO E K (look st.tmps) (getB st.blks) (st.next + 16 * i) o (rid * 100 + i)
        (fun v wr rd => match keysOk st.next (st.next + 16 * i) es wr with
          | true => evOpsD E K rid all bf os (i + 1) { tmps := putT st.tmps o.dst v, blks := applyWr st.blks wr, next := st.next }
            (match wr, rd with | [], [] => es | wr, rd => ⟨i, rd, wr.map (·.1)⟩ :: es) kn
          | false => .err 7)
        (fun _ => .err 8))
      (skip := fun st => evOpsD E K rid all bf os (i + 1) { st with tmps := putT st.tmps o.dst (.tup []) } es kn) h
    rcases h4 with ⟨hw, h4⟩ | ⟨hw, h4⟩
    · obtain ⟨v, wr, rd, hk, hb, hx⟩ := execO_cases hK (by simp) h4
      split at hk
      · rename_i hko
        obtain ⟨rs, st', e1, e2, e3, e4, e5, e6, e7⟩ := evOpsD_tr hK os (i + 1) _ _ hk
        refine ⟨⟨o.dst, true, v, wr, rd⟩ :: rs, st', ⟨⟨rfl, hw, fun _ => ⟨by rw [h1, h2, h3] at hx; exact hx, by rw [← h3]; exact hb⟩, by simp⟩, ?_⟩, ⟨.inr (by rw [h3] at hko; exact hko), ?_⟩, ?_, ?_, ?_, ?_, e7⟩
        · rw [look_put, getB_apply, h1, h2] at e1
          rw [h3] at e1
          exact e1
        · rw [h3] at e2
          unfold entOf
          simp only
          split at e2
          · exact e2
          · exact e2
        · unfold ents
          unfold entOf
          simp only
          split at e3
          · simpa using e3
          · simpa using e3
        · rw [e4, look_put, h1]; simp only [lkF, if_true]
        · rw [e5, getB_apply, h2]; simp only [mF, if_true]
        · rw [e6]; simp only [h3, List.length_cons]; omega
      · cases hk
    · obtain ⟨rs, st', e1, e2, e3, e4, e5, e6, e7⟩ := evOpsD_tr hK os (i + 1) _ _ h4
      refine ⟨⟨o.dst, false, .tup [], [], []⟩ :: rs, st', ⟨⟨rfl, hw, by simp, by simp⟩, ?_⟩, ⟨.inl rfl, ?_⟩, ?_, ?_, ?_, ?_, e7⟩
      · rw [look_put, h1] at e1
        simp only [h2, h3] at e1
        exact e1
      · simp only [h3] at e2
        exact e2
      · exact e3
      · rw [e4, look_put, h1]; simp only [lkF, if_true]
      · rw [e5]; simp only [mF, if_true, h2]; rfl
      · rw [e6]; simp only [h3, List.length_cons]; omega

theorem ents_mem {e : Ent} : ∀ (rs : List Rec) (i : Nat), e ∈ ents i rs ↔ ∃ j r, rs[j]? = some r ∧ e ∈ entOf (i + j) r
  | [], i => by simp [ents]
  | r :: rs, i => by
    simp only [ents, List.mem_append, ents_mem rs (i + 1)]
    constructor
    · rintro (h | ⟨j, r', h1, h2⟩)
      · exact ⟨0, r, by simp, h⟩
      · exact ⟨j + 1, r', by simpa using h1, by rwa [show i + (j + 1) = i + 1 + j by omega]⟩
    · rintro ⟨j, r', h1, h2⟩
      cases j with
      | zero =>
        simp only [List.getElem?_cons_zero, Option.some.injEq] at h1
        subst h1
        exact .inl h2
      | succ j => exact .inr ⟨j, r', by simpa using h1, by rwa [show i + 1 + j = i + (j + 1) by omega]⟩

theorem noClash_pair {bf : List Nat} : ∀ {l : List Ent}, noClash bf l = true → l.Pairwise fun e d => e.clash d = true → bitAt bf d.i e.i = true
  | [], _ => .nil
  | e :: l, h => by
    simp only [noClash, Bool.and_eq_true, List.all_eq_true, Bool.or_eq_true, Bool.not_eq_true'] at h
    refine .cons (fun d hd hc => ?_) (noClash_pair h.2)
    rcases h.1 d hd with h0 | h0
    · rw [hc] at h0; cases h0
    · exact h0

theorem ents_pair {Q : Ent → Ent → Prop} : ∀ {rs : List Rec} {k : Nat}, (ents k rs).Pairwise Q → ∀ (i j : Nat) (ri rj : Rec) (ei ej : Ent), i < j → rs[i]? = some ri → rs[j]? = some rj → ei ∈ entOf (k + i) ri → ej ∈ entOf (k + j) rj → Q ei ej
  | [], _, _, i, j, ri, rj, ei, ej, _, hi, _, _, _ => by simp at hi
  | r :: rs, k, h, 0, j, ri, rj, ei, ej, hlt, hi, hj, he, he' => by
    obtain ⟨j', rfl⟩ : ∃ j', j = j' + 1 := ⟨j - 1, by omega⟩
    simp only [List.getElem?_cons_zero, Option.some.injEq] at hi
    subst hi
    simp only [ents, List.pairwise_append] at h
    exact h.2.2 ei he ej ((ents_mem rs (k + 1)).2 ⟨j', rj, by simpa using hj, by rwa [show k + 1 + j' = k + (j' + 1) by omega]⟩)
  | r :: rs, k, h, i + 1, j, ri, rj, ei, ej, hlt, hi, hj, he, he' => by
    obtain ⟨j', rfl⟩ : ∃ j', j = j' + 1 := ⟨j - 1, by omega⟩
    simp only [ents, List.pairwise_append] at h
    exact ents_pair h.2.1 i j' ri rj ei ej (by omega) (by simpa using hi) (by simpa using hj) (by rwa [show k + 1 + i = k + (i + 1) by omega]) (by rwa [show k + 1 + j' = k + (j' + 1) by omega])

theorem keysAll_at {next : Nat} : ∀ {rs : List Rec} {k : Nat} {es : List Ent}, keysAll next k es rs → ∀ (i : Nat) (ri : Rec), rs[i]? = some ri → ∃ es', keysR next (k + i) es' ri ∧ ∀ e ∈ es', e ∈ es ∨ ∃ i' r', i' < i ∧ rs[i']? = some r' ∧ e ∈ entOf (k + i') r'
  | [], _, _, _, i, ri, hi => by simp at hi
  | r :: rs, k, es, h, 0, ri, hi => by
    simp only [List.getElem?_cons_zero, Option.some.injEq] at hi
    subst hi
    exact ⟨es, h.1, fun e he => .inl he⟩
  | r :: rs, k, es, h, i + 1, ri, hi => by
    obtain ⟨es', h1, h2⟩ := keysAll_at h.2 i ri (by simpa using hi)
    refine ⟨es', by rwa [show k + (i + 1) = k + 1 + i by omega], fun e he => ?_⟩
    rcases h2 e he with h3 | ⟨i', r', h3, h4, h5⟩
    · rcases List.mem_append.1 h3 with h3 | h3
      · exact .inr ⟨0, r, by omega, by simp, h3⟩
      · exact .inl h3
    · exact .inr ⟨i' + 1, r', by omega, by simpa using h4, by rwa [show k + (i' + 1) = k + 1 + i' by omega]⟩

theorem evOpsD_ok (hK : KOK P G K) {rid : Nat} {all : List Oper} {kn : St → Rs R} {r : R} {st : St} (hfree : ∀ k, st.next ≤ k → getB st.blks k = none) (h : evOpsD E K rid all (befs all []) all 0 st [] kn = .ok r) :
    ∃ rs st', TrOK E P G all st.next (look st.tmps) (getB st.blks) rs ∧ look st'.tmps = lkF (fun _ => true) rs 0 (look st.tmps) ∧ getB st'.blks = mF (fun _ => true) rs 0 (getB st.blks) ∧ st'.next = st.next + 16 * all.length ∧ kn st' = .ok r := by
  obtain ⟨rs, st', e1, e2, e3, e4, e5, e6, e7⟩ := evOpsD_tr hK all 0 st [] h
  refine ⟨rs, st', ⟨e1, ?_, ?_, hfree⟩, e4, e5, by simpa using e6, e7⟩
  · simp only [List.append_nil, List.reverse_reverse] at e3
    have hp := noClash_pair e3
    intro i j ri rj hlt hi hj ⟨k, hk⟩
    have hi' : ri.wr ≠ [] ∨ ri.rd ≠ [] := by
      rcases hk with ⟨h1, _⟩ | ⟨h1, _⟩
      · left; intro e; rw [e] at h1; simp at h1
      · right; intro e; rw [e] at h1; simp at h1
    have hj' : rj.wr ≠ [] ∨ rj.rd ≠ [] := by
      rcases hk with ⟨_, h1 | h1⟩ | ⟨_, h1⟩
      · right; intro e; rw [e] at h1; simp at h1
      · left; intro e; rw [e] at h1; simp at h1
      · left; intro e; rw [e] at h1; simp at h1
    have := ents_pair hp i j ri rj _ _ hlt hi hj (by rw [entOf_mem hi']; exact List.mem_singleton.2 rfl) (by rw [entOf_mem hj']; exact List.mem_singleton.2 rfl)
    simp only [Nat.zero_add] at this
    refine this ?_
    unfold Ent.clash
    simp only [Bool.or_eq_true]
    rcases hk with ⟨h1, h2 | h2⟩ | ⟨h1, h2⟩
    · exact .inl (meets_iff.2 ⟨k, h1, h2⟩)
    · exact .inr (.inl (meets_iff.2 ⟨k, h1, h2⟩))
    · exact .inr (.inr (meets_iff.2 ⟨k, h1, h2⟩))
  · intro i ri hi p hp
    obtain ⟨es', h1, h2⟩ := keysAll_at e2 i ri hi
    simp only [Nat.zero_add] at h1 h2
    rcases h1 with h1 | h1
    · rw [h1] at hp; cases hp
    · unfold keysOk at h1
      have := List.all_eq_true.1 h1 p hp
      simp only [Bool.or_eq_true] at this
      rcases this with h3 | h3 | h3
      · exact .inl (Nat.le_of_ble_eq_true h3)
      · exact .inr (.inl (Nat.le_of_ble_eq_true h3))
      · obtain ⟨e, he, hb⟩ := List.any_eq_true.1 h3
        have hb := any_beq.1 hb
        rcases h2 e he with h4 | ⟨i', r', h4, h5, h6⟩
        · cases h4
        · refine .inr (.inr ⟨i', r', h4, h5, ?_⟩)
          by_cases hn : r'.wr ≠ [] ∨ r'.rd ≠ []
          · rw [entOf_mem hn] at h6
            have := List.mem_singleton.1 h6
            rw [this] at hb
            obtain ⟨q, hq, he⟩ := List.mem_map.1 hb
            exact ⟨q, hq, he⟩
          · simp only [not_or, ne_eq, Decidable.not_not] at hn
            unfold entOf at h6
            rw [hn.1, hn.2] at h6
            cases h6
end Go.Sx
namespace Go.Sx
open Go
variable {G : Nat → Obj → Prop} {P : Program} {E : Env} {K : Callee} {R : Type}

/-- the state of a walk -/
structure StR (C : Ctx) (a : Act) (st : St) (N : Nat) (ds : List Deferred) : Prop where
  r : SR C a (look st.tmps) (getB st.blks)
  free : ∀ k, st.next ≤ k → getB st.blks k = none
  size : a.tmps.size = N
  defers : a.defers = ds

def dstOk (n : Nat) (ops : List Oper) : Bool := ops.all fun o => match o.dst with | some d => Nat.blt d n | none => true
def codeOk (n : Nat) : Code → Bool
  | .region _ ops true => dstOk n ops.toList && slotsOk ops.toList (befs ops.toList [])
  | .region _ ops false => dstOk n ops.toList
  | .seq a b => codeOk n a && codeOk n b
  | .cond _ a b => codeOk n a && codeOk n b
  | .block _ c => codeOk n c
  | .loop c => codeOk n c
  | _ => true

theorem dstOk_spec {n : Nat} {ops : List Oper} (h : dstOk n ops = true) : ∀ o ∈ ops, ∀ t, o.dst = some t → t < n := fun o ho t ht => by
  have := List.all_eq_true.1 h o ho
  simp only [ht] at this
  exact Nat.le_of_ble_eq_true this

theorem below_free {m : Get} {wr : Wr} {n : Nat} (h : below wr n = true) (hm : ∀ k, n ≤ k → m k = none) : ∀ k, n ≤ k → applyM m wr k = none := fun k hk => by
  rw [applyM_none, hm k hk]
  intro p hp
  have := Nat.le_of_ble_eq_true (List.all_eq_true.1 h p hp)
  intro e
  have : p.1 + 1 ≤ n := this
  omega

/-- a region whose order is fixed -/
theorem evOps_wp (hE : EnvOK E P) (hK : KOK P G K) {rid : Nat} {ops : Array Oper} {kn : St → Rs R} {kp : AV → Rs R} {r : R} {Q : Exit → Act → World → Prop} {C0 : Ctx} (hG : C0.gl = G) {N : Nat} {ds : List Deferred} (hdst : ∀ o ∈ ops.toList, ∀ t, o.dst = some t → t < N)
    (hn : ∀ st' C' a', kn st' = .ok r → StR C' a' st' N ds → Ext C0 C' → Q .normal a' C'.w)
    (hp : ∀ v a' w' ch, kp v = .ok r → PanicAt C0 v w' ch → a'.defers = ds → Q (.panic ch) a' w') :
    ∀ (os : List Oper) (i : Nat) (st : St) (C : Ctx) (a : Act), ops.toList.drop i = os → evOps E K rid ops.toList os i st kn kp = .ok r → SR C a (look st.tmps) (getB st.blks) → (∀ k, st.next + 16 * i ≤ k → getB st.blks k = none) →
      a.tmps.size = N → a.defers = ds → Ext C0 C → wpOps P ops Q (List.range' i os.length) a C.w
  | [], i, st, C, a, _, h, hr, hf, hsz, hds, hX => by
    simp only [evOps] at h
    simp only [List.length_nil, List.range'_zero, wpOps]
    exact hn { st with next := st.next + 16 * i } C a h ⟨hr, hf, hsz, hds⟩ hX
  | o :: os, i, st, C, a, ho, h, hr, hf, hsz, hds, hX => by
    have hoi : ops[i]? = some o := by
      have : (ops.toList.drop i)[0]? = some o := by rw [ho]; rfl
      simpa using this
    have hrest : ops.toList.drop (i + 1) = os := by
      have : (ops.toList.drop i).drop 1 = os := by rw [ho]; rfl
      rwa [List.drop_drop] at this
    have hom : o ∈ ops.toList := by
      have : o ∈ ops.toList.drop i := by rw [ho]; simp
      exact List.mem_of_mem_drop this
    have hd : ∀ t, o.dst = some t → t < a.tmps.size := fun t ht => by rw [hsz]; exact hdst o hom t ht
    simp only [evOps] at h
    obtain ⟨st1, h1, h2, h3, h4⟩ := guard_cases (o := o) (all := ops.toList) (pos := 5)
      (go := fun st => execO E K (look st.tmps) (getB st.blks) (st.next + 16 * i) o (rid * 100 + i)
        (fun v wr _ => evOps E K rid ops.toList os (i + 1) { tmps := putT st.tmps o.dst v, blks := applyWr st.blks wr, next := st.next } kn kp) kp)
      (skip := fun st => evOps E K rid ops.toList os (i + 1) { st with tmps := putT st.tmps o.dst (.tup []) } kn kp) h
    have hm := hr.m
    rw [List.length_cons, List.range'_succ]
    simp only [wpOps, hoi]
    rcases h4 with ⟨hw, h4⟩ | ⟨hw, h4⟩
    · rw [if_pos (wants_rel hr.t hw)]
      refine .inl ?_
      unfold Oper.wp
      rw [h1, h2, h3, ← hm] at h4
      have hid : ∀ j, st.next + 16 * i ≤ j → j < st.next + 16 * i + 16 → C.m j = none := fun j hj _ => by rw [hm]; exact hf j hj
      rcases execO_good hE hK (hX.glEq.trans hG) hr.s hr.t hid h4 with ⟨v, wr, rd, hk, hb, hx⟩ | ⟨v, hk, hx⟩
      · refine (hx.does hE (hX.glEq.trans hG) hr.s hr.t hid) a _ Q fun u C' e1 e2 e3 e4 => ?_
        refine evOps_wp hE hK hG hdst hn hp os (i + 1) _ C' _ hrest hk ⟨?_, e2, ?_⟩ (fun k hk => ?_) ((put_size _ _ _).trans hsz) ((put_defers' _ _ _).trans hds) (hX.trans e3)
        · rw [e1, getB_apply, hm]
        · rw [look_put, h1]; exact (hr.t.mono e3).put hd e4
        · simp only [getB_apply]
          have hk' : st.next + 16 * i + 16 ≤ k := by simp only [h3] at hk; omega
          exact below_free hb (fun k hk => hf k (by omega)) k hk'
      · exact hx a _ Q fun w' ch hpa => hp v a w' ch hk (hpa.after hX) hds
    · rw [if_neg (by rw [wants_rel hr.t hw]; simp)]
      refine evOps_wp hE hK hG hdst hn hp os (i + 1) _ C _ hrest h4 ⟨?_, hr.s, ?_⟩ (fun k hk => ?_) ((put_size _ _ _).trans hsz) ((put_defers' _ _ _).trans hds) hX
      · rw [hm]; simp only [h2]
      · rw [look_put, h1]; exact hr.t.put hd undef_rel
      · simp only [h2]; exact hf k (by simp only [h3] at hk; omega)

/-- one order was drawn: nothing else has turned -/
def Ctx.draws (C : Ctx) : Ctx := { C with w := { C.w with drawn := C.w.drawn + 1 } }
theorem Ctx.draws_ext (C : Ctx) : Ext C C.draws where
  cells := fun _ _ cs h => ⟨rfl, cs, h⟩
  lists := fun _ _ _ g sh L h => ⟨g, sh, L, h, Nat.le_refl _, fun _ => ⟨rfl, rfl⟩⟩
  keep := fun _ _ _ h k => ⟨h, k⟩
  frEq := rfl
  glEq := rfl
  frKeep := fun _ _ _ h _ => h
  size := Nat.le_refl _
  old := fun _ _ _ => rfl
  held := fun _ h => .inl h
  own := fun _ _ h => .inl h
  os := rfl
  tape := rfl
  output := rfl
theorem Ctx.draws_ok {C : Ctx} (h : SRel C) : SRel C.draws where
  ok := fun id b hm => (h.ok id b hm).mono C.draws_ext fun _ _ => rfl
  apart := h.apart
  frApart := h.frApart
  frOld := h.frOld
  gl := h.gl

abbrev Post := Exit → Act → World → Prop

/-- what goes on is so -/
structure KS (D : Ctx) (N : Nat) (ds : List Deferred) (k : Ex → St → Rs R) (r : R) (Q : Post) : Prop where
  normal : ∀ st C a, k .normal st = .ok r → StR C a st N ds → Ext D C → Q .normal a C.w
  exit : ∀ id st C a, k (.exit id) st = .ok r → StR C a st N ds → Ext D C → Q (.exit id) a C.w
  ret : ∀ st C a, k .ret st = .ok r → StR C a st N ds → Ext D C → Q .ret a C.w
  panic : ∀ v st a w ch, k (.panic v) st = .ok r → PanicAt D v w ch → a.defers = ds → Q (.panic ch) a w

/-- a loop, from the head of its body on -/
def LoopWp (P : Program) (c : Code) (Q : Exit → Act → World → Prop) (a : Act) (w : World) : Prop :=
  ∀ (b : Frame) (k : List Item) (cs : List Frame), ∃ e a' w', Q e a' w' ∧ Arrives P (lone (b.at a (.code c :: .inLoop c :: k)) cs w) b k cs e a' w'

theorem LoopWp.wp {c : Code} {Q : Exit → Act → World → Prop} {a : Act} {w : World} (h : LoopWp P c Q a w) : (Code.loop c).wp P Q a w := fun b k cs =>
  let ⟨e, a', w', hq, harr⟩ := h b k cs; ⟨e, a', w', hq, .of_steps (.one step_loop) harr⟩

theorem LoopWp.round {c : Code} {Q : Exit → Act → World → Prop} {a : Act} {w : World} (h : c.wp P (Exit.then (LoopWp P c Q) Q) a w) : LoopWp P c Q a w := by
  intro b k cs
  obtain ⟨e, a₁, w₁, hq, harr⟩ := h b (.inLoop c :: k) cs
  cases e with
  | normal =>
    obtain ⟨e₂, a₂, w₂, hq₂, harr₂⟩ := hq b k cs
    exact ⟨e₂, a₂, w₂, hq₂, .of_steps (Steps.trans harr (.one step_inLoop)) harr₂⟩
  | exit id => exact ⟨_, a₁, w₁, hq, .pass (x := .inLoop c) rfl (fun _ _ => .inl (by simp)) harr⟩
  | goto l => exact ⟨_, a₁, w₁, hq, .pass (x := .inLoop c) rfl (fun _ _ => .inl (by simp)) harr⟩
  | ret => exact ⟨_, a₁, w₁, hq, .pass (x := .inLoop c) rfl (fun _ _ => .inl (by simp)) harr⟩
  | panic ch => exact ⟨_, a₁, w₁, hq, .pass (x := .inLoop c) rfl (fun _ _ => .inl (by simp)) harr⟩
  | outgrown => exact ⟨_, a₁, w₁, hq, .pass (x := .inLoop c) rfl (fun _ _ => .inl (by simp)) harr⟩

end Go.Sx
namespace Go.Sx
open Go
variable {G : Nat → Obj → Prop} {P : Program} {E : Env} {K : Callee} {R : Type}

/-- a piece of code that is jumped to -/
def JS (P : Program) (D : Ctx) (N : Nat) (ds : List Deferred) (J : Jump R) (r : R) (j : Nat) (c : Code) (Q : Post) : Prop :=
  ∀ st C a, J j st = .ok r → StR C a st N ds → Ext D C → c.wp P Q a C.w

/-- the pieces within a code, with what comes behind each -/
def CS (P : Program) (X : Nat → Code → Post → Prop) : Code → Nat → Post → Prop
  | .seq a b, p, Q => X (2 * p) a (Exit.then (b.wp P Q) Q) ∧ CS P X a (2 * p) (Exit.then (b.wp P Q) Q) ∧ X (2 * p + 1) b Q ∧ CS P X b (2 * p + 1) Q
  | .cond _ a b, p, Q => X (2 * p) a Q ∧ CS P X a (2 * p) Q ∧ X (2 * p + 1) b Q ∧ CS P X b (2 * p + 1) Q
  | .block id c, p, Q => X (2 * p) c (Exit.inBlock id Q) ∧ CS P X c (2 * p) (Exit.inBlock id Q)
  | .loop c, p, Q => X (2 * p) c (Exit.then (LoopWp P c Q) Q) ∧ CS P X c (2 * p) (Exit.then (LoopWp P c Q) Q)
  | _, _, _ => True

/-- the cuts turn states into states -/
def TurnsOK (D : Ctx) (N : Nat) (ds : List Deferred) (cuts : Cuts) : Prop :=
  ∀ p j f, cuts p = some (j, f) → ∀ st st' C a, f st = some st' → StR C a st N ds → Ext D C → ∃ C', C'.w = C.w ∧ StR C' a st' N ds ∧ Ext D C'

section
variable {D : Ctx} {N : Nat} {ds : List Deferred} {cuts : Cuts} {J : Jump R} {r : R}

/-- all cuts of a code are so -/
def XJ (P : Program) (D : Ctx) (N : Nat) (ds : List Deferred) (cuts : Cuts) (J : Jump R) (r : R) : Nat → Code → Post → Prop :=
  fun q c Q => ∀ j f, cuts q = some (j, f) → JS P D N ds J r j c Q

theorem jump_sound (hT : TurnsOK D N ds cuts) {q : Nat} {c : Code} {Q : Post} (hX : XJ P D N ds cuts J r q c Q) {cc : Nat × (St → Option St)} (hc : cuts q = some cc) {st : St} (h : jumpTo J cc st = .ok r)
    {C : Ctx} {a : Act} (hr : StR C a st N ds) (hE : Ext D C) : c.wp P Q a C.w := by
  obtain ⟨j, f⟩ := cc
  unfold jumpTo at h
  split at h
  · rename_i st' hf
    obtain ⟨C', h1, h2, h3⟩ := hT q j f hc st st' C a hf hr hE
    rw [← h1]
    exact hX j f hc st' C' a h h2 h3
  · cases h

theorem enter_sound (hT : TurnsOK D N ds cuts) {q : Nat} {c : Code} {Q : Post} (hX : XJ P D N ds cuts J r q c Q) {x : Ev R} {k : Ex → St → Rs R}
    (ih : ∀ st C a, x q st k = .ok r → StR C a st N ds → Ext D C → c.wp P Q a C.w) {st : St} (h : enter cuts J x q st k = .ok r)
    {C : Ctx} {a : Act} (hr : StR C a st N ds) (hE : Ext D C) : c.wp P Q a C.w := by
  unfold enter at h
  split at h
  · rename_i cc hc; exact jump_sound hT hX hc h hr hE
  · exact ih st C a h hr hE

theorem seqK_sound {b : Ev R} {p : Nat} {k : Ex → St → Rs R} {Q : Post} (hk : KS D N ds k r Q) {next : Act → World → Prop}
    (hb : ∀ st C a, b p st k = .ok r → StR C a st N ds → Ext D C → next a C.w) : KS D N ds (seqK b p k) r (Exit.then next Q) where
  normal := fun st C a h hr hE => hb st C a h hr hE
  exit := fun id st C a h hr hE => hk.exit id st C a h hr hE
  ret := fun st C a h hr hE => hk.ret st C a h hr hE
  panic := fun v st a w ch h hp hd => hk.panic v st a w ch h hp hd

theorem blockK_sound {id : Nat} {k : Ex → St → Rs R} {Q : Post} (hk : KS D N ds k r Q) : KS D N ds (blockK id k) r (Exit.inBlock id Q) where
  normal := fun st C a h hr hE => hk.normal st C a h hr hE
  exit := fun j st C a h hr hE => by
    simp only [blockK] at h
    simp only [Exit.inBlock]
    split at h
    · rename_i e
      rw [if_pos (beq_eq e)]
      exact hk.normal st C a h hr hE
    · rename_i e
      rw [if_neg (fun hh => by subst hh; simp at e)]
      exact hk.exit j st C a h hr hE
  ret := fun st C a h hr hE => hk.ret st C a h hr hE
  panic := fun v st a w ch h hp hd => hk.panic v st a w ch h hp hd

/-- what the machine says of a piece of code is so -/
theorem ev_sound (hE : EnvOK E P) (hK : KOK P G K) (hG : D.gl = G) (hT : TurnsOK D N ds cuts) : ∀ (c : Code) (p : Nat) (Q : Post) (k : Ex → St → Rs R) (st : St) (C : Ctx) (a : Act),
    codeOk N c = true → CS P (XJ P D N ds cuts J r) c p Q → KS D N ds k r Q → ev E K cuts J c p st k = .ok r → StR C a st N ds → Ext D C → c.wp P Q a C.w := by
  intro c
  induction c with
  | skip => intro p Q k st C a _ _ hk h hr hX; exact wp_skip (hk.normal st C a h hr hX)
  | ret => intro p Q k st C a _ _ hk h hr hX; exact wp_ret (hk.ret st C a h hr hX)
  | exit id => intro p Q k st C a _ _ hk h hr hX; exact wp_exit (hk.exit id st C a h hr hX)
  | seq x y ihx ihy =>
    intro p Q k st C a hc hcs hk h hr hX
    simp only [codeOk, Bool.and_eq_true] at hc
    obtain ⟨x1, x2, y1, y2⟩ := hcs
    have h : enter cuts J (ev E K cuts J x) (2 * p) st (seqK (enter cuts J (ev E K cuts J y)) (2 * p + 1) k) = .ok r := h
    refine wp_seq (enter_sound hT x1 (fun st C a h hr hX => ihx (2 * p) _ _ st C a hc.1 x2 ?_ h hr hX) h hr hX)
    exact seqK_sound hk fun st C a h hr hX => enter_sound hT y1 (fun st C a h hr hX => ihy (2 * p + 1) Q k st C a hc.2 y2 hk h hr hX) h hr hX
  | cond o x y ihx ihy =>
    intro p Q k st C a hc hcs hk h hr hX
    simp only [codeOk, Bool.and_eq_true] at hc
    obtain ⟨x1, x2, y1, y2⟩ := hcs
    have h : (match evalO (look st.tmps) o with
      | .bool t => (match t with
        | true => enter cuts J (ev E K cuts J x) (2 * p) st k
        | false => enter cuts J (ev E K cuts J y) (2 * p + 1) st k)
      | _ => .err (7000000 + p)) = .ok r := h
    have hv := hr.r.t o
    split at h
    · rename_i t ht
      rw [ht] at hv
      cases t with
      | true => exact wp_cond_true hv (enter_sound hT x1 (fun st C a h hr hX => ihx (2 * p) Q k st C a hc.1 x2 hk h hr hX) h hr hX)
      | false => exact wp_cond_false hv (enter_sound hT y1 (fun st C a h hr hX => ihy (2 * p + 1) Q k st C a hc.2 y2 hk h hr hX) h hr hX)
    · cases h
  | block id c ih =>
    intro p Q k st C a hc hcs hk h hr hX
    obtain ⟨x1, x2⟩ := hcs
    have h : enter cuts J (ev E K cuts J c) (2 * p) st (blockK id k) = .ok r := h
    exact wp_block (enter_sound hT x1 (fun st C a h hr hX => ih (2 * p) _ _ st C a hc x2 (blockK_sound hk) h hr hX) h hr hX)
  | loop c ih =>
    intro p Q k st C a hc hcs hk h hr hX
    obtain ⟨x1, _⟩ := hcs
    have h : (match cuts (2 * p) with
      | some c => jumpTo J c st
      | none => .err (8000000 + p)) = .ok r := h
    split at h
    · rename_i cc hcc; exact (LoopWp.round (jump_sound hT x1 hcc h hr hX)).wp
    · cases h
  | region id ops draw =>
    intro p Q k st C a hc _ hk h hr hX
    cases draw with
    | false =>
      have h : evOps E K id ops.toList ops.toList 0 st (fun st' => k .normal st') (fun v => k (.panic v) st) = .ok r := h
      refine wp_region ?_
      have := evOps_wp hE hK (Q := Q) (C0 := D) hG (dstOk_spec hc) (fun st' C' a' h1 h2 h3 => hk.normal st' C' a' h1 h2 h3) (fun v a' w' ch h1 h2 h3 => hk.panic v st a' w' ch h1 h2 h3)
        ops.toList 0 st C a rfl h hr.r (by simpa using hr.free) hr.size hr.defers hX
      rwa [List.range_eq_range', ← Array.length_toList]
    | true =>
      simp only [codeOk, Bool.and_eq_true] at hc
      have h : evOpsD E K id ops.toList (befs ops.toList []) ops.toList 0 st [] (fun st' => k .normal st') = .ok r := h
      obtain ⟨rs, st', hTr, h1, h2, h3, h4⟩ := evOpsD_ok hK hr.free h
      refine wp_region_any hE.mixed ?_
      have hd0 : ∀ i, (Array.replicate ops.size false).getD i false = false := fun i => by
        simp [Array.getD_eq_getD_getElem?, Array.getElem?_replicate]
        split <;> rfl
      have hsr := hr.r
      refine drawn_wp hE hTr (slotsOk_spec hc.2) (C0 := D) hG (n := N) (ds := ds) (dstOk_spec hc.1) (fun C' a' e1 e2 e3 e4 => hk.normal st' C' a' h4 ⟨by rw [h1, h2]; exact e1, fun kk hk => ?_, e3, e4⟩ e2)
        ops.size _ C.draws a (by simp) (fun i o _ hS => by simp only at hS; rw [hd0] at hS; cases hS) (by omega) ?_ (hX.trans C.draws_ext) hr.size hr.defers
      · rw [h2]
        have hw := hTr.whose
        have : mF (fun _ => true) rs 0 (getB st.blks) kk = mF (fun _ => false) rs 0 (getB st.blks) kk := mF_agree rs 0 _ _ (fun i ri hi _ p hp hpk => by
          have hil : i < ops.toList.length := by rw [hTr.tr.len]; exact (List.getElem?_eq_some_iff.1 hi).1
          rcases hw i ri hi p hp with h0 | ⟨i0, _, h5, _, _, h6, h7⟩
          · omega
          · omega) rfl
        rw [this, mF_none _ _ _ (by simp)]
        exact hTr.free kk (by omega)
      · have e : (fun i => (Array.replicate ops.size false).getD i false) = fun _ => false := funext hd0
        rw [e, lkF_none _ _ _ (by simp), mF_none _ _ _ (by simp)]
        exact ⟨hsr.m, Ctx.draws_ok hsr.s, hsr.t.mono C.draws_ext⟩
  | _ => intros; rename_i h _ _; cases h

/-- the place that a way leads to, and what comes behind it -/
def place (P : Program) : List Bool → Code → Post → Option (Code × Post)
  | [], c, Q => some (c, Q)
  | d :: r, c, Q => match c with
    | .seq a b => (match d with
      | false => place P r a (Exit.then (b.wp P Q) Q)
      | true => place P r b Q)
    | .cond _ a b => (match d with
      | false => place P r a Q
      | true => place P r b Q)
    | .block id c => (match d with
      | false => place P r c (Exit.inBlock id Q)
      | true => none)
    | .loop c => (match d with
      | false => place P r c (Exit.then (LoopWp P c Q) Q)
      | true => none)
    | _ => none

def num : List Bool → Nat → Nat
  | [], p => p
  | false :: r, p => num r (2 * p)
  | true :: r, p => num r (2 * p + 1)

theorem CS_of {X : Nat → Code → Post → Prop} : ∀ (c : Code) (p : Nat) (Q : Post), (∀ d r c' Q', place P (d :: r) c Q = some (c', Q') → X (num (d :: r) p) c' Q') → CS P X c p Q := by
  intro c
  induction c with
  | seq a b iha ihb =>
    intro p Q h
    exact ⟨h false [] a _ rfl, iha _ _ fun d r c' Q' hp => h false (d :: r) c' Q' hp, h true [] b _ rfl, ihb _ _ fun d r c' Q' hp => h true (d :: r) c' Q' hp⟩
  | cond o a b iha ihb =>
    intro p Q h
    exact ⟨h false [] a _ rfl, iha _ _ fun d r c' Q' hp => h false (d :: r) c' Q' hp, h true [] b _ rfl, ihb _ _ fun d r c' Q' hp => h true (d :: r) c' Q' hp⟩
  | block id a iha => intro p Q h; exact ⟨h false [] a _ rfl, iha _ _ fun d r c' Q' hp => h false (d :: r) c' Q' hp⟩
  | loop a iha => intro p Q h; exact ⟨h false [] a _ rfl, iha _ _ fun d r c' Q' hp => h false (d :: r) c' Q' hp⟩
  | _ => intros; trivial

theorem codeOk_place {N : Nat} : ∀ (path : List Bool) (c : Code) (Q : Post) (c' : Code) (Q' : Post), codeOk N c = true → place P path c Q = some (c', Q') → codeOk N c' = true
  | [], c, Q, c', Q', hc, h => by cases h; exact hc
  | d :: r, c, Q, c', Q', hc, h => by
    cases c <;> simp only [place] at h
    all_goals first | (cases h; done) | skip
    case seq a b => simp only [codeOk, Bool.and_eq_true] at hc; cases d <;> exact codeOk_place r _ _ _ _ (by first | exact hc.1 | exact hc.2) h
    case cond o a b => simp only [codeOk, Bool.and_eq_true] at hc; cases d <;> exact codeOk_place r _ _ _ _ (by first | exact hc.1 | exact hc.2) h
    case block id a => cases d with
      | false => exact codeOk_place r a (Exit.inBlock id Q) _ _ hc h
      | true => cases h
    case loop a => cases d with
      | false => exact codeOk_place r a (Exit.then (LoopWp P a Q) Q) _ _ hc h
      | true => cases h

theorem resume_sound (hE : EnvOK E P) (hK : KOK P G K) (hG : D.gl = G) (hT : TurnsOK D N ds cuts) : ∀ (path : List Bool) (c : Code) (p : Nat) (Q : Post) (k : Ex → St → Rs R) (st : St) (C : Ctx) (a : Act) (c' : Code) (Q' : Post),
    codeOk N c = true → CS P (XJ P D N ds cuts J r) c p Q → KS D N ds k r Q → resume E K cuts J path c p st k = .ok r → StR C a st N ds → Ext D C → place P path c Q = some (c', Q') → c'.wp P Q' a C.w
  | [], c, p, Q, k, st, C, a, c', Q', hc, hcs, hk, h, hr, hX, hp => by
    simp only [place, Option.some.injEq, Prod.mk.injEq] at hp
    obtain ⟨rfl, rfl⟩ := hp
    exact ev_sound hE hK hG hT c p Q k st C a hc hcs hk h hr hX
  | d :: rr, c, p, Q, k, st, C, a, c', Q', hc, hcs, hk, h, hr, hX, hp => by
    cases c <;> simp only [place] at hp <;> simp only [resume] at h
    all_goals first | (cases hp; done) | skip
    case seq x y =>
      simp only [codeOk, Bool.and_eq_true] at hc
      obtain ⟨x1, x2, y1, y2⟩ := hcs
      cases d with
      | false =>
        exact resume_sound hE hK hG hT rr x _ _ _ st C a c' Q' hc.1 x2 (seqK_sound hk fun st C a h hr hX => enter_sound hT y1 (fun st C a h hr hX => ev_sound hE hK hG hT y _ Q k st C a hc.2 y2 hk h hr hX) h hr hX) h hr hX hp
      | true => exact resume_sound hE hK hG hT rr y _ _ _ st C a c' Q' hc.2 y2 hk h hr hX hp
    case cond o x y =>
      simp only [codeOk, Bool.and_eq_true] at hc
      obtain ⟨x1, x2, y1, y2⟩ := hcs
      cases d with
      | false => exact resume_sound hE hK hG hT rr x _ _ _ st C a c' Q' hc.1 x2 hk h hr hX hp
      | true => exact resume_sound hE hK hG hT rr y _ _ _ st C a c' Q' hc.2 y2 hk h hr hX hp
    case block id x =>
      obtain ⟨x1, x2⟩ := hcs
      cases d with
      | false => exact resume_sound hE hK hG hT rr x _ _ _ st C a c' Q' hc x2 (blockK_sound hk) h hr hX hp
      | true => cases hp
    case loop x =>
      obtain ⟨x1, x2⟩ := hcs
      cases d with
      | false =>
        refine resume_sound hE hK hG hT rr x _ _ _ st C a c' Q' hc x2 (seqK_sound hk fun st C a h hr hX => ?_) h hr hX hp
        exact LoopWp.round (enter_sound hT x1 (fun st C a h hr hX => by simp [noEv] at h) h hr hX)
      | true => cases hp

theorem num_snoc : ∀ (r : List Bool) (d : Bool) (p : Nat), num (r ++ [d]) p = 2 * num r p + d.toNat
  | [], d, p => by cases d <;> simp [num]
  | false :: r, d, p => by simp only [List.cons_append, num]; exact num_snoc r d _
  | true :: r, d, p => by simp only [List.cons_append, num]; exact num_snoc r d _
theorem num_pos : ∀ (r : List Bool) (p : Nat), 1 ≤ p → 1 ≤ num r p
  | [], p, h => h
  | false :: r, p, h => num_pos r _ (by omega)
  | true :: r, p, h => num_pos r _ (by omega)
theorem snoc_cases : ∀ (a : List Bool), a = [] ∨ ∃ r d, a = r ++ [d]
  | [] => .inl rfl
  | x :: a => .inr (by
    rcases snoc_cases a with rfl | ⟨r, d, rfl⟩
    · exact ⟨[], x, rfl⟩
    · exact ⟨x :: r, d, rfl⟩)
theorem num_inj : ∀ (n : Nat) (a b : List Bool), a.length ≤ n → num a 1 = num b 1 → a = b
  | n, a, b, hn, h => by
    rcases snoc_cases a with rfl | ⟨r, d, rfl⟩
    · rcases snoc_cases b with rfl | ⟨s, e, rfl⟩
      · rfl
      · rw [num_snoc] at h
        have := num_pos s 1 (Nat.le_refl 1)
        simp only [num] at h
        omega
    · rcases snoc_cases b with rfl | ⟨s, e, rfl⟩
      · rw [num_snoc] at h
        have := num_pos r 1 (Nat.le_refl 1)
        simp only [num] at h
        omega
      · rw [num_snoc, num_snoc] at h
        simp only [List.length_append, List.length_singleton] at hn
        have hd : d = e := by cases d <;> cases e <;> simp at h <;> first | rfl | omega
        subst hd
        have h2 : num r 1 = num s 1 := by omega
        cases n with
        | zero => omega
        | succ n => rw [num_inj n r s (by omega) h2]
end
end Go.Sx
