/- A part of the proof: see the row's text. -/
import Derived.Test.YtaklpoiaicepoaaGreatDoorZa30
set_option linter.unusedVariables false
set_option linter.unusedSimpArgs false
noncomputable section
namespace Go.Sx.Tryz
open Go Go.Sx Go.Proofs
set_option maxRecDepth 100000
variable {G : Nat → Obj → Prop}
def g9 : List AV → Bool × AV
 | [] => (true, .bool true)
 | _ => (false, .nili)
theorem d9 {w0 : World} (t : TabsW w0) : IntrOne Tryz.prog (GW w0) 9 (detI 9 g9) := detI_ok fun args h => by
 unfold g9 at h ⊢
 split at h
 ·exact reads_SA t
 ·cases h
def lib7 : List (Nat × Intr) := [(9, detI 9 g9), (10, parseC), (24, ofT 24 repeatT)]
theorem lib7_ok {w0 : World} (t : TabsW w0) : IChk Tryz.prog (GW w0) lib7 := .cons (d9 t) (.cons (par_ok t) (.cons (rep_ok t) .nil))
end Go.Sx.Tryz
namespace Go.Sx.Tryz
open Go Go.Sx Go.Proofs
set_option maxRecDepth 100000
abbrev Tk : Type := Int × List UInt8
inductive Lx : List UInt8 → List Tk → Prop
 | nil : Lx [] []
 | cons {w r : List UInt8} {k : Int} {ts : List Tk} (h : oneS (w ++ r) = (k, 0, w.length)) (hw : 0 < w.length) (ht : Lx (r.drop (gapS r)) ts) : Lx (w ++ r) ((k, w) :: ts)
theorem Lx.one {w r : List UInt8} {k : Int} {ts : List Tk} (h : oneS (w ++ r) = (k, 0, w.length)) (hw : 0 < w.length) (hg : gapS r = 0) (ht : Lx r ts) : Lx (w ++ r) ((k, w) :: ts) := .cons h hw (by rw [hg]; exact ht)
def kindsOf (T : List UInt8) (K : List Tok) : List Tk := K.map fun t => (tKind t, say T t)
theorem rest_at {T pre s : List UInt8} (h : T = pre ++ s) : rest8 T (pre.length : Int) = s := by
 unfold rest8
 rw [h, Int.toNat_natCast]
 simp
theorem lexF_of {T : List UInt8} {s : List UInt8} {ts : List Tk} (hl : Lx s ts) : ∀ (n k : Nat) (pre : List UInt8), T = pre ++ s → s.length < n → k + ts.length < 16384 →
  (lexF n T pre.length k).1 = 0 ∧ kindsOf T (lexF n T pre.length k).2.2 = ts ++ [(0, [])] := by
 induction hl with
 | nil =>
  intro n k pre hT hn hk
  cases n with
  | zero => exact absurd hn (Nat.not_lt_zero _)
  | succ n =>
   unfold lexF
   have h1 : decide ((pre.length : Int) < T.length) = false := decide_eq_false (by rw [hT]; simp)
   rw [h1]
   refine ⟨rfl, ?_⟩
   show [((0 : Int), say T (tkn 0 T.length T.length))] = _
   have : say T (tkn 0 T.length T.length) = [] := by
    show List.drop (Int.toNat (T.length : Int)) (List.take (Int.toNat (T.length : Int)) T) = []
    simp
   rw [this]
   rfl
 | @cons w r k ts h hw ht ih =>
  intro n kk pre hT hn hk
  cases n with
  | zero => exact absurd hn (Nat.not_lt_zero _)
  | succ n =>
   unfold lexF
   have hlen : T.length = pre.length + (w.length + r.length) := by rw [hT]; simp
   have h1 : decide ((pre.length : Int) < T.length) = true := decide_eq_true (by omega)
   simp only [List.length_cons] at hk
   have h2 : decide ((kk : Int) ≥ 16384) = false := decide_eq_false (by omega)
   have hr := rest_at hT
   have h3 : oneE T pre.length = 0 := by unfold oneE; rw [hr, h]
   have h4 : oneK T pre.length = k := by unfold oneK; rw [hr, h]
   have h5 : oneI' T pre.length = ((pre ++ w).length : Nat) := by unfold oneI'; rw [hr, h]; simp
   have hr2 : rest8 T ((pre ++ w).length : Nat) = r := rest_at (by rw [hT]; simp)
   have hg := gapF_le (r.length + 1) r
   have h6 : gapI T ((pre ++ w).length : Nat) = ((pre ++ w ++ r.take (gapS r)).length : Nat) := by
    unfold gapI
    rw [hr2]
    unfold gapS
    simp only [List.length_append, List.length_take]
    omega
   have hT2 : T = (pre ++ w ++ r.take (gapS r)) ++ r.drop (gapS r) := by rw [hT]; simp
   rw [h1, h2, h3, h4, h5, h6]
   have := ih n (kk + 1) _ hT2 (by
    simp only [List.length_append, List.length_drop] at hn ⊢
    omega) (by omega)
   refine ⟨this.1, ?_⟩
   show (k, say T (tkn k pre.length ((pre ++ w).length : Nat))) :: kindsOf T _ = _
   rw [this.2]
   have : say T (tkn k pre.length ((pre ++ w).length : Nat)) = w := by
    show List.drop (Int.toNat (pre.length : Int)) (List.take (Int.toNat ((pre ++ w).length : Int)) T) = w
    rw [Int.toNat_natCast, Int.toNat_natCast, hT, ← List.append_assoc]
    rw [List.take_left' rfl]
    simp
   rw [this]
   rfl
theorem lex_of {T : List UInt8} {ts : List Tk} (hT : T.length ≤ 65536) (hg : gapS T = 0) (hl : Lx T ts) (hk : ts.length < 16384) : lexC T = 0 ∧ kindsOf T (lexK T) = ts ++ [(0, [])] := by
 have h := lexF_of hl (T.length + 1) 0 [] rfl (Nat.lt_succ_self _) (by omega)
 have h0 : gapI T 0 = (([] : List UInt8).length : Nat) := by
  unfold gapI rest8
  show 0 + ((gapS (List.drop 0 T) : Nat) : Int) = 0
  rw [List.drop_zero, hg]
  rfl
 have hS : lexS T = lexF (T.length + 1) T (([] : List UInt8).length : Nat) 0 := by
  unfold lexS
  rw [show decide ((T.length : Int) > 65536) = false from decide_eq_false (by omega), h0]
  rfl
 have hC : lexC T = 0 := by rw [lexC_eq, hS]; exact h.1
 exact ⟨hC, by rw [lexK_eq hC, hS]; exact h.2⟩
end Go.Sx.Tryz
namespace Go.Sx.Tryz
open Go Go.Sx Go.Proofs
set_option maxRecDepth 100000
def sy1 (c d : UInt8) : Bool := !isLet c.toNat && (!isDig c.toNat && (!((c.toNat : Int) == 34) && (!Lib.contains twosL [c, d, 32] && decide (Lib.indexByte onesL (c.toNat : Int).toNat.toUInt8 ≥ 0))))
theorem one_sy {c d : UInt8} {r : List UInt8} (h : sy1 c d = true) : oneS (c :: d :: r) = (5, 0, 1) := by
 unfold sy1 at h
 simp only [Bool.and_eq_true, Bool.not_eq_true'] at h
 obtain ⟨h1, h2, h3, h4, h5⟩ := h
 have e0 : at8 (c :: d :: r) 0 = (c.toNat : Int) := rfl
 have e1 : ((c :: d :: r).take 2 ++ [32]) = [c, d, 32] := rfl
 unfold oneS sgnS
 rw [e0, e1, h1, h2, h3, h4, h5]
 simp only [Bool.false_and, Bool.and_false, cond_true, cond_false]
def nb (d : UInt8) : Bool := !isBlk d.toNat && !(d == 47)
theorem gap_nb {d : UInt8} {r : List UInt8} (h : nb d = true) : gapS (d :: r) = 0 := by
 unfold nb at h
 simp only [Bool.and_eq_true, Bool.not_eq_true'] at h
 have h0 : run8 isBlk (d :: r) = 0 := by
  unfold run8
  rw [List.takeWhile_cons, h.1]
  rfl
 unfold gapS
 rw [gapF_succ, h0, List.drop_zero]
 have : Lib.hasPrefix (d :: r) [47, 47] = false := by
  cases hp : Lib.hasPrefix (d :: r) [47, 47] with
  | false => rfl
  | true =>
   have hd : (d == 47) = true := by
    cases r with
    | nil => simp [Lib.hasPrefix] at hp
    | cons e r =>
     simp [Lib.hasPrefix] at hp
     simp [hp.1]
   rw [hd] at h
   exact absurd h.2 (by decide)
 rw [this]
 rfl
theorem Lx.sy {c d : UInt8} {r : List UInt8} {ts : List Tk} (h : sy1 c d = true) (hn : nb d = true) (ht : Lx (d :: r) ts) : Lx (c :: d :: r) ((5, [c]) :: ts) :=
 Lx.one (w := [c]) (r := d :: r) (one_sy h) (Nat.zero_lt_one) (gap_nb hn) ht
theorem Lx.run {c d : UInt8} {r : List UInt8} {ts : List Tk} (hc : sy1 c c = true) (hb : nb c = true) (hd : sy1 c d = true) (hn : nb d = true) (ht : Lx (d :: r) ts) : ∀ m, Lx (Lib.repeatL [c] m ++ d :: r) (List.replicate m (5, [c]) ++ ts)
 | 0 => ht
 | 1 => Lx.sy hd hn ht
 | m + 2 => Lx.sy hc hb (Lx.run hc hb hd hn ht (m + 1))
def preT : List UInt8 := [99, 108, 97, 115, 115, 32, 65, 123, 105, 110, 116, 32, 102, 40, 41, 123, 120, 61]
def headK : List Tk := [(1, [99, 108, 97, 115, 115]), (1, [65]), (5, [123]), (1, [105, 110, 116]), (1, [102]), (5, [40]), (5, [41])]
def preK : List Tk := headK ++ [(5, [123]), (1, [120]), (5, [61])]
theorem Lx.head {r : List UInt8} {ts : List Tk} (ht : Lx (123 :: r) ts) : Lx ([99, 108, 97, 115, 115, 32, 65, 123, 105, 110, 116, 32, 102, 40, 41] ++ 123 :: r) (headK ++ ts) := by
 refine Lx.cons (w := [99, 108, 97, 115, 115]) (r := 32 :: 65 :: 123 :: 105 :: 110 :: 116 :: 32 :: 102 :: 40 :: 41 :: 123 :: r) rfl (by decide) ?_
 refine Lx.cons (w := [65]) (r := 123 :: 105 :: 110 :: 116 :: 32 :: 102 :: 40 :: 41 :: 123 :: r) rfl (by decide) ?_
 refine Lx.sy (c := 123) (d := 105) (by decide) (by decide) ?_
 refine Lx.cons (w := [105, 110, 116]) (r := 32 :: 102 :: 40 :: 41 :: 123 :: r) rfl (by decide) ?_
 refine Lx.cons (w := [102]) (r := 40 :: 41 :: 123 :: r) rfl (by decide) ?_
 refine Lx.sy (c := 40) (d := 41) (by decide) (by decide) ?_
 exact Lx.sy (c := 41) (d := 123) (by decide) (by decide) ht
theorem Lx.pre {d : UInt8} {r : List UInt8} {ts : List Tk} (hd : sy1 61 d = true) (hn : nb d = true) (ht : Lx (d :: r) ts) : Lx (preT ++ d :: r) (preK ++ ts) := by
 refine Lx.head (r := 120 :: 61 :: d :: r) ?_
 refine Lx.sy (c := 123) (d := 120) (by decide) (by decide) ?_
 refine Lx.cons (w := [120]) (r := 61 :: d :: r) rfl (by decide) ?_
 exact Lx.sy hd hn ht
theorem Lx.fin : Lx [59, 125, 125] [(5, [59]), (5, [125]), (5, [125])] := by
 refine Lx.sy (c := 59) (d := 125) (by decide) (by decide) ?_
 refine Lx.sy (c := 125) (d := 125) (by decide) (by decide) ?_
 exact Lx.one (w := [125]) (r := []) rfl (by decide) rfl .nil
end Go.Sx.Tryz
namespace Go.Sx.Tryz
open Go Go.Sx Go.Proofs
set_option maxRecDepth 100000
structure At (T : List UInt8) (K : List Tok) (a : Int) (r : List Tk) : Prop where
 nn : 0 ≤ a
 eq : (kindsOf T K).drop a.toNat = r
section
variable {T : List UInt8} {K : List Tok} {a d : Int} {A : List Nd} {r : List Tk} {k : Int} {s : List UInt8} {q : Kn}
theorem At.get (h : At T K a ((k, s) :: r)) : tKind (tokAt K a) = k ∧ say T (tokAt K a) = s ∧ a < K.length := by
 have h1 : (kindsOf T K)[a.toNat]? = some (k, s) := by
  have := congrArg (·[0]?) h.eq
  simpa using this
 unfold kindsOf at h1
 rw [List.getElem?_map] at h1
 cases hk : K[a.toNat]? with
 | none => rw [hk] at h1; cases h1
 | some t =>
  rw [hk] at h1
  simp only [Option.map_some, Option.some.injEq, Prod.mk.injEq] at h1
  have ht : tokAt K a = t := by unfold tokAt; rw [List.getD_eq_getElem?_getD, hk]; rfl
  rw [ht]
  have := (List.getElem?_eq_some_iff.1 hk).1
  exact ⟨h1.1, h1.2, by have := h.nn; omega⟩
theorem At.step {x : Tk} (h : At T K a (x :: r)) : At T K (a + 1) r := by
 refine ⟨by have := h.nn; omega, ?_⟩
 rw [show (a + 1).toNat = a.toNat + 1 by have := h.nn; omega, ← List.drop_drop, h.eq]
 rfl
theorem next_at (h : At T K a ((k, s) :: r)) : cNext T K a d A = .ok (tokAt K a, s) a d A := by
 unfold cNext
 rw [h.get.2.1]
theorem is_at (h : At T K a ((k, s) :: r)) (w : List UInt8) : cIs T K w a d A = .ok ((k == 1 || k == 5) && s == w) a d A := by
 unfold cIs Pm.bind
 rw [next_at h]
 show Pm.ret _ a d A = _
 rw [h.get.1]
 rfl
theorem skip_at (h : At T K a ((k, s) :: r)) (hk : (k != 0) = true) : cSkip K a d A = .ok (tTo (tokAt K a)) (a + 1) d A := by
 unfold cSkip
 rw [h.get.1, hk]
 rfl
theorem take_yes {w : List UInt8} (h : At T K a ((k, s) :: r)) (hy : ((k == 1 || k == 5) && s == w) = true) : cTake T K w a d A = .ok true (a + 1) d A := by
 unfold cTake Pm.bind
 rw [is_at h w, hy]
 have hk : (k != 0) = true := by
  cases h0 : k == 0 with
  | false => rw [bne, h0]; rfl
  | true =>
   have h0 : k = 0 := by simpa using h0
   subst h0
   simp at hy
 show ((cSkip K).bind fun _ => .ret true) a d A = _
 unfold Pm.bind
 rw [skip_at h hk]
 rfl
theorem take_no {w : List UInt8} (h : At T K a ((k, s) :: r)) (hy : ((k == 1 || k == 5) && s == w) = false) : cTake T K w a d A = .ok false a d A := by
 unfold cTake Pm.bind
 rw [is_at h w, hy]
 rfl
theorem want_at {w : List UInt8} (h : At T K a ((k, s) :: r)) (hy : ((k == 1 || k == 5) && s == w) = true) : cWant T K w a d A = .ok (tTo (tokAt K a)) (a + 1) d A := by
 unfold cWant Pm.bind
 rw [is_at h w, hy]
 have hk : (k != 0) = true := by
  cases h0 : k == 0 with
  | false => rw [bne, h0]; rfl
  | true =>
   have h0 : k = 0 := by simpa using h0
   subst h0
   simp at hy
 show cSkip K a d A = _
 rw [skip_at h hk]
theorem add_at (x : Nd) (f : Int) (hl : A.length < 8192) : cAdd K x f a d A = .ok (A.length : Int) a d (A ++ [spanned x f (lastTo K a f)]) := by
 unfold cAdd
 rw [decide_eq_false (by omega : ¬ ((A.length : Int) ≥ 8192))]
 rfl
theorem into_at (hd : d + 1 ≤ 60) : cInto K a d A = .ok () a (d + 1) A := by
 unfold cInto
 rw [decide_eq_false (by omega : ¬ (d + 1 > 60))]
 rfl
theorem name_at (h : At T K a ((1, s) :: r)) (hn : nameS s = true) : cName T K a d A = .ok s (a + 1) d A := by
 unfold cName Pm.bind
 rw [next_at h]
 show (bif tKind (tokAt K a) == 1 && nameS s then (cSkip K).bind fun _ => .ret s else .flt 80 (tFrom (tokAt K a))) a d A = _
 rw [h.get.1, hn]
 show ((cSkip K).bind fun _ => .ret s) a d A = _
 unfold Pm.bind
 rw [skip_at h rfl]
 rfl
def clo (x : Tk) : Bool := x.1 == 5 && (bindsS x.2 == -1 && (!x.2 == [33] && (!x.2 == [91] && (!x.2 == [46] && !x.2 == [105, 115]))))
theorem clo_is {x : Tk} (h : clo x = true) : x.1 = 5 ∧ bindsS x.2 = -1 ∧ (x.2 == [33]) = false ∧ (x.2 == [91]) = false ∧ (x.2 == [46]) = false ∧ (x.2 == [105, 115]) = false := by
 unfold clo at h
 simp only [Bool.and_eq_true, Bool.not_eq_true'] at h
 obtain ⟨h1, h2, h3, h4, h5, h6⟩ := h
 exact ⟨by simpa using h1, by simpa using h2, h3, h4, h5, h6⟩
theorem behindL_clo {f v : Int} {n : Nat} {x : Tk} (h : At T K a (x :: r)) (hc : clo x = true) : cBehindL T K q f (n + 1) v a d A = .ok v a d A := by
 obtain ⟨c1, c2, c3, c4, c5, c6⟩ := clo_is hc
 obtain ⟨k, s⟩ := x
 have no : ∀ w, (s == w) = false → cTake T K w a d A = .ok false a d A := fun w hw => take_no h (by rw [hw, Bool.and_false])
 unfold cBehindL Pm.bind
 rw [no [33] c3]
 show ((cTake T K [91]).bind _) a d A = _
 unfold Pm.bind
 rw [no [91] c4]
 show ((cTake T K [46]).bind _) a d A = _
 unfold Pm.bind
 rw [no [46] c5]
 rfl
theorem chainL_clo {least f v : Int} {sub : Pm Int} {n : Nat} {x : Tk} (h0 : 0 ≤ least) (h : At T K a (x :: r)) (hc : clo x = true) : cChainL T K least f sub (n + 1) v a d A = .ok v a d A := by
 obtain ⟨c1, c2, c3, c4, c5, c6⟩ := clo_is hc
 obtain ⟨k, s⟩ := x
 have no : ∀ w, (s == w) = false → cTake T K w a d A = .ok false a d A := fun w hw => take_no h (by rw [hw, Bool.and_false])
 unfold cChainL Pm.bind
 rw [next_at h]
 show (cond (tKind (tokAt K a) == 5 && bindsS s == least) (_ : Pm Int) (cond (least == 3) (_ : Pm Int) (_ : Pm Int))) a d A = _
 have hb : (bindsS s == least) = false := by
  have c2 : bindsS s = -1 := c2
  rw [c2]
  exact beq_eq_false_iff_ne.2 (by omega)
 rw [hb, Bool.and_false]
 simp only [cond_false]
 cases least == 3
 ·rfl
 ·show ((cTake T K [105, 115]).bind _) a d A = _
  unfold Pm.bind
  rw [no [105, 115] c6]
  rfl
theorem chain_clo {v a' d' : Int} {A' : List Nd} {x : Tk} (hq : q.un a d A = .ok v a' d' A') (h : At T K a' (x :: r)) (hc : clo x = true) : ∀ j : Nat, j ≤ 6 → cChain T K q j a d A = .ok v a' d' A'
 | 0, _ => hq
 | j + 1, hj => by
  have ih := chain_clo hq h hc j (by omega)
  show (cChain T K q j).bind _ a d A = _
  unfold Pm.bind
  rw [ih]
  exact chainL_clo (by omega) h hc
theorem chain_fault {c p : Int} (hq : q.un a d A = .fault c p) : ∀ j : Nat, cChain T K q j a d A = .fault c p
 | 0 => hq
 | j + 1 => by
  show (cChain T K q j).bind _ a d A = _
  unfold Pm.bind
  rw [chain_fault hq j]
  rfl
theorem value_clo {v a' : Int} {A' : List Nd} {x : Tk} (hd : d + 1 ≤ 60) (hq : q.un a (d + 1) A = .ok v a' (d + 1) A') (h : At T K a' (x :: r)) (hc : clo x = true) : cValue T K q a d A = .ok v a' d A' := by
 unfold cValue Pm.bind
 rw [into_at hd]
 show ((cChain T K q 6).bind _) a (d + 1) A = _
 unfold Pm.bind
 rw [chain_clo hq h hc 6 (Nat.le_refl 6)]
 show PR.ok v a' (d + 1 - 1) A' = _
 rw [show d + 1 - 1 = d by omega]
theorem value_fault {c p : Int} (hd : d + 1 ≤ 60) (hq : q.un a (d + 1) A = .fault c p) : cValue T K q a d A = .fault c p := by
 unfold cValue Pm.bind
 rw [into_at hd]
 show ((cChain T K q 6).bind _) a (d + 1) A = _
 unfold Pm.bind
 rw [chain_fault hq 6]
 rfl
end
end Go.Sx.Tryz
namespace Go.Sx.Tryz
open Go Go.Sx Go.Proofs
set_option maxRecDepth 100000
section
variable {T : List UInt8} {K : List Tok} {a d : Int} {A : List Nd} {r : List Tk} {k : Int} {s : List UInt8} {q : Kn}
theorem lit_at (x : Nd) (h : At T K a ((k, s) :: r)) (hk : (k != 0) = true) (hl : A.length < 8192) : ∃ N, cLit T K x 0 a d A = .ok (A.length : Int) (a + 1) d (A ++ [N]) ∧ nKind N = nKind x := by
 refine ⟨spanned x (tFrom (tokAt K a)) (lastTo K (a + 1) (tFrom (tokAt K a))), ?_, rfl⟩
 unfold cLit Pm.bind
 rw [next_at h]
 show (cSkip K).bind _ a d A = _
 unfold Pm.bind
 rw [skip_at h hk]
 exact add_at x _ hl
theorem unary_to (h : At T K a ((k, s) :: r)) (hk : (k == 5 && (s == [33] || s == [45])) = false) : cUnary T K q a d A = cBehind T K q a d A := by
 unfold cUnary
 show (cNext T K a d A).bind _ = _
 rw [next_at h]
 show (cond (tKind (tokAt K a) == 5 && (s == [33] || s == [45])) (_ : Pm Int) (cBehind T K q)) a d A = _
 rw [h.get.1, hk]
 rfl
theorem behind_clo {v a' d' : Int} {A' : List Nd} {x : Tk} {r' : List Tk} (h : At T K a ((k, s) :: r)) (hp : cPrimary T K q a d A = .ok v a' d' A') (h' : At T K a' (x :: r')) (hc : clo x = true) : cBehind T K q a d A = .ok v a' d' A' := by
 unfold cBehind Pm.bind
 rw [next_at h]
 show ((cPrimary T K q).bind _) a d A = _
 unfold Pm.bind
 rw [hp]
 exact behindL_clo h' hc
theorem behind_fault {c p : Int} (h : At T K a ((k, s) :: r)) (hp : cPrimary T K q a d A = .fault c p) : cBehind T K q a d A = .fault c p := by
 unfold cBehind Pm.bind
 rw [next_at h]
 show ((cPrimary T K q).bind _) a d A = _
 unfold Pm.bind
 rw [hp]
 rfl
theorem prim_name (h : At T K a ((1, s) :: r)) (hn : nameS s = true) (hl : A.length < 8192) : ∃ N, cPrimary T K q a d A = .ok (A.length : Int) (a + 1) d (A ++ [N]) ∧ nKind N = 25 := by
 obtain ⟨N, h1, h2⟩ := lit_at (nodV 25 0 s) h rfl hl
 refine ⟨N, ?_, h2⟩
 unfold cPrimary
 show (cNext T K a d A).bind _ = _
 rw [next_at h]
 show (cond (tKind (tokAt K a) == 2) (_ : Pm Int) (cond (tKind (tokAt K a) == 3) (_ : Pm Int) (cond (tKind (tokAt K a) == 4) (_ : Pm Int) (cond (tKind (tokAt K a) == 5) (_ : Pm Int) (cond (tKind (tokAt K a) == 1) (cond (nameS s) (cLit T K (nodV 25 0 s) 0) (_ : Pm Int)) (_ : Pm Int)))))) a d A = _
 rw [h.get.1, hn]
 exact h1
theorem unary_name {x : Tk} (h : At T K a ((1, s) :: x :: r)) (hn : nameS s = true) (hc : clo x = true) (hl : A.length < 8192) : ∃ N, cUnary T K q a d A = .ok (A.length : Int) (a + 1) d (A ++ [N]) ∧ nKind N = 25 := by
 obtain ⟨N, h1, h2⟩ := prim_name (q := q) (d := d) h hn hl
 exact ⟨N, (unary_to h rfl).trans (behind_clo h h1 h.step hc), h2⟩
theorem prim_par {R : PR Int} (h : At T K a ((5, [40]) :: r)) (hb : cBracket T K q a d A = R) : cPrimary T K q a d A = R := by
 unfold cPrimary
 show (cNext T K a d A).bind _ = _
 rw [next_at h]
 show (cond (tKind (tokAt K a) == 2) (_ : Pm Int) (cond (tKind (tokAt K a) == 3) (_ : Pm Int) (cond (tKind (tokAt K a) == 4) (_ : Pm Int) (cond (tKind (tokAt K a) == 5) (cBracket T K q) (_ : Pm Int))))) a d A = _
 rw [h.get.1]
 exact hb
theorem bracket_ok {v a' d' : Int} {A' : List Nd} {r' : List Tk} (h : At T K a ((5, [40]) :: r)) (hv : q.val (a + 1) d A = .ok v a' d' A') (h' : At T K a' ((5, [41]) :: r')) : cBracket T K q a d A = .ok v (a' + 1) d' A' := by
 unfold cBracket
 show (cWant T K [40] a d A).bind _ = _
 rw [want_at h rfl]
 show (q.val (a + 1) d A).bind _ = _
 rw [hv]
 show (cWant T K [41] a' d' A').bind _ = _
 rw [want_at h' rfl]
 rfl
theorem val_par (hn : nameS s = true) : ∀ (j m : Nat) (a d : Int) (A : List Nd) (x : Tk) (r : List Tk), clo x = true → 2 * j + 2 ≤ m → At T K a (List.replicate j (5, [40]) ++ (1, s) :: (List.replicate j (5, [41]) ++ x :: r)) → d + j + 1 ≤ 60 → A.length < 8192 →
  ∃ N, (kns T K m).val a d A = .ok (A.length : Int) (a + 2 * j + 1) d (A ++ [N]) ∧ nKind N = 25 ∧ At T K (a + 2 * j + 1) (x :: r)
 | 0, 0, _, _, _, _, _, _, hm, _, _, _ => by omega
 | 0, 1, _, _, _, _, _, _, hm, _, _, _ => by omega
 | 0, m + 2, a, d, A, x, r, hc, hm, h, hd, hl => by
  have h : At T K a ((1, s) :: x :: r) := h
  obtain ⟨N, h1, h2⟩ := unary_name (q := kns T K m) (d := d + 1) h hn hc hl
  have e : a + 2 * ((0 : Nat) : Int) + 1 = a + 1 := by omega
  rw [e]
  refine ⟨N, ?_, h2, h.step⟩
  show cValue T K (kns T K (m + 1)) a d A = _
  exact value_clo (by omega) h1 h.step hc
 | j + 1, 0, _, _, _, _, _, _, hm, _, _, _ => by omega
 | j + 1, 1, _, _, _, _, _, _, hm, _, _, _ => by omega
 | j + 1, m + 2, a, d, A, x, r, hc, hm, h, hd, hl => by
  have h : At T K a ((5, [40]) :: (List.replicate j (5, [40]) ++ (1, s) :: (List.replicate (j + 1) (5, [41]) ++ x :: r))) := h
  have h1 : At T K (a + 1) (List.replicate j (5, [40]) ++ (1, s) :: (List.replicate j (5, [41]) ++ (5, [41]) :: x :: r)) := by
   have := h.step
   rw [List.replicate_succ', List.append_assoc] at this
   exact this
  obtain ⟨N, v1, v2, v3⟩ := val_par hn j m (a + 1) (d + 1) A (5, [41]) (x :: r) rfl (by omega) h1 (by omega) hl
  have e : a + 2 * ((j + 1 : Nat) : Int) + 1 = (a + 1 + 2 * (j : Int) + 1) + 1 := by omega
  rw [e]
  refine ⟨N, ?_, v2, v3.step⟩
  show cValue T K (kns T K (m + 1)) a d A = _
  refine value_clo (by omega) ?_ v3.step hc
  show cUnary T K (kns T K m) a (d + 1) A = _
  rw [unary_to h rfl]
  exact behind_clo h (prim_par h (bracket_ok h v1 v3)) v3.step hc
end
end Go.Sx.Tryz
namespace Go.Sx.Tryz
open Go Go.Sx Go.Proofs
set_option maxRecDepth 100000
section
variable {T : List UInt8} {K : List Tok} {a d : Int} {A : List Nd} {r : List Tk} {k : Int} {s : List UInt8} {q : Kn}
theorem few_at {n : Int} (h : n ≤ 64) : cFew K n a d A = .ok () a d A := by
 unfold cFew
 rw [decide_eq_false (by omega : ¬ (n > 64))]
 rfl
theorem ahead_at {n : Int} (h : At T K (a + n) ((k, s) :: r)) : cAhead T K n a d A = .ok (k, s) a d A := by
 unfold cAhead
 obtain ⟨h1, h2, h3⟩ := h.get
 rw [decide_eq_false (by omega : ¬ (a + n ≥ (K.length : Int))), h1, h2]
 rfl
theorem blockL_eq (f : Int) (n : Nat) (L : List Int) : cBlockL T K q f (n + 1) L = (cIs T K [125]).bind fun b => bif b then (cWant T K [125]).bind fun _ => cOut.bind fun _ => cAdd K (nod 8 L []) f
  else (cStat T K q).bind fun x => cBlockL T K q f n (L ++ [x]) := rfl
theorem blkL_end {f : Int} {n : Nat} {L : List Int} (h : At T K a ((5, [125]) :: r)) (hl : A.length < 8192) : ∃ N, cBlockL T K q f (n + 1) L a d A = .ok (A.length : Int) (a + 1) (d - 1) (A ++ [N]) := by
 refine ⟨spanned (nod 8 L []) f (lastTo K (a + 1) f), ?_⟩
 rw [blockL_eq]
 show (cIs T K [125] a d A).bind _ = _
 rw [is_at h]
 show (cWant T K [125] a d A).bind _ = _
 rw [want_at h rfl]
 exact add_at _ _ hl
theorem blkL_step {f : Int} {n : Nat} {L : List Int} {x a' d' : Int} {A' : List Nd} (h : At T K a ((k, s) :: r)) (hs : ((k == 1 || k == 5) && s == [125]) = false) (hx : cStat T K q a d A = .ok x a' d' A') : cBlockL T K q f (n + 1) L a d A = cBlockL T K q f n (L ++ [x]) a' d' A' := by
 rw [blockL_eq]
 show (cIs T K [125] a d A).bind _ = _
 rw [is_at h, hs]
 show (cStat T K q a d A).bind _ = _
 rw [hx]
 rfl
theorem blkL_fault {f c p : Int} {n : Nat} {L : List Int} (h : At T K a ((k, s) :: r)) (hs : ((k == 1 || k == 5) && s == [125]) = false) (hx : cStat T K q a d A = .fault c p) : cBlockL T K q f (n + 1) L a d A = .fault c p := by
 rw [blockL_eq]
 show (cIs T K [125] a d A).bind _ = _
 rw [is_at h, hs]
 show (cStat T K q a d A).bind _ = _
 rw [hx]
 rfl
theorem stat_blk (h : At T K a ((5, [123]) :: r)) : cStat T K q a d A = q.blk a d A := by
 unfold cStat
 show (cNext T K a d A).bind _ = _
 rw [next_at h]
 show (cond (tKind (tokAt K a) == 5 && ([123] : List UInt8) == [123]) q.blk (_ : Pm Int)) a d A = _
 rw [h.get.1]
 rfl
theorem block_open (hd : d + 1 ≤ 60) (h : At T K a ((5, [123]) :: r)) : cBlock T K q a d A = cBlockL T K q (tFrom (tokAt K a)) (K.length + 2) [] (a + 1) (d + 1) A := by
 unfold cBlock
 show (cNext T K a d A).bind _ = _
 rw [next_at h]
 show (cInto K a d A).bind _ = _
 rw [into_at hd]
 show (cWant T K [123] a (d + 1) A).bind _ = _
 rw [want_at h rfl]
 rfl
theorem blk_nest : ∀ (j m : Nat) (a d : Int) (A : List Nd) (r : List Tk), j + 1 ≤ m → At T K a (List.replicate (j + 1) (5, [123]) ++ (List.replicate (j + 1) (5, [125]) ++ r)) → d + j + 1 ≤ 60 → A.length + j < 8192 →
  ∃ v A', (kns T K m).blk a d A = .ok v (a + 2 * j + 2) d A' ∧ A'.length = A.length + j + 1 ∧ At T K (a + 2 * j + 2) r
 | _, 0, _, _, _, _, hm, _, _, _ => by omega
 | 0, m + 1, a, d, A, r, hm, h, hd, hl => by
  have h : At T K a ((5, [123]) :: (5, [125]) :: r) := h
  obtain ⟨N, hN⟩ := blkL_end (q := kns T K m) (d := d + 1) (f := tFrom (tokAt K a)) (n := K.length + 1) (L := []) h.step (by omega)
  have e : a + 2 * ((0 : Nat) : Int) + 2 = a + 1 + 1 := by omega
  rw [e]
  refine ⟨(A.length : Int), A ++ [N], ?_, by simp, h.step.step⟩
  show cBlock T K (kns T K m) a d A = _
  rw [block_open (by omega) h, show d = d + 1 - 1 by omega]
  rw [show d + 1 - 1 + 1 = d + 1 by omega]
  exact hN
 | j + 1, m + 1, a, d, A, r, hm, h, hd, hl => by
  have h : At T K a ((5, [123]) :: (List.replicate (j + 1) (5, [123]) ++ (List.replicate (j + 2) (5, [125]) ++ r))) := h
  have h1 : At T K (a + 1) (List.replicate (j + 1) (5, [123]) ++ (List.replicate (j + 1) (5, [125]) ++ (5, [125]) :: r)) := by
   have := h.step
   rw [List.replicate_succ' (n := j + 1), List.append_assoc] at this
   exact this
  have h1' : At T K (a + 1) ((5, [123]) :: (List.replicate j (5, [123]) ++ (List.replicate (j + 1) (5, [125]) ++ (5, [125]) :: r))) := h1
  obtain ⟨v, A', v1, v2, v3⟩ := blk_nest j m (a + 1) (d + 1) A ((5, [125]) :: r) (by omega) h1 (by omega) (by omega)
  obtain ⟨N, hN⟩ := blkL_end (q := kns T K m) (A := A') (d := d + 1) (f := tFrom (tokAt K a)) (n := K.length) (L := [v]) v3 (by omega)
  have e : a + 2 * ((j + 1 : Nat) : Int) + 2 = a + 1 + 2 * (j : Int) + 2 + 1 := by omega
  rw [e]
  refine ⟨(A'.length : Int), A' ++ [N], ?_, by rw [List.length_append, List.length_singleton]; omega, v3.step⟩
  show cBlock T K (kns T K m) a d A = _
  rw [block_open (by omega) h]
  refine (blkL_step (n := K.length + 1) h1' rfl ((stat_blk h1').trans v1)).trans ?_
  refine hN.trans ?_
  rw [show d + 1 - 1 = d by omega]
theorem dec_no (h : At T K a ((1, [120]) :: (5, [61]) :: (k, s) :: r)) : cDeclares T K a d A = .ok false a d A := by
 have h0 : At T K (a + 0) ((1, [120]) :: (5, [61]) :: (k, s) :: r) := by rw [Int.add_zero]; exact h
 have h2 : At T K (a + 2) ((k, s) :: r) := by rw [show a + 2 = a + 1 + 1 by omega]; exact h.step.step
 unfold cDeclares
 show (cAhead T K 0 a d A).bind _ = _
 rw [ahead_at h0]
 simp only [PR.bind, show nameS [120] = true from by decide, cond_true]
 show (cAhead T K 1 a d A).bind _ = _
 rw [ahead_at h.step]
 show (cAhead T K 2 a d A).bind _ = _
 rw [ahead_at h2]
 rfl
theorem stat_set {m : Nat} (h : At T K a ((1, [120]) :: (5, [61]) :: (k, s) :: r)) (hd : d + 1 ≤ 60) (hl : A.length < 8192) :
  ∃ N, cStat T K (kns T K (m + 2)) a d A = (((kns T K (m + 2)).val.bind fun y => (cWant T K [59]).bind fun _ => cAdd K (nod 10 [(A.length : Int), y] []) (tFrom (tokAt K a))) : Pm Int) (a + 2) d (A ++ [N]) := by
 have hx := val_par (s := [120]) (by decide) 0 (m + 2) a d A (5, [61]) ((k, s) :: r) (by decide) (by omega) h (by omega) hl
 obtain ⟨N, x1, x2, x3⟩ := hx
 have e : a + 2 * ((0 : Nat) : Int) + 1 = a + 1 := by omega
 rw [e] at x1 x3
 refine ⟨N, ?_⟩
 unfold cStat
 show (cNext T K a d A).bind _ = _
 rw [next_at h]
 show (cond (tKind (tokAt K a) == 5 && ([120] : List UInt8) == [123]) (_ : Pm Int) ((cDeclares T K).bind _)) a d A = _
 rw [h.get.1]
 show (cDeclares T K a d A).bind _ = _
 rw [dec_no h]
 simp only [PR.bind, cond_false]
 show (cPlain T K (kns T K (m + 2)) (tFrom (tokAt K a))) a d A = _
 unfold cPlain
 show ((kns T K (m + 2)).val a d A).bind _ = _
 rw [x1]
 simp only [PR.bind]
 show (cNext T K (a + 1) d (A ++ [N])).bind _ = _
 rw [next_at x3]
 simp only [PR.bind]
 have hk : nKind (getN (A ++ [N]) (A.length : Int).toNat) = 25 := by
  unfold getN
  rw [Int.toNat_natCast, List.getD_eq_getElem?_getD]
  simpa using x2
 show (PR.ok (nKind (getN (A ++ [N]) (A.length : Int).toNat)) (a + 1) d (A ++ [N])).bind _ = _
 rw [hk]
 simp only [PR.bind]
 show (cTake T K [61] (a + 1) d (A ++ [N])).bind _ = _
 rw [take_yes x3 rfl]
 simp only [PR.bind]
 show ((kns T K (m + 2)).val (a + 1 + 1) d (A ++ [N])).bind _ = _
 rw [show a + 1 + 1 = a + 2 by omega]
 rfl
theorem blk_set_ok {m : Nat} {r' : List Tk} (h : At T K a ((5, [123]) :: (1, [120]) :: (5, [61]) :: (k, s) :: r)) (hd : d + 2 ≤ 60) (hl : A.length < 8000)
  (hv : ∀ N, ∃ v a' A', (kns T K (m + 2)).val (a + 3) (d + 1) (A ++ [N]) = .ok v a' (d + 1) A' ∧ A'.length < 8150 ∧ At T K a' ((5, [59]) :: (5, [125]) :: r')) :
  ∃ v a' A', (kns T K (m + 3)).blk a d A = .ok v a' d A' ∧ A'.length < 8160 ∧ At T K a' r' := by
 obtain ⟨N, hN⟩ := stat_set (m := m) (A := A) (d := d + 1) h.step (by omega) (by omega)
 obtain ⟨v, b, B, v1, v2, v3⟩ := hv N
 have hst : cStat T K (kns T K (m + 2)) (a + 1) (d + 1) A = .ok (B.length : Int) (b + 1) (d + 1) (B ++ [spanned (nod 10 [(A.length : Int), v] []) (tFrom (tokAt K (a + 1))) (lastTo K (b + 1) (tFrom (tokAt K (a + 1))))]) := by
  rw [hN, show a + 1 + 2 = a + 3 by omega]
  show ((kns T K (m + 2)).val (a + 3) (d + 1) (A ++ [N])).bind _ = _
  rw [v1]
  show (cWant T K [59] b (d + 1) B).bind _ = _
  rw [want_at v3 rfl]
  exact add_at _ _ (by omega)
 obtain ⟨M, hM⟩ := blkL_end (q := kns T K (m + 2)) (d := d + 1) (f := tFrom (tokAt K a)) (n := K.length) (L := [(B.length : Int)]) (A := B ++ [spanned (nod 10 [(A.length : Int), v] []) (tFrom (tokAt K (a + 1))) (lastTo K (b + 1) (tFrom (tokAt K (a + 1))))]) v3.step (by simp; omega)
 have hb := (block_open (q := kns T K (m + 2)) (A := A) (d := d) (by omega) h).trans ((blkL_step (n := K.length + 1) h.step rfl hst).trans hM)
 rw [show d + 1 - 1 = d by omega] at hb
 exact ⟨_, _, _, hb, by simp; omega, v3.step.step⟩
theorem blk_set_fault {m : Nat} {c : Int} (h : At T K a ((5, [123]) :: (1, [120]) :: (5, [61]) :: (k, s) :: r)) (hd : d + 2 ≤ 60) (hl : A.length < 8000)
  (hv : ∀ N, ∃ p, (kns T K (m + 2)).val (a + 3) (d + 1) (A ++ [N]) = .fault c p) : ∃ p, (kns T K (m + 3)).blk a d A = .fault c p := by
 obtain ⟨N, hN⟩ := stat_set (m := m) (A := A) (d := d + 1) h.step (by omega) (by omega)
 obtain ⟨p, hp⟩ := hv N
 refine ⟨p, ?_⟩
 have hst : cStat T K (kns T K (m + 2)) (a + 1) (d + 1) A = .fault c p := by
  rw [hN, show a + 1 + 2 = a + 3 by omega]
  show ((kns T K (m + 2)).val (a + 3) (d + 1) (A ++ [N])).bind _ = _
  rw [hp]
  rfl
 show cBlock T K (kns T K (m + 2)) a d A = _
 rw [block_open (by omega) h]
 exact blkL_fault (n := K.length + 1) h.step rfl hst
end
end Go.Sx.Tryz
namespace Go.Sx.Tryz
open Go Go.Sx Go.Proofs
set_option maxRecDepth 100000
section
variable {T : List UInt8} {K : List Tok} {a d : Int} {A : List Nd} {r : List Tk} {k : Int} {s : List UInt8} {q : Kn}
theorem paramsL_eq (n : Nat) (L : List Int) : cParamsL T K (n + 1) L = (cTake T K [41]).bind fun b => bif b then .ret L
  else (bif decide ((L.length : Int) > 0) then (cWant T K [44]).bind fun _ => .ret () else .ret ()).bind fun _ => (cFew K ((L.length : Int) + 1)).bind fun _ => (cNext T K).bind fun t => (cTyped T K false).bind fun x => (cName T K).bind fun s => (cAdd K (withK x 7 (nKids x) s) (tFrom t.1)).bind fun y => cParamsL T K n (L ++ [y]) := rfl
theorem params_none (h : At T K a ((5, [40]) :: (5, [41]) :: r)) : cParams T K a d A = .ok [] (a + 2) d A := by
 unfold cParams
 show (cWant T K [40] a d A).bind _ = _
 rw [want_at h rfl]
 simp only [PR.bind]
 rw [paramsL_eq]
 show (cTake T K [41] (a + 1) d A).bind _ = _
 rw [take_yes h.step rfl]
 rw [show a + 2 = a + 1 + 1 by omega]
 rfl
theorem inner_int {x : Tk} (h : At T K a ((1, [105, 110, 116]) :: x :: r)) (h1 : ((x.1 == 1 || x.1 == 5) && x.2 == [63]) = false) (h2 : ((x.1 == 1 || x.1 == 5) && x.2 == [91]) = false) (hx : At T K (a + 2) r) (hr : r ≠ []) : cInner T K a d A = .ok (nodT 1 [] (tFrom (tokAt K a)) (tTo (tokAt K a)) (tTo (tokAt K a))) (a + 1) d A := by
 obtain ⟨k, s⟩ := x
 obtain ⟨y, r', rfl⟩ : ∃ y r', r = y :: r' := by
  cases r with
  | nil => exact absurd rfl hr
  | cons y r' => exact ⟨y, r', rfl⟩
 obtain ⟨k2, s2⟩ := y
 have hbase : cBase T K a d A = .ok (nodT 1 [] (tFrom (tokAt K a)) (tTo (tokAt K a)) (tTo (tokAt K a))) (a + 1) d A := by
  unfold cBase
  show (cNext T K a d A).bind _ = _
  rw [next_at h]
  simp only [PR.bind]
  rw [h.get.1]
  show ((cSkip K).bind fun e => .ret (nodT 1 [] (tFrom (tokAt K a)) (tTo (tokAt K a)) e)) a d A = _
  show (cSkip K a d A).bind _ = _
  rw [skip_at h rfl]
  rfl
 unfold cInner
 show (cBase T K a d A).bind _ = _
 rw [hbase]
 simp only [PR.bind]
 show ((cNext T K).bind fun t => (cIs T K [63]).bind fun b => bif b then _ else (cAhead T K 1).bind fun z => _ : Pm Nd) (a + 1) d A = _
 show (cNext T K (a + 1) d A).bind _ = _
 rw [next_at h.step]
 simp only [PR.bind]
 show (cIs T K [63] (a + 1) d A).bind _ = _
 rw [is_at h.step, h1]
 simp only [PR.bind, cond_false]
 show (cAhead T K 1 (a + 1) d A).bind _ = _
 rw [ahead_at (n := 1) (by rw [show a + 1 + 1 = a + 2 by omega]; exact hx)]
 simp only [PR.bind]
 show (cIs T K [91] (a + 1) d A).bind _ = _
 rw [is_at h.step, h2]
 simp only [PR.bind, Bool.false_and, cond_false]
 rfl
theorem typed_int {v : Bool} {x : Tk} (h : At T K a ((1, [105, 110, 116]) :: x :: r)) (h1 : ((x.1 == 1 || x.1 == 5) && x.2 == [63]) = false) (h2 : ((x.1 == 1 || x.1 == 5) && x.2 == [91]) = false) (hx : At T K (a + 2) r) (hr : r ≠ []) : cTyped T K v a d A = .ok (nodT 1 [] (tFrom (tokAt K a)) (tTo (tokAt K a)) (tTo (tokAt K a))) (a + 1) d A := by
 unfold cTyped
 show (cNext T K a d A).bind _ = _
 rw [next_at h]
 simp only [PR.bind]
 rw [show (([105, 110, 116] : List UInt8) == [79, 112, 116, 105, 111, 110] && tKind (tokAt K a) == 1) = false from rfl, show (v && (tKind (tokAt K a) == 1 && ([105, 110, 116] : List UInt8) == [118, 111, 105, 100])) = false by rw [show (([105, 110, 116] : List UInt8) == [118, 111, 105, 100]) = false from rfl, Bool.and_false, Bool.and_false]]
 exact inner_int h h1 h2 hx hr
theorem member_meth (h : At T K a ((1, [105, 110, 116]) :: (1, [102]) :: (5, [40]) :: (5, [41]) :: r)) : ∃ x f, cMember T K q a d A = ((q.blk.bind fun b => cAdd K (withK x 6 ([] ++ [b]) [102]) f) : Pm Int) (a + 4) d A := by
 refine ⟨nodT 1 [] (tFrom (tokAt K a)) (tTo (tokAt K a)) (tTo (tokAt K a)), tFrom (tokAt K a), ?_⟩
 unfold cMember
 show (cNext T K a d A).bind _ = _
 rw [next_at h]
 simp only [PR.bind]
 rw [h.get.1]
 show ((cTyped T K true).bind _) a d A = _
 show (cTyped T K true a d A).bind _ = _
 have h2 : At T K (a + 2) ((5, [40]) :: (5, [41]) :: r) := by rw [show a + 2 = a + 1 + 1 by omega]; exact h.step.step
 rw [typed_int h rfl rfl h2 (by simp)]
 simp only [PR.bind]
 show (cName T K (a + 1) d A).bind _ = _
 rw [name_at h.step (by decide)]
 simp only [PR.bind]
 show (cIs T K [40] (a + 1 + 1) d A).bind _ = _
 rw [is_at h.step.step]
 simp only [PR.bind]
 show (cParams T K (a + 1 + 1) d A).bind _ = _
 rw [params_none h.step.step]
 simp only [PR.bind]
 rw [show a + 1 + 1 + 2 = a + 4 by omega]
theorem classL_eq (f : Int) (s : List UInt8) (n : Nat) (L : List Int) : cClassL T K q f s (n + 1) L = (cIs T K [125]).bind fun b => bif b then (cWant T K [125]).bind fun _ => cAdd K (nod 2 L s) f
  else (cFew K ((L.length : Int) + 1)).bind fun _ => (cMember T K q).bind fun x => cClassL T K q f s n (L ++ [x]) := rfl
theorem programL_eq (n : Nat) (L : List Int) : cProgramL T K q (n + 1) L = (cNext T K).bind fun t => bif tKind t.1 == 0 then (cAdd K (nod 1 L []) 0).bind fun _ => .ret ()
  else (cFew K ((L.length : Int) + 1)).bind fun _ => (cClass T K q).bind fun x => cProgramL T K q n (L ++ [x]) := rfl
theorem class_open (h : At T K a ((1, [99, 108, 97, 115, 115]) :: (1, [65]) :: (5, [123]) :: r)) : cClass T K q a d A = cClassL T K q (tFrom (tokAt K a)) [65] (K.length + 2) [] (a + 3) d A := by
 unfold cClass
 show (cNext T K a d A).bind _ = _
 rw [next_at h]
 simp only [PR.bind]
 show (cWant T K [99, 108, 97, 115, 115] a d A).bind _ = _
 rw [want_at h rfl]
 simp only [PR.bind]
 show (cName T K (a + 1) d A).bind _ = _
 rw [name_at h.step (by decide)]
 simp only [PR.bind]
 show (cNext T K (a + 1 + 1) d A).bind _ = _
 rw [next_at h.step.step]
 simp only [PR.bind]
 show (cTake T K [101, 120, 116, 101, 110, 100, 115] (a + 1 + 1) d A).bind _ = _
 rw [take_no h.step.step rfl]
 simp only [PR.bind, cond_false]
 show (cWant T K [123] (a + 1 + 1) d A).bind _ = _
 rw [want_at h.step.step rfl]
 simp only [PR.bind]
 rw [show a + 1 + 1 + 1 = a + 3 by omega]
theorem classL_step {f : Int} {n : Nat} {L : List Int} {w : List UInt8} (h : At T K a ((k, s) :: r)) (hs : ((k == 1 || k == 5) && s == [125]) = false) (hL : L.length < 64) : cClassL T K q f w (n + 1) L a d A = ((cMember T K q).bind fun x => cClassL T K q f w n (L ++ [x])) a d A := by
 rw [classL_eq]
 show (cIs T K [125] a d A).bind _ = _
 rw [is_at h, hs]
 simp only [PR.bind, cond_false]
 show (cFew K ((L.length : Int) + 1) a d A).bind _ = _
 rw [few_at (by omega)]
 rfl
theorem classL_end {f : Int} {n : Nat} {L : List Int} {w : List UInt8} (h : At T K a ((5, [125]) :: r)) (hl : A.length < 8192) : ∃ N, cClassL T K q f w (n + 1) L a d A = .ok (A.length : Int) (a + 1) d (A ++ [N]) := by
 refine ⟨spanned (nod 2 L w) f (lastTo K (a + 1) f), ?_⟩
 rw [classL_eq]
 show (cIs T K [125] a d A).bind _ = _
 rw [is_at h]
 simp only [PR.bind]
 show (cWant T K [125] a d A).bind _ = _
 rw [want_at h rfl]
 exact add_at _ _ hl
theorem programL_step {n : Nat} {L : List Int} (h : At T K a ((k, s) :: r)) (hk : (k == 0) = false) (hL : L.length < 64) : cProgramL T K q (n + 1) L a d A = ((cClass T K q).bind fun x => cProgramL T K q n (L ++ [x])) a d A := by
 rw [programL_eq]
 show (cNext T K a d A).bind _ = _
 rw [next_at h]
 simp only [PR.bind]
 rw [h.get.1, hk]
 simp only [cond_false]
 show (cFew K ((L.length : Int) + 1) a d A).bind _ = _
 rw [few_at (by omega)]
 rfl
theorem programL_end {n : Nat} {L : List Int} (h : At T K a ((0, s) :: r)) (hl : A.length < 8192) : ∃ B, cProgramL T K q (n + 1) L a d A = .ok () a d B := by
 refine ⟨A ++ [spanned (nod 1 L []) 0 (lastTo K a 0)], ?_⟩
 rw [programL_eq]
 show (cNext T K a d A).bind _ = _
 rw [next_at h]
 simp only [PR.bind]
 rw [h.get.1]
 show (cAdd K (nod 1 L []) 0 a d A).bind _ = _
 rw [add_at _ _ hl]
 rfl
theorem prog_fault {c p : Int} (h : At T K 0 (headK ++ r)) (hb : q.blk 7 0 [] = .fault c p) : cProgram T K q 0 0 [] = .fault c p := by
 have h : At T K 0 ((1, [99, 108, 97, 115, 115]) :: (1, [65]) :: (5, [123]) :: (1, [105, 110, 116]) :: (1, [102]) :: (5, [40]) :: (5, [41]) :: r) := h
 unfold cProgram
 rw [programL_step (n := K.length + 1) h rfl (by simp)]
 show (cClass T K q 0 0 []).bind _ = _
 rw [class_open h, classL_step (n := K.length + 1) (L := []) (a := 0 + 3) h.step.step.step rfl (by simp)]
 obtain ⟨x, f, hm⟩ := member_meth (q := q) (A := []) (d := 0) h.step.step.step
 show ((cMember T K q (0 + 3) 0 []).bind _).bind _ = _
 rw [show (0 : Int) + 3 = 0 + 1 + 1 + 1 by omega, hm]
 show ((((q.blk (0 + 1 + 1 + 1 + 4) 0 []).bind _)).bind _).bind _ = _
 rw [show (0 : Int) + 1 + 1 + 1 + 4 = 7 by omega, hb]
 rfl
theorem prog_ok {v a' : Int} {A' : List Nd} (h : At T K 0 (headK ++ r)) (hb : q.blk 7 0 [] = .ok v a' 0 A') (h' : At T K a' [(5, [125]), (0, [])]) (hl : A'.length < 8180) : ∃ B, cProgram T K q 0 0 [] = .ok () (a' + 1) 0 B := by
 have h : At T K 0 ((1, [99, 108, 97, 115, 115]) :: (1, [65]) :: (5, [123]) :: (1, [105, 110, 116]) :: (1, [102]) :: (5, [40]) :: (5, [41]) :: r) := h
 unfold cProgram
 rw [programL_step (n := K.length + 1) h rfl (by simp)]
 show ∃ B, (cClass T K q 0 0 []).bind _ = _
 rw [class_open h, classL_step (n := K.length + 1) (L := []) (a := 0 + 3) h.step.step.step rfl (by simp)]
 obtain ⟨x, f, hm⟩ := member_meth (q := q) (A := []) (d := 0) h.step.step.step
 have hm2 : cMember T K q (0 + 3) 0 [] = .ok (A'.length : Int) a' 0 (A' ++ [spanned (withK x 6 ([] ++ [v]) [102]) f (lastTo K a' f)]) := by
  rw [show (0 : Int) + 3 = 0 + 1 + 1 + 1 by omega, hm]
  show (q.blk (0 + 1 + 1 + 1 + 4) 0 []).bind _ = _
  rw [show (0 : Int) + 1 + 1 + 1 + 4 = 7 by omega, hb]
  exact add_at _ _ (by omega)
 generalize hB : A' ++ [spanned (withK x 6 ([] ++ [v]) [102]) f (lastTo K a' f)] = B at hm2
 have hBl : B.length = A'.length + 1 := by rw [← hB]; simp
 obtain ⟨N, hN⟩ := classL_end (q := q) (f := tFrom (tokAt K 0)) (n := K.length) (L := [] ++ [(A'.length : Int)]) (w := [65]) (A := B) (d := 0) h' (by omega)
 show ∃ B, ((cMember T K q (0 + 3) 0 []).bind _).bind _ = _
 rw [hm2]
 simp only [PR.bind]
 rw [hN]
 simp only [PR.bind]
 exact programL_end (n := K.length) h'.step (by simp; omega)
end
end Go.Sx.Tryz
namespace Go.Sx.Tryz
open Go Go.Sx Go.Proofs
set_option maxRecDepth 100000
def repK (u : List Tk) : Nat → List Tk
 | 0 => []
 | n + 1 => u ++ repK u n
theorem repK_len (u : List Tk) : ∀ n, (repK u n).length = n * u.length
 | 0 => by simp [repK]
 | n + 1 => by simp [repK, repK_len u n, Nat.succ_mul, Nat.add_comm]
theorem Lx.many {w : List UInt8} {u : List Tk} {c : UInt8} {w' : List UInt8} (hw : w = c :: w') {r : List UInt8} {ts : List Tk} (hr : Lx r ts)
  (h0 : Lx r ts → Lx (w ++ r) (u ++ ts)) (h1 : ∀ r ts, Lx (c :: r) ts → Lx (w ++ c :: r) (u ++ ts)) : ∀ n, Lx (Lib.repeatL w n ++ r) (repK u n ++ ts)
 | 0 => hr
 | 1 => by
  have := h0 hr
  simpa [Lib.repeatL, repK] using this
 | n + 2 => by
  have ih := Lx.many hw hr h0 h1 (n + 1)
  have e : Lib.repeatL w (n + 2) ++ r = w ++ (Lib.repeatL w (n + 1) ++ r) := by simp [Lib.repeatL, List.append_assoc]
  have e2 : repK u (n + 2) ++ ts = u ++ (repK u (n + 1) ++ ts) := by simp [repK, List.append_assoc]
  rw [e, e2]
  have e3 : Lib.repeatL w (n + 1) ++ r = c :: (w' ++ (Lib.repeatL w n ++ r)) := by
   show (w ++ Lib.repeatL w n) ++ r = _
   rw [hw]
   simp [List.append_assoc]
  rw [e3] at ih ⊢
  exact h1 _ _ ih
def clsT : List UInt8 := [99, 108, 97, 115, 115, 32, 65, 123, 125]
def clsK : List Tk := [(1, [99, 108, 97, 115, 115]), (1, [65]), (5, [123]), (5, [125])]
theorem lx_cls {r : List UInt8} {ts : List Tk} (h : Lx (125 :: r) ((5, [125]) :: ts)) : Lx (clsT ++ r) (clsK ++ ts) := by
 refine Lx.cons (w := [99, 108, 97, 115, 115]) (r := 32 :: 65 :: 123 :: 125 :: r) rfl (by decide) ?_
 refine Lx.cons (w := [65]) (r := 123 :: 125 :: r) rfl (by decide) ?_
 refine Lx.sy (c := 123) (d := 125) (by decide) (by decide) ?_
 exact h
theorem lxm0 (n : Nat) : Lx (Lib.repeatL clsT n) (repK clsK n) := by
 have := Lx.many (w := clsT) (u := clsK) (c := 99) rfl Lx.nil (fun _ => by
  have := lx_cls (r := []) (ts := []) (Lx.one (w := [125]) (r := []) rfl (by decide) rfl .nil)
  simpa using this) (fun r ts h => lx_cls (Lx.sy (c := 125) (d := 99) (by decide) (by decide) h)) n
 simpa using this
def fldT : List UInt8 := [105, 110, 116, 32, 120, 59]
def fldK : List Tk := [(1, [105, 110, 116]), (1, [120]), (5, [59])]
theorem lx_fld {r : List UInt8} {ts : List Tk} (h : Lx (59 :: r) ((5, [59]) :: ts)) : Lx (fldT ++ r) (fldK ++ ts) := by
 refine Lx.cons (w := [105, 110, 116]) (r := 32 :: 120 :: 59 :: r) rfl (by decide) ?_
 exact Lx.cons (w := [120]) (r := 59 :: r) rfl (by decide) h
theorem Lx.last : Lx [125] [(5, [125])] := Lx.one (w := [125]) (r := []) rfl (by decide) rfl .nil
def opnT : List UInt8 := [99, 108, 97, 115, 115, 32, 65, 123]
def opnK : List Tk := [(1, [99, 108, 97, 115, 115]), (1, [65]), (5, [123])]
theorem lx_opn {d : UInt8} {r : List UInt8} {ts : List Tk} (hs : sy1 123 d = true) (hn : nb d = true) (h : Lx (d :: r) ts) : Lx (opnT ++ d :: r) (opnK ++ ts) := by
 refine Lx.cons (w := [99, 108, 97, 115, 115]) (r := 32 :: 65 :: 123 :: d :: r) rfl (by decide) ?_
 refine Lx.cons (w := [65]) (r := 123 :: d :: r) rfl (by decide) ?_
 exact Lx.sy hs hn h
theorem lxm1 (n : Nat) : Lx (opnT ++ Lib.repeatL fldT n ++ [125]) (opnK ++ (repK fldK n ++ [(5, [125])])) := by
 have h := Lx.many (w := fldT) (u := fldK) (c := 105) rfl Lx.last (fun h => lx_fld (Lx.sy (c := 59) (d := 125) (by decide) (by decide) h)) (fun r ts h => lx_fld (Lx.sy (c := 59) (d := 105) (by decide) (by decide) h)) n
 rw [List.append_assoc]
 cases n with
 | zero => exact lx_opn (d := 125) (by decide) (by decide) h
 | succ n => exact lx_opn (d := 105) (by decide) (by decide) h
def parT : List UInt8 := [105, 110, 116, 32, 120, 44]
def parK : List Tk := [(1, [105, 110, 116]), (1, [120]), (5, [44])]
theorem lx_par {r : List UInt8} {ts : List Tk} (h : Lx (44 :: r) ((5, [44]) :: ts)) : Lx (parT ++ r) (parK ++ ts) := by
 refine Lx.cons (w := [105, 110, 116]) (r := 32 :: 120 :: 44 :: r) rfl (by decide) ?_
 exact Lx.cons (w := [120]) (r := 44 :: r) rfl (by decide) h
def metT : List UInt8 := [99, 108, 97, 115, 115, 32, 65, 123, 105, 110, 116, 32, 102, 40]
def metK : List Tk := [(1, [99, 108, 97, 115, 115]), (1, [65]), (5, [123]), (1, [105, 110, 116]), (1, [102]), (5, [40])]
theorem lx_met {d : UInt8} {r : List UInt8} {ts : List Tk} (hs : sy1 40 d = true) (hn : nb d = true) (h : Lx (d :: r) ts) : Lx (metT ++ d :: r) (metK ++ ts) := by
 refine lx_opn (d := 105) (by decide) (by decide) ?_
 refine Lx.cons (w := [105, 110, 116]) (r := 32 :: 102 :: 40 :: d :: r) rfl (by decide) ?_
 refine Lx.cons (w := [102]) (r := 40 :: d :: r) rfl (by decide) ?_
 exact Lx.sy hs hn h
def parE : List Tk := [(1, [105, 110, 116]), (1, [120]), (5, [41]), (5, [123]), (5, [125]), (5, [125])]
theorem lxm2 (n : Nat) : Lx (metT ++ Lib.repeatL parT n ++ [105, 110, 116, 32, 120, 41, 123, 125, 125]) (metK ++ (repK parK n ++ parE)) := by
 have h0 : Lx [105, 110, 116, 32, 120, 41, 123, 125, 125] parE := by
  refine Lx.cons (w := [105, 110, 116]) (r := [32, 120, 41, 123, 125, 125]) rfl (by decide) ?_
  refine Lx.cons (w := [120]) (r := [41, 123, 125, 125]) rfl (by decide) ?_
  refine Lx.sy (c := 41) (d := 123) (by decide) (by decide) ?_
  refine Lx.sy (c := 123) (d := 125) (by decide) (by decide) ?_
  exact Lx.sy (c := 125) (d := 125) (by decide) (by decide) Lx.last
 have h := Lx.many (w := parT) (u := parK) (c := 105) rfl h0 (fun h => lx_par (Lx.sy (c := 44) (d := 105) (by decide) (by decide) h)) (fun r ts h => lx_par (Lx.sy (c := 44) (d := 105) (by decide) (by decide) h)) n
 rw [List.append_assoc]
 cases n with
 | zero => exact lx_met (d := 105) (by decide) (by decide) h
 | succ n => exact lx_met (d := 105) (by decide) (by decide) h
theorem lx_one {d : UInt8} {r : List UInt8} {ts : List Tk} (hd : isDig d.toNat = false) (h46 : (d == 46) = false) (hn : nb d = true) (h : Lx (d :: r) ts) : Lx (49 :: d :: r) ((2, [49]) :: ts) := by
 refine Lx.one (w := [49]) (r := d :: r) ?_ (by decide) (gap_nb hn) h
 show oneS (49 :: d :: r) = (2, 0, 1)
 have e0 : at8 (49 :: d :: r) 0 = 49 := rfl
 have e1 : run8 isDig (49 :: d :: r) = 1 := by
  unfold run8
  rw [List.takeWhile_cons, show isDig ((49 : UInt8).toNat : Int) = true from rfl]
  simp only [if_true]
  rw [List.takeWhile_cons, hd]
  rfl
 have e2 : at8 (49 :: d :: r) 1 = (d.toNat : Int) := rfl
 have e3 : ((d.toNat : Int) == 46) = false := by
  cases h0 : (d.toNat : Int) == 46 with
  | false => rfl
  | true =>
   have h0 : (d.toNat : Int) = 46 := by simpa using h0
   have : d = 46 := by
    apply UInt8.toNat_inj.1
    show d.toNat = 46
    omega
   rw [this] at h46
   exact absurd h46 (by decide)
 unfold oneS
 simp only [e0, e1, e2, e3, show isLet 49 = false from rfl, show isDig 49 = true from rfl, Bool.false_and, Bool.and_false, cond_true, cond_false]
 rfl
def argT : List UInt8 := [49, 44]
def argK : List Tk := [(2, [49]), (5, [44])]
theorem lx_arg {r : List UInt8} {ts : List Tk} (h : Lx (44 :: r) ((5, [44]) :: ts)) : Lx (argT ++ r) (argK ++ ts) := lx_one (d := 44) (by decide) (by decide) (by decide) h
def calT : List UInt8 := [41, 123, 116, 104, 105, 115, 46, 102, 40]
def calK : List Tk := [(5, [41]), (5, [123]), (1, [116, 104, 105, 115]), (5, [46]), (1, [102]), (5, [40])]
theorem lx_cal {r : List UInt8} {ts : List Tk} (h : Lx (49 :: r) ts) : Lx (calT ++ 49 :: r) (calK ++ ts) := by
 refine Lx.sy (c := 41) (d := 123) (by decide) (by decide) ?_
 refine Lx.sy (c := 123) (d := 116) (by decide) (by decide) ?_
 refine Lx.cons (w := [116, 104, 105, 115]) (r := 46 :: 102 :: 40 :: 49 :: r) rfl (by decide) ?_
 refine Lx.sy (c := 46) (d := 102) (by decide) (by decide) ?_
 refine Lx.cons (w := [102]) (r := 40 :: 49 :: r) rfl (by decide) ?_
 exact Lx.sy (c := 40) (d := 49) (by decide) (by decide) h
def argE : List Tk := [(2, [49]), (5, [41]), (5, [59]), (5, [125]), (5, [125])]
theorem lxm3 (n : Nat) : Lx (metT ++ (calT ++ (Lib.repeatL argT n ++ [49, 41, 59, 125, 125]))) (metK ++ (calK ++ (repK argK n ++ argE))) := by
 have h0 : Lx [49, 41, 59, 125, 125] argE := by
  refine Lx.cons (w := [49]) (r := [41, 59, 125, 125]) rfl (by decide) ?_
  refine Lx.sy (c := 41) (d := 59) (by decide) (by decide) ?_
  exact Lx.fin
 have h := Lx.many (w := argT) (u := argK) (c := 49) rfl h0 (fun h => lx_arg (Lx.sy (c := 44) (d := 49) (by decide) (by decide) h)) (fun r ts h => lx_arg (Lx.sy (c := 44) (d := 49) (by decide) (by decide) h)) n
 refine lx_met (d := 41) (r := [123, 116, 104, 105, 115, 46, 102, 40] ++ (Lib.repeatL argT n ++ [49, 41, 59, 125, 125])) (by decide) (by decide) ?_
 cases n with
 | zero => exact lx_cal h
 | succ n => exact lx_cal h
def plsT : List UInt8 := [43, 49]
def plsK : List Tk := [(5, [43]), (2, [49])]
theorem lx_pls {d : UInt8} {r : List UInt8} {ts : List Tk} (hd : isDig d.toNat = false) (h46 : (d == 46) = false) (hn : nb d = true) (h : Lx (d :: r) ts) : Lx (plsT ++ d :: r) (plsK ++ ts) :=
 Lx.sy (c := 43) (d := 49) (by decide) (by decide) (lx_one hd h46 hn h)
theorem lxm4 (n : Nat) : Lx (preT ++ [49] ++ Lib.repeatL plsT n ++ [59, 125, 125]) (preK ++ ((2, [49]) :: (repK plsK n ++ [(5, [59]), (5, [125]), (5, [125])]))) := by
 have h := Lx.many (w := plsT) (u := plsK) (c := 43) rfl Lx.fin (fun h => lx_pls (d := 59) (by decide) (by decide) (by decide) h) (fun r ts h => lx_pls (d := 43) (by decide) (by decide) (by decide) h) n
 have h1 : Lx (49 :: (Lib.repeatL plsT n ++ [59, 125, 125])) ((2, [49]) :: (repK plsK n ++ [(5, [59]), (5, [125]), (5, [125])])) := by
  cases n with
  | zero => exact Lx.cons (w := [49]) (r := [59, 125, 125]) rfl (by decide) h
  | succ n =>
   have h : Lx (43 :: 49 :: (Lib.repeatL plsT n ++ [59, 125, 125])) (repK plsK (n + 1) ++ [(5, [59]), (5, [125]), (5, [125])]) := h
   exact lx_one (d := 43) (by decide) (by decide) (by decide) h
 have h2 := Lx.pre (d := 49) (by decide) (by decide) h1
 simpa [List.append_assoc] using h2
end Go.Sx.Tryz
namespace Go.Sx.Tryz
open Go Go.Sx Go.Proofs
set_option maxRecDepth 100000
theorem at_zero {T : List UInt8} {K : List Tok} {r : List Tk} (h : kindsOf T K = r) : At T K 0 r := ⟨Int.le_refl 0, h⟩
theorem parse_ok {T : List UInt8} {a d : Int} {B : List Nd} (hl : lexC T = 0) (h : cProgram T (lexK T) (kns T (lexK T) deepK) 0 0 [] = .ok () a d B) : parseS T = ((B, (B.length : Int) - 1, ()), ((0 : Int), (0 : Int), ()), ()) := by
 unfold parseS parseP
 rw [hl, h]
 rfl
theorem parse_fault {T : List UInt8} {c p : Int} (hl : lexC T = 0) (h : cProgram T (lexK T) (kns T (lexK T) deepK) 0 0 [] = .fault c p) : parseS T = ((([] : List Nd), (0 : Int), ()), (c, p, ()), ()) := by
 unfold parseS parseP
 rw [hl, h]
 rfl
theorem deepK_eq : deepK = 39997 + 3 := rfl
theorem at_seven {T : List UInt8} {K : List Tok} {r : List Tk} (h : At T K 0 (headK ++ r)) : At T K 7 r := by
 have h : At T K 0 ((1, [99, 108, 97, 115, 115]) :: (1, [65]) :: (5, [123]) :: (1, [105, 110, 116]) :: (1, [102]) :: (5, [40]) :: (5, [41]) :: r) := h
 exact h.step.step.step.step.step.step.step
section
variable {T : List UInt8} {K : List Tok} {n : Nat} {r : List Tk}
theorem seven_three : (7 : Int) + 1 + 1 + 1 = 7 + 3 := by omega
end
theorem ok_of {T : List UInt8} {r : List Tk} (hl : lexC T = 0) (h : At T (lexK T) 0 (headK ++ r)) (hb : ∀ m, 200 ≤ m → ∃ v a' A', (kns T (lexK T) (m + 3)).blk 7 0 [] = .ok v a' 0 A' ∧ A'.length < 8160 ∧ At T (lexK T) a' [(5, [125]), (0, [])]) : (parseS T).2.1.1 = 0 := by
 obtain ⟨v, a', A', b1, b2, b3⟩ := hb 39997 (by omega)
 rw [← deepK_eq] at b1
 obtain ⟨B, hB⟩ := prog_ok h b1 b3 (by omega)
 rw [parse_ok hl hB]
 rfl
end Go.Sx.Tryz
