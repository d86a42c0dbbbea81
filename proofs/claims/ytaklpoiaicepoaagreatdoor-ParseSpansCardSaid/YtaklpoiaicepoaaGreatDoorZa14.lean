/- A part of the proof: see the row's text. -/
import Derived.Test.YtaklpoiaicepoaaGreatDoorZa13
set_option linter.unusedVariables false
set_option linter.unusedSimpArgs false
noncomputable section
namespace Go.Sx.Tryz
open Go Go.Sx Go.Proofs
set_option maxRecDepth 100000
variable {G : Nat → Obj → Prop}
theorem drop_take_len (T : List UInt8) (a : Int) : List.drop (Int.toNat a) (List.take (Int.toNat (T.length : Int)) T) = rest8 T a := by
 rw [Int.toNat_natCast, List.take_length]
 rfl
theorem rest_pre {T pre r : List UInt8} (h : T = pre ++ r) : rest8 T (pre.length : Int) = r := by
 unfold rest8
 rw [h, Int.toNat_natCast, List.drop_left]
theorem rest_len {T : List UInt8} {a : Int} (h0 : 0 ≤ a) (h1 : a ≤ T.length) : ((rest8 T a).length : Int) = T.length - a := by
 unfold rest8
 rw [List.length_drop]
 omega
theorem rest_get {T : List UInt8} {a : Int} (h0 : 0 ≤ a) (i : Nat) : (rest8 T a).getD i 0 = T.getD (a.toNat + i) 0 := by
 unfold rest8
 simp [List.getD, List.getElem?_drop]
theorem inI_app8 (pre : List UInt8) (c : UInt8) (r : List UInt8) : inI (pre.length : Int) (pre ++ c :: r).length = true := by
 simp only [inI, List.length_append, List.length_cons, Bool.and_eq_true, decide_eq_true_eq]
 omega
theorem blk_SA (x : Dens sigC) : SAD Tryz.prog G 60 sigC sigB x (blkX x) := by
 obtain ⟨c, ⟨⟩⟩ := x
 have key : ∀ c : Int, body (R := R0) E (tabI []) fi60 [.int .u8 c] [] .ok = Rs.ok (outB (isBlk c)) := fun c => by
  rw [body60]
  unfold isBlk
  cases (c == (32 : Int)) <;> cases (c == (9 : Int)) <;> cases (c == (10 : Int)) <;> rfl
 exact body_ok (envOK []) (tabI_ok .nil) fc60 (key c)
theorem let_SA (x : Dens sigC) : SAD Tryz.prog G 61 sigC sigB x (letX x) := by
 obtain ⟨c, ⟨⟩⟩ := x
 have key : ∀ c : Int, body (R := R0) E (tabI []) fi61 [.int .u8 c] [] .ok = Rs.ok (outB (isLet c)) := fun c => by
  rw [body61]
  unfold isLet
  cases decide (c ≥ 97) <;> cases decide (c ≤ 122) <;> cases decide (c ≥ 65) <;> cases decide (c ≤ 90) <;> rfl
 exact body_ok (envOK []) (tabI_ok .nil) fc61 (key c)
theorem dig_SA (x : Dens sigC) : SAD Tryz.prog G 63 sigC sigB x (digX x) := by
 obtain ⟨c, ⟨⟩⟩ := x
 have key : ∀ c : Int, body (R := R0) E (tabI []) fi63 [.int .u8 c] [] .ok = Rs.ok (outB (isDig c)) := fun c => by
  rw [body63]
  unfold isDig
  cases decide (c ≥ 48) <;> cases decide (c ≤ 57) <;> rfl
 exact body_ok (envOK []) (tabI_ok .nil) fc63 (key c)
def libB0 : List (Nat × Intr) := [(61, specI 61 sigC sigB (fun _ => true) letX), (63, specI 63 sigC sigB (fun _ => true) digX)]
theorem body62' (c : Int) : body (R := R0) E (tabI libB0) fi62 [.int .u8 c] [] .ok = bif isLet c then Rs.ok (Out.ret (AV.bool true), []) else Rs.ok (Out.ret (AV.bool (isDig c)), []) := by kernel_rfl
theorem wrd_SA (x : Dens sigC) : SAD Tryz.prog G 62 sigC sigB x (wrdX x) := by
 obtain ⟨c, ⟨⟩⟩ := x
 have key : ∀ c : Int, body (R := R0) E (tabI libB0) fi62 [.int .u8 c] [] .ok = Rs.ok (outB (isWrd c)) := fun c => by
  rw [body62']
  unfold isWrd
  cases isLet c <;> rfl
 exact body_ok (envOK []) (tabI_ok (.cons (specI_ok fun x _ => let_SA x) (.cons (specI_ok fun x _ => dig_SA x) .nil))) fc62 (key c)
theorem libB_ok : IChk Tryz.prog G libB := .cons (specI_ok fun x _ => blk_SA x) (.cons (specI_ok fun x _ => let_SA x) (.cons (specI_ok fun x _ => wrd_SA x) (.cons (specI_ok fun x _ => dig_SA x) .nil)))
def outR (g : Nat) (v : AV) (T : List UInt8) (a : Int) (K : List Tok) : R0 := (.ret v, [.cells 86 [.str T, .int .i64 a, .own 1 g], .list 50 tokTy g false K])
theorem gen0_R (T : List UInt8) (a : Int) (K : List Tok) : Gen0 (bsR T a K) := fun ee tt gg sh l hm => by
 simp only [bsR, List.mem_cons, List.not_mem_nil, or_false, reduceCtorEq, false_or] at hm
 cases hm
 rfl
theorem bumpR {f g : Nat} {args : List AV} {v : AV} {T : List UInt8} {a a' : Int} {K K' : List Tok} (h : SA Tryz.prog G f args (bsR T a K) (outR g v T a' K')) (hv : ∀ get, gV get (fun _ => 1) v = some v) (hp : plainV v = true) :
  SA Tryz.prog G f args (bsR T a K) (.ret v, bsR1 T a' K') := by
 refine SA.bump (q := fun _ => 1) h (gen0_R T a K) (fun _ _ => Nat.le_refl _) (hv _) ?_ (by rw [hp]; rfl)
 simp [gBs, gB, mapO, gA, withIds, getB, bsR1]
theorem rdC_of {f : Nat} {rs : Sig} {p : List UInt8 → Int → Bool} {F : List UInt8 → Int → Dens rs} {A : List UInt8 → Int → Int}
  (h : ∀ (T : List UInt8) (a : Int) (K : List Tok), p T a = true → SA Tryz.prog G f [.ref 0 0] (bsR T a K) (.ret (retC rs (F T a)), bsR1 T (A T a) K)) : IntrOne Tryz.prog G f (rdC f rs p F A) := fun R args bs k r hr => by
 unfold rdC at hr
 split at hr
 ·split at hr
  ·rename_i K' hc
   split at hr
   ·rename_i hd
    obtain ⟨e, hK⟩ := castL_ty hc
    subst e
    subst hK
    exact ⟨_, hr, h _ _ _ hd⟩
   ·cases hr
  ·cases hr
 ·cases hr
theorem run8_cons (p : Int → Bool) (c : UInt8) (r : List UInt8) : run8 p (c :: r) = bif p c.toNat then run8 p r + 1 else 0 := by
 unfold run8
 rw [List.takeWhile_cons]
 cases p (c.toNat : Int) <;> rfl
theorem run8_le (p : Int → Bool) : ∀ s : List UInt8, run8 p s ≤ s.length
 | [] => Nat.le_refl _
 | c :: s => by
  rw [run8_cons]
  have := run8_le p s
  cases p (c.toNat : Int) <;> simp <;> omega
theorem wh_loop {f : Nat} {p : Int → Bool} (heq : ∀ (J : Jump R0) (T : List UInt8) (a : Int) (K : List Tok), resume E (tabI libB) (cutsOf 2 cut59 0) J [false, false] fi59.code 1 (mk59 T a K f) (finK E 2 fi59.results .ok) =
  bif decide (a < (T.length : Int)) then bif inI a T.length then bif p ((List.getD T (Int.toNat a) 0).toNat : Int) then J 0 (mk59 T (IntKind.wrap .i64 (a + 1)) K f) else .ok (outR 1 (.tup []) T a K) else .err 20 else .ok (outR 1 (.tup []) T a K))
  {T : List UInt8} {K : List Tok} (hT : (T.length : Int) ≤ 1099511627776) : ∀ (r pre : List UInt8) (fuel : Nat), T = pre ++ r → r.length < fuel → pieces (R := R0) E (tabI libB) fi59 cut59 2 .ok fuel 0 (mk59 T pre.length K f) = .ok (outR 1 (.tup []) T ((pre.length : Int) + run8 p r) K)
 | r, pre, 0, _, hf => by omega
 | [], pre, fuel + 1, hp, _ => by
  refine (heq (pieces (R := R0) E (tabI libB) fi59 cut59 2 .ok fuel) T pre.length K).trans ?_
  have h1 : ¬ ((pre.length : Int) < T.length) := by rw [hp, List.append_nil]; omega
  simp only [h1, decide_false, cond_false]
  show _ = Rs.ok (outR 1 (.tup []) T ((pre.length : Int) + 0) K)
  rw [Int.add_zero]
 | c :: r, pre, fuel + 1, hp, hf => by
  have hlen : pre.length + 1 + r.length = T.length := by rw [hp]; simp; omega
  have ih := wh_loop (K := K) heq hT r (pre ++ [c]) fuel (by simp [hp]) (by simpa using hf)
  refine (heq (pieces (R := R0) E (tabI libB) fi59 cut59 2 .ok fuel) T pre.length K).trans ?_
  have h1 : (pre.length : Int) < T.length := by omega
  have h2 : inI (pre.length : Int) T.length = true := by rw [hp]; exact inI_app8 _ _ _
  have h3 : List.getD T pre.length 0 = c := by rw [hp]; exact getD_app _ _ _
  have h4 : IntKind.wrap .i64 ((pre.length : Int) + 1) = (pre.length : Int) + 1 := wrap64 (by omega) (by omega)
  have h5 : (((pre ++ [c]).length : Nat) : Int) = (pre.length : Int) + 1 := by simp
  simp only [h1, h2, h3, h4, Int.toNat_natCast, decide_true, cond_true]
  rw [run8_cons]
  cases p (c.toNat : Int)
  ·simp only [cond_false]
   show _ = Rs.ok (outR 1 (.tup []) T ((pre.length : Int) + 0) K)
   rw [Int.add_zero]
  ·simp only [cond_true]
   rw [h5] at ih
   rw [ih]
   congr 2
   omega
theorem split_at {T : List UInt8} {a : Int} (h0 : 0 ≤ a) (h1 : a ≤ T.length) : ∃ pre, T = pre ++ rest8 T a ∧ (pre.length : Int) = a := by
 refine ⟨T.take a.toNat, ?_, ?_⟩
 ·unfold rest8
  rw [List.take_append_drop]
 ·rw [List.length_take]; omega
theorem okA_iff {T : List UInt8} {a : Int} : okA T a = true ↔ 0 ≤ a ∧ a ≤ T.length ∧ (T.length : Int) ≤ 1099511627776 := by simp only [okA, Bool.and_eq_true, decide_eq_true_eq]
theorem okA1_iff {T : List UInt8} {a : Int} : okA1 T a = true ↔ 0 ≤ a ∧ a < T.length ∧ (T.length : Int) ≤ 1099511627776 := by simp only [okA1, Bool.and_eq_true, decide_eq_true_eq]
theorem whC_ok : IntrOne Tryz.prog G 59 whC := fun R args bs k r hr => by
 unfold whC at hr
 split at hr
 ·rename_i f T a tK K
  split at hr
  ·rename_i K' hc
   split at hr
   ·rename_i hd
    obtain ⟨e, hK⟩ := castL_ty hc
    subst e
    subst hK
    simp only [Bool.and_eq_true, Bool.or_eq_true] at hd
    obtain ⟨hf, ha⟩ := hd
    obtain ⟨a0, a1, a2⟩ := okA_iff.1 ha
    obtain ⟨pre, hp, hl⟩ := split_at a0 a1
    refine ⟨_, hr, ?_⟩
    have fin : ∀ {f : Nat} {p : Int → Bool}, pOf f = p → (∀ (J : Jump R0) (T : List UInt8) (a : Int) (K : List Tok), start E (tabI libB) fi59 cut59 J [.ref 0 0, .fn f []] (bsR T a K) .ok = J 0 (mk59 T a K f)) → (∀ (J : Jump R0) (T : List UInt8) (a : Int) (K : List Tok), resume E (tabI libB) (cutsOf 2 cut59 0) J [false, false] fi59.code 1 (mk59 T a K f) (finK E 2 fi59.results .ok) =
      bif decide (a < (T.length : Int)) then bif inI a T.length then bif p ((List.getD T (Int.toNat a) 0).toNat : Int) then J 0 (mk59 T (IntKind.wrap .i64 (a + 1)) K f) else .ok (outR 1 (.tup []) T a K) else .err 20 else .ok (outR 1 (.tup []) T a K)) →
      SA Tryz.prog G 59 [.ref 0 0, .fn f []] (bsR T a K) (.ret (.tup []), bsR1 T (whI (pOf f) T a) K) := fun {f p} hpf hs hl0 => by
     have h := wh_loop (K := K) hl0 a2 (rest8 T a) pre ((rest8 T a).length + 1) hp (by omega)
     rw [hl] at h
     have h2 := (hs (pieces (R := R0) E (tabI libB) fi59 cut59 2 .ok ((rest8 T a).length + 1)) T a K).trans h
     rw [← hpf] at h2
     exact bumpR (start_ok (envOK []) (tabI_ok libB_ok) fc59 (.inl (gen0_R T a K)) h2) (fun _ => rfl) rfl
    rcases hf with hf | hf | hf
    ·have := beq_eq hf
     subst this
     exact fin (p := isBlk) rfl start59a loop59a
    ·have := beq_eq hf
     subst this
     exact fin (p := isWrd) rfl start59b loop59b
    ·have := beq_eq hf
     subst this
     exact fin (p := isDig) rfl start59c loop59c
   ·cases hr
  ·cases hr
 ·cases hr
end Go.Sx.Tryz
namespace Go.Sx.Tryz
open Go Go.Sx Go.Proofs
set_option maxRecDepth 100000
variable {G : Nat → Obj → Prop}
def nl (c : Int) : Bool := c != 10
theorem hp_head {r : List UInt8} (h : Lib.hasPrefix r [47, 47] = true) : ∃ r', r = 47 :: r' := by
 cases r with
 | nil => exact absurd h (by decide)
 | cons c r =>
  refine ⟨r, ?_⟩
  simp [Lib.hasPrefix, List.isPrefixOf] at h
  rw [h.1]
theorem sc_stepT (J : Jump R0) {T : List UInt8} {K : List Tok} {a : Int} {c : UInt8} (h1 : a < T.length) (h2 : inI a T.length = true) (h3 : List.getD T a.toNat 0 = c) (h4 : IntKind.wrap .i64 (a + 1) = a + 1) (hc : nl (c.toNat : Int) = true) :
  resume E (tabI lib36) (cutsOf 2 cut36 0) J [false, false, false, true, true, false, false] fi36.code 1 (mkR T a K) (finK E 2 fi36.results .ok) = J 1 (mkR T (a + 1) K) := by
 unfold nl at hc
 rw [loop36b, decide_eq_true h1, h2, h3, hc, h4]
 rfl
theorem sc_stepF (J : Jump R0) {T : List UInt8} {K : List Tok} {a : Int} {c : UInt8} (h1 : a < T.length) (h2 : inI a T.length = true) (h3 : List.getD T a.toNat 0 = c) (hc : nl (c.toNat : Int) = false) :
  resume E (tabI lib36) (cutsOf 2 cut36 0) J [false, false, false, true, true, false, false] fi36.code 1 (mkR T a K) (finK E 2 fi36.results .ok) = J 0 (mkR T a K) := by
 unfold nl at hc
 rw [loop36b, decide_eq_true h1, h2, h3, hc]
 rfl
theorem sc_stepE (J : Jump R0) {T : List UInt8} {K : List Tok} {a : Int} (h1 : ¬ a < T.length) :
  resume E (tabI lib36) (cutsOf 2 cut36 0) J [false, false, false, true, true, false, false] fi36.code 1 (mkR T a K) (finK E 2 fi36.results .ok) = J 0 (mkR T a K) := by
 rw [loop36b, decide_eq_false h1]
 rfl
theorem sc_loop {T : List UInt8} {K : List Tok} (hT : (T.length : Int) ≤ 1099511627776) : ∀ (r pre : List UInt8) (fuel : Nat), T = pre ++ r → pieces (R := R0) E (tabI lib36) fi36 cut36 2 .ok (fuel + (run8 nl r + 1)) 1 (mkR T pre.length K) = pieces (R := R0) E (tabI lib36) fi36 cut36 2 .ok fuel 0 (mkR T ((pre.length : Int) + run8 nl r) K)
 | [], pre, fuel, hp => by
  rw [show run8 nl [] = 0 from rfl]
  have h1 : ¬ ((pre.length : Int) < T.length) := by rw [hp, List.append_nil]; omega
  refine ((pieces_at rfl).trans (sc_stepE (pieces (R := R0) E (tabI lib36) fi36 cut36 2 .ok fuel) h1)).trans ?_
  rw [show (pre.length : Int) + ((0 : Nat) : Int) = pre.length by omega]
 | c :: r, pre, fuel, hp => by
  have hlen : pre.length + 1 + r.length = T.length := by rw [hp]; simp; omega
  have ih := sc_loop (K := K) hT r (pre ++ [c]) fuel (by simp [hp])
  have h1 : (pre.length : Int) < T.length := by omega
  have h2 : inI (pre.length : Int) T.length = true := by rw [hp]; exact inI_app8 _ _ _
  have h3 : List.getD T (pre.length : Int).toNat 0 = c := by rw [Int.toNat_natCast, hp]; exact getD_app _ _ _
  have h4 : IntKind.wrap .i64 ((pre.length : Int) + 1) = (pre.length : Int) + 1 := wrap64 (by omega) (by omega)
  have h5 : (((pre ++ [c]).length : Nat) : Int) = (pre.length : Int) + 1 := by simp
  rw [run8_cons]
  cases hc : nl (c.toNat : Int)
  ·rw [cond_false]
   refine ((pieces_at rfl).trans (sc_stepF (pieces (R := R0) E (tabI lib36) fi36 cut36 2 .ok fuel) h1 h2 h3 hc)).trans ?_
   rw [show (pre.length : Int) + ((0 : Nat) : Int) = pre.length by omega]
  ·rw [cond_true]
   refine ((pieces_at rfl).trans (sc_stepT (pieces (R := R0) E (tabI lib36) fi36 cut36 2 .ok (fuel + (run8 nl r + 1))) h1 h2 h3 h4 hc)).trans ?_
   rw [h5] at ih
   refine ih.trans ?_
   rw [show (pre.length : Int) + 1 + run8 nl r = (pre.length : Int) + ((run8 nl r + 1 : Nat) : Int) by omega]
theorem gapF_succ (n : Nat) (s : List UInt8) : gapF (n + 1) s = bif Lib.hasPrefix (s.drop (run8 isBlk s)) [47, 47] then run8 isBlk s + run8 nl (s.drop (run8 isBlk s)) + gapF n (s.drop (run8 isBlk s + run8 nl (s.drop (run8 isBlk s)))) else run8 isBlk s := rfl
theorem gap_loop {T : List UInt8} {K : List Tok} (hT : (T.length : Int) ≤ 1099511627776) : ∀ (n : Nat) (s pre : List UInt8), T = pre ++ s → s.length < n → ∃ fuel g, pieces (R := R0) E (tabI lib36) fi36 cut36 2 .ok fuel 0 (mkR T pre.length K) = .ok (outR g (.tup []) T ((pre.length : Int) + gapF n s) K)
 | 0, _, _, _, h => absurd h (Nat.not_lt_zero _)
 | n + 1, s, pre, hp, hn => by
  have hr : rest8 T (pre.length : Int) = s := rest_pre hp
  have hb := run8_le isBlk s
  have hlen : pre.length + s.length = T.length := by rw [hp]; simp
  have hok : okA T (pre.length : Int) = true := okA_iff.2 ⟨by omega, by omega, hT⟩
  have hw : whI (pOf 60) T (pre.length : Int) = (pre.length : Int) + run8 isBlk s := by
   show (pre.length : Int) + run8 isBlk (rest8 T _) = _
   rw [hr]
  have hib : inB ((pre.length : Int) + run8 isBlk s) (T.length : Int) T.length = true := inB_of (by omega) (by omega) (by omega)
  have hd : List.drop (Int.toNat ((pre.length : Int) + run8 isBlk s)) (List.take (Int.toNat (T.length : Int)) T) = s.drop (run8 isBlk s) := by
   rw [drop_take_len]
   have : ((pre.length : Int) + run8 isBlk s) = (((pre ++ s.take (run8 isBlk s)).length : Nat) : Int) := by simp; omega
   rw [this]
   exact rest_pre (by rw [List.append_assoc, List.take_append_drop]; exact hp)
  rw [gapF_succ]
  cases hh : Lib.hasPrefix (s.drop (run8 isBlk s)) [47, 47]
  ·refine ⟨1, 2, ?_⟩
   refine ((pieces_at rfl).trans (loop36a (pieces (R := R0) E (tabI lib36) fi36 cut36 2 .ok 0) T pre.length K)).trans ?_
   rw [hok, hw, hib, hd, hh]
   rfl
  ·obtain ⟨r', hr'⟩ := hp_head hh
   have hc : 1 ≤ run8 nl (s.drop (run8 isBlk s)) := by
    rw [hr', run8_cons]
    show 1 ≤ run8 nl r' + 1
    omega
   have hcl := run8_le nl (s.drop (run8 isBlk s))
   rw [List.length_drop] at hcl
   obtain ⟨fuel, g, ih⟩ := gap_loop (K := K) hT n (s.drop (run8 isBlk s + run8 nl (s.drop (run8 isBlk s)))) (pre ++ s.take (run8 isBlk s + run8 nl (s.drop (run8 isBlk s)))) (by rw [List.append_assoc, List.take_append_drop]; exact hp) (by rw [List.length_drop]; omega)
   refine ⟨fuel + (run8 nl (s.drop (run8 isBlk s)) + 1) + 1, g, ?_⟩
   refine ((pieces_at rfl).trans (loop36a (pieces (R := R0) E (tabI lib36) fi36 cut36 2 .ok (fuel + (run8 nl (s.drop (run8 isBlk s)) + 1))) T pre.length K)).trans ?_
   rw [hok, hw, hib, hd, hh]
   have hs := sc_loop (K := K) hT (s.drop (run8 isBlk s)) (pre ++ s.take (run8 isBlk s)) fuel (by rw [List.append_assoc, List.take_append_drop]; exact hp)
   have e1 : (((pre ++ s.take (run8 isBlk s)).length : Nat) : Int) = (pre.length : Int) + run8 isBlk s := by simp; omega
   rw [e1] at hs
   refine hs.trans ?_
   have e2 : (((pre ++ s.take (run8 isBlk s + run8 nl (s.drop (run8 isBlk s)))).length : Nat) : Int) = (pre.length : Int) + run8 isBlk s + run8 nl (s.drop (run8 isBlk s)) := by simp; omega
   rw [e2] at ih
   refine ih.trans ?_
   congr 2
   show _ = (pre.length : Int) + ((run8 isBlk s + run8 nl (s.drop (run8 isBlk s)) + gapF n (s.drop (run8 isBlk s + run8 nl (s.drop (run8 isBlk s)))) : Nat) : Int)
   omega
theorem lib36_ok (h : IChk Tryz.prog G libS) : IChk Tryz.prog G lib36 := .cons (shiftP_ok whC_ok) h
theorem gap_SA (h : IChk Tryz.prog G libS) (T : List UInt8) (a : Int) (K : List Tok) (ha : okA T a = true) : SA Tryz.prog G 36 [.ref 0 0] (bsR T a K) (.ret (retC [] ()), bsR1 T (gapI T a) K) := by
 obtain ⟨a0, a1, a2⟩ := okA_iff.1 ha
 obtain ⟨pre, hp, hl⟩ := split_at a0 a1
 obtain ⟨fuel, g, hg⟩ := gap_loop (K := K) a2 _ (rest8 T a) pre hp (Nat.lt_succ_self _)
 rw [hl] at hg
 have h2 := (start36 (pieces (R := R0) E (tabI lib36) fi36 cut36 2 .ok fuel) T a K).trans hg
 exact bumpR (start_ok (envOK []) (tabI_ok (lib36_ok h)) fc36 (.inl (gen0_R T a K)) h2) (fun _ => rfl) rfl
end Go.Sx.Tryz
namespace Go.Sx.Tryz
open Go Go.Sx Go.Proofs
set_option maxRecDepth 100000
variable {G : Nat → Obj → Prop}
def sgB (s : List UInt8) : Bool := decide ((s.length : Int) > 1) && (Lib.contains twosL (s.take 2 ++ [32]) && (at8 s 0 != 32 && at8 s 1 != 32))
theorem sgnS_eq (s : List UInt8) : sgnS s = bif sgB s then (2, 0) else bif decide (ibS onesL (at8 s 0) ≥ 0) then (1, 0) else (0, 60) := rfl
theorem sgn_start (J : Jump R0) {T : List UInt8} {a : Int} {K : List Tok} (ha : okA1 T a = true) : start E (tabI libS) fi65 cut65 J [.ref 0 0] (bsR T a K) .ok = J 0 (mk65 T a K (rest8 T a) (sgB (rest8 T a))) := by
 obtain ⟨a0, a1, a2⟩ := okA1_iff.1 ha
 refine (start65 J T a K).trans ?_
 rw [drop_take_len, inB_of a0 (by omega) (by omega), cond_true]
 have hl := rest_len a0 (Int.le_of_lt a1)
 generalize rest8 T a = s at hl
 unfold sgB
 cases h1 : decide ((s.length : Int) > 1)
 ·rfl
 ·rw [decide_eq_true_eq] at h1
  have h2 : inB 0 2 s.length = true := inB_of (by omega) (by omega) (by omega)
  have h3 : inI 0 s.length = true := inI_of (by omega) (by omega)
  have h4 : inI 1 s.length = true := inI_of (by omega) (by omega)
  have h5 : List.length (List.drop (Int.toNat 0) (List.take (Int.toNat 2) s)) + List.length [(32 : UInt8)] < 2 ^ 62 := by
   show List.length (List.take 2 s) + 1 < _
   rw [List.length_take]
   omega
  rw [h2, h3, h4]
  simp only [cond_true, Bool.true_and]
  refine (bif_lt h5).trans ?_
  show (bif Lib.contains twosL (List.take 2 s ++ [32]) then _ else _) = _
  cases Lib.contains twosL (List.take 2 s ++ [32])
  ·rfl
  ·show (bif at8 s 0 != 32 then _ else _) = _
   cases at8 s 0 != 32
   ·rfl
   ·rfl
theorem sgn_piece {T : List UInt8} {a : Int} {K : List Tok} (ha : okA1 T a = true) : pieces (R := R0) E (tabI libS) fi65 cut65 2 .ok 1 0 (mk65 T a K (rest8 T a) (sgB (rest8 T a))) = .ok (outR 1 (.int .i64 (sgnE T a)) T (sgnI T a) K) := by
 obtain ⟨a0, a1, a2⟩ := okA1_iff.1 ha
 refine (piece65 (pieces (R := R0) E (tabI libS) fi65 cut65 2 .ok 0) T a K _ _).trans ?_
 unfold sgnE sgnI
 rw [sgnS_eq]
 have hl := rest_len a0 (Int.le_of_lt a1)
 generalize rest8 T a = s at hl
 have w1 : IntKind.wrap .i64 (a + 1) = a + 1 := wrap64 (by omega) (by omega)
 have w2 : IntKind.wrap .i64 (a + 2) = a + 2 := wrap64 (by omega) (by omega)
 rw [w1, w2, inI_of (show (0 : Int) ≤ 0 by omega) (show (0 : Int) < s.length by omega)]
 cases sgB s
 ·simp only [cond_false, cond_true]
  show (bif decide (ibS onesL (at8 s 0) ≥ 0) then _ else _) = _
  cases decide (ibS onesL (at8 s 0) ≥ 0)
  ·show _ = Rs.ok (outR 1 (.int .i64 60) T (a + 0) K)
   rw [Int.add_zero]
   rfl
  ·rfl
 ·rfl
theorem sgn_SA (h : IChk Tryz.prog G libS) (T : List UInt8) (a : Int) (K : List Tok) (ha : okA1 T a = true) : SA Tryz.prog G 65 [.ref 0 0] (bsR T a K) (.ret (retC sigI (sgnE T a, ())), bsR1 T (sgnI T a) K) :=
 bumpR (start_ok (envOK []) (tabI_ok h) fc65 (.inl (gen0_R T a K)) ((sgn_start _ ha).trans (sgn_piece ha))) (fun _ => rfl) rfl
theorem quo_loop {T : List UInt8} {K : List Tok} (hT : (T.length : Int) ≤ 1099511627776) : ∀ (n : Nat) (r pre : List UInt8), T = pre ++ r → r.length ≤ n → ∃ fuel, pieces (R := R0) E (tabI libS) fi64 cut64 2 .ok fuel 0 (mkR T pre.length K) = .ok (outR 1 (.int .i64 (quoF n r).2) T ((pre.length : Int) + (quoF n r).1) K)
 | n, [], pre, hp, _ => by
  refine ⟨1, (loop64 (pieces (R := R0) E (tabI libS) fi64 cut64 2 .ok 0) T pre.length K).trans ?_⟩
  have h1 : ¬ ((pre.length : Int) < T.length) := by rw [hp, List.append_nil]; omega
  have h2 : quoF n [] = (0, 61) := by cases n <;> rfl
  simp only [h1, decide_false, cond_false, h2]
  show _ = Rs.ok (outR 1 (.int .i64 61) T ((pre.length : Int) + 0) K)
  rw [Int.add_zero]
  rfl
 | 0, c :: r, pre, hp, h => by simp at h
 | n + 1, c :: r, pre, hp, hn => by
  have hlen : pre.length + 1 + r.length = T.length := by rw [hp]; simp; omega
  simp only [List.length_cons] at hn
  have h1 : (pre.length : Int) < T.length := by omega
  have h2 : inI (pre.length : Int) T.length = true := by rw [hp]; exact inI_app8 _ _ _
  have h3 : List.getD T pre.length 0 = c := by rw [hp]; exact getD_app _ _ _
  have h4 : IntKind.wrap .i64 ((pre.length : Int) + 1) = (pre.length : Int) + 1 := wrap64 (by omega) (by omega)
  have h5 : (((pre ++ [c]).length : Nat) : Int) = (pre.length : Int) + 1 := by simp
  have hq : quoF (n + 1) (c :: r) = bif (c.toNat : Int) == 34 then (1, 0) else bif (c.toNat : Int) == 10 then (0, 61) else bif decide ((c.toNat : Int) < 32) || decide ((c.toNat : Int) > 126) then (0, 60)
   else bif (c.toNat : Int) == 92 then (match r with
    | [] => (0, 61)
    | d :: r' => bif decide (ibS escs (d.toNat : Int) < 0) then (0, 5) else ((quoF n r').1 + 2, (quoF n r').2))
   else ((quoF n r).1 + 1, (quoF n r).2) := rfl
  rw [hq]
  have one : ∀ {v : Int} {x : Nat × Int}, x = (0, v) → Rs.ok (outR 1 (.int .i64 v) T (pre.length : Int) K) = Rs.ok (outR 1 (.int .i64 x.2) T ((pre.length : Int) + x.1) K) := fun h => by
   rw [h]
   show _ = Rs.ok (outR 1 _ T ((pre.length : Int) + 0) K)
   rw [Int.add_zero]
  have go : ∀ fuel, pieces (R := R0) E (tabI libS) fi64 cut64 2 .ok (fuel + 1) 0 (mkR T pre.length K) = _ := fun fuel => (loop64 (pieces (R := R0) E (tabI libS) fi64 cut64 2 .ok fuel) T pre.length K)
  simp only [h1, h2, h3, h4, Int.toNat_natCast, decide_true, cond_true] at go
  cases e1 : (c.toNat : Int) == 34
  ·cases e2 : (c.toNat : Int) == 10
   ·cases e3 : decide ((c.toNat : Int) < 32)
    ·cases e4 : decide ((c.toNat : Int) > 126)
     ·cases e5 : (c.toNat : Int) == 92
      ·obtain ⟨fuel, ih⟩ := quo_loop (K := K) hT n r (pre ++ [c]) (by simp [hp]) (by omega)
       rw [h5] at ih
       refine ⟨fuel + 1, (go fuel).trans ?_⟩
       simp only [e1, e2, e3, e4, e5, cond_false]
       refine ih.trans ?_
       congr 2
       show _ = (pre.length : Int) + (((quoF n r).1 + 1 : Nat) : Int)
       omega
      ·cases r with
       | nil =>
        refine ⟨1, (go 0).trans ?_⟩
        simp only [List.length_nil] at hlen
        have h6 : (pre.length : Int) + 1 ≥ T.length := by omega
        simp only [e1, e2, e3, e4, e5, cond_false, cond_true, h6, decide_true]
        exact one rfl
       | cons d r' =>
        simp only [List.length_cons] at hlen hn
        have h6 : ¬ ((pre.length : Int) + 1 ≥ T.length) := by omega
        have h7 : inI ((pre.length : Int) + 1) T.length = true := inI_of (by omega) (by omega)
        have h8 : List.getD T (Int.toNat ((pre.length : Int) + 1)) 0 = d := by
         have : Int.toNat ((pre.length : Int) + 1) = (pre ++ [c]).length := by simp
         rw [this, hp, show pre ++ c :: d :: r' = (pre ++ [c]) ++ d :: r' by simp]
         exact getD_app _ _ _
        have h9 : IntKind.wrap .i64 ((pre.length : Int) + 1 + 1) = (pre.length : Int) + 1 + 1 := wrap64 (by omega) (by omega)
        cases e6 : decide (ibS escs (d.toNat : Int) < 0)
        ·obtain ⟨fuel, ih⟩ := quo_loop (K := K) hT n r' (pre ++ [c, d]) (by simp [hp]) (by omega)
         have h10 : (((pre ++ [c, d]).length : Nat) : Int) = (pre.length : Int) + 1 + 1 := by simp; omega
         rw [h10] at ih
         refine ⟨fuel + 1, (go fuel).trans ?_⟩
         simp only [e1, e2, e3, e4, e5, cond_false, cond_true, h6, decide_false, h7, h8, h9]
         show (bif decide (ibS escs (d.toNat : Int) < 0) then _ else _) = _
         rw [e6]
         refine ih.trans ?_
         congr 2
         show _ = (pre.length : Int) + (((quoF n r').1 + 2 : Nat) : Int)
         omega
        ·refine ⟨1, (go 0).trans ?_⟩
         simp only [e1, e2, e3, e4, e5, cond_false, cond_true, h6, decide_false, h7, h8, h9]
         show (bif decide (ibS escs (d.toNat : Int) < 0) then _ else _) = _
         rw [e6]
         exact one rfl
     ·refine ⟨1, (go 0).trans ?_⟩
      simp only [e1, e2, e3, e4, cond_false, cond_true]
      exact one rfl
    ·refine ⟨1, (go 0).trans ?_⟩
     simp only [e1, e2, e3, cond_false, cond_true]
     exact one rfl
   ·refine ⟨1, (go 0).trans ?_⟩
    simp only [e1, e2, cond_false, cond_true]
    exact one rfl
  ·refine ⟨1, (go 0).trans ?_⟩
   simp only [e1, cond_true]
   rfl
theorem quo_SA (h : IChk Tryz.prog G libS) (T : List UInt8) (a : Int) (K : List Tok) (ha : okA1 T a = true) : SA Tryz.prog G 64 [.ref 0 0] (bsR T a K) (.ret (retC sigI (quoE T a, ())), bsR1 T (quoI T a) K) := by
 obtain ⟨a0, a1, a2⟩ := okA1_iff.1 ha
 obtain ⟨pre, hp, hl⟩ := split_at a0 (Int.le_of_lt a1)
 have hlen := rest_len a0 (Int.le_of_lt a1)
 obtain ⟨fuel, hg⟩ := quo_loop (K := K) a2 (rest8 T a).length ((rest8 T a).drop 1) (pre ++ (rest8 T a).take 1) (by rw [List.append_assoc, List.take_append_drop]; exact hp) (by rw [List.length_drop]; omega)
 have h5 : (((pre ++ (rest8 T a).take 1).length : Nat) : Int) = a + 1 := by
  rw [List.length_append, List.length_take]
  omega
 rw [h5] at hg
 have w1 : IntKind.wrap .i64 (a + 1) = a + 1 := wrap64 (by omega) (by omega)
 have hs := start64 (pieces (R := R0) E (tabI libS) fi64 cut64 2 .ok fuel) T a K
 rw [w1] at hs
 have h2 := hs.trans hg
 have h3 : a + 1 + ((quoF (rest8 T a).length ((rest8 T a).drop 1)).1 : Int) = quoI T a := by
  unfold quoI quoS
  show _ = a + (((quoF (rest8 T a).length ((rest8 T a).drop 1)).1 + 1 : Nat) : Int)
  omega
 rw [h3] at h2
 exact bumpR (start_ok (envOK []) (tabI_ok h) fc64 (.inl (gen0_R T a K)) h2) (fun _ => rfl) rfl
end Go.Sx.Tryz
namespace Go.Sx.Tryz
open Go Go.Sx Go.Proofs
set_option maxRecDepth 100000
abbrev sigII : Sig := [(false, .int .i64), (false, .int .i64)]
def quoC : Intr := rdC 64 sigI okA1 (fun T a => (quoE T a, ())) quoI
def sgnC : Intr := rdC 65 sigI okA1 (fun T a => (sgnE T a, ())) sgnI
def lib37 : List (Nat × Intr) := (59, shiftP 59 whC) :: (64, shiftP 64 quoC) :: (65, shiftP 65 sgnC) :: libB
def cut37 : List Cut := [⟨[true, true, false, false, true, true, true, false, true, true, true, false, false], some ⟨[(0, []), (4, []), (6, [])], [[], []]⟩⟩]
def mk37 (T : List UInt8) (b : Int) (K : List Tok) (a k : Int) : St := { tmps := [(0, .ref 0 0), (4, .int .i64 a), (6, .int .i64 k)], blks := [(0, .cells 86 [.str T, .int .i64 b, .own 1 1]), (1, .list 50 tokTy 1 false K)], next := 2 }
def oneC : Intr := rdC 37 sigII okA1 (fun T a => (oneK T a, oneE T a, ())) oneI'
def gapC : Intr := rdC 36 [] okA (fun _ _ => ()) gapI
def lib15 : List (Nat × Intr) := [(36, shiftP 36 gapC), (37, shiftP 37 oneC)]
def cut15 : List Cut := [⟨[true, true, true, false, false], some ⟨[(0, []), (3, []), (4, [])], [[], [.keep, .keep, .own 50 tokTy]]⟩⟩, ⟨[true, true, true, false, true, false, false], some ⟨[(0, []), (3, []), (4, [])], [[], [], []]⟩⟩]
def mk15 (T : List UInt8) (a : Int) (K : List Tok) : St := { tmps := [(0, .str T), (3, .ref 0 0), (4, .ref 1 0)], blks := [(0, .cells 28 [.int .i64 0, .int .i64 0]), (1, .cells 86 [.str T, .int .i64 a, .own 2 0]), (2, .list 50 tokTy 0 false K)], next := 3 }
def tkn (k a b : Int) : Tok := (k, a, b, ())
end Go.Sx.Tryz
namespace Go.Sx.Tryz
open Go Go.Sx
set_option maxRecDepth 100000
theorem start37 (J : Jump R0) (T : List UInt8) (a : Int) (K : List Tok) : start E (tabI lib37) fi37 cut37 J [.ref 0 0] (bsR T a K) .ok = bif inI a (List.length T) then bif isLet (↑(UInt8.toNat (List.getD T (Int.toNat a) 0)) : Int) then bif (Nat.beq 62 60 || (Nat.beq 62 62 || Nat.beq 62 63)) && okA T a then bif decide (IntKind.wrap IntKind.i64 (whI (pOf 62) T a - a) > 64) then Rs.ok (Out.ret (AV.tup [Iz 0, Iz (Int.ofNat 2)]), [Blk.cells 86 [AV.str T, Iz (whI (pOf 62) T a), AV.own 1 1], Blk.list 50 tokTy 1 false K]) else Rs.ok (Out.ret (AV.tup [Iz (Int.ofNat 1), Iz 0]), [Blk.cells 86 [AV.str T, Iz (whI (pOf 62) T a), AV.own 1 1], Blk.list 50 tokTy 1 false K]) else Rs.err 3000059 else bif isDig (↑(UInt8.toNat (List.getD T (Int.toNat a) 0)) : Int) then bif (Nat.beq 63 60 || (Nat.beq 63 62 || Nat.beq 63 63)) && okA T a then bif decide (IntKind.wrap IntKind.i64 (whI (pOf 63) T a + 1) < (↑(List.length T) : Int)) then bif inI (whI (pOf 63) T a) (List.length T) then bif (↑(UInt8.toNat (List.getD T (Int.toNat (whI (pOf 63) T a)) 0)) : Int) == 46 then bif inI (IntKind.wrap IntKind.i64 (whI (pOf 63) T a + 1)) (List.length T) then bif isDig (↑(UInt8.toNat (List.getD T (Int.toNat (IntKind.wrap IntKind.i64 (whI (pOf 63) T a + 1))) 0)) : Int) then bif (Nat.beq 63 60 || (Nat.beq 63 62 || Nat.beq 63 63)) && okA T (IntKind.wrap IntKind.i64 (whI (pOf 63) T a + 1)) then J 0 { tmps := [(0, AV.ref 0 0), (4, Iz a), (6, Iz (Int.ofNat 3))], blks := [(0, Blk.cells 86 [AV.str T, Iz (whI (pOf 63) T (IntKind.wrap IntKind.i64 (whI (pOf 63) T a + 1))), AV.own 1 1]), (1, Blk.list 50 tokTy 1 false K)], next := 2 } else Rs.err 3000059 else J 0 { tmps := [(0, AV.ref 0 0), (4, Iz a), (6, Iz (Int.ofNat 2))], blks := [(0, Blk.cells 86 [AV.str T, Iz (whI (pOf 63) T a), AV.own 1 1]), (1, Blk.list 50 tokTy 1 false K)], next := 2 } else Rs.err 1033 else J 0 { tmps := [(0, AV.ref 0 0), (4, Iz a), (6, Iz (Int.ofNat 2))], blks := [(0, Blk.cells 86 [AV.str T, Iz (whI (pOf 63) T a), AV.own 1 1]), (1, Blk.list 50 tokTy 1 false K)], next := 2 } else Rs.err 1020 else J 0 { tmps := [(0, AV.ref 0 0), (4, Iz a), (6, Iz (Int.ofNat 2))], blks := [(0, Blk.cells 86 [AV.str T, Iz (whI (pOf 63) T a), AV.own 1 1]), (1, Blk.list 50 tokTy 1 false K)], next := 2 } else Rs.err 3000059 else bif (↑(UInt8.toNat (List.getD T (Int.toNat a) 0)) : Int) == 34 then bif okA1 T a then bif quoE T a == 0 then bif decide (IntKind.wrap IntKind.i64 (quoI T a - a) > 256) then Rs.ok (Out.ret (AV.tup [Iz (Int.ofNat 4), Iz (Int.ofNat 2)]), [Blk.cells 86 [AV.str T, Iz (quoI T a), AV.own 1 1], Blk.list 50 tokTy 1 false K]) else Rs.ok (Out.ret (AV.tup [Iz (Int.ofNat 4), Iz (quoE T a)]), [Blk.cells 86 [AV.str T, Iz (quoI T a), AV.own 1 1], Blk.list 50 tokTy 1 false K]) else Rs.ok (Out.ret (AV.tup [Iz (Int.ofNat 4), Iz (quoE T a)]), [Blk.cells 86 [AV.str T, Iz (quoI T a), AV.own 1 1], Blk.list 50 tokTy 1 false K]) else Rs.err 3000064 else bif okA1 T a then Rs.ok (Out.ret (AV.tup [Iz (Int.ofNat 5), Iz (sgnE T a)]), [Blk.cells 86 [AV.str T, Iz (sgnI T a), AV.own 1 1], Blk.list 50 tokTy 1 false K]) else Rs.err 3000065 else Rs.err 112 := by kernel_rfl
theorem piece37 (J : Jump R0) (T : List UInt8) (b : Int) (K : List Tok) (a k : Int) : resume E (tabI lib37) (cutsOf 2 cut37 0) J [true, true, false, false, true, true, true, false, true, true, true, false, false] fi37.code 1 (mk37 T b K a k) (finK E 2 fi37.results .ok) = bif decide (IntKind.wrap IntKind.i64 (b - a) > 20) then Rs.ok (Out.ret (AV.tup [Iz 0, Iz (Int.ofNat 2)]), [Blk.cells 86 [AV.str T, Iz b, AV.own 1 1], Blk.list 50 tokTy 1 false K]) else Rs.ok (Out.ret (AV.tup [Iz k, Iz 0]), [Blk.cells 86 [AV.str T, Iz b, AV.own 1 1], Blk.list 50 tokTy 1 false K]) := by kernel_rfl
theorem start15 (J : Jump R0) (T : List UInt8) : start E (tabI lib15) fi15 cut15 J [.str T] [] .ok = bif decide ((↑(List.length T) : Int) > 65536) then Rs.ok (Out.ret (AV.tup [AV.nils, AV.agg [Iz (Int.ofNat 2), Iz 0]]), []) else J 0 { tmps := [(0, AV.str T), (3, AV.ref 0 0), (4, AV.ref 1 0)], blks := [(0, Blk.cells 28 [Iz 0, Iz 0]), (1, Blk.cells 86 [AV.str T, Iz 0, AV.own 2 0]), (2, Blk.list 50 tokTy 0 false [])], next := 3 } := by kernel_rfl
theorem piece15 (J : Jump R0) (T : List UInt8) (a : Int) (K : List Tok) : resume E (tabI lib15) (cutsOf 0 cut15 0) J [true, true, true, false, false] fi15.code 1 (mk15 T a K) (finK E 0 fi15.results .ok) = bif okA T a then J 1 { tmps := [(0, AV.str T), (3, AV.ref 0 0), (4, AV.ref 1 0)], blks := [(0, Blk.cells 28 [Iz 0, Iz 0]), (1, Blk.cells 86 [AV.str T, Iz (gapI T a), AV.own 2 0]), (2, Blk.list 50 tokTy 0 false K)], next := 3 } else Rs.err 3000036 := by kernel_rfl
theorem loop15 (J : Jump R0) (T : List UInt8) (a : Int) (K : List Tok) : resume E (tabI lib15) (cutsOf 0 cut15 0) J [true, true, true, false, true, false, false] fi15.code 1 (mk15 T a K) (finK E 0 fi15.results .ok) = bif decide (a < (↑(List.length T) : Int)) then bif decide ((↑(List.length K) : Int) ≥ 16384) then Rs.ok (Out.ret (AV.tup [AV.nils, AV.agg [Iz (Int.ofNat 2), Iz a]]), []) else bif okA1 T a then bif oneE T a != 0 then Rs.ok (Out.ret (AV.tup [AV.nils, AV.agg [Iz (oneE T a), Iz a]]), []) else bif decide (List.length K + List.length [(tkn (oneK T a) (a) (oneI' T a))] < maxRoom) then bif okA T (oneI' T a) then J 1 { tmps := [(0, AV.str T), (3, AV.ref 0 0), (4, AV.ref 1 0)], blks := [(0, Blk.cells 28 [Iz 0, Iz 0]), (1, Blk.cells 86 [AV.str T, Iz (gapI T (oneI' T a)), AV.own 2 0]), (2, Blk.list 50 tokTy 0 false (K ++ [(tkn (oneK T a) (a) (oneI' T a))]))], next := 3 } else Rs.err 3000036 else Rs.err 1314 else Rs.err 3000037 else bif decide (List.length K + List.length [(tkn (0) ((↑(List.length T) : Int)) ((↑(List.length T) : Int)))] < maxRoom) then Rs.ok (Out.ret (AV.tup [AV.own 0 1, AV.agg [Iz 0, Iz 0]]), [Blk.list 50 tokTy 1 false (K ++ [(tkn (0) ((↑(List.length T) : Int)) ((↑(List.length T) : Int)))])]) else Rs.err 1411 := by kernel_rfl
theorem body103 (s : List UInt8) : body (R := R0) E (tabI libS) fi103 [.str s] [] .ok = bif !s == [] then bif decide (ibS s 32 < 0) then bif decide (List.length [32] + List.length s < 2 ^ 62) then bif decide (List.length ([32] ++ s) + List.length [32] < 2 ^ 62) then Rs.ok (Out.ret (AV.bool (Lib.contains (List.append (List.append [32, 99, 108, 97, 115, 115, 32, 101, 120, 116, 101, 110, 100, 115, 32, 105, 110, 105, 116, 32, 105, 110, 116, 32, 98, 111, 111, 108, 32, 100, 111, 117, 98, 108, 101, 32, 115, 116, 114, 32, 118, 111, 105, 100] [32, 79, 112, 116, 105, 111, 110, 32, 105, 102, 32, 101, 108, 115, 101, 32, 119, 104, 105, 108, 101, 32, 98, 114, 101, 97, 107, 32, 99, 111, 110, 116, 105, 110, 117, 101, 32, 114, 101, 116, 117, 114, 110, 32, 112]) (List.append [114, 105, 110, 116, 32, 115, 117, 112, 101, 114, 32, 116, 104, 105, 115, 32, 110, 117, 108, 108, 32, 110, 111, 110, 101, 32, 115, 111, 109, 101, 32, 105, 115, 32, 116, 114, 117, 101, 32, 102, 97, 108, 115, 101, 32] [110, 101, 119, 32, 99, 97, 115, 116, 32, 116, 111, 105, 110, 116, 32, 116, 111, 100, 111, 117, 98, 108, 101, 32, 105, 110, 112, 117, 116, 32, 97, 115, 107, 32, 108, 101, 110, 103, 116, 104, 32, 118, 97, 108, 32])) ([32] ++ s ++ [32]))), []) else Rs.err 110 else Rs.err 109 else Rs.ok (Out.ret (AV.bool false), []) else Rs.ok (Out.ret (AV.bool false), []) := by kernel_rfl
end Go.Sx.Tryz
namespace Go.Sx.Tryz
open Go Go.Sx Go.Proofs
set_option maxRecDepth 100000
variable {G : Nat → Obj → Prop}
theorem lib37_ok (h : IChk Tryz.prog G libS) : IChk Tryz.prog G lib37 :=
 .cons (shiftP_ok whC_ok) (.cons (shiftP_ok (rdC_of fun T a K ha => quo_SA h T a K ha)) (.cons (shiftP_ok (rdC_of fun T a K ha => sgn_SA h T a K ha)) libB_ok))
abbrev pc37 (n : Nat) : Jump R0 := pieces (R := R0) E (tabI lib37) fi37 cut37 2 .ok n
theorem fin37 {T : List UInt8} {b a k : Int} {K : List Tok} (h0 : 0 ≤ a) (h1 : a ≤ b) (h2 : b ≤ 1099511627776) : pc37 1 0 (mk37 T b K a k) = bif decide (b - a > 20) then .ok (outR 1 (.tup [.int .i64 0, .int .i64 2]) T b K) else .ok (outR 1 (.tup [.int .i64 k, .int .i64 0]) T b K) := by
 refine (piece37 (pc37 0) T b K a k).trans ?_
 rw [wrap64 (show -9223372036854775808 ≤ b - a by omega) (by omega)]
 rfl
theorem at_rest {T : List UInt8} {a : Int} (h0 : 0 ≤ a) (n : Nat) : at8 (rest8 T a) n = (((T.getD (a + n).toNat 0).toNat : Nat) : Int) := by
 unfold at8
 rw [rest_get h0, show a.toNat + n = (a + n).toNat by omega]
theorem run8_lt {p : Int → Bool} {s : List UInt8} (h : p (at8 s 0) = true) (hs : 0 < s.length) : 1 ≤ run8 p s := by
 cases s with
 | nil => simp at hs
 | cons c s =>
  rw [run8_cons, show p (c.toNat : Int) = true from h]
  show 1 ≤ run8 p s + 1
  omega
theorem rest_rest {T : List UInt8} {a : Int} (h0 : 0 ≤ a) (n : Nat) : rest8 T (a + n) = (rest8 T a).drop n := by
 unfold rest8
 rw [List.drop_drop, show (a + n).toNat = a.toNat + n by omega]
theorem quoF_le : ∀ (n : Nat) (s : List UInt8), (quoF n s).1 ≤ s.length
 | n, [] => by cases n <;> exact Nat.zero_le _
 | 0, _ :: _ => Nat.zero_le _
 | n + 1, c :: r => by
  have hq : quoF (n + 1) (c :: r) = bif (c.toNat : Int) == 34 then (1, 0) else bif (c.toNat : Int) == 10 then (0, 61) else bif decide ((c.toNat : Int) < 32) || decide ((c.toNat : Int) > 126) then (0, 60)
   else bif (c.toNat : Int) == 92 then (match r with
    | [] => (0, 61)
    | d :: r' => bif decide (ibS escs (d.toNat : Int) < 0) then (0, 5) else ((quoF n r').1 + 2, (quoF n r').2))
   else ((quoF n r).1 + 1, (quoF n r).2) := rfl
  rw [hq]
  have ih := quoF_le n r
  cases (c.toNat : Int) == 34
  ·cases (c.toNat : Int) == 10
   ·cases decide ((c.toNat : Int) < 32) || decide ((c.toNat : Int) > 126)
    ·cases (c.toNat : Int) == 92
     ·show (quoF n r).1 + 1 ≤ r.length + 1
      omega
     ·cases r with
      | nil => exact Nat.zero_le _
      | cons d r' =>
       have ih2 := quoF_le n r'
       show (bif decide (ibS escs (d.toNat : Int) < 0) then ((0, 5) : Nat × Int) else ((quoF n r').1 + 2, (quoF n r').2)).1 ≤ r'.length + 1 + 1
       cases decide (ibS escs (d.toNat : Int) < 0)
       ·show (quoF n r').1 + 2 ≤ r'.length + 1 + 1
        omega
       ·exact Nat.zero_le _
    ·exact Nat.zero_le _
   ·exact Nat.zero_le _
  ·show 1 ≤ r.length + 1
   omega
theorem quoS_le {s : List UInt8} (h : 0 < s.length) : (quoS s).1 ≤ s.length := by
 have := quoF_le s.length (s.drop 1)
 rw [List.length_drop] at this
 show (quoF s.length (s.drop 1)).1 + 1 ≤ s.length
 omega
theorem one_run {T : List UInt8} {a : Int} {K : List Tok} (ha : okA1 T a = true) : ∃ n, start (R := R0) E (tabI lib37) fi37 cut37 (pc37 n) [.ref 0 0] (bsR T a K) .ok = .ok (outR 1 (.tup [.int .i64 (oneK T a), .int .i64 (oneE T a)]) T (oneI' T a) K) := by
 obtain ⟨a0, a1, a2⟩ := okA1_iff.1 ha
 refine ⟨1, (start37 (pc37 1) T a K).trans ?_⟩
 have hl := rest_len a0 (Int.le_of_lt a1)
 have e0 : (((T.getD a.toNat 0).toNat : Nat) : Int) = at8 (rest8 T a) 0 := by
  rw [at_rest a0, show a + ((0 : Nat) : Int) = a by omega]
 have hok : okA T a = true := okA_iff.2 ⟨a0, Int.le_of_lt a1, a2⟩
 have q1 : IntKind.wrap .i64 (quoI T a - a) = quoI T a - a := by
  have := quoS_le (s := rest8 T a) (by omega)
  exact wrap64 (by unfold quoI; omega) (by unfold quoI; omega)
 rw [inI_of a0 a1, e0, hok, ha, q1]
 unfold oneK oneE oneI' whI quoE quoI sgnE sgnI
 have r1 : ∀ x : Nat, rest8 T (a + x) = (rest8 T a).drop x := rest_rest a0
 have g1 : ∀ x : Nat, (((T.getD (a + (x : Int)).toNat 0).toNat : Nat) : Int) = at8 (rest8 T a) x := fun x => (at_rest a0 x).symm
 show (bif isLet (at8 (rest8 T a) 0) then _ else _) = _
 unfold oneS
 cases hL : isLet (at8 (rest8 T a) 0)
 ·cases hD : isDig (at8 (rest8 T a) 0)
  ·show (bif at8 (rest8 T a) 0 == 34 then _ else _) = _
   cases hQ : at8 (rest8 T a) 0 == 34
   ·rfl
   ·simp only [cond_true, cond_false]
    have : a + ((quoS (rest8 T a)).1 : Int) - a = ((quoS (rest8 T a)).1 : Int) := by omega
    rw [this]
    cases (quoS (rest8 T a)).2 == 0
    ·rfl
    ·show (bif decide (((quoS (rest8 T a)).1 : Int) > 256) then _ else _) = _
     cases decide (((quoS (rest8 T a)).1 : Int) > 256) <;> rfl
  ·have hn := run8_le isDig (rest8 T a)
   generalize hN : run8 isDig (rest8 T a) = n at hn
   have p63 : run8 (pOf 63) (rest8 T a) = n := hN
   have w1 : IntKind.wrap .i64 (a + (n : Int) + 1) = a + ((n + 1 : Nat) : Int) := by rw [wrap64 (by omega) (by omega)]; omega
   rw [p63, w1]
   simp only [cond_true, cond_false]
   have leaf : ∀ k : Int, pc37 1 0 (mk37 T (a + n) K a k) = bif decide ((n : Int) > 20) then .ok (outR 1 (.tup [.int .i64 0, .int .i64 2]) T (a + n) K) else .ok (outR 1 (.tup [.int .i64 k, .int .i64 0]) T (a + n) K) := fun k => by
    rw [fin37 a0 (by omega) (by omega), show a + (n : Int) - a = n by omega]
   have two : (bif decide ((n : Int) > 20) then Rs.ok (outR 1 (.tup [.int .i64 0, .int .i64 2]) T (a + n) K) else Rs.ok (outR 1 (.tup [.int .i64 2, .int .i64 0]) T (a + n) K)) = Rs.ok (outR 1 (.tup [.int .i64 (bif decide ((n : Int) > 20) then ((0, 2, n) : Int × Int × Nat) else (2, 0, n)).1, .int .i64 (bif decide ((n : Int) > 20) then ((0, 2, n) : Int × Int × Nat) else (2, 0, n)).2.1]) T (a + (bif decide ((n : Int) > 20) then ((0, 2, n) : Int × Int × Nat) else (2, 0, n)).2.2) K) := by
    cases decide ((n : Int) > 20) <;> rfl
   show (bif decide (a + ((n + 1 : Nat) : Int) < T.length) then _ else _) = _
   have c1 : decide (a + ((n + 1 : Nat) : Int) < T.length) = decide ((n : Int) + 1 < (rest8 T a).length) := by
    rw [decide_eq_decide]
    omega
   rw [c1]
   cases hc : decide ((n : Int) + 1 < (rest8 T a).length)
   ·exact (leaf 2).trans two
   ·rw [decide_eq_true_eq] at hc
    have i1 : inI (a + (n : Int)) T.length = true := inI_of (by omega) (by omega)
    have i2 : inI (a + ((n + 1 : Nat) : Int)) T.length = true := inI_of (by omega) (by omega)
    rw [i1, i2, g1 n, g1 (n + 1)]
    show (bif at8 (rest8 T a) n == 46 then _ else _) = _
    cases h46 : at8 (rest8 T a) n == 46
    ·exact (leaf 2).trans two
    ·show (bif isDig (at8 (rest8 T a) (n + 1)) then _ else _) = _
     cases h47 : isDig (at8 (rest8 T a) (n + 1))
     ·exact (leaf 2).trans two
     ·have ok2 : okA T (a + ((n + 1 : Nat) : Int)) = true := okA_iff.2 ⟨by omega, by omega, a2⟩
      rw [ok2, r1 (n + 1)]
      simp only [cond_true, Bool.true_and, Bool.and_self]
      have hm := run8_le isDig ((rest8 T a).drop (n + 1))
      rw [List.length_drop] at hm
      show pc37 1 0 (mk37 T (a + ((n + 1 : Nat) : Int) + (run8 isDig ((rest8 T a).drop (n + 1)) : Int)) K a 3) = _
      rw [fin37 a0 (by omega) (by omega)]
      have e1 : a + ((n + 1 : Nat) : Int) + (run8 isDig ((rest8 T a).drop (n + 1)) : Int) = a + ((n + 1 + run8 isDig ((rest8 T a).drop (n + 1)) : Nat) : Int) := by omega
      rw [e1]
      generalize n + 1 + run8 isDig ((rest8 T a).drop (n + 1)) = m
      rw [show a + (m : Int) - a = m by omega]
      show _ = Rs.ok (outR 1 (.tup [.int .i64 (bif decide ((m : Int) > 20) then ((0, 2, m) : Int × Int × Nat) else (3, 0, m)).1, .int .i64 (bif decide ((m : Int) > 20) then ((0, 2, m) : Int × Int × Nat) else (3, 0, m)).2.1]) T (a + (bif decide ((m : Int) > 20) then ((0, 2, m) : Int × Int × Nat) else (3, 0, m)).2.2) K)
      cases decide ((m : Int) > 20) <;> rfl
 ·have hn := run8_le isWrd (rest8 T a)
  generalize hN : run8 isWrd (rest8 T a) = n at hn
  have p62 : run8 (pOf 62) (rest8 T a) = n := hN
  rw [p62]
  simp only [cond_true]
  have w1 : IntKind.wrap .i64 (a + (n : Int) - a) = n := by rw [wrap64 (by omega) (by omega)]; omega
  rw [w1]
  show (bif decide ((n : Int) > 64) then _ else _) = _
  cases decide ((n : Int) > 64) <;> rfl
theorem one_SA (h : IChk Tryz.prog G libS) (T : List UInt8) (a : Int) (K : List Tok) (ha : okA1 T a = true) : SA Tryz.prog G 37 [.ref 0 0] (bsR T a K) (.ret (retC sigII (oneK T a, oneE T a, ())), bsR1 T (oneI' T a) K) := by
 obtain ⟨n, hn⟩ := one_run (K := K) ha
 exact bumpR (start_ok (envOK []) (tabI_ok (lib37_ok h)) fc37 (.inl (gen0_R T a K)) hn) (fun _ => rfl) rfl
end Go.Sx.Tryz
namespace Go.Sx.Tryz
open Go Go.Sx Go.Proofs
set_option maxRecDepth 100000
variable {G : Nat → Obj → Prop}
theorem gapF_le : ∀ (n : Nat) (s : List UInt8), gapF n s ≤ s.length
 | 0, _ => Nat.zero_le _
 | n + 1, s => by
  rw [gapF_succ]
  have hb := run8_le isBlk s
  have hc := run8_le nl (s.drop (run8 isBlk s))
  have ih := gapF_le n (s.drop (run8 isBlk s + run8 nl (s.drop (run8 isBlk s))))
  rw [List.length_drop] at hc ih
  cases Lib.hasPrefix (s.drop (run8 isBlk s)) [47, 47]
  ·exact hb
  ·show run8 isBlk s + run8 nl (s.drop (run8 isBlk s)) + gapF n _ ≤ s.length
   omega
theorem gapI_le {T : List UInt8} {a : Int} (h0 : 0 ≤ a) (h1 : a ≤ T.length) : a ≤ gapI T a ∧ gapI T a ≤ T.length := by
 have h := gapF_le ((rest8 T a).length + 1) (rest8 T a)
 have hl := rest_len h0 h1
 unfold gapI gapS
 omega
theorem wrd_let {c : Int} (h : isLet c = true) : isWrd c = true := by unfold isWrd; rw [h]; rfl
theorem sgB_len {s : List UInt8} (h : sgB s = true) : 1 < s.length := by
 unfold sgB at h
 simp only [Bool.and_eq_true, decide_eq_true_eq] at h
 omega
theorem sgnS_le {s : List UInt8} (h : 0 < s.length) : (sgnS s).1 ≤ s.length ∧ ((sgnS s).2 = 0 → 1 ≤ (sgnS s).1) := by
 rw [sgnS_eq]
 cases hb : sgB s
 ·cases decide (ibS onesL (at8 s 0) ≥ 0)
  ·exact ⟨Nat.zero_le _, fun h => absurd h (by decide)⟩
  ·exact ⟨h, fun _ => Nat.le_refl 1⟩
 ·exact ⟨sgB_len hb, fun _ => Nat.le_succ 1⟩
theorem oneS_le {s : List UInt8} (h : 0 < s.length) : (oneS s).2.2 ≤ s.length ∧ ((oneS s).2.1 = 0 → 1 ≤ (oneS s).2.2) := by
 unfold oneS
 cases hL : isLet (at8 s 0)
 ·cases hD : isDig (at8 s 0)
  ·cases hQ : at8 s 0 == 34
   ·exact sgnS_le h
   ·have hq := quoS_le h
    have h1 : 1 ≤ (quoS s).1 := Nat.succ_le_succ (Nat.zero_le _)
    simp only [cond_true, cond_false]
    cases ((quoS s).2 == 0 && decide (((quoS s).1 : Int) > 256)) <;> exact ⟨hq, fun _ => h1⟩
  ·have hn := run8_le isDig s
   have h1 := run8_lt hD h
   simp only [cond_true, cond_false]
   cases hc : (decide (((run8 isDig s : Nat) : Int) + 1 < s.length) && (at8 s (run8 isDig s) == 46 && isDig (at8 s (run8 isDig s + 1))))
   ·cases decide (((run8 isDig s : Nat) : Int) > 20) <;> exact ⟨hn, fun _ => h1⟩
   ·simp only [Bool.and_eq_true, decide_eq_true_eq] at hc
    have hm := run8_le isDig (s.drop (run8 isDig s + 1))
    rw [List.length_drop] at hm
    have := hc.1
    simp only [cond_true]
    cases decide (((run8 isDig s + 1 + run8 isDig (s.drop (run8 isDig s + 1)) : Nat) : Int) > 20)
    ·exact ⟨by show run8 isDig s + 1 + run8 isDig (s.drop (run8 isDig s + 1)) ≤ s.length; omega, fun _ => by show 1 ≤ run8 isDig s + 1 + run8 isDig (s.drop (run8 isDig s + 1)); omega⟩
    ·exact ⟨by show run8 isDig s + 1 + run8 isDig (s.drop (run8 isDig s + 1)) ≤ s.length; omega, fun _ => by show 1 ≤ run8 isDig s + 1 + run8 isDig (s.drop (run8 isDig s + 1)); omega⟩
 ·have hn := run8_le isWrd s
  have h1 := run8_lt (wrd_let hL) h
  simp only [cond_true]
  cases decide (((run8 isWrd s : Nat) : Int) > 64) <;> exact ⟨hn, fun _ => h1⟩
theorem oneI_le {T : List UInt8} {a : Int} (h0 : 0 ≤ a) (h1 : a < T.length) : oneI' T a ≤ T.length ∧ (oneE T a = 0 → a < oneI' T a) := by
 have hl := rest_len h0 (Int.le_of_lt h1)
 obtain ⟨x, y⟩ := oneS_le (s := rest8 T a) (by omega)
 unfold oneI' oneE
 exact ⟨by omega, fun h => by have := y h; omega⟩
def lexF : Nat → List UInt8 → Int → Nat → Int × Int × List Tok
 | 0, _, _, _ => (0, 0, [])
 | n + 1, T, a, k => bif decide (a < T.length) then bif decide ((k : Int) ≥ 16384) then (2, a, []) else bif oneE T a != 0 then (oneE T a, a, []) else
   ((lexF n T (gapI T (oneI' T a)) (k + 1)).1, (lexF n T (gapI T (oneI' T a)) (k + 1)).2.1, tkn (oneK T a) a (oneI' T a) :: (lexF n T (gapI T (oneI' T a)) (k + 1)).2.2)
  else (0, 0, [tkn 0 T.length T.length])
def lexS (T : List UInt8) : Int × Int × List Tok := bif decide ((T.length : Int) > 65536) then (2, 0, []) else lexF (T.length + 1) T (gapI T 0) 0
def outL (r : Int × Int × List Tok) (K : List Tok) : R0 := bif r.1 == 0 then (.ret (.tup [.own 0 1, .agg [.int .i64 0, .int .i64 0]]), [.list 50 tokTy 1 false (K ++ r.2.2)]) else (.ret (.tup [.nils, .agg [.int .i64 r.1, .int .i64 r.2.1]]), [])
abbrev pc15 (n : Nat) : Jump R0 := pieces (R := R0) E (tabI lib15) fi15 cut15 0 .ok n
theorem lex_loop {T : List UInt8} (hT : (T.length : Int) ≤ 65536) : ∀ (n : Nat) (a : Int) (K : List Tok), 0 ≤ a → a ≤ T.length → (T.length : Int) - a < n → (K.length : Int) ≤ 16384 → pc15 n 1 (mk15 T a K) = .ok (outL (lexF n T a K.length) K)
 | 0, a, K, h0, h1, h2, _ => by omega
 | n + 1, a, K, h0, h1, h2, hK => by
  refine (loop15 (pc15 n) T a K).trans ?_
  unfold lexF
  have hm : ∀ t : Tok, List.length K + List.length [t] < maxRoom := fun t => by
   show List.length K + 1 < maxRoom
   unfold maxRoom
   omega
  cases ha : decide (a < (T.length : Int))
  ·exact bif_lt (hm _)
  ·rw [decide_eq_true_eq] at ha
   simp only [cond_true]
   cases hk : decide ((K.length : Int) ≥ 16384)
   ·have hok : okA1 T a = true := okA1_iff.2 ⟨h0, ha, by omega⟩
    rw [hok]
    simp only [cond_true, cond_false]
    obtain ⟨o1, o2⟩ := oneI_le h0 ha
    cases he : oneE T a != 0
    ·have he0 : oneE T a = 0 := by simpa using he
     have o3 := o2 he0
     simp only [cond_false]
     refine (bif_lt (hm _)).trans ?_
     have hok2 : okA T (oneI' T a) = true := okA_iff.2 ⟨by omega, o1, by omega⟩
     rw [hok2]
     simp only [cond_true]
     obtain ⟨g1, g2⟩ := gapI_le (T := T) (a := oneI' T a) (by omega) o1
     rw [decide_eq_false_iff_not] at hk
     have hlen : (K ++ [tkn (oneK T a) a (oneI' T a)]).length = K.length + 1 := by simp
     have ih := lex_loop hT n (gapI T (oneI' T a)) (K ++ [tkn (oneK T a) a (oneI' T a)]) (by omega) g2 (by omega) (by rw [hlen]; omega)
     rw [hlen] at ih
     refine Eq.trans ?_ (ih.trans ?_)
     ·rfl
     ·unfold outL
      rw [List.append_assoc]
      rfl
    ·have hz : (oneE T a == 0) = false := by
      rw [bne, Bool.not_eq_true'] at he
      exact he
     show _ = Rs.ok (outL (oneE T a, a, []) K)
     unfold outL
     rw [hz]
     rfl
   ·rfl
theorem lib15_ok (h : IChk Tryz.prog G libS) : IChk Tryz.prog G lib15 :=
 .cons (shiftP_ok (rdC_of fun T a K ha => gap_SA h T a K ha)) (.cons (shiftP_ok (rdC_of fun T a K ha => one_SA h T a K ha)) .nil)
theorem lex_SA (h : IChk Tryz.prog G libS) (T : List UInt8) : SA Tryz.prog G 15 [.str T] [] (outL (lexS T) []) := by
 cases hb : decide ((T.length : Int) > 65536)
 ·have hs := start15 (pc15 (T.length + 2)) T
  rw [decide_eq_false_iff_not] at hb
  have hT : (T.length : Int) ≤ 65536 := by omega
  have h1 : pc15 (T.length + 2) 0 (mk15 T 0 []) = _ := piece15 (pc15 (T.length + 1)) T 0 []
  have hok : okA T 0 = true := okA_iff.2 ⟨by omega, by omega, by omega⟩
  rw [hok] at h1
  obtain ⟨g1, g2⟩ := gapI_le (T := T) (a := 0) (by omega) (by omega)
  have h2 := lex_loop hT (T.length + 1) (gapI T 0) [] g1 g2 (by omega) (by simp)
  have h3 : lexS T = lexF (T.length + 1) T (gapI T 0) 0 := by
   unfold lexS
   exact bif_f (decide_eq_false_iff_not.2 hb)
  rw [h3]
  refine start_ok (envOK []) (tabI_ok (lib15_ok h)) fc15 (.inl gen0_nil) (hs.trans ?_)
  rw [decide_eq_false_iff_not.2 hb]
  exact h1.trans h2
 ·have h3 : lexS T = (2, 0, []) := by
   unfold lexS
   exact bif_t hb
  rw [h3]
  refine start_ok (envOK []) (tabI_ok (lib15_ok h)) fc15 (.inl gen0_nil) ((start15 (pc15 0) T).trans ?_)
  rw [hb]
  rfl
end Go.Sx.Tryz
