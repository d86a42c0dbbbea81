/- A part of the proof: see the row's text. -/
import Derived.Test.YtaklpoiaicepoaaGreatDoorZa32
import Derived.Test.YtaklpoiaicepoaaGreatDoorZa16
import Derived.Shelf.Strings.SlTrimAscii
set_option linter.unusedVariables false
set_option linter.unusedSimpArgs false
noncomputable section
namespace Go.Sx.Tryz
open Go Go.Sx Go.Proofs
set_option maxRecDepth 100000
def KidsOK (L : List Nd) : Int → Int → List Int → Prop
 | _, _, [] => True
 | at_, z, k :: ks => (0 ≤ k ∧ k < L.length) ∧ at_ ≤ nAt (getN L k.toNat) ∧ nTo (getN L k.toNat) ≤ z ∧ KidsOK L (nTo (getN L k.toNat)) z ks
structure NodeOK (T : List UInt8) (L : List Nd) (x : Nd) : Prop where
 p : 0 ≤ nAt x ∧ nAt x ≤ nTo x ∧ nTo x ≤ T.length
 k : KidsOK L (nAt x) (nTo x) (nKids x)
 w : Wd T x
theorem root_at (P S : List Nd) (d : Nd) (l : List Tn) : getN (P ++ (Tn.mk d l).flat P.length ++ S) (eT P.length (.mk d l)).toNat = setK d (roots P.length l) := by
 have e2 : (eT P.length (.mk d l)).toNat = (P ++ Tn.flats P.length l).length := by
  rw [eT, List.length_append, Tn.flats_len, Tn.size]
  omega
 rw [e2, Tn.flat, ← List.append_assoc, List.append_assoc]
 unfold getN
 rw [List.getD_eq_getElem?_getD, List.getElem?_append_right (Nat.le_refl _), Nat.sub_self]
 rfl
theorem ordE_le : ∀ {a e : Int} {ks : List Tn}, OrdE a ks e → a ≤ e
 | _, _, [], h => h
 | a, e, k :: ks, h => by
  have := ordE_le h.2.2
  have h1 := h.1
  have h2 := h.2.1
  omega
theorem kids_ok (L S : List Nd) (z : Int) : ∀ (ts : List Tn) (P : List Nd) (a : Int), L = P ++ Tn.flats P.length ts ++ S → OrdE a ts z → KidsOK L a z (roots P.length ts)
 | [], _, _, _, _ => trivial
 | .mk d l :: ts, P, a, hL, h => by
  have hL2 : L = P ++ (Tn.mk d l).flat P.length ++ (Tn.flats (P.length + (Tn.mk d l).size) ts ++ S) := by
   rw [hL, Tn.flats]
   simp [List.append_assoc]
  have hr : getN L (eT P.length (.mk d l)).toNat = setK d (roots P.length l) := by
   rw [hL2]
   exact root_at P _ d l
  obtain ⟨h1, h2, h3⟩ := h
  have hle := ordE_le h3
  have hlen : L.length = P.length + (Tn.mk d l).size + (Tn.sizes ts + S.length) := by
   rw [hL2]
   simp only [List.length_append, Tn.flat_len, Tn.flats_len]
  have hs : 1 ≤ (Tn.mk d l).size := by
   rw [Tn.size]
   omega
  refine ⟨?_, ?_, ?_, ?_⟩
  ·show 0 ≤ eT P.length (.mk d l) ∧ eT P.length (.mk d l) < L.length
   rw [eT, hlen]
   omega
  ·show a ≤ nAt (getN L (eT P.length (.mk d l)).toNat)
   rw [hr]
   exact h1
  ·show nTo (getN L (eT P.length (.mk d l)).toNat) ≤ z
   rw [hr]
   exact hle
  ·show KidsOK L (nTo (getN L (eT P.length (.mk d l)).toNat)) z (roots (P.length + (Tn.mk d l).size) ts)
   rw [hr]
   have hP : (P ++ (Tn.mk d l).flat P.length).length = P.length + (Tn.mk d l).size := by rw [List.length_append, Tn.flat_len]
   have := kids_ok L S z ts (P ++ (Tn.mk d l).flat P.length) (nTo d) (by rw [hL2, hP]; simp [List.append_assoc]) h3
   rwa [hP] at this
mutual
theorem node_ok (T : List UInt8) (L S : List Nd) : ∀ (t : Tn) (P : List Nd), L = P ++ t.flat P.length ++ S → Gs T t → ∀ x ∈ t.flat P.length, NodeOK T L x
 | .mk d l, P, hL, h, x, hx => by
  unfold Gs at h
  obtain ⟨h1, h2, h3, h4⟩ := h
  have hL2 : L = P ++ Tn.flats P.length l ++ ([setK d (roots P.length l)] ++ S) := by
   rw [hL, Tn.flat]
   simp [List.append_assoc]
  rw [Tn.flat] at hx
  rcases List.mem_append.1 hx with hx | hx
  ·exact nodes_ok T L _ l P hL2 h4 x hx
  ·rw [List.mem_singleton] at hx
   subst hx
   exact ⟨h1, kids_ok L _ _ l P _ hL2 h2, h3⟩
theorem nodes_ok (T : List UInt8) (L S : List Nd) : ∀ (ts : List Tn) (P : List Nd), L = P ++ Tn.flats P.length ts ++ S → GsL T ts → ∀ x ∈ Tn.flats P.length ts, NodeOK T L x
 | [], _, _, _, x, hx => by cases hx
 | t :: ts, P, hL, h, x, hx => by
  unfold GsL at h
  rw [Tn.flats] at hx
  have hL2 : L = P ++ t.flat P.length ++ (Tn.flats (P.length + t.size) ts ++ S) := by
   rw [hL, Tn.flats]
   simp [List.append_assoc]
  have hP : (P ++ t.flat P.length).length = P.length + t.size := by rw [List.length_append, Tn.flat_len]
  rcases List.mem_append.1 hx with hx | hx
  ·exact node_ok T L _ t P hL2 h.1 x hx
  ·rw [← hP] at hx
   exact nodes_ok T L S ts (P ++ t.flat P.length) (by rw [hL2, hP]; simp [List.append_assoc]) h.2 x hx
end
abbrev pc4 (n : Nat) : Jump R0 := pieces (R := R0) E (tabI lib4) fi4 cut4 0 .ok n
def Fn4 (j : Nat) (st : St) : Prop := ∃ n, pc4 n j st = .ok (.ret (.bool true), [])
section
variable {T : List UInt8} {L : List Nd} {r l i : Int} {x : Nd}
theorem cut_rest (hT : T.length ≤ 65536) {e : Int} (h0 : 0 ≤ e) : cutT T e = rest8 T e := by
 unfold cutT rest8
 rw [Int.toNat_natCast, List.take_length]
theorem fn_c (hT : T.length ≤ 65536) (K : List Int) (h : Fn4 0 (mk4a T L r l (IntKind.wrap .i64 (i + 1)))) : ∀ (es : List Int) (pre : List Int) (ms mp : List UInt8) (at_ e : Int), K = pre ++ es → nMarks x = mp ++ ms → mp.length = pre.length → K.length ≤ 20000 →
  EndsE T at_ es ms e → e ≤ nW2 x → nW2 x ≤ T.length → 0 ≤ at_ → Fn4 2 (mk4c T L r l i x at_ K K.length pre.length)
 | [], pre, ms, mp, at_, e, hK, _, _, _, _, _, _, _ => by
  obtain ⟨n, hn⟩ := h
  refine ⟨n + 1, (pieces_at rfl).trans ((loop4c (pc4 n) T L r l i x at_ K K.length pre.length).trans ?_)⟩
  rw [hK, List.append_nil, decide_eq_false (by omega : ¬ ((pre.length : Int) < pre.length))]
  exact hn
 | e0 :: es, pre, [], mp, at_, e, _, _, _, _, hE, _, _, _ => hE.elim
 | e0 :: es, pre, m :: ms, mp, at_, e, hK, hM, hl, hlen, hE, h1, h2, h3 => by
  obtain ⟨a1, a2, a3⟩ := hE
  have hle : e0 ≤ e := by
   clear h hK hM hl
   revert a3
   have key : ∀ (es : List Int) (ms : List UInt8) (a : Int), EndsE T a es ms e → a ≤ e := by
    intro es
    induction es with
    | nil =>
     intro ms a h
     cases ms with
     | nil => exact Int.le_of_eq h
     | cons _ _ => exact h.elim
    | cons b es ih =>
     intro ms a h
     cases ms with
     | nil => exact h.elim
     | cons _ ms =>
      have := ih ms b h.2.2
      have := h.1
      omega
   exact key es ms e0
  have hk : K.length = pre.length + (es.length + 1) := by rw [hK]; simp
  obtain ⟨n, hn⟩ := fn_c hT K h es (pre ++ [e0]) ms (mp ++ [m]) e0 e (by rw [hK]; simp) (by rw [hM]; simp) (by simp; omega) hlen a3 h1 h2 (by omega)
  have hg : getI K (pre.length : Int).toNat = e0 := by
   rw [hK, Int.toNat_natCast]
   unfold getI
   rw [List.getD_eq_getElem?_getD, List.getElem?_append_right (Nat.le_refl _), Nat.sub_self]
   rfl
  have hm : (nMarks x).getD (pre.length : Int).toNat 0 = m := by
   rw [hM, Int.toNat_natCast, ← hl, List.getD_eq_getElem?_getD, List.getElem?_append_right (Nat.le_refl _), Nat.sub_self]
   rfl
  have hw : IntKind.wrap .i64 ((pre.length : Int) + 1) = ((pre ++ [e0]).length : Nat) := by
   rw [wrap64 (by omega) (by omega)]
   simp
  have hml : (nMarks x).length = mp.length + (ms.length + 1) := by rw [hM]; simp
  refine ⟨n + 1, (pieces_at rfl).trans ((loop4c (pc4 n) T L r l i x at_ K K.length pre.length).trans ?_)⟩
  rw [hg, hm, hw]
  refine (bt (decide_eq_true (by omega))).trans ?_
  refine (bt (inI_of (by omega) (by omega))).trans ?_
  refine (bn (decide_eq_false (by omega))).trans ?_
  refine (bn (decide_eq_false (by omega))).trans ?_
  refine (bt (inI_of (by omega) (by omega))).trans ?_
  cases h63 : (((m.toNat : Nat) : Int) == 63) with
  | false => exact hn
  | true =>
   have m63 : m = 63 := by
    have h63 : ((m.toNat : Nat) : Int) = 63 := by simpa using h63
    apply UInt8.toNat_inj.1
    show m.toNat = 63
    omega
   have hq := a2 m63
   have hib : inB e0 (T.length : Int) T.length = true := inB_of (by omega) (by omega) (by omega)
   have hcut := cut_rest hT (e := e0) (by omega)
   refine (bt hib).trans ?_
   rw [hcut]
   unfold qOK at hq
   cases hp : Lib.hasPrefix (tlS (rest8 T e0)) [63] with
   | true => exact hn
   | false =>
    rw [hp, Bool.false_or] at hq
    refine (bt hib).trans ?_
    refine (bt ?_).trans ?_
    ·unfold conP conB
     refine Nat.ble_eq_true_of_le ?_
     show (rest8 T e0).length ≤ _
     unfold rest8
     rw [List.length_drop]
     omega
    ·rw [hq]
     exact hn
theorem fn_b (hT : T.length ≤ 65536) (hx : NodeOK T L x) (hk20 : (nKids x).length ≤ 20000) (hi : 0 ≤ i) (h20 : i ≤ 20000) (he : (nEnds x).length ≤ 20000) (h : Fn4 0 (mk4a T L r l (IntKind.wrap .i64 (i + 1)))) : ∀ (ks pre : List Int) (at_ : Int), nKids x = pre ++ ks → KidsOK L at_ (nTo x) ks → Fn4 1 (mk4b T L r l i x at_ (nKids x) (nKids x).length pre.length)
 | [], pre, at_, hK, _ => by
  have hsz : decide ((pre.length : Int) < (nKids x).length) = false := decide_eq_false (by rw [hK, List.append_nil]; omega)
  rcases hx.w with ⟨w1, w2, w3, w4, w5⟩ | ⟨w1, w2, w3, w4, w5, e, w6, w7⟩
  ·obtain ⟨n, hn⟩ := h
   refine ⟨n + 1, (pieces_at rfl).trans ((loop4b (pc4 n) T L r l i x at_ (nKids x) (nKids x).length pre.length).trans ?_)⟩
   rw [hsz, w1, w2, w3, w4, w5]
   exact hn
  ·obtain ⟨n, hn⟩ := fn_c hT (nEnds x) h (nEnds x) [] (nMarks x) [] (nW1 x) e rfl rfl rfl he w6 w7 (by have := hx.p.2.2; omega) (by have := hx.p.1; omega)
   refine ⟨n + 1, (pieces_at rfl).trans ((loop4b (pc4 n) T L r l i x at_ (nKids x) (nKids x).length pre.length).trans ?_)⟩
   rw [hsz]
   have hb : (nBase x == 0 && (nName x == [] && (nDims x == 0 && nMarks x == []))) = false := by
    rw [show (nBase x == 0) = false from beq_eq_false_iff_ne.2 w1, Bool.false_and]
   have hwr : IntKind.wrap .i64 (nDims x + 1) = nDims x + 1 := wrap64 (by omega) (by omega)
   rw [hb, hwr]
   refine (bn (decide_eq_false (by omega))).trans ?_
   refine (bn (decide_eq_false (by omega))).trans ?_
   refine (bn (by rw [w4]; simp)).trans ?_
   exact hn
 | k :: ks, pre, at_, hK, hk => by
  obtain ⟨a1, a2, a3, a4⟩ := hk
  have hkl : (nKids x).length = pre.length + (ks.length + 1) := by rw [hK]; simp
  obtain ⟨n, hn⟩ := fn_b hT hx hk20 hi h20 he h ks (pre ++ [k]) (nTo (getN L k.toNat)) (by rw [hK]; simp) a4
  have hg : getI (nKids x) (pre.length : Int).toNat = k := by
   rw [hK, Int.toNat_natCast]
   unfold getI
   rw [List.getD_eq_getElem?_getD, List.getElem?_append_right (Nat.le_refl _), Nat.sub_self]
   rfl
  have hw : IntKind.wrap .i64 ((pre.length : Int) + 1) = ((pre ++ [k]).length : Nat) := by
   rw [wrap64 (by omega) (by omega)]
   simp
  refine ⟨n + 1, (pieces_at rfl).trans ((loop4b (pc4 n) T L r l i x at_ (nKids x) (nKids x).length pre.length).trans ?_)⟩
  rw [hg, hw]
  refine (bt (decide_eq_true (by omega))).trans ?_
  refine (bt (inI_of (by omega) (by omega))).trans ?_
  refine (bt (inI_of a1.1 (by omega))).trans ?_
  refine (bn (decide_eq_false (by omega))).trans ?_
  exact (bn (decide_eq_false (by omega))).trans hn
theorem fn_a (hT : T.length ≤ 65536) (hL : L.length ≤ 8192) (hN : ∀ x ∈ L, NodeOK T L x ∧ (nKids x).length ≤ 20000 ∧ (nEnds x).length ≤ 20000) : ∀ (xs pre : List Nd), L = pre ++ xs → Fn4 0 (mk4a T L r L.length pre.length)
 | [], pre, hp => by
  refine ⟨1, (pieces_at rfl).trans ((loop4a (pc4 0) T L r L.length pre.length).trans ?_)⟩
  exact bn (decide_eq_false (by rw [hp, List.append_nil]; omega))
 | x :: xs, pre, hp => by
  have hlen : L.length = pre.length + (xs.length + 1) := by rw [hp]; simp
  have ih := fn_a hT hL hN xs (pre ++ [x]) (by rw [hp]; simp)
  have hw : IntKind.wrap .i64 ((pre.length : Int) + 1) = ((pre ++ [x]).length : Nat) := by
   rw [wrap64 (by omega) (by omega)]
   simp
  rw [← hw] at ih
  obtain ⟨h1, h2, h3⟩ := hN x (by rw [hp]; simp)
  obtain ⟨n, hn⟩ := fn_b (r := r) (l := L.length) (i := pre.length) hT h1 h2 (by omega) (by omega) h3 ih (nKids x) [] (nAt x) rfl h1.k
  have hg : getN L (pre.length : Int).toNat = x := by
   rw [hp, Int.toNat_natCast]
   unfold getN
   rw [List.getD_eq_getElem?_getD, List.getElem?_append_right (Nat.le_refl _), Nat.sub_self]
   rfl
  refine ⟨n + 1, (pieces_at rfl).trans ((loop4a (pc4 n) T L r L.length pre.length).trans ?_)⟩
  rw [hg]
  have hp1 := h1.p
  refine (bt (decide_eq_true (by omega))).trans ?_
  refine (bt (inI_of (by omega) (by omega))).trans ?_
  refine (bn (decide_eq_false (by omega))).trans ?_
  refine (bn (decide_eq_false (by omega))).trans ?_
  exact (bn (decide_eq_false (by omega))).trans hn
end
theorem parse_inv {T : List UInt8} {y : Unit} {a d : Int} {A : List Nd} (hl : lexC T = 0) (h : parseP T = .ok y a d A) : Inv (lexK T) a d A := by
 have hE := parse_all hl
 rw [h] at hE
 exact hE.2.inv
theorem parse_flat {T : List UInt8} (h : (parseS T).2.1.1 = 0) : (parseS T).1.1 = [] ∨ ∃ t a d n, lexC T = 0 ∧ parseT T = .ok t a d n ∧ parseP T = .ok () a d (t.flat 0) ∧ parseS T = ((t.flat 0, ((t.flat 0).length : Int) - 1, ()), ((0 : Int), (0 : Int), ()), ()) := by
 cases hc : lexC T != 0 with
 | true =>
  unfold parseS at h
  rw [hc] at h
  have h : lexC T = 0 := h
  rw [h] at hc
  exact absurd hc (by decide)
 | false =>
  have hl : lexC T = 0 := by simpa [bne] using hc
  have hR := parse_tree T
  cases et : parseT T with
  | ok t a d n =>
   rw [et] at hR
   obtain ⟨_, h2⟩ := hR
   have e : Sf [] (gT t) = t.flat 0 := by
    show [] ++ Tn.flats 0 [t] = _
    rw [List.nil_append, Tn.flats_one]
   rw [e] at h2
   refine .inr ⟨t, a, d, n, hl, rfl, h2, ?_⟩
   unfold parseS
   rw [hc, h2]
   rfl
  | fault c p =>
   rw [et] at hR
   have hR : parseP T = .fault c p := hR
   left
   unfold parseS
   rw [hc, hR]
   rfl
  | bad =>
   rw [et] at hR
   have hR : parseP T = .bad := hR
   left
   unfold parseS
   rw [hc, hR]
   rfl
theorem bne_of {n : Int} (h : ¬ n = 0) : (n != 0) = true := by simpa [bne] using h
theorem law4_run (T : List UInt8) : ∃ n, start (R := R0) E (tabI lib4) fi4 cut4 (pc4 n) [.str T] [] .ok = .ok (.ret (.bool true), []) := by
 by_cases h1 : (T.length : Int) > 2000
 ·exact ⟨0, (start4 _ T).trans (bt (decide_eq_true h1))⟩
 have hT : T.length ≤ 65536 := by omega
 by_cases h2 : (parseS T).2.1.1 = 0
 ·have key : Fn4 0 (mk4a T (parseS T).1.1 (parseS T).1.2.1 (parseS T).1.1.length 0) := by
   rcases parse_flat h2 with e | ⟨t, a, d, n, hl, e1, e2, e3⟩
   ·rw [e]
    exact fn_a (L := []) hT (by simp) (fun x hx => by cases hx) [] [] rfl
   ·have hi := parse_inv hl e2
    rw [e3]
    refine fn_a hT hi.len (fun x hx => ⟨?_, hi.nd x hx⟩) _ [] rfl
    exact node_ok T (t.flat 0) [] t [] (by simp) (parse_gs hl e1) x hx
  obtain ⟨n, hn⟩ := key
  refine ⟨n, (start4 _ T).trans ?_⟩
  refine (bn (decide_eq_false h1)).trans ?_
  refine (bn (by rw [h2]; rfl)).trans ?_
  exact hn
 ·exact ⟨0, (start4 _ T).trans ((bn (decide_eq_false h1)).trans (bt (bne_of h2)))⟩
end Go.Sx.Tryz
namespace Go.Proofs
open Go.Shelf
def Tryz.lays161_ren : Go.Shelf.Ren := ⟨fun | 161 => 13 | 231 => 31 | 227 => 32 | 233 => 33 | 235 => 34 | 228 => 55 | 197 => 56 | 151 => 57 | 260 => 82 | 152 => 83 | 137 => 88 | 119 => 100 | 224 => 86 | 225 => 85 | 217 => 84 | 266 => 101 | n => n, fun | 9 => 9 | 4 => 4 | 3 => 3 | 5 => 5 | 117 => 80 | 116 => 79 | 0 => 0 | 124 => 83 | 105 => 113 | 21 => 21 | 119 => 146 | 46 => 94 | 139 => 149 | 138 => 148 | n => n, fun | 3 => 1 | 4 => 2 | n => n⟩
theorem Tryz.lays161 : Go.Proofs.Lays.n161 Tryz.prog Tryz.lays161_ren := {
 mixed := by kernel_rfl
 f119 := Tryz.func100.trans (congrArg some (by kernel_rfl))
 f137 := Tryz.func88.trans (congrArg some (by kernel_rfl))
 f151 := Tryz.func57.trans (congrArg some (by kernel_rfl))
 f152 := Tryz.func83.trans (congrArg some (by kernel_rfl))
 f161 := Tryz.func13.trans (congrArg some (by kernel_rfl))
 f197 := Tryz.func56.trans (congrArg some (by kernel_rfl))
 f217 := Tryz.func84.trans (congrArg some (by kernel_rfl))
 f224 := Tryz.func86.trans (congrArg some (by kernel_rfl))
 f225 := Tryz.func85.trans (congrArg some (by kernel_rfl))
 f227 := Tryz.func32.trans (congrArg some (by kernel_rfl))
 f228 := Tryz.func55.trans (congrArg some (by kernel_rfl))
 f231 := Tryz.func31.trans (congrArg some (by kernel_rfl))
 f233 := Tryz.func33.trans (congrArg some (by kernel_rfl))
 f235 := Tryz.func34.trans (congrArg some (by kernel_rfl))
 f260 := Tryz.func82.trans (congrArg some (by kernel_rfl))
 f266 := Tryz.func101.trans (congrArg some (by kernel_rfl))
 t0 := Tryz.underlying0
 a0 := Tryz.isAgg0
 z0 := Tryz.sizeOf0
 v0 := Tryz.zeroValue0
 t3 := Tryz.underlying3
 a3 := Tryz.isAgg3
 z3 := Tryz.sizeOf3
 v3 := Tryz.zeroValue3
 t4 := Tryz.underlying4
 a4 := Tryz.isAgg4
 z4 := Tryz.sizeOf4
 v4 := Tryz.zeroValue4
 t5 := Tryz.underlying5
 a5 := Tryz.isAgg5
 z5 := Tryz.sizeOf5
 v5 := Tryz.zeroValue5
 t9 := Tryz.underlying9
 a9 := Tryz.isAgg9
 z9 := Tryz.sizeOf9
 v9 := Tryz.zeroValue9
 t21 := Tryz.underlying21
 a21 := Tryz.isAgg21
 z21 := Tryz.sizeOf21
 v21 := Tryz.zeroValue21
 t46 := Tryz.underlying94
 a46 := Tryz.isAgg94
 z46 := Tryz.sizeOf94
 v46 := Tryz.zeroValue94
 t105 := Tryz.underlying113
 a105 := Tryz.isAgg113
 z105 := Tryz.sizeOf113
 v105 := Tryz.zeroValue113
 t116 := Tryz.underlying79
 a116 := Tryz.isAgg79
 z116 := Tryz.sizeOf79
 t117 := Tryz.underlying80
 a117 := Tryz.isAgg80
 z117 := Tryz.sizeOf80
 v117 := Tryz.zeroValue80
 t119 := Tryz.underlying146
 a119 := Tryz.isAgg146
 z119 := Tryz.sizeOf146
 t124 := Tryz.underlying83
 a124 := Tryz.isAgg83
 z124 := Tryz.sizeOf83
 v124 := Tryz.zeroValue83
 t138 := Tryz.underlying148
 a138 := Tryz.isAgg148
 z138 := Tryz.sizeOf148
 v138 := Tryz.zeroValue148
 t139 := Tryz.underlying149
 a139 := Tryz.isAgg149
 z139 := Tryz.sizeOf149
 v139 := Tryz.zeroValue149
 g3 := by kernel_rfl
 g4 := by kernel_rfl }
end Go.Proofs
namespace Go.Sx.Tryz
open Go Go.Sx Go.Proofs
set_option maxRecDepth 100000
theorem fc13 : FIOK Tryz.prog 13 fi13 := ⟨⟨Tryz.f13, Tryz.func13, rfl, rfl, rfl, by kernel_rfl⟩, by kernel_rfl⟩
theorem u8_eq (c d : UInt8) : ((c.toNat : Int) == (d.toNat : Int)) = (c == d) := by
 rw [Bool.eq_iff_iff, beq_iff_eq, beq_iff_eq]
 refine ⟨fun h => UInt8.toNat_inj.1 (by omega), fun h => by rw [h]⟩
theorem blk_con (c : UInt8) : isBlk c.toNat = [32, 9, 13, 10].contains c := by
 unfold isBlk
 have e1 := u8_eq c 32
 have e2 := u8_eq c 9
 have e3 := u8_eq c 10
 have e4 := u8_eq c 13
 have e1 : ((c.toNat : Int) == 32) = (c == 32) := e1
 have e2 : ((c.toNat : Int) == 9) = (c == 9) := e2
 have e3 : ((c.toNat : Int) == 10) = (c == 10) := e3
 have e4 : ((c.toNat : Int) == 13) = (c == 13) := e4
 rw [e1, e2, e3, e4]
 simp only [List.contains_cons, List.contains_nil, Bool.or_false]
 cases c == 32 <;> cases c == 9 <;> cases c == 10 <;> cases c == 13 <;> rfl
theorem tlS_set (s : List UInt8) : Lib.trimLeftS s [32, 9, 13, 10] = tlS s := by
 unfold Lib.trimLeftS tlS
 congr 1
 funext c
 exact (blk_con c).symm
theorem eq_of8 (a b : List UInt8) (h : (a == b) = true) : a = b := beq_iff_eq.1 h
theorem tl_SA {G : Nat → Obj → Prop} (x : Dens sigSS) (hx : tlP x = true) : SAD Tryz.prog G 13 sigSS sigS x (tlX x) := by
 obtain ⟨s, p, ⟨⟩⟩ := x
 have hp : p = ([32, 9, 13, 10] : List UInt8) := eq_of8 p _ hx
 subst hp
 refine sa_det fc13 (us := [.string ⟨⟨s⟩⟩, .string ⟨⟨[32, 9, 13, 10]⟩⟩]) rfl (fun _ => rfl) rfl fun D hG hs => ?_
 refine Calls.mono (Any.strings_TrimLeft_laid Tryz.lays161 (by kernel_rfl) ⟨⟨s⟩⟩ ⟨⟨[32, 9, 13, 10]⟩⟩ D.w (by decide) ?_) fun e w' h => ⟨?_, h.2⟩
 ·intro j b hb
  have hb : [32, 9, 13, 10][j]? = some b := hb
  match j, hb with
  | 0, hb => cases hb; decide
  | 1, hb => cases hb; decide
  | 2, hb => cases hb; decide
  | 3, hb => cases hb; decide
  | j + 4, hb => simp at hb
 ·rw [h.1]
  exact congrArg (fun l : List UInt8 => Ending.returned (.string ⟨l.toArray⟩)) (tlS_set s)
theorem lib4_ok {w0 : World} (t : TabsW w0) : IChk Tryz.prog (GW w0) lib4 := .cons (d9 t) (.cons (par_ok t) (.cons (specI_ok fun x _ => hp_SA x) (.cons (specI_ok fun x h => tl_SA x h) (.cons (specI_ok fun x h => con_SA t.tabs x h) .nil))))
theorem law4_SA {w0 : World} (t : TabsW w0) (T : List UInt8) : SA Tryz.prog (GW w0) 4 [.str T] [] (.ret (.bool true), []) := by
 obtain ⟨n, h⟩ := law4_run T
 exact start_ok (envOK []) (tabI_ok (lib4_ok t)) fc4 (.inl gen0_nil) h
end Go.Sx.Tryz
