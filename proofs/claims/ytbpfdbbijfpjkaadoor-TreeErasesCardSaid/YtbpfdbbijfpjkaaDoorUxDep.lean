/- A part of the proof: see the row's text. -/
import Derived.Test.YtbpfdbbijfpjkaaDoorUxChk13
import Derived.Test.YtbpfdbbijfpjkaaDoorUxTreeS
set_option linter.unusedVariables false
set_option linter.unusedSimpArgs false
namespace Go.Sx.Tryd
open Go Go.Sx
set_option maxRecDepth 100000
/-! how deep a node stands -/
def maxI (a b : Int) : Int := bif decide (b > a) then b else a
def depF (L : List Nd) : Nat → Nat → Int
  | 0, _ => 0
  | f + 1, i => ((nKids (getN L i)).foldl (fun m k => maxI m (depF L f k.toNat)) 0) + 1
def depN (L : List Nd) (i : Nat) : Int := depF L (i + 1) i
def depA (L : List Nd) (a : Int) : Int := depN L a.toNat
def depX (x : Dens sigTI) : Dens sigI := (depA x.1.1 x.2.1, ())
noncomputable def lib15 : List (Nat × Intr) := [(13, specI 13 sigTr sigI smallTr checkX)]
noncomputable def lib17 (N : Int) : List (Nat × Intr) := [(17, specI 17 sigTI sigI (okW N) depX)]
def cut15 : List Cut := [⟨[true, true, true, false, true, false, false], some ⟨[(1, []), (3, ownI), (16, []), (17, []), (18, [])], [[], []]⟩⟩,
  ⟨[true, true, true, false, true, false, false, true, true, false, false, true, false, true, false, false], some ⟨[(1, []), (3, ownI), (4, []), (16, []), (17, []), (18, []), (24, [.sl (.int .i64)]), (25, []), (26, [])], [[], []]⟩⟩]
def mk15a (L : List Nd) (r : Int) (u : List Int) (n i : Int) : St := { tmps := [(1, .ref 0 0), (3, .own 1 0), (16, .sl nodeTy L), (17, .int .i64 n), (18, .int .i64 i)], blks := [(0, .cells 24 (trC L r)), (1, .list 3 (.int .i64) 0 false u)], next := 2 }
def mk15b (L : List Nd) (r : Int) (u : List Int) (n i x : Int) (K : List Int) (l k : Int) : St := { tmps := [(1, .ref 0 0), (3, .own 1 0), (4, .int .i64 x), (16, .sl nodeTy L), (17, .int .i64 n), (18, .int .i64 i), (24, .sl (.int .i64) K), (25, .int .i64 l), (26, .int .i64 k)], blks := [(0, .cells 24 (trC L r)), (1, .list 3 (.int .i64) 0 false u)], next := 2 }
def cut17 : List Cut := [⟨[true, true, false, true, false, false], some ⟨[(1, []), (2, []), (5, []), (6, [])], [[]]⟩⟩]
def mk17 (L : List Nd) (r a m k : Int) : St := { tmps := [(1, .int .i64 a), (2, .ref 0 0), (5, .int .i64 m), (6, .int .i64 k)], blks := [(0, .cells 24 (trC L r))], next := 1 }
end Go.Sx.Tryd
namespace Go.Sx.Tryd
open Go Go.Sx
set_option maxRecDepth 100000
theorem start15 (J : Jump R0) (L : List Nd) (r : Int) : start E (tabI lib15) fi15 cut15 J [.agg (trC L r)] [] .ok =
    bif smallTr ((L, r, ()), ()) then
    bif checkS L r != 0 then Rs.ok (Out.ret (AV.int IntKind.i64 0), [])
    else
      bif inR (↑(List.length L) : Int) && (↑(List.length L) : Int) == (↑(List.length L) : Int) then
        J 0
          { tmps := [(1, AV.ref 0 0), (3, AV.own 1 0), (16, AV.sl nodeTy L), (17, AV.int IntKind.i64 (↑(List.length L) : Int)), (18, AV.int IntKind.i64 0)],
            blks := [(0, Blk.cells 24 [AV.sl nodeTy L, AV.int IntKind.i64 r]), (1, Blk.list 3 (Ty.int IntKind.i64) 0 false (List.replicate (Int.toNat (↑(List.length L) : Int)) (0 : Int)))],
            next := 2 }
      else Rs.err 303
  else Rs.err 3000013 := by kernel_rfl
theorem loop15a (J : Jump R0) (L : List Nd) (r : Int) (u : List Int) (n i : Int) : resume E (tabI lib15) (cutsOf 0 cut15 0) J [true, true, true, false, true, false, false] fi15.code 1 (mk15a L r u n i) (finK E 0 fi15.results .ok) =
    bif decide (i < n) then
    bif inI i (List.length L) then
      J 1
        {
          tmps :=
            [(1, AV.ref 0 0), (3, AV.own 1 0), (4, AV.int IntKind.i64 i), (16, AV.sl nodeTy L), (17, AV.int IntKind.i64 n), (18, AV.int IntKind.i64 i),
              (24, AV.sl (Ty.int IntKind.i64) (nKids (getN L (Int.toNat i)))), (25, AV.int IntKind.i64 (↑(List.length (nKids (getN L (Int.toNat i)))) : Int)),
              (26, AV.int IntKind.i64 0)],
          blks := [(0, Blk.cells 24 [AV.sl nodeTy L, AV.int IntKind.i64 r]), (1, Blk.list 3 (Ty.int IntKind.i64) 0 false u)], next := 2 }
    else Rs.err 601
  else bif inI r (List.length u) then Rs.ok (Out.ret (AV.int IntKind.i64 (getI u (Int.toNat r))), []) else Rs.err 1403 := by kernel_rfl
theorem loop15b (J : Jump R0) (L : List Nd) (r : Int) (u : List Int) (n i x : Int) (K : List Int) (l k : Int) : resume E (tabI lib15) (cutsOf 0 cut15 0) J [true, true, true, false, true, false, false, true, true, false, false, true, false, true, false, false] fi15.code 1 (mk15b L r u n i x K l k) (finK E 0 fi15.results .ok) =
    bif decide (k < l) then
    bif inI k (List.length K) then
      bif inI x (List.length u) then
        bif inI (getI K (Int.toNat k)) (List.length u) then
          bif inI x (List.length u) then
            J 1
              {
                tmps :=
                  [(1, AV.ref 0 0), (3, AV.own 1 0), (4, AV.int IntKind.i64 x), (16, AV.sl nodeTy L), (17, AV.int IntKind.i64 n), (18, AV.int IntKind.i64 i),
                    (24, AV.sl (Ty.int IntKind.i64) K), (25, AV.int IntKind.i64 l), (26, AV.int IntKind.i64 (IntKind.wrap IntKind.i64 (k + 1)))],
                blks :=
                  [(0, Blk.cells 24 [AV.sl nodeTy L, AV.int IntKind.i64 r]),
                    (1,
                      Blk.list 3 (Ty.int IntKind.i64) 0 false
                        (setI u (Int.toNat x)
                          (bif decide (getI u (Int.toNat x) < getI u (Int.toNat (getI K (Int.toNat k)))) then getI u (Int.toNat (getI K (Int.toNat k))) else getI u (Int.toNat x))))],
                next := 2 }
          else Rs.err 1011
        else Rs.err 1008
      else Rs.err 1004
    else Rs.err 900
  else
    bif inI x (List.length u) then
      bif inI x (List.length u) then
        J 0
          { tmps := [(1, AV.ref 0 0), (3, AV.own 1 0), (16, AV.sl nodeTy L), (17, AV.int IntKind.i64 n), (18, AV.int IntKind.i64 (IntKind.wrap IntKind.i64 (i + 1)))],
            blks :=
              [(0, Blk.cells 24 [AV.sl nodeTy L, AV.int IntKind.i64 r]),
                (1, Blk.list 3 (Ty.int IntKind.i64) 0 false (setI u (Int.toNat x) (IntKind.wrap IntKind.i64 (getI u (Int.toNat x) + 1))))],
            next := 2 }
      else Rs.err 1205
    else Rs.err 1202 := by kernel_rfl
theorem start17 (J : Jump R0) (N : Int) (L : List Nd) (r a : Int) : start E (tabI (lib17 N)) fi17 cut17 J [.agg (trC L r), .int .i64 a] [] .ok =
    J 0
    { tmps := [(1, AV.int IntKind.i64 a), (2, AV.ref 0 0), (5, AV.int IntKind.i64 0), (6, AV.int IntKind.i64 0)],
      blks := [(0, Blk.cells 24 [AV.sl nodeTy L, AV.int IntKind.i64 r])], next := 1 } := by kernel_rfl
theorem loop17 (J : Jump R0) (N : Int) (L : List Nd) (r a m k : Int) : resume E (tabI (lib17 N)) (cutsOf 0 cut17 0) J [true, true, false, true, false, false] fi17.code 1 (mk17 L r a m k) (finK E 0 fi17.results .ok) =
    bif inI a (List.length L) then
    bif decide (k < (↑(List.length (nKids (getN L (Int.toNat a)))) : Int)) then
      bif inI a (List.length L) then
        bif inI k (List.length (nKids (getN L (Int.toNat a)))) then
          bif okW N ((L, r, ()), getI (nKids (getN L (Int.toNat a))) (Int.toNat k), ()) then
            bif decide (depA L (getI (nKids (getN L (Int.toNat a))) (Int.toNat k)) > m) then
              J 0
                {
                  tmps :=
                    [(1, AV.int IntKind.i64 a), (2, AV.ref 0 0), (5, AV.int IntKind.i64 (depA L (getI (nKids (getN L (Int.toNat a))) (Int.toNat k)))),
                      (6, AV.int IntKind.i64 (IntKind.wrap IntKind.i64 (k + 1)))],
                  blks := [(0, Blk.cells 24 [AV.sl nodeTy L, AV.int IntKind.i64 r])], next := 1 }
            else
              J 0
                { tmps := [(1, AV.int IntKind.i64 a), (2, AV.ref 0 0), (5, AV.int IntKind.i64 m), (6, AV.int IntKind.i64 (IntKind.wrap IntKind.i64 (k + 1)))],
                  blks := [(0, Blk.cells 24 [AV.sl nodeTy L, AV.int IntKind.i64 r])], next := 1 }
          else Rs.err 3000017
        else Rs.err 508
      else Rs.err 504
    else Rs.ok (Out.ret (AV.int IntKind.i64 (IntKind.wrap IntKind.i64 (m + 1))), [])
  else Rs.err 304 := by kernel_rfl
end Go.Sx.Tryd
namespace Go.Sx.Tryd
open Go Go.Sx Go.Proofs
set_option maxRecDepth 100000
/-- the most of some depths, from a start -/
def mostD (L : List Nd) (ks : List Int) (m : Int) : Int := ks.foldl (fun m k => maxI m (depA L k)) m
theorem foldl_congr' {f g : Int → Int → Int} : ∀ {l : List Int} {m : Int}, (∀ k ∈ l, ∀ m, f m k = g m k) → l.foldl f m = l.foldl g m
  | [], _, _ => rfl
  | k :: l, m, h => by
    rw [List.foldl_cons, List.foldl_cons, h k (by simp) m]
    exact foldl_congr' fun x hx => h x (by simp [hx])
theorem dep_stable {L : List Nd} {r : Int} (g : Good L r) : ∀ (n i f : Nat), i < n → i < L.length → i + 1 ≤ f → depF L f i = depN L i
  | 0, i, f, h, _, _ => by omega
  | n + 1, i, 0, _, _, h => by omega
  | n + 1, i, f + 1, hn, hi, hf => by
    simp only [depF, depN]
    congr 1
    refine foldl_congr' fun k hk m => ?_
    obtain ⟨_, _, h3⟩ := g.kid hi hk
    rw [dep_stable g n k.toNat f (by omega) (by omega) (by omega), dep_stable g n k.toNat i (by omega) (by omega) (by omega)]
theorem depN_eq {L : List Nd} {r : Int} (g : Good L r) {i : Nat} (hi : i < L.length) : depN L i = mostD L (nKids (getN L i)) 0 + 1 := by
  show (nKids (getN L i)).foldl (fun m k => maxI m (depF L i k.toNat)) 0 + 1 = _
  congr 1
  refine foldl_congr' fun k hk m => ?_
  obtain ⟨_, _, h3⟩ := g.kid hi hk
  rw [dep_stable g (k.toNat + 1) k.toNat i (by omega) (by omega) (by omega)]
  rfl
theorem mostD_le {L : List Nd} {b : Int} : ∀ {ks : List Int} {m : Int}, (∀ k ∈ ks, depA L k ≤ b) → m ≤ b → m ≤ mostD L ks m ∧ mostD L ks m ≤ b
  | [], m, _, hm => ⟨Int.le_refl _, hm⟩
  | k :: ks, m, h, hm => by
    have hk := h k (by simp)
    have : m ≤ maxI m (depA L k) ∧ maxI m (depA L k) ≤ b := by
      unfold maxI
      by_cases e : depA L k > m
      · simp only [e, decide_true, cond_true]; omega
      · simp only [e, decide_false, cond_false]; omega
    have ih := mostD_le (ks := ks) (m := maxI m (depA L k)) (fun x hx => h x (by simp [hx])) this.2
    exact ⟨Int.le_trans this.1 ih.1, ih.2⟩
theorem dep_le {L : List Nd} {r : Int} (g : Good L r) : ∀ (n i : Nat), i < n → i < L.length → 1 ≤ depN L i ∧ depN L i ≤ (i : Int) + 1
  | 0, _, h, _ => by omega
  | n + 1, i, hn, hi => by
    rw [depN_eq g hi]
    have := mostD_le (L := L) (b := (i : Int)) (ks := nKids (getN L i)) (m := 0) (fun k hk => by
      obtain ⟨h1, h2, h3⟩ := g.kid hi hk
      have := (dep_le g n k.toNat (by omega) (by omega)).2
      show depN L k.toNat ≤ _
      omega) (by omega)
    omega

/-! tree.Depth -/
def FinD (j : Nat) (st : St) (o : R0) : Prop := ∃ fuel, pieces (R := R0) E (tabI lib15) fi15 cut15 0 .ok fuel j st = .ok o
/-- the first depths are known, the others not yet -/
def DepTo (L : List Nd) (u : List Int) (i : Nat) : Prop := u.length = L.length ∧ ∀ j : Nat, j < L.length → getI u j = if j < i then depN L j else 0

theorem finD_b {L : List Nd} {r : Int} (g : Good L r) (hL : L.length ≤ 1000) {i : Nat} (hi : i < L.length) {o : R0} (hK : (nKids (getN L i)).length ≤ 1000) : ∀ (ks pre u : List Int), nKids (getN L i) = pre ++ ks → u.length = L.length → (∀ j : Nat, j < i → getI u j = depN L j) → 0 ≤ getI u i → getI u i ≤ i →
    (∀ u' : List Int, u'.length = L.length → (∀ j : Nat, j ≠ i → getI u' j = getI u j) → getI u' i = mostD L ks (getI u i) + 1 → FinD 0 (mk15a L r u' L.length (i + 1)) o) →
    FinD 1 (mk15b L r u L.length i i (nKids (getN L i)) (nKids (getN L i)).length pre.length) o
  | [], pre, u, hp, hu, hd, h0, hle, h => by
    have hlt : i < u.length := by omega
    have h4 : IntKind.wrap .i64 ((i : Int) + 1) = (i : Int) + 1 := wrap64 (by omega) (by omega)
    have h5 : IntKind.wrap .i64 (getI u i + 1) = getI u i + 1 := wrap64 (by omega) (by omega)
    obtain ⟨fuel, h⟩ := h (setI u i (getI u i + 1)) (by simp only [setI, List.length_set]; exact hu) (fun j hj => by rw [getI_set hlt, if_neg hj]) (by rw [getI_set hlt, if_pos rfl]; rfl)
    refine ⟨fuel + 1, (loop15b (pieces (R := R0) E (tabI lib15) fi15 cut15 0 .ok fuel) L r u L.length i i (nKids (getN L i)) (nKids (getN L i)).length pre.length).trans ?_⟩
    have h1 : ¬ ((pre.length : Int) < (nKids (getN L i)).length) := by rw [hp, List.append_nil]; omega
    have h2 : inI (i : Int) u.length = true := inI_of (by omega) (by omega)
    simp only [h1, h2, h4, h5, Int.toNat_natCast, decide_false, cond_true, cond_false]
    exact h
  | k :: ks, pre, u, hp, hu, hd, h0, hle, h => by
    have hlen : pre.length + 1 + ks.length = (nKids (getN L i)).length := by rw [hp]; simp; omega
    obtain ⟨k0, k1, k2⟩ := g.kid hi (k := k) (by rw [hp]; simp)
    have hlt : i < u.length := by omega
    have hk : getI u k.toNat = depA L k := hd k.toNat k2
    have hkb := dep_le g (k.toNat + 1) k.toNat (by omega) (by omega)
    have hkb : depA L k ≤ i := by
      show depN L k.toNat ≤ _
      omega
    have hm : maxI (getI u i) (depA L k) ≤ i ∧ 0 ≤ maxI (getI u i) (depA L k) := by
      unfold maxI
      by_cases e : depA L k > getI u i
      · simp only [e, decide_true, cond_true]; omega
      · simp only [e, decide_false, cond_false]; omega
    have hset : getI (setI u i (maxI (getI u i) (depA L k))) i = maxI (getI u i) (depA L k) := by rw [getI_set hlt, if_pos rfl]
    have h6 : (((pre ++ [k]).length : Nat) : Int) = (pre.length : Int) + 1 := by simp
    obtain ⟨fuel, ih⟩ := finD_b g hL hi (o := o) hK ks (pre ++ [k]) (setI u i (maxI (getI u i) (depA L k))) (by simp [hp]) (by simp only [setI, List.length_set]; exact hu)
      (fun j hj => by rw [getI_set hlt, if_neg (by omega)]; exact hd j hj) (by rw [hset]; exact hm.2) (by rw [hset]; exact hm.1)
      (fun u' hl ho hi' => h u' hl (fun j hj => by rw [ho j hj, getI_set hlt, if_neg hj]) (by rw [hi', hset]; rfl))
    refine ⟨fuel + 1, (loop15b (pieces (R := R0) E (tabI lib15) fi15 cut15 0 .ok fuel) L r u L.length i i (nKids (getN L i)) (nKids (getN L i)).length pre.length).trans ?_⟩
    have h1 : (pre.length : Int) < (nKids (getN L i)).length := by omega
    have h2 : inI (pre.length : Int) (nKids (getN L i)).length = true := by rw [hp]; exact inI_appI _ _ _
    have h3 : getI (nKids (getN L i)) pre.length = k := by rw [hp]; exact getI_app _ _ _
    have h4 : IntKind.wrap .i64 ((pre.length : Int) + 1) = (pre.length : Int) + 1 := wrap64 (by omega) (by omega)
    have h5 : inI (i : Int) u.length = true := inI_of (by omega) (by omega)
    have h7 : inI k u.length = true := inI_of k0 (by omega)
    simp only [h1, h2, h3, h4, h5, h7, hk, Int.toNat_natCast, decide_true, cond_true]
    rw [h6] at ih
    exact ih
end Go.Sx.Tryd
namespace Go.Sx.Tryd
open Go Go.Sx Go.Proofs
set_option maxRecDepth 100000
theorem finD_a {L : List Nd} {r : Int} (g : Good L r) (hL : L.length ≤ 1000) (hK : ∀ i : Nat, i < L.length → (nKids (getN L i)).length ≤ 1000) : ∀ (d i : Nat) (u : List Int), i + d = L.length → DepTo L u i →
    FinD 0 (mk15a L r u L.length i) (outI (depN L (L.length - 1)))
  | 0, i, u, hd, hu => by
    have hpos := g.pos
    have hr := g.root
    refine ⟨1, (loop15a (pieces (R := R0) E (tabI lib15) fi15 cut15 0 .ok 0) L r u L.length i).trans ?_⟩
    have h1 : ¬ ((i : Int) < L.length) := by omega
    have h2 : inI r u.length = true := inI_of (by omega) (by have := hu.1; omega)
    have h3 : getI u r.toNat = depN L (L.length - 1) := by
      have e : r.toNat = L.length - 1 := by omega
      rw [e, hu.2 _ (by omega), if_pos (by omega)]
    simp only [h1, h2, h3, decide_false, cond_true, cond_false]
  | d + 1, i, u, hd, hu => by
    have hi : i < L.length := by omega
    have h1 : ((i : Int) < L.length) := by omega
    have h2 : inI (i : Int) L.length = true := inI_of (by omega) (by omega)
    have h0 : getI u i = 0 := by rw [hu.2 i hi, if_neg (by omega)]
    have key : FinD 1 (mk15b L r u L.length i i (nKids (getN L i)) (nKids (getN L i)).length 0) (outI (depN L (L.length - 1))) :=
      finD_b g hL hi (hK i hi) (nKids (getN L i)) [] u rfl hu.1 (fun j hj => by rw [hu.2 j (by omega), if_pos hj]) (by omega) (by omega) fun u' hl ho hi' => by
        have := finD_a g hL hK d (i + 1) u' (by omega) ⟨hl, fun j hj => by
          by_cases e : j = i
          · subst e
            rw [hi', h0, if_pos (by omega), depN_eq g hi]
          · rw [ho j e, hu.2 j hj]
            by_cases hji : j < i
            · rw [if_pos hji, if_pos (by omega)]
            · rw [if_neg hji, if_neg (by omega)]⟩
        have e : ((i + 1 : Nat) : Int) = (i : Int) + 1 := by omega
        rw [e] at this
        exact this
    obtain ⟨fuel, hf⟩ := key
    refine ⟨fuel + 1, (loop15a (pieces (R := R0) E (tabI lib15) fi15 cut15 0 .ok fuel) L r u L.length i).trans ?_⟩
    simp only [h1, h2, Int.toNat_natCast, decide_true, cond_true]
    exact hf

/-- what Depth answers -/
def depthS (L : List Nd) (r : Int) : Int := bif checkS L r != 0 then 0 else depN L (L.length - 1)
def depthX (x : Dens sigTr) : Dens sigI := (depthS x.1.1 x.1.2.1, ())
theorem depth_start (L : List Nd) (r : Int) (hs : midS L = true) : ∃ fuel, start (R := R0) E (tabI lib15) fi15 cut15 (pieces (R := R0) E (tabI lib15) fi15 cut15 0 .ok fuel) [.agg (trC L r)] [] .ok = .ok (outI (depthS L r)) := by
  have h1 : smallTr ((L, r, ()), ()) = true := hs
  unfold depthS
  cases hc : (checkS L r != 0)
  · have hc0 : checkS L r = 0 := by simpa using hc
    have g := good_of hc0
    obtain ⟨hL, hK⟩ := midS_kids hs
    have hrep : ∀ j : Nat, getI (List.replicate L.length (0 : Int)) j = 0 := fun j => by
      by_cases h : j < L.length
      · simp [getI, List.getD, h]
      · simp [getI, List.getD, h]
    obtain ⟨fuel, hf⟩ := finD_a g hL hK L.length 0 (List.replicate L.length 0) (by omega) ⟨by simp, fun j hj => by rw [hrep j, if_neg (by omega)]⟩
    refine ⟨fuel, ?_⟩
    rw [start15, h1, hc]
    have h5 : inR (L.length : Int) = true := by
      have hm : maxRoom = 68719476736 := rfl
      simp only [inR, Bool.and_eq_true, decide_eq_true_eq, hm]
      omega
    simp only [h5, beq_self_eq_true, Bool.and_self, cond_true, cond_false]
    exact hf
  · exact ⟨0, by rw [start15, h1, hc]; rfl⟩
theorem lib15_ok {w0 : World} (t : TabsAt w0) : IChk Tryd.prog (GW w0) lib15 := .cons (specI_ok fun x h => check13_SA t x h) .nil
theorem depth_SA {w0 : World} (t : TabsAt w0) (x : Dens sigTr) (h : smallTr x = true) : SAD Tryd.prog (GW w0) 15 sigTr sigI x (depthX x) := by
  obtain ⟨⟨L, r, ⟨⟩⟩, ⟨⟩⟩ := x
  obtain ⟨fuel, hf⟩ := depth_start L r h
  exact start_ok (envOK []) (tabI_ok (lib15_ok t)) fc15 (.inl gen0_nil) hf

/-! ref.Depth -/
def FinE (N : Int) (st : St) (o : R0) : Prop := ∃ fuel, pieces (R := R0) E (tabI (lib17 N)) fi17 cut17 0 .ok fuel 0 st = .ok o
theorem finE {L : List Nd} {r : Int} {N : Int} (g : Good L r) (hL : L.length ≤ 1000) (hok : okLR L r = true) {i : Nat} (hi : i < L.length) (hN : (i : Int) ≤ N) (hK : (nKids (getN L i)).length ≤ 1000) : ∀ (ks pre : List Int) (m : Int), nKids (getN L i) = pre ++ ks → 0 ≤ m → m ≤ 1000 →
    FinE N (mk17 L r i m pre.length) (outI (mostD L ks m + 1))
  | [], pre, m, hp, h0, hm => by
    refine ⟨1, (loop17 (pieces (R := R0) E (tabI (lib17 N)) fi17 cut17 0 .ok 0) N L r i m pre.length).trans ?_⟩
    have h2 : inI (i : Int) L.length = true := inI_of (by omega) (by omega)
    have h1 : ¬ ((pre.length : Int) < (nKids (getN L i)).length) := by rw [hp, List.append_nil]; omega
    have h4 : IntKind.wrap .i64 (m + 1) = m + 1 := wrap64 (by omega) (by omega)
    simp only [h1, h2, h4, Int.toNat_natCast, decide_false, cond_true, cond_false]
    rfl
  | k :: ks, pre, m, hp, h0, hm => by
    have hlen : pre.length + 1 + ks.length = (nKids (getN L i)).length := by rw [hp]; simp; omega
    obtain ⟨k0, k1, k2⟩ := g.kid hi (k := k) (by rw [hp]; simp)
    have hkb := dep_le g (k.toNat + 1) k.toNat (by omega) (by omega)
    have hkb2 : 1 ≤ depA L k ∧ depA L k ≤ 1000 := by
      show 1 ≤ depN L k.toNat ∧ depN L k.toNat ≤ 1000
      omega
    have h5 : (((pre ++ [k]).length : Nat) : Int) = (pre.length : Int) + 1 := by simp
    have hmm : 0 ≤ maxI m (depA L k) ∧ maxI m (depA L k) ≤ 1000 := by
      unfold maxI
      by_cases e : depA L k > m
      · simp only [e, decide_true, cond_true]; omega
      · simp only [e, decide_false, cond_false]; omega
    obtain ⟨fuel, ih⟩ := finE g hL hok hi hN hK ks (pre ++ [k]) (maxI m (depA L k)) (by simp [hp]) hmm.1 hmm.2
    refine ⟨fuel + 1, (loop17 (pieces (R := R0) E (tabI (lib17 N)) fi17 cut17 0 .ok fuel) N L r i m pre.length).trans ?_⟩
    have h1 : (pre.length : Int) < (nKids (getN L i)).length := by omega
    have h2 : inI (i : Int) L.length = true := inI_of (by omega) (by omega)
    have h3 : inI (pre.length : Int) (nKids (getN L i)).length = true := by rw [hp]; exact inI_appI _ _ _
    have h4 : getI (nKids (getN L i)) pre.length = k := by rw [hp]; exact getI_app _ _ _
    have h6 : IntKind.wrap .i64 ((pre.length : Int) + 1) = (pre.length : Int) + 1 := wrap64 (by omega) (by omega)
    have h7 : okW N ((L, r, ()), k, ()) = true := by
      have h8 : inI k L.length = true := inI_of k0 (by omega)
      have h9 : decide (k < N) = true := decide_eq_true (by omega)
      rw [okW_eq, hok, h8, h9]
      rfl
    rw [h5] at ih
    have e : mostD L (k :: ks) m = mostD L ks (maxI m (depA L k)) := rfl
    rw [e]
    simp only [h1, h2, h3, h4, h6, h7, Int.toNat_natCast, decide_true, cond_true]
    unfold maxI at ih ⊢
    cases e2 : decide (depA L k > m)
    · rw [e2] at ih
      exact ih
    · rw [e2] at ih
      exact ih

theorem rdep_step {w0 : World} (N : Nat) (ih : ∀ x : Dens sigTI, okW N x = true → SAD Tryd.prog (GW w0) 17 sigTI sigI x (depX x)) (L : List Nd) (r a : Int) (h : (okLR L r && (inI a L.length && decide (a < ((N + 1 : Nat) : Int)))) = true) :
    SA Tryd.prog (GW w0) 17 [.agg (trC L r), .int .i64 a] [] (outI (depA L a)) := by
  simp only [Bool.and_eq_true, decide_eq_true_eq] at h
  obtain ⟨hok, hin, hN⟩ := h
  simp only [inI, Bool.and_eq_true, decide_eq_true_eq] at hin
  have hok' := hok
  simp only [okLR, Bool.and_eq_true, beq_iff_eq] at hok'
  have g := good_of hok'.2
  obtain ⟨hL, hK⟩ := midS_kids hok'.1
  obtain ⟨i, rfl⟩ : ∃ i : Nat, a = (i : Int) := ⟨a.toNat, by omega⟩
  have hi : i < L.length := by omega
  obtain ⟨fuel, hf⟩ := finE (N := N) g hL hok hi (by omega) (hK i hi) (nKids (getN L i)) [] 0 rfl (by omega) (by omega)
  have hs : start (R := R0) E (tabI (lib17 N)) fi17 cut17 (pieces (R := R0) E (tabI (lib17 N)) fi17 cut17 0 .ok fuel) [.agg (trC L r), .int .i64 i] [] .ok = .ok (outI (depA L i)) := by
    refine (start17 _ N L r i).trans ?_
    have e : depA L i = mostD L (nKids (getN L i)) 0 + 1 := depN_eq g hi
    rw [e]
    exact hf
  have hlib : IChk Tryd.prog (GW w0) (lib17 N) := .cons (specI_ok fun y hy => ih y hy) .nil
  exact start_ok (envOK []) (tabI_ok hlib) fc17 (.inl gen0_nil) hs
theorem rdep_SA {w0 : World} : ∀ (N : Nat) (x : Dens sigTI), okW N x = true → SAD Tryd.prog (GW w0) 17 sigTI sigI x (depX x)
  | 0, ⟨⟨L, r, ⟨⟩⟩, a, ⟨⟩⟩, h => by
    exfalso
    have key : ∀ (L : List Nd) (r a : Int), (okLR L r && (inI a L.length && decide (a < ((0 : Nat) : Int)))) = true → False := fun L r a h => by
      simp only [inI, Bool.and_eq_true, decide_eq_true_eq] at h
      omega
    exact key L r a h
  | N + 1, ⟨⟨L, r, ⟨⟩⟩, a, ⟨⟩⟩, h => rdep_step N (rdep_SA N) L r a h
end Go.Sx.Tryd
