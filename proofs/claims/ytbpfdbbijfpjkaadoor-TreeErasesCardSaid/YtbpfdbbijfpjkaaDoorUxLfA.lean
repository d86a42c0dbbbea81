/- A part of the proof: see the row's text. -/
import Derived.Test.YtbpfdbbijfpjkaaDoorUxFormB
set_option linter.unusedVariables false
set_option linter.unusedSimpArgs false
namespace Go.Sx.Tryd
open Go Go.Sx Go.Proofs
set_option maxRecDepth 100000
/-! what is made as it should be is found so -/
theorem kidsS_ok {i : Int} : ∀ {ks u done : List Int}, Used u done → i ≤ u.length → (∀ k ∈ ks, 0 ≤ k ∧ k < i) → ks.Nodup → (∀ k ∈ ks, k ∉ done) → ∃ u', kidsS i ks u = .inr u'
  | [], u, done, _, _, _, _, _ => ⟨u, rfl⟩
  | k :: ks, u, done, hu, hi, hk, hn, hd => by
    obtain ⟨h0, h1⟩ := hk k (by simp)
    have h2 : getI u k.toNat = 0 := by
      have := hu k.toNat (by omega)
      rw [if_neg (by rw [Int.toNat_of_nonneg h0]; exact hd k (by simp))] at this
      exact this
    have e1 : decide (k < 0) = false := decide_eq_false (by omega)
    have e2 : decide (k ≥ i) = false := decide_eq_false (by omega)
    have e3 : decide (getI u k.toNat > 0) = false := decide_eq_false (by omega)
    rw [List.nodup_cons] at hn
    have hu' : Used (setI u k.toNat 1) (k :: done) := fun j hj => by
      have hj' : j < u.length := by simpa [setI] using hj
      rw [getI_set (by omega)]
      by_cases e : j = k.toNat
      · rw [if_pos e, if_pos (by rw [e, Int.toNat_of_nonneg h0]; simp)]
      · rw [if_neg e, hu j hj']
        have : (j : Int) ≠ k := by omega
        simp [this]
    obtain ⟨u', h3⟩ := kidsS_ok (ks := ks) hu' (by simpa [setI] using hi) (fun x hx => hk x (by simp [hx])) hn.2 (fun x hx hm => by
      rcases List.mem_cons.1 hm with e | hm
      · exact hn.1 (e ▸ hx)
      · exact hd x (by simp [hx]) hm)
    refine ⟨u', ?_⟩
    simp only [kidsS, e1, e2, e3, cond_false]
    exact h3
theorem nodesS_ok : ∀ {xs : List Nd} {i : Nat} {u done : List Int}, Used u done → i + xs.length ≤ u.length → (∀ (j : Nat) x, xs[j]? = some x → nodeE x = 0 ∧ ∀ k ∈ nKids x, 0 ≤ k ∧ k < ((i + j : Nat) : Int)) →
    (xs.flatMap nKids).Nodup → (∀ k ∈ xs.flatMap nKids, k ∉ done) → ∃ u', nodesS (i : Int) xs u = .inr u' ∧ Used u' (done ++ xs.flatMap nKids) ∧ u'.length = u.length
  | [], i, u, done, hu, _, _, _, _ => ⟨u, rfl, by simpa using hu, rfl⟩
  | x :: xs, i, u, done, hu, hl, hx, hn, hd => by
    rw [List.flatMap_cons, List.nodup_append] at hn
    obtain ⟨n1, n2, n3⟩ := hn
    obtain ⟨h0, hk⟩ := hx 0 x rfl
    simp only [List.length_cons] at hl
    rw [Nat.add_zero] at hk
    obtain ⟨u1, e1⟩ := kidsS_ok (i := (i : Int)) (ks := nKids x) hu (by omega) hk n1 (fun k hk => hd k (by rw [List.flatMap_cons]; simp [hk]))
    obtain ⟨_, _, _, h4⟩ := kidsS_spec e1 hu (by omega)
    have hl1 := kidsS_len e1
    obtain ⟨u', e2, h5, h6⟩ := nodesS_ok (xs := xs) (i := i + 1) h4 (by omega) (fun j y hj => by
      obtain ⟨m1, m2⟩ := hx (j + 1) y (by simpa using hj)
      refine ⟨m1, fun k hk => ?_⟩
      have := m2 k hk
      omega) n2 (fun k hk hm => by
      rcases List.mem_append.1 hm with hm | hm
      · exact hd k (by rw [List.flatMap_cons]; simp [hk]) hm
      · exact n3 k hm k hk rfl)
    refine ⟨u', ?_, by rw [List.flatMap_cons, ← List.append_assoc]; exact h5, by omega⟩
    have e0 : (nodeE x != 0) = false := by rw [h0]; rfl
    have ei : (((i + 1 : Nat) : Nat) : Int) = (i : Int) + 1 := by omega
    rw [ei] at e2
    simp only [nodesS, e0, cond_false, e1, e2]
theorem check_of {L : List Nd} {r : Int} (g : Good L r) (hL : L.length ≤ 16384) (hk : nKind (getN L (L.length - 1)) = 1) : checkS L r = 0 := by
  have hpos := g.pos
  have hr := g.root
  have u0 : Used (List.replicate L.length 0) [] := fun k hk => by
    simp only [List.length_replicate] at hk
    simp [getI, List.getD, hk]
  obtain ⟨u', e1, h1, h2⟩ := nodesS_ok (xs := L) (i := 0) u0 (by simp) (fun j x hj => ⟨g.node j x hj, by rw [Nat.zero_add]; exact g.kids j x hj⟩) g.once (by simp)
  rw [List.nil_append] at h1
  rw [List.length_replicate] at h2
  have hl : lastS (u'.take (L.length - 1)) = 0 := by
    unfold lastS
    have : (u'.take (L.length - 1)).any (· == 0) = false := by
      rw [List.any_eq_false]
      intro x hx
      obtain ⟨j, hj⟩ := List.mem_iff_getElem?.1 hx
      rw [List.getElem?_take] at hj
      split at hj
      · rename_i hlt
        have h3 := h1 j (by omega)
        rw [if_pos (g.all j (by omega))] at h3
        have h4 : getI u' j = x := by simp [getI, List.getD, hj]
        simp only [beq_iff_eq]
        omega
      · cases hj
    rw [this]
    rfl
  have e2 : decide ((L.length : Int) > 16384) = false := decide_eq_false (by omega)
  have e3 : ((L.length : Int) == 0) = false := by
    rw [beq_eq_false_iff_ne]
    omega
  have e4 : (r != (L.length : Int) - 1) = false := by rw [hr]; simp
  have e5 : (nKind (getN L r.toNat) != 1) = false := by
    have : r.toNat = L.length - 1 := by omega
    rw [this, hk]
    rfl
  unfold checkS
  simp only [e2, e3, e4, e5, cond_false]
  have e6 : ((0 : Nat) : Int) = 0 := rfl
  rw [e6] at e1
  rw [e1]
  exact hl
end Go.Sx.Tryd
namespace Go.Sx.Tryd
open Go Go.Sx Go.Proofs
set_option maxRecDepth 100000
/-! what Erase makes -/
def mkN (kind at_ to_ : Int) (kids : List Int) (text : List UInt8) (base : Int) (name : List UInt8) (dims : Int) (marks : List UInt8) (n w1 w2 : Int) (ends : List Int) : Nd := (kind, at_, to_, kids, text, base, name, dims, marks, n, w1, w2, ends, ())
/-- a null where something stood -/
def nullN (x : Nd) : Nd := mkN 23 (nAt x) (nTo x) [] [] 0 [] 0 [] 0 0 0 []
/-- held against null -/
def binN (x : Nd) (a b : Int) : Nd := mkN 34 (nAt x) (nTo x) [a, b] (bif nKind x == 44 then [61, 61] else [33, 61]) (nBase x) (nName x) (nDims x) (nMarks x) (nN x) (nW1 x) (nW2 x) (nEnds x)
def bl (m : List UInt8) : List UInt8 := List.replicate m.length 32
/-- without marks, of other nodes -/
def endN (x : Nd) (ks : List Int) : Nd := mkN (bif nKind x == 42 then 23 else nKind x) (nAt x) (nTo x) ks (nText x) (nBase x) (nName x) (nDims x) (bl (nMarks x)) (nN x) (nW1 x) (nW2 x) (nEnds x)
def kid0 (x : Nd) : Int := getI (nKids x) 0
def wraps (k : Int) : Bool := k == 40 || (k == 41 || k == 45)
def tests (k : Int) : Bool := k == 43 || k == 44
/-- one behind the other: the nodes, the numbers of the last ones -/
def eachE (F : Int → Nat → List Nd) : List Int → Nat → List Nd × List Int
  | [], _ => ([], [])
  | k :: r, b => let A := F k b
    let p := eachE F r (b + A.length)
    (A ++ p.1, (((b + A.length : Nat) : Int) - 1) :: p.2)
def erF (L : List Nd) : Nat → Nat → Nat → List Nd
  | 0, _, _ => []
  | f + 1, i, b => let x := getN L i
    bif wraps (nKind x) then erF L f (kid0 x).toNat b
    else bif tests (nKind x) then
      let A := erF L f (kid0 x).toNat b
      A ++ [nullN x, binN x (((b + A.length : Nat) : Int) - 1) ((b + A.length : Nat) : Int)]
    else
      let p := eachE (fun k c => erF L f k.toNat c) (nKids x) b
      p.1 ++ [endN x p.2]
def erN (L : List Nd) (i b : Nat) : List Nd := erF L (i + 1) i b
theorem each_congr {F H : Int → Nat → List Nd} : ∀ {ks : List Int} {b : Nat}, (∀ k ∈ ks, ∀ c, F k c = H k c) → eachE F ks b = eachE H ks b
  | [], _, _ => rfl
  | k :: ks, b, h => by
    simp only [eachE]
    rw [h k (by simp), each_congr fun x hx => h x (by simp [hx])]
/-- how many nodes a kind has: the first is there -/
theorem er_stable {L : List Nd} {r : Int} (g : Good L r) (hw : ∀ i : Nat, i < L.length → (wraps (nKind (getN L i)) || tests (nKind (getN L i))) = true → kid0 (getN L i) ∈ nKids (getN L i)) : ∀ (n i f b : Nat), i < n → i < L.length → i + 1 ≤ f → erF L f i b = erN L i b
  | 0, i, f, b, h, _, _ => by omega
  | n + 1, i, 0, b, _, _, h => by omega
  | n + 1, i, f + 1, b, hn, hi, hf => by
    have key : ∀ k ∈ nKids (getN L i), ∀ c, erF L f k.toNat c = erF L i k.toNat c := fun k hk c => by
      obtain ⟨_, _, h3⟩ := g.kid hi hk
      rw [er_stable g hw n k.toNat f c (by omega) (by omega) (by omega), er_stable g hw n k.toNat i c (by omega) (by omega) (by omega)]
    have h0 := hw i hi
    show (bif _ then _ else bif _ then _ else _) = (bif _ then _ else bif _ then _ else _)
    cases e1 : wraps (nKind (getN L i))
    · cases e2 : tests (nKind (getN L i))
      · simp only [cond_false]
        rw [each_congr fun k hk c => key k hk c]
      · simp only [cond_false, cond_true]
        rw [key _ (h0 (by rw [e1, e2]; rfl))]
    · simp only [cond_true]
      rw [key _ (h0 (by rw [e1]; rfl))]
theorem kid0_mem {x : Nd} (h : nodeE x = 0) (hw : (wraps (nKind x) || tests (nKind x)) = true) : nKids x = [kid0 x] := by
  have hk : nKind x = 40 ∨ nKind x = 41 ∨ nKind x = 45 ∨ nKind x = 43 ∨ nKind x = 44 := by
    simp only [wraps, tests, Bool.or_eq_true, beq_iff_eq] at hw
    omega
  have key : ∀ k : Int, (k = 40 ∨ k = 41 ∨ k = 45 ∨ k = 43 ∨ k = 44) → leastS k = 1 ∧ mostS k = 1 ∧ (nameS k == []) = false := by
    rintro k (rfl | rfl | rfl | rfl | rfl) <;> exact ⟨rfl, rfl, rfl⟩
  obtain ⟨h1, h2, h3⟩ := key _ hk
  unfold nodeE at h
  rw [h1, h2, h3] at h
  have hlen : (nKids x).length = 1 := by
    cases e1 : decide (((nKids x).length : Int) < 1)
    · cases e2 : decide (((nKids x).length : Int) > 1)
      · simp only [decide_eq_false_iff_not] at e1 e2
        omega
      · exfalso
        rw [e1, e2] at h
        have : (131 : Int) = 0 := h
        omega
    · exfalso
      rw [e1] at h
      have : (131 : Int) = 0 := h
      omega
  match hx : nKids x, hlen with
  | [k], _ => simp [kid0, hx, getI]
section
variable {L : List Nd} {r : Int}
theorem Good.kid0s (g : Good L r) {i : Nat} (hi : i < L.length) (hw : (wraps (nKind (getN L i)) || tests (nKind (getN L i))) = true) : nKids (getN L i) = [kid0 (getN L i)] :=
  kid0_mem (g.node i _ (getN_get hi)) hw
theorem erN_eq (g : Good L r) {i : Nat} (hi : i < L.length) (b : Nat) : erN L i b =
    (bif wraps (nKind (getN L i)) then erN L (kid0 (getN L i)).toNat b
    else bif tests (nKind (getN L i)) then
      erN L (kid0 (getN L i)).toNat b ++ [nullN (getN L i), binN (getN L i) (((b + (erN L (kid0 (getN L i)).toNat b).length : Nat) : Int) - 1) ((b + (erN L (kid0 (getN L i)).toNat b).length : Nat) : Int)]
    else
      (eachE (fun k c => erN L k.toNat c) (nKids (getN L i)) b).1 ++ [endN (getN L i) (eachE (fun k c => erN L k.toNat c) (nKids (getN L i)) b).2]) := by
  have hw : ∀ i : Nat, i < L.length → (wraps (nKind (getN L i)) || tests (nKind (getN L i))) = true → kid0 (getN L i) ∈ nKids (getN L i) := fun i hi h => by rw [g.kid0s hi h]; simp
  have key : ∀ k ∈ nKids (getN L i), ∀ c, erF L i k.toNat c = erN L k.toNat c := fun k hk c => by
    obtain ⟨_, _, h3⟩ := g.kid hi hk
    exact er_stable g hw (k.toNat + 1) k.toNat i c (by omega) (by omega) (by omega)
  have h0 := hw i hi
  show (bif _ then _ else bif _ then _ else _) = _
  cases e1 : wraps (nKind (getN L i))
  · cases e2 : tests (nKind (getN L i))
    · simp only [cond_false]
      rw [each_congr fun k hk c => key k hk c]
    · simp only [cond_false, cond_true]
      rw [key _ (h0 (by rw [e1, e2]; rfl))]
  · simp only [cond_true]
    rw [key _ (h0 (by rw [e1]; rfl))]
end
end Go.Sx.Tryd
namespace Go.Sx.Tryd
open Go Go.Sx Go.Proofs
set_option maxRecDepth 100000
/-! the law's form -/
def bareN (x : Nd) : Nd := mkN (nKind x) (nAt x) (nTo x) (nKids x) (nText x) (nBase x) (nName x) (nDims x) (bif tydS (nKind x) then blanks.take (nMarks x).length else nMarks x) (nN x) (nW1 x) (nW2 x) (nEnds x)
/-- what it writes of a node itself -/
def lhS (x : Nd) : List UInt8 := [40] ++ nameS (nKind x) ++ (bif txtS (nKind x) then [32] ++ quoteS (nText x) else []) ++ (bif tydS (nKind x) then [32] ++ textS (nBase x) (nName x) (nDims x) (nMarks x) else []) ++ (bif nKind x == 19 || nKind x == 21 then [32] ++ Lib.itoa (nN x) else [])
def binH (k : Int) : List UInt8 := [40, 98, 105, 110, 97, 114, 121, 32, 34, bif k == 44 then 61 else 33, 61, 34, 32]
def nullT : List UInt8 := [40, 110, 117, 108, 108, 41]
def formG (b : Bool) (L : List Nd) : Nat → Nat → List UInt8
  | 0, _ => []
  | f + 1, i => let x := getN L i
    bif b && wraps (nKind x) then formG b L f (kid0 x).toNat
    else bif b && nKind x == 42 then nullT
    else bif b && tests (nKind x) then binH (nKind x) ++ formG b L f (kid0 x).toNat ++ [32] ++ nullT ++ [41]
    else lhS (bif b then bareN x else x) ++ (nKids x).flatMap (fun k => [32] ++ formG b L f k.toNat) ++ [41]
def formB (b : Bool) (L : List Nd) (i : Nat) : List UInt8 := formG b L (i + 1) i
abbrev sigTIB : Sig := [(true, treeTy), (false, .int .i64), (false, .bool)]
def formBS (b : Bool) (L : List Nd) (a : Int) : List UInt8 := formB b L a.toNat
def okGS (N : Int) (L : List Nd) (r a : Int) (b : Bool) : Bool := okLR L r && (L.all fineN && (inI a L.length && (decide (a < N) && decide ((formBS b L a).length < 2 ^ 60))))
def okG (N : Int) (x : Dens sigTIB) : Bool := okGS N x.1.1 x.1.2.1 x.2.1 x.2.2.1
def formGX (x : Dens sigTIB) : Dens sigS := (formBS x.2.2.1 x.1.1 x.2.1, ())
noncomputable def lib18 (N : Int) : List (Nat × Intr) := [(18, specI 18 sigTIB sigS (okG N) formGX), (25, specI 25 sigT sigS (fun x => goodX x && smallX x) typeX), (27, specI 27 sigT sigT (fun x => decide (x.1.2.2.2.1.length ≤ 5)) bareX), (33, specI 33 sigI sigS (fun _ => true) nameX), (39, specI 39 sigI sigB (fun _ => true) txtX), (40, specI 40 sigI sigB (fun _ => true) tydX), (45, ofT 45 quoteT), (46, ofT 46 formatT)]
def cut18 : List Cut := [⟨[true, true, true, false], some ⟨[(2, []), (3, []), (7, [])], [[], []]⟩⟩, ⟨[true, true, true, true, true, true, true, false, true, false, false], some ⟨[(2, []), (3, []), (8, []), (95, [.sl (.int .i64)]), (96, []), (97, [])], [[]]⟩⟩, ⟨[true, true, false, true, false, false, true, false, true], some ⟨[(2, []), (3, []), (7, []), (18, []), (19, [])], [[], []]⟩⟩]
def mk18a (L : List Nd) (r : Int) (b : Bool) (x : Nd) : St := { tmps := [(2, .bool b), (3, .ref 0 0), (7, .ref 1 0)], blks := [(0, .cells 24 (trC L r)), (1, .cells 46 (flat nodeTy x))], next := 2 }
def mk18c (L : List Nd) (r : Int) (b : Bool) (x : Nd) (k : Int) (t : Bool) : St := { tmps := [(2, .bool b), (3, .ref 0 0), (7, .ref 1 0), (18, .int .i64 k), (19, .bool t)], blks := [(0, .cells 24 (trC L r)), (1, .cells 46 (flat nodeTy x))], next := 2 }
def mk18b (L : List Nd) (r : Int) (b : Bool) (s : List UInt8) (K : List Int) (l k : Int) : St := { tmps := [(2, .bool b), (3, .ref 0 0), (8, .str s), (95, .sl (.int .i64) K), (96, .int .i64 l), (97, .int .i64 k)], blks := [(0, .cells 24 (trC L r))], next := 1 }
end Go.Sx.Tryd
namespace Go.Sx.Tryd
open Go Go.Sx
set_option maxRecDepth 100000
theorem start18 (J : Jump R0) (N : Int) (L : List Nd) (r a : Int) (b : Bool) : start E (tabI (lib18 N)) fi18 cut18 J [.agg (trC L r), .int .i64 a, .bool b] [] .ok =
    bif inI a (List.length L) then
    bif b then
      bif nKind (getN L (Int.toNat a)) == 40 then
        J 2
          { tmps := [(2, AV.bool b), (3, AV.ref 0 0), (7, AV.ref 1 0), (18, AV.int IntKind.i64 (nKind (getN L (Int.toNat a)))), (19, AV.bool (nKind (getN L (Int.toNat a)) == 40))],
            blks :=
              [(0, Blk.cells 24 [AV.sl nodeTy L, AV.int IntKind.i64 r]),
                (1,
                  Blk.cells 46
                    [AV.int IntKind.i64 (nKind (getN L (Int.toNat a))), AV.int IntKind.i64 (nAt (getN L (Int.toNat a))), AV.int IntKind.i64 (nTo (getN L (Int.toNat a))),
                      AV.sl (Ty.int IntKind.i64) (nKids (getN L (Int.toNat a))), AV.str (nText (getN L (Int.toNat a))), AV.int IntKind.i64 (nBase (getN L (Int.toNat a))),
                      AV.str (nName (getN L (Int.toNat a))), AV.int IntKind.i64 (nDims (getN L (Int.toNat a))), AV.str (nMarks (getN L (Int.toNat a))),
                      AV.int IntKind.i64 (nN (getN L (Int.toNat a))), AV.int IntKind.i64 (nW1 (getN L (Int.toNat a))), AV.int IntKind.i64 (nW2 (getN L (Int.toNat a))),
                      AV.sl (Ty.int IntKind.i64) (nEnds (getN L (Int.toNat a)))])],
            next := 2 }
      else
        bif nKind (getN L (Int.toNat a)) == 41 then
          J 2
            { tmps := [(2, AV.bool b), (3, AV.ref 0 0), (7, AV.ref 1 0), (18, AV.int IntKind.i64 (nKind (getN L (Int.toNat a)))), (19, AV.bool (nKind (getN L (Int.toNat a)) == 41))],
              blks :=
                [(0, Blk.cells 24 [AV.sl nodeTy L, AV.int IntKind.i64 r]),
                  (1,
                    Blk.cells 46
                      [AV.int IntKind.i64 (nKind (getN L (Int.toNat a))), AV.int IntKind.i64 (nAt (getN L (Int.toNat a))), AV.int IntKind.i64 (nTo (getN L (Int.toNat a))),
                        AV.sl (Ty.int IntKind.i64) (nKids (getN L (Int.toNat a))), AV.str (nText (getN L (Int.toNat a))), AV.int IntKind.i64 (nBase (getN L (Int.toNat a))),
                        AV.str (nName (getN L (Int.toNat a))), AV.int IntKind.i64 (nDims (getN L (Int.toNat a))), AV.str (nMarks (getN L (Int.toNat a))),
                        AV.int IntKind.i64 (nN (getN L (Int.toNat a))), AV.int IntKind.i64 (nW1 (getN L (Int.toNat a))), AV.int IntKind.i64 (nW2 (getN L (Int.toNat a))),
                        AV.sl (Ty.int IntKind.i64) (nEnds (getN L (Int.toNat a)))])],
              next := 2 }
        else
          J 2
            { tmps := [(2, AV.bool b), (3, AV.ref 0 0), (7, AV.ref 1 0), (18, AV.int IntKind.i64 (nKind (getN L (Int.toNat a)))), (19, AV.bool (nKind (getN L (Int.toNat a)) == 45))],
              blks :=
                [(0, Blk.cells 24 [AV.sl nodeTy L, AV.int IntKind.i64 r]),
                  (1,
                    Blk.cells 46
                      [AV.int IntKind.i64 (nKind (getN L (Int.toNat a))), AV.int IntKind.i64 (nAt (getN L (Int.toNat a))), AV.int IntKind.i64 (nTo (getN L (Int.toNat a))),
                        AV.sl (Ty.int IntKind.i64) (nKids (getN L (Int.toNat a))), AV.str (nText (getN L (Int.toNat a))), AV.int IntKind.i64 (nBase (getN L (Int.toNat a))),
                        AV.str (nName (getN L (Int.toNat a))), AV.int IntKind.i64 (nDims (getN L (Int.toNat a))), AV.str (nMarks (getN L (Int.toNat a))),
                        AV.int IntKind.i64 (nN (getN L (Int.toNat a))), AV.int IntKind.i64 (nW1 (getN L (Int.toNat a))), AV.int IntKind.i64 (nW2 (getN L (Int.toNat a))),
                        AV.sl (Ty.int IntKind.i64) (nEnds (getN L (Int.toNat a)))])],
              next := 2 }
    else
      J 0
        { tmps := [(2, AV.bool b), (3, AV.ref 0 0), (7, AV.ref 1 0)],
          blks :=
            [(0, Blk.cells 24 [AV.sl nodeTy L, AV.int IntKind.i64 r]),
              (1,
                Blk.cells 46
                  [AV.int IntKind.i64 (nKind (getN L (Int.toNat a))), AV.int IntKind.i64 (nAt (getN L (Int.toNat a))), AV.int IntKind.i64 (nTo (getN L (Int.toNat a))),
                    AV.sl (Ty.int IntKind.i64) (nKids (getN L (Int.toNat a))), AV.str (nText (getN L (Int.toNat a))), AV.int IntKind.i64 (nBase (getN L (Int.toNat a))),
                    AV.str (nName (getN L (Int.toNat a))), AV.int IntKind.i64 (nDims (getN L (Int.toNat a))), AV.str (nMarks (getN L (Int.toNat a))),
                    AV.int IntKind.i64 (nN (getN L (Int.toNat a))), AV.int IntKind.i64 (nW1 (getN L (Int.toNat a))), AV.int IntKind.i64 (nW2 (getN L (Int.toNat a))),
                    AV.sl (Ty.int IntKind.i64) (nEnds (getN L (Int.toNat a)))])],
          next := 2 }
  else Rs.err 103 := by kernel_rfl
theorem piece18a (J : Jump R0) (N : Int) (L : List Nd) (r : Int) (b : Bool) (x : Nd) : resume E (tabI (lib18 N)) (cutsOf 0 cut18 0) J [true, true, true, false] fi18.code 1 (mk18a L r b x) (finK E 0 fi18.results .ok) =
    bif decide (List.length [40] + List.length (nameS (nKind x)) < 2 ^ 62) then
    bif txtS (nKind x) then
      bif Nat.ble (List.length (nText x)) 1099511627776 then
        bif decide (List.length [32] + List.length (quoteS (nText x)) < 2 ^ 62) then
          bif decide (List.length ([40] ++ nameS (nKind x)) + List.length ([32] ++ quoteS (nText x)) < 2 ^ 62) then
            bif tydS (nKind x) then
              bif goodX ((nBase x, nName x, nDims x, nMarks x, ()), ()) && smallX ((nBase x, nName x, nDims x, nMarks x, ()), ()) then
                bif decide (List.length [32] + List.length (textS (nBase x) (nName x) (nDims x) (nMarks x)) < 2 ^ 62) then
                  bif
                      decide
                        (List.length ([40] ++ nameS (nKind x) ++ ([32] ++ quoteS (nText x))) + List.length ([32] ++ textS (nBase x) (nName x) (nDims x) (nMarks x)) < 2 ^ 62) then
                    bif nKind x == 19 then
                      bif decide (10 = 10) && (decide (-9223372036854775808 ≤ nN x) && decide (nN x ≤ 9223372036854775807)) then
                        bif decide (List.length [32] + List.length (Lib.itoa (nN x)) < 2 ^ 62) then
                          bif
                              decide
                                (List.length ([40] ++ nameS (nKind x) ++ ([32] ++ quoteS (nText x)) ++ ([32] ++ textS (nBase x) (nName x) (nDims x) (nMarks x))) +
                                    List.length ([32] ++ Lib.itoa (nN x)) <
                                  2 ^ 62) then
                            J 1
                              {
                                tmps :=
                                  [(2, AV.bool b), (3, AV.ref 0 0),
                                    (8,
                                      AV.str
                                        ([40] ++ nameS (nKind x) ++ ([32] ++ quoteS (nText x)) ++ ([32] ++ textS (nBase x) (nName x) (nDims x) (nMarks x)) ++
                                          ([32] ++ Lib.itoa (nN x)))),
                                    (95, AV.sl (Ty.int IntKind.i64) (nKids x)), (96, AV.int IntKind.i64 (↑(List.length (nKids x)) : Int)), (97, AV.int IntKind.i64 0)],
                                blks := [(0, Blk.cells 24 [AV.sl nodeTy L, AV.int IntKind.i64 r])], next := 1 }
                          else Rs.err 2205
                        else Rs.err 2204
                      else Rs.err 1000046
                    else
                      bif nKind x == 21 then
                        bif decide (10 = 10) && (decide (-9223372036854775808 ≤ nN x) && decide (nN x ≤ 9223372036854775807)) then
                          bif decide (List.length [32] + List.length (Lib.itoa (nN x)) < 2 ^ 62) then
                            bif
                                decide
                                  (List.length ([40] ++ nameS (nKind x) ++ ([32] ++ quoteS (nText x)) ++ ([32] ++ textS (nBase x) (nName x) (nDims x) (nMarks x))) +
                                      List.length ([32] ++ Lib.itoa (nN x)) <
                                    2 ^ 62) then
                              J 1
                                {
                                  tmps :=
                                    [(2, AV.bool b), (3, AV.ref 0 0),
                                      (8,
                                        AV.str
                                          ([40] ++ nameS (nKind x) ++ ([32] ++ quoteS (nText x)) ++ ([32] ++ textS (nBase x) (nName x) (nDims x) (nMarks x)) ++
                                            ([32] ++ Lib.itoa (nN x)))),
                                      (95, AV.sl (Ty.int IntKind.i64) (nKids x)), (96, AV.int IntKind.i64 (↑(List.length (nKids x)) : Int)), (97, AV.int IntKind.i64 0)],
                                  blks := [(0, Blk.cells 24 [AV.sl nodeTy L, AV.int IntKind.i64 r])], next := 1 }
                            else Rs.err 2205
                          else Rs.err 2204
                        else Rs.err 1000046
                      else
                        J 1
                          {
                            tmps :=
                              [(2, AV.bool b), (3, AV.ref 0 0),
                                (8, AV.str ([40] ++ nameS (nKind x) ++ ([32] ++ quoteS (nText x)) ++ ([32] ++ textS (nBase x) (nName x) (nDims x) (nMarks x)))),
                                (95, AV.sl (Ty.int IntKind.i64) (nKids x)), (96, AV.int IntKind.i64 (↑(List.length (nKids x)) : Int)), (97, AV.int IntKind.i64 0)],
                            blks := [(0, Blk.cells 24 [AV.sl nodeTy L, AV.int IntKind.i64 r])], next := 1 }
                  else Rs.err 2005
                else Rs.err 2004
              else Rs.err 3000025
            else
              bif nKind x == 19 then
                bif decide (10 = 10) && (decide (-9223372036854775808 ≤ nN x) && decide (nN x ≤ 9223372036854775807)) then
                  bif decide (List.length [32] + List.length (Lib.itoa (nN x)) < 2 ^ 62) then
                    bif decide (List.length ([40] ++ nameS (nKind x) ++ ([32] ++ quoteS (nText x))) + List.length ([32] ++ Lib.itoa (nN x)) < 2 ^ 62) then
                      J 1
                        {
                          tmps :=
                            [(2, AV.bool b), (3, AV.ref 0 0), (8, AV.str ([40] ++ nameS (nKind x) ++ ([32] ++ quoteS (nText x)) ++ ([32] ++ Lib.itoa (nN x)))),
                              (95, AV.sl (Ty.int IntKind.i64) (nKids x)), (96, AV.int IntKind.i64 (↑(List.length (nKids x)) : Int)), (97, AV.int IntKind.i64 0)],
                          blks := [(0, Blk.cells 24 [AV.sl nodeTy L, AV.int IntKind.i64 r])], next := 1 }
                    else Rs.err 2205
                  else Rs.err 2204
                else Rs.err 1000046
              else
                bif nKind x == 21 then
                  bif decide (10 = 10) && (decide (-9223372036854775808 ≤ nN x) && decide (nN x ≤ 9223372036854775807)) then
                    bif decide (List.length [32] + List.length (Lib.itoa (nN x)) < 2 ^ 62) then
                      bif decide (List.length ([40] ++ nameS (nKind x) ++ ([32] ++ quoteS (nText x))) + List.length ([32] ++ Lib.itoa (nN x)) < 2 ^ 62) then
                        J 1
                          {
                            tmps :=
                              [(2, AV.bool b), (3, AV.ref 0 0), (8, AV.str ([40] ++ nameS (nKind x) ++ ([32] ++ quoteS (nText x)) ++ ([32] ++ Lib.itoa (nN x)))),
                                (95, AV.sl (Ty.int IntKind.i64) (nKids x)), (96, AV.int IntKind.i64 (↑(List.length (nKids x)) : Int)), (97, AV.int IntKind.i64 0)],
                            blks := [(0, Blk.cells 24 [AV.sl nodeTy L, AV.int IntKind.i64 r])], next := 1 }
                      else Rs.err 2205
                    else Rs.err 2204
                  else Rs.err 1000046
                else
                  J 1
                    {
                      tmps :=
                        [(2, AV.bool b), (3, AV.ref 0 0), (8, AV.str ([40] ++ nameS (nKind x) ++ ([32] ++ quoteS (nText x)))), (95, AV.sl (Ty.int IntKind.i64) (nKids x)),
                          (96, AV.int IntKind.i64 (↑(List.length (nKids x)) : Int)), (97, AV.int IntKind.i64 0)],
                      blks := [(0, Blk.cells 24 [AV.sl nodeTy L, AV.int IntKind.i64 r])], next := 1 }
          else Rs.err 1805
        else Rs.err 1804
      else Rs.err 1000045
    else
      bif tydS (nKind x) then
        bif goodX ((nBase x, nName x, nDims x, nMarks x, ()), ()) && smallX ((nBase x, nName x, nDims x, nMarks x, ()), ()) then
          bif decide (List.length [32] + List.length (textS (nBase x) (nName x) (nDims x) (nMarks x)) < 2 ^ 62) then
            bif decide (List.length ([40] ++ nameS (nKind x)) + List.length ([32] ++ textS (nBase x) (nName x) (nDims x) (nMarks x)) < 2 ^ 62) then
              bif nKind x == 19 then
                bif decide (10 = 10) && (decide (-9223372036854775808 ≤ nN x) && decide (nN x ≤ 9223372036854775807)) then
                  bif decide (List.length [32] + List.length (Lib.itoa (nN x)) < 2 ^ 62) then
                    bif
                        decide
                          (List.length ([40] ++ nameS (nKind x) ++ ([32] ++ textS (nBase x) (nName x) (nDims x) (nMarks x))) + List.length ([32] ++ Lib.itoa (nN x)) < 2 ^ 62) then
                      J 1
                        {
                          tmps :=
                            [(2, AV.bool b), (3, AV.ref 0 0),
                              (8, AV.str ([40] ++ nameS (nKind x) ++ ([32] ++ textS (nBase x) (nName x) (nDims x) (nMarks x)) ++ ([32] ++ Lib.itoa (nN x)))),
                              (95, AV.sl (Ty.int IntKind.i64) (nKids x)), (96, AV.int IntKind.i64 (↑(List.length (nKids x)) : Int)), (97, AV.int IntKind.i64 0)],
                          blks := [(0, Blk.cells 24 [AV.sl nodeTy L, AV.int IntKind.i64 r])], next := 1 }
                    else Rs.err 2205
                  else Rs.err 2204
                else Rs.err 1000046
              else
                bif nKind x == 21 then
                  bif decide (10 = 10) && (decide (-9223372036854775808 ≤ nN x) && decide (nN x ≤ 9223372036854775807)) then
                    bif decide (List.length [32] + List.length (Lib.itoa (nN x)) < 2 ^ 62) then
                      bif
                          decide
                            (List.length ([40] ++ nameS (nKind x) ++ ([32] ++ textS (nBase x) (nName x) (nDims x) (nMarks x))) + List.length ([32] ++ Lib.itoa (nN x)) < 2 ^ 62) then
                        J 1
                          {
                            tmps :=
                              [(2, AV.bool b), (3, AV.ref 0 0),
                                (8, AV.str ([40] ++ nameS (nKind x) ++ ([32] ++ textS (nBase x) (nName x) (nDims x) (nMarks x)) ++ ([32] ++ Lib.itoa (nN x)))),
                                (95, AV.sl (Ty.int IntKind.i64) (nKids x)), (96, AV.int IntKind.i64 (↑(List.length (nKids x)) : Int)), (97, AV.int IntKind.i64 0)],
                            blks := [(0, Blk.cells 24 [AV.sl nodeTy L, AV.int IntKind.i64 r])], next := 1 }
                      else Rs.err 2205
                    else Rs.err 2204
                  else Rs.err 1000046
                else
                  J 1
                    {
                      tmps :=
                        [(2, AV.bool b), (3, AV.ref 0 0), (8, AV.str ([40] ++ nameS (nKind x) ++ ([32] ++ textS (nBase x) (nName x) (nDims x) (nMarks x)))),
                          (95, AV.sl (Ty.int IntKind.i64) (nKids x)), (96, AV.int IntKind.i64 (↑(List.length (nKids x)) : Int)), (97, AV.int IntKind.i64 0)],
                      blks := [(0, Blk.cells 24 [AV.sl nodeTy L, AV.int IntKind.i64 r])], next := 1 }
            else Rs.err 2005
          else Rs.err 2004
        else Rs.err 3000025
      else
        bif nKind x == 19 then
          bif decide (10 = 10) && (decide (-9223372036854775808 ≤ nN x) && decide (nN x ≤ 9223372036854775807)) then
            bif decide (List.length [32] + List.length (Lib.itoa (nN x)) < 2 ^ 62) then
              bif decide (List.length ([40] ++ nameS (nKind x)) + List.length ([32] ++ Lib.itoa (nN x)) < 2 ^ 62) then
                J 1
                  {
                    tmps :=
                      [(2, AV.bool b), (3, AV.ref 0 0), (8, AV.str ([40] ++ nameS (nKind x) ++ ([32] ++ Lib.itoa (nN x)))), (95, AV.sl (Ty.int IntKind.i64) (nKids x)),
                        (96, AV.int IntKind.i64 (↑(List.length (nKids x)) : Int)), (97, AV.int IntKind.i64 0)],
                    blks := [(0, Blk.cells 24 [AV.sl nodeTy L, AV.int IntKind.i64 r])], next := 1 }
              else Rs.err 2205
            else Rs.err 2204
          else Rs.err 1000046
        else
          bif nKind x == 21 then
            bif decide (10 = 10) && (decide (-9223372036854775808 ≤ nN x) && decide (nN x ≤ 9223372036854775807)) then
              bif decide (List.length [32] + List.length (Lib.itoa (nN x)) < 2 ^ 62) then
                bif decide (List.length ([40] ++ nameS (nKind x)) + List.length ([32] ++ Lib.itoa (nN x)) < 2 ^ 62) then
                  J 1
                    {
                      tmps :=
                        [(2, AV.bool b), (3, AV.ref 0 0), (8, AV.str ([40] ++ nameS (nKind x) ++ ([32] ++ Lib.itoa (nN x)))), (95, AV.sl (Ty.int IntKind.i64) (nKids x)),
                          (96, AV.int IntKind.i64 (↑(List.length (nKids x)) : Int)), (97, AV.int IntKind.i64 0)],
                      blks := [(0, Blk.cells 24 [AV.sl nodeTy L, AV.int IntKind.i64 r])], next := 1 }
                else Rs.err 2205
              else Rs.err 2204
            else Rs.err 1000046
          else
            J 1
              {
                tmps :=
                  [(2, AV.bool b), (3, AV.ref 0 0), (8, AV.str ([40] ++ nameS (nKind x))), (95, AV.sl (Ty.int IntKind.i64) (nKids x)),
                    (96, AV.int IntKind.i64 (↑(List.length (nKids x)) : Int)), (97, AV.int IntKind.i64 0)],
                blks := [(0, Blk.cells 24 [AV.sl nodeTy L, AV.int IntKind.i64 r])], next := 1 }
  else Rs.err 1603 := by kernel_rfl
theorem piece18c (J : Jump R0) (N : Int) (L : List Nd) (r : Int) (b : Bool) (x : Nd) (k : Int) (t : Bool) : resume E (tabI (lib18 N)) (cutsOf 0 cut18 0) J [true, true, false, true, false, false, true, false, true] fi18.code 1 (mk18c L r b x k t) (finK E 0 fi18.results .ok) =
    bif t then
    bif inI 0 (List.length (nKids x)) then
      bif okG N ((L, r, ()), getI (nKids x) (Int.toNat 0), true, ()) then Rs.ok (Out.ret (AV.str (formBS true L (getI (nKids x) (Int.toNat 0)))), []) else Rs.err 3000018
    else Rs.err 703
  else
    bif k == 42 then Rs.ok (Out.ret (AV.str [40, 110, 117, 108, 108, 41]), [])
    else
      bif k == 43 then
        bif inI 0 (List.length (nKids x)) then
          bif okG N ((L, r, ()), getI (nKids x) (Int.toNat 0), true, ()) then
            bif decide (List.length [40, 98, 105, 110, 97, 114, 121, 32, 34, 33, 61, 34, 32] + List.length (formBS true L (getI (nKids x) (Int.toNat 0))) < 2 ^ 62) then
              bif
                  decide
                    (List.length ([40, 98, 105, 110, 97, 114, 121, 32, 34, 33, 61, 34, 32] ++ formBS true L (getI (nKids x) (Int.toNat 0))) +
                        List.length [32, 40, 110, 117, 108, 108, 41, 41] <
                      2 ^ 62) then
                Rs.ok
                  (Out.ret
                      (AV.str ([40, 98, 105, 110, 97, 114, 121, 32, 34, 33, 61, 34, 32] ++ formBS true L (getI (nKids x) (Int.toNat 0)) ++ [32, 40, 110, 117, 108, 108, 41, 41])),
                    [])
              else Rs.err 1107
            else Rs.err 1106
          else Rs.err 3000018
        else Rs.err 1103
      else
        bif k == 44 then
          bif inI 0 (List.length (nKids x)) then
            bif okG N ((L, r, ()), getI (nKids x) (Int.toNat 0), true, ()) then
              bif decide (List.length [40, 98, 105, 110, 97, 114, 121, 32, 34, 61, 61, 34, 32] + List.length (formBS true L (getI (nKids x) (Int.toNat 0))) < 2 ^ 62) then
                bif
                    decide
                      (List.length ([40, 98, 105, 110, 97, 114, 121, 32, 34, 61, 61, 34, 32] ++ formBS true L (getI (nKids x) (Int.toNat 0))) +
                          List.length [32, 40, 110, 117, 108, 108, 41, 41] <
                        2 ^ 62) then
                  Rs.ok
                    (Out.ret
                        (AV.str ([40, 98, 105, 110, 97, 114, 121, 32, 34, 61, 61, 34, 32] ++ formBS true L (getI (nKids x) (Int.toNat 0)) ++ [32, 40, 110, 117, 108, 108, 41, 41])),
                      [])
                else Rs.err 1307
              else Rs.err 1306
            else Rs.err 3000018
          else Rs.err 1303
        else
          bif tydS (nKind x) then
            bif decide (List.length (nMarks x) ≤ 5) then
              J 0
                { tmps := [(2, AV.bool b), (3, AV.ref 0 0), (7, AV.ref 1 0)],
                  blks :=
                    [(0, Blk.cells 24 [AV.sl nodeTy L, AV.int IntKind.i64 r]),
                      (1,
                        Blk.cells 46
                          [AV.int IntKind.i64 (nKind x), AV.int IntKind.i64 (nAt x), AV.int IntKind.i64 (nTo x), AV.sl (Ty.int IntKind.i64) (nKids x), AV.str (nText x),
                            AV.int IntKind.i64 (nBase x), AV.str (nName x), AV.int IntKind.i64 (nDims x), AV.str (List.take (List.length (nMarks x)) blanks),
                            AV.int IntKind.i64 (nN x), AV.int IntKind.i64 (nW1 x), AV.int IntKind.i64 (nW2 x), AV.sl (Ty.int IntKind.i64) (nEnds x)])],
                  next := 2 }
            else Rs.err 3000027
          else
            J 0
              { tmps := [(2, AV.bool b), (3, AV.ref 0 0), (7, AV.ref 1 0)],
                blks :=
                  [(0, Blk.cells 24 [AV.sl nodeTy L, AV.int IntKind.i64 r]),
                    (1,
                      Blk.cells 46
                        [AV.int IntKind.i64 (nKind x), AV.int IntKind.i64 (nAt x), AV.int IntKind.i64 (nTo x), AV.sl (Ty.int IntKind.i64) (nKids x), AV.str (nText x),
                          AV.int IntKind.i64 (nBase x), AV.str (nName x), AV.int IntKind.i64 (nDims x), AV.str (nMarks x), AV.int IntKind.i64 (nN x), AV.int IntKind.i64 (nW1 x),
                          AV.int IntKind.i64 (nW2 x), AV.sl (Ty.int IntKind.i64) (nEnds x)])],
                next := 2 } := by kernel_rfl
theorem loop18 (J : Jump R0) (N : Int) (L : List Nd) (r : Int) (b : Bool) (s : List UInt8) (K : List Int) (l k : Int) : resume E (tabI (lib18 N)) (cutsOf 0 cut18 0) J [true, true, true, true, true, true, true, false, true, false, false] fi18.code 1 (mk18b L r b s K l k) (finK E 0 fi18.results .ok) =
    bif decide (k < l) then
    bif inI k (List.length K) then
      bif okG N ((L, r, ()), getI K (Int.toNat k), b, ()) then
        bif decide (List.length [32] + List.length (formBS b L (getI K (Int.toNat k))) < 2 ^ 62) then
          bif decide (List.length s + List.length ([32] ++ formBS b L (getI K (Int.toNat k))) < 2 ^ 62) then
            J 1
              {
                tmps :=
                  [(2, AV.bool b), (3, AV.ref 0 0), (8, AV.str (s ++ ([32] ++ formBS b L (getI K (Int.toNat k))))), (95, AV.sl (Ty.int IntKind.i64) K), (96, AV.int IntKind.i64 l),
                    (97, AV.int IntKind.i64 (IntKind.wrap IntKind.i64 (k + 1)))],
                blks := [(0, Blk.cells 24 [AV.sl nodeTy L, AV.int IntKind.i64 r])], next := 1 }
          else Rs.err 2606
        else Rs.err 2605
      else Rs.err 3000018
    else Rs.err 2500
  else bif decide (List.length s + List.length [41] < 2 ^ 62) then Rs.ok (Out.ret (AV.str (s ++ [41])), []) else Rs.err 2801 := by kernel_rfl
end Go.Sx.Tryd
namespace Go.Sx.Tryd
open Go Go.Sx Go.Proofs
set_option maxRecDepth 100000
/-! types without marks -/
theorem bl_take {m : List UInt8} (h : m.length ≤ 5) : blanks.take m.length = bl m := by
  unfold bl
  have : m.length = 0 ∨ m.length = 1 ∨ m.length = 2 ∨ m.length = 3 ∨ m.length = 4 ∨ m.length = 5 := by omega
  rcases this with e | e | e | e | e | e <;> rw [e] <;> rfl
theorem marksOk_bl (b d : Int) : ∀ (n : Nat) (i : Int), marksOk b d i (List.replicate n 32) = true
  | 0, _ => rfl
  | n + 1, i => by
    rw [List.replicate_succ, marksOk, marksOk_bl b d n (i + 1)]
    rfl
theorem right_bl {b : Int} {n : List UInt8} {d : Int} {m : List UInt8} (h : rightS b n d m = true) : rightS b n d (bl m) = true := by
  unfold rightS at h ⊢
  rw [show marksOk b d 0 (bl m) = true from marksOk_bl b d m.length 0, show (bl m).length = m.length by simp [bl]]
  simp only [Bool.and_eq_true] at h ⊢
  exact ⟨h.1, h.2.1, h.2.2.1, h.2.2.2.1, h.2.2.2.2.1, h.2.2.2.2.2.1, h.2.2.2.2.2.2.1, trivial⟩
theorem node_facts {x : Nd} (h : nodeE x = 0) : inK (nKind x) = true ∧ (tydS (nKind x) = true → rightS (nBase x) (nName x) (nDims x) (nMarks x) = true) ∧ (tydS (nKind x) = false → nBase x = 0 ∧ nName x = [] ∧ nDims x = 0 ∧ nMarks x = []) ∧ (txtS (nKind x) = false → nText x = []) ∧
    leastS (nKind x) ≤ (nKids x).length ∧ (mostS (nKind x) ≥ 0 → (nKids x).length ≤ mostS (nKind x)) := by
  unfold nodeE at h
  cases e1 : (nameS (nKind x) == [])
  · have hk := inK_name e1
    rw [e1] at h
    cases e2 : decide (((nKids x).length : Int) < leastS (nKind x))
    · rw [e2] at h
      cases e3 : (decide (mostS (nKind x) ≥ 0) && decide (((nKids x).length : Int) > mostS (nKind x)))
      · rw [e3] at h
        cases e4 : (!txtS (nKind x) && !(nText x == []))
        · rw [e4] at h
          cases e5 : badT x
          · simp only [decide_eq_false_iff_not] at e2
            refine ⟨hk, fun ht => ?_, fun ht => ?_, fun ht => ?_, by omega, fun hm => ?_⟩
            · unfold badT at e5
              rw [ht] at e5
              simpa using e5
            · unfold badT at e5
              rw [ht] at e5
              simp only [cond_false, Bool.or_eq_false_iff, bne_eq_false_iff_eq, Bool.not_eq_false', beq_iff_eq] at e5
              exact ⟨e5.1, e5.2.1, e5.2.2.1, e5.2.2.2⟩
            · rw [ht] at e4
              simpa using e4
            · rw [decide_eq_true hm] at e3
              simp only [Bool.true_and, decide_eq_false_iff_not] at e3
              omega
          · rw [e5] at h
            have : (5 : Int) = 0 := h
            omega
        · rw [e4] at h
          have : (5 : Int) = 0 := h
          omega
      · rw [e3] at h
        have : (131 : Int) = 0 := h
        omega
    · rw [e2] at h
      have : (131 : Int) = 0 := h
      omega
  · rw [e1] at h
    have : (3 : Int) = 0 := h
    omega
section
variable {L : List Nd} {r : Int}
theorem formG_stable (g : Good L r) (b : Bool) : ∀ (n i f : Nat), i < n → i < L.length → i + 1 ≤ f → formG b L f i = formB b L i
  | 0, i, f, h, _, _ => by omega
  | n + 1, i, 0, _, _, h => by omega
  | n + 1, i, f + 1, hn, hi, hf => by
    have key : ∀ k ∈ nKids (getN L i), formG b L f k.toNat = formG b L i k.toNat := fun k hk => by
      obtain ⟨_, _, h3⟩ := g.kid hi hk
      rw [formG_stable g b n k.toNat f (by omega) (by omega) (by omega), formG_stable g b n k.toNat i (by omega) (by omega) (by omega)]
    show (bif _ then _ else bif _ then _ else bif _ then _ else _) = (bif _ then _ else bif _ then _ else bif _ then _ else _)
    cases e1 : (b && wraps (nKind (getN L i)))
    · cases e3 : (b && nKind (getN L i) == 42)
      · cases e2 : (b && tests (nKind (getN L i)))
        · simp only [cond_false]
          refine congrArg (fun z => lhS (bif b then bareN (getN L i) else getN L i) ++ z ++ [41]) (flatMap_congrG fun k hk => ?_)
          rw [key k hk]
        · have h0 := g.kid0s hi (by simp only [Bool.and_eq_true] at e2; rw [e2.2, Bool.or_true])
          simp only [cond_false, cond_true]
          rw [key _ (by rw [h0]; simp)]
      · rfl
    · have h0 := g.kid0s hi (by simp only [Bool.and_eq_true] at e1; rw [e1.2, Bool.true_or])
      simp only [cond_true]
      rw [key _ (by rw [h0]; simp)]
def kidsB (b : Bool) (L : List Nd) (ks : List Int) : List UInt8 := ks.flatMap fun k => [32] ++ formB b L k.toNat
theorem kidsB_cons (b : Bool) (L : List Nd) (k : Int) (ks : List Int) : kidsB b L (k :: ks) = [32] ++ formB b L k.toNat ++ kidsB b L ks := rfl
theorem formB_eq (g : Good L r) (b : Bool) {i : Nat} (hi : i < L.length) : formB b L i =
    (bif b && wraps (nKind (getN L i)) then formB b L (kid0 (getN L i)).toNat
    else bif b && nKind (getN L i) == 42 then nullT
    else bif b && tests (nKind (getN L i)) then binH (nKind (getN L i)) ++ formB b L (kid0 (getN L i)).toNat ++ [32] ++ nullT ++ [41]
    else lhS (bif b then bareN (getN L i) else getN L i) ++ kidsB b L (nKids (getN L i)) ++ [41]) := by
  have key : ∀ k ∈ nKids (getN L i), formG b L i k.toNat = formB b L k.toNat := fun k hk => by
    obtain ⟨_, _, h3⟩ := g.kid hi hk
    exact formG_stable g b (k.toNat + 1) k.toNat i (by omega) (by omega) (by omega)
  show (bif _ then _ else bif _ then _ else bif _ then _ else _) = _
  cases e1 : (b && wraps (nKind (getN L i)))
  · cases e3 : (b && nKind (getN L i) == 42)
    · cases e2 : (b && tests (nKind (getN L i)))
      · simp only [cond_false]
        refine congrArg (fun z => lhS (bif b then bareN (getN L i) else getN L i) ++ z ++ [41]) (flatMap_congrG fun k hk => ?_)
        rw [key k hk]
      · have h0 := g.kid0s hi (by simp only [Bool.and_eq_true] at e2; rw [e2.2, Bool.or_true])
        simp only [cond_false, cond_true]
        rw [key _ (by rw [h0]; simp)]
    · rfl
  · have h0 := g.kid0s hi (by simp only [Bool.and_eq_true] at e1; rw [e1.2, Bool.true_or])
    simp only [cond_true]
    rw [key _ (by rw [h0]; simp)]
end
end Go.Sx.Tryd
