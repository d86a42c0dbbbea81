/- A part of the proof: see the row's text. -/
import Derived.Test.YtbpfdbbijfpjkaaDoorSxSeatIntr
set_option linter.unusedVariables false
set_option linter.unusedSimpArgs false
namespace Go.Sx.Tryd
open Go Go.Sx
set_option maxRecDepth 100000
abbrev shapeTy : Ty := .pair .str (.pair (.int .i64) (.pair (.int .i64) (.pair .bool (.pair .bool .unit))))
def sname (s : shapeTy.den) : List UInt8 := s.1
def kindNames : List (List UInt8) := [[], [112, 114, 111, 103, 114, 97, 109], [99, 108, 97, 115, 115], [101, 120, 116, 101, 110, 100, 115], [102, 105, 101, 108, 100], [105, 110, 105, 116], [109, 101, 116, 104, 111, 100], [112, 97, 114, 97, 109], [98, 108, 111, 99, 107], [100, 101, 99, 108], [97, 115, 115, 105, 103, 110], [105, 102], [119, 104, 105, 108, 101], [98, 114, 101, 97, 107], [99, 111, 110, 116, 105, 110, 117, 101], [114, 101, 116, 117, 114, 110], [112, 114, 105, 110, 116], [115, 117, 112, 101, 114], [101, 120, 112, 114], [105, 110, 116], [100, 111, 117, 98, 108, 101], [98, 111, 111, 108], [115, 116, 114], [110, 117, 108, 108], [116, 104, 105, 115], [118, 97, 114], [103, 101, 116], [105, 110, 100, 101, 120], [108, 101, 110, 103, 116, 104], [99, 97, 108, 108], [110, 101, 119], [97, 114, 114, 97, 121], [110, 101, 103], [110, 111, 116], [98, 105, 110, 97, 114, 121], [99, 97, 115, 116], [116, 111, 105, 110, 116], [116, 111, 100, 111, 117, 98, 108, 101], [105, 110, 112, 117, 116], [97, 115, 107], [103, 117, 97, 114, 100], [115, 111, 109, 101], [110, 111, 110, 101], [105, 115, 115, 111, 109, 101], [105, 115, 110, 111, 110, 101], [118, 97, 108]]
def shapesL : List shapeTy.den := [([], (0 : Int), (0 : Int), false, false, ()), ([112, 114, 111, 103, 114, 97, 109], (0 : Int), (-1 : Int), false, false, ()), ([99, 108, 97, 115, 115], (0 : Int), (-1 : Int), true, false, ()), ([101, 120, 116, 101, 110, 100, 115], (0 : Int), (0 : Int), true, false, ()), ([102, 105, 101, 108, 100], (0 : Int), (0 : Int), true, true, ()), ([105, 110, 105, 116], (1 : Int), (-1 : Int), false, false, ()), ([109, 101, 116, 104, 111, 100], (1 : Int), (-1 : Int), true, true, ()), ([112, 97, 114, 97, 109], (0 : Int), (0 : Int), true, true, ()), ([98, 108, 111, 99, 107], (0 : Int), (-1 : Int), false, false, ()), ([100, 101, 99, 108], (0 : Int), (1 : Int), true, true, ()), ([97, 115, 115, 105, 103, 110], (2 : Int), (2 : Int), false, false, ()), ([105, 102], (2 : Int), (3 : Int), false, false, ()), ([119, 104, 105, 108, 101], (2 : Int), (2 : Int), false, false, ()), ([98, 114, 101, 97, 107], (0 : Int), (0 : Int), false, false, ()), ([99, 111, 110, 116, 105, 110, 117, 101], (0 : Int), (0 : Int), false, false, ()), ([114, 101, 116, 117, 114, 110], (0 : Int), (1 : Int), false, false, ()), ([112, 114, 105, 110, 116], (1 : Int), (1 : Int), false, false, ()), ([115, 117, 112, 101, 114], (0 : Int), (-1 : Int), false, false, ()), ([101, 120, 112, 114], (1 : Int), (1 : Int), false, false, ()), ([105, 110, 116], (0 : Int), (0 : Int), false, false, ()), ([100, 111, 117, 98, 108, 101], (0 : Int), (0 : Int), true, false, ()), ([98, 111, 111, 108], (0 : Int), (0 : Int), false, false, ()), ([115, 116, 114], (0 : Int), (0 : Int), true, false, ()), ([110, 117, 108, 108], (0 : Int), (0 : Int), false, false, ()), ([116, 104, 105, 115], (0 : Int), (0 : Int), false, false, ()), ([118, 97, 114], (0 : Int), (0 : Int), true, false, ()), ([103, 101, 116], (1 : Int), (1 : Int), true, false, ()), ([105, 110, 100, 101, 120], (2 : Int), (2 : Int), false, false, ()), ([108, 101, 110, 103, 116, 104], (1 : Int), (1 : Int), false, false, ()), ([99, 97, 108, 108], (1 : Int), (-1 : Int), true, false, ()), ([110, 101, 119], (0 : Int), (-1 : Int), false, true, ()), ([97, 114, 114, 97, 121], (1 : Int), (1 : Int), false, true, ()), ([110, 101, 103], (1 : Int), (1 : Int), false, false, ()), ([110, 111, 116], (1 : Int), (1 : Int), false, false, ()), ([98, 105, 110, 97, 114, 121], (2 : Int), (2 : Int), true, false, ()), ([99, 97, 115, 116], (1 : Int), (1 : Int), false, true, ()), ([116, 111, 105, 110, 116], (1 : Int), (1 : Int), false, false, ()), ([116, 111, 100, 111, 117, 98, 108, 101], (1 : Int), (1 : Int), false, false, ()), ([105, 110, 112, 117, 116], (0 : Int), (0 : Int), false, false, ()), ([97, 115, 107], (1 : Int), (1 : Int), false, false, ()), ([103, 117, 97, 114, 100], (1 : Int), (1 : Int), false, false, ()), ([115, 111, 109, 101], (1 : Int), (1 : Int), false, false, ()), ([110, 111, 110, 101], (0 : Int), (0 : Int), false, false, ()), ([105, 115, 115, 111, 109, 101], (1 : Int), (1 : Int), false, false, ()), ([105, 115, 110, 111, 110, 101], (1 : Int), (1 : Int), false, false, ()), ([118, 97, 108], (1 : Int), (1 : Int), false, false, ())]
noncomputable def E1 : Env := ⟨tis, fis, intrList 64 lib1⟩
/-- the head of the laws: a closed run -/
theorem grows_run : run E1 60 10 [] [] = .ok (.ret (.bool true), []) := by kernel_rfl
/-- a kind's name -/
def nm (k : Int) : List UInt8 := bif decide (k < 0) then [] else bif decide (k ≥ 46) then [] else kindNames.getD k.toNat []
def sh (k : Int) : shapeTy.den := bif decide (k < 0) then shapeTy.dflt else bif decide (k ≥ 46) then shapeTy.dflt else shapesL.getD k.toNat shapeTy.dflt
theorem of41 (k : Int) : run E1 60 41 [.int .i64 k] [] = (bif decide (k < 0) then .ok (.ret (.agg (flat shapeTy shapeTy.dflt)), []) else bif decide (k ≥ 46) then .ok (.ret (.agg (flat shapeTy shapeTy.dflt)), []) else
    bif inI k 46 then .ok (.ret (.agg (flat shapeTy (shapesL.getD k.toNat shapeTy.dflt))), []) else .err "tree.go:81") := by kernel_rfl
theorem name33 (k : Int) : run E1 60 33 [.int .i64 k] [] = (bif decide (k < 1) then .ok (.ret (.str []), []) else bif decide (k ≥ (kindNames.length : Nat)) then .ok (.ret (.str []), []) else
    bif inI k kindNames.length then .ok (.ret (.str (kindNames.getD k.toNat [])), []) else .err "ref.go:24") := by kernel_rfl
theorem getD_map {α β : Type} (f : α → β) (l : List α) (i : Nat) (a : α) (b : β) (h : i < l.length) : f (l.getD i a) = (l.map f).getD i b := by
  simp [List.getD, h]
theorem shapes_names : ∀ i : Nat, i < 46 → sname (shapesL.getD i shapeTy.dflt) = kindNames.getD i [] := by
  have h : shapesL.map sname = kindNames := by kernel_rfl
  have hl : shapesL.length = 46 := by kernel_rfl
  intro i hi
  rw [← h]
  exact getD_map sname shapesL i shapeTy.dflt [] (by omega)
theorem inI_of {k : Int} {n : Nat} (h0 : 0 ≤ k) (h : k < n) : inI k n = true := by simp [inI, h0, h]
theorem of_run (k : Int) : run E1 60 41 [.int .i64 k] [] = .ok (.ret (.agg (flat shapeTy (sh k))), []) := by
  rw [of41]
  unfold sh
  by_cases h0 : k < 0
  · simp [h0]
  · by_cases h1 : k ≥ 46
    · simp [h0, h1]
    · have hi : inI k 46 = true := inI_of (by omega) (by omega)
      simp [h0, h1, hi]
theorem sh_name (k : Int) : sname (sh k) = nm k := by
  unfold sh nm
  by_cases h0 : k < 0
  · simp only [h0, decide_true, cond_true]; rfl
  · by_cases h1 : k ≥ 46
    · simp only [h0, h1, decide_true, decide_false, cond_true, cond_false]; rfl
    · simp only [h0, h1, decide_false, cond_false]
      exact shapes_names k.toNat (by omega)
theorem nm33 (k : Int) : run E1 60 33 [.int .i64 k] [] = .ok (.ret (.str (nm k)), []) := by
  have hl : kindNames.length = 46 := by kernel_rfl
  rw [name33, hl]
  unfold nm
  by_cases h0 : k < 0
  · have : k < 1 := by omega
    simp [h0, this]
  · by_cases h1 : k ≥ 46
    · have : ¬ k < 1 := by omega
      simp [h0, h1, this]
    · by_cases h2 : k < 1
      · have : k = 0 := by omega
        subst this
        simp [kindNames]
      · have hi : inI k 46 = true := inI_of (by omega) (by omega)
        simp [h0, h1, h2, hi]

theorem stat34 (k : Int) : run E1 60 34 [.int .i64 k] [] = .ok (.ret (.bool (bif decide (k ≥ 8) then decide (k ≤ 18) else false)), []) := by
  have h : run E1 60 34 [.int .i64 k] [] = (bif decide (k ≥ 8) then .ok (.ret (.bool (decide (k ≤ 18))), []) else .ok (.ret (.bool false), [])) := by kernel_rfl
  rw [h]
  cases decide (k ≥ 8) <;> rfl
theorem value35 (k : Int) : run E1 60 35 [.int .i64 k] [] = .ok (.ret (.bool (bif decide (k ≥ 19) then decide (k ≤ 45) else false)), []) := by
  have h : run E1 60 35 [.int .i64 k] [] = (bif decide (k ≥ 19) then .ok (.ret (.bool (decide (k ≤ 45))), []) else .ok (.ret (.bool false), [])) := by kernel_rfl
  rw [h]
  cases decide (k ≥ 19) <;> rfl
def statI : Intr := fun args bs => match args, bs with
  | [.int .i64 k], [] => .ok (.ret (.bool (bif decide (k ≥ 8) then decide (k ≤ 18) else false)), [])
  | _, _ => .err "Stat"
def valueI : Intr := fun args bs => match args, bs with
  | [.int .i64 k], [] => .ok (.ret (.bool (bif decide (k ≥ 19) then decide (k ≤ 45) else false)), [])
  | _, _ => .err "Value"
def growsI : Intr := fun args bs => match args, bs with
  | [], [] => .ok (.ret (.bool true), [])
  | _, _ => .err "grows"
def nmI : Intr := fun args bs => match args, bs with
  | [.int .i64 k], [] => .ok (.ret (.str (nm k)), [])
  | _, _ => .err "Name"
def ofI : Intr := fun args bs => match args, bs with
  | [.int .i64 k], [] => .ok (.ret (.agg (flat shapeTy (sh k))), [])
  | _, _ => .err "of"
noncomputable def lib2 : List (Nat × Intr) := (10, growsI) :: (41, ofI) :: (33, nmI) :: (34, statI) :: (35, valueI) :: lib1
noncomputable def E2 : Env := ⟨tis, fis, intrList 64 lib2⟩

theorem lib2_ok {w0 : World} (t : TabsAt w0) : IChk Go.Proofs.Tryd.prog (GW w0) lib2 := by
  have hrun := run_ok (G := GW w0) (envOK (intrList 64 lib1)) (lib1_ok t).ok fiOK 60
  refine .cons (.of_run hrun fun args bs r h => ?_) (.cons (.of_run hrun fun args bs r h => ?_) (.cons (.of_run hrun fun args bs r h => ?_) (.cons (.of_run hrun fun args bs r h => ?_) (.cons (.of_run hrun fun args bs r h => ?_) (lib1_ok t)))))
  · unfold growsI at h
    split at h
    · rw [← h]; exact grows_run
    · cases h
  · unfold ofI at h
    split at h
    · rw [← h]; exact of_run _
    · cases h
  · unfold nmI at h
    split at h
    · rw [← h]; exact nm33 _
    · cases h
  · unfold statI at h
    split at h
    · rw [← h]; exact stat34 _
    · cases h
  · unfold valueI at h
    split at h
    · rw [← h]; exact value35 _
    · cases h

/-- TreeKinds: whatever the number -/
theorem kinds_run (k : Int) : run E2 60 9 [.int .i64 k] [] = .ok (.ret (.bool true), []) := by
  have h : run E2 60 9 [.int .i64 k] [] = (
    bif sname (sh k) == nm k then
      bif decide (k ≥ 8) then
        bif
            bif true then (bif decide (k ≥ 8) then decide (k ≤ 18) else false) == bif true then decide (k ≤ 18) else false
            else false then
          bif decide (k ≥ 19) then
            Rs.ok
              (Out.ret
                  (AV.bool
                    (bif true then
                      (bif decide (k ≥ 19) then decide (k ≤ 45) else false) == bif true then decide (k ≤ 45) else false
                    else false)),
                [])
          else
            Rs.ok
              (Out.ret (AV.bool (bif true then (bif decide (k ≥ 19) then decide (k ≤ 45) else false) == false else false)),
                [])
        else Rs.ok (Out.ret (AV.bool false), [])
      else
        bif bif true then (bif decide (k ≥ 8) then decide (k ≤ 18) else false) == false else false then
          bif decide (k ≥ 19) then
            Rs.ok
              (Out.ret
                  (AV.bool
                    (bif true then
                      (bif decide (k ≥ 19) then decide (k ≤ 45) else false) == bif true then decide (k ≤ 45) else false
                    else false)),
                [])
          else
            Rs.ok
              (Out.ret (AV.bool (bif true then (bif decide (k ≥ 19) then decide (k ≤ 45) else false) == false else false)),
                [])
        else Rs.ok (Out.ret (AV.bool false), [])
    else Rs.ok (Out.ret (AV.bool false), [])
    ) := by kernel_rfl
  rw [h, sh_name k]
  by_cases h8 : k ≥ 8 <;> by_cases h19 : k ≥ 19 <;> simp [h8, h19]
end Go.Sx.Tryd
