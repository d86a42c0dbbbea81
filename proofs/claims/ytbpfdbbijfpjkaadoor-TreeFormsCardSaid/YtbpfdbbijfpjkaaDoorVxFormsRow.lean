/- TreeForms: for any two collections of nodes and any number the law answers true, and its arguments read behind the call as before. No condition of the proof's own; the listed tables read as listed (the card ties them). The road: an evaluator of the model's code that is proved sound, the library's functions by the shelf's contracts, the code's pieces as equations of the kernel's, and plain laws of them. -/
import Derived.Test.YtbpfdbbijfpjkaaDoorVxLaid
import Derived.Test.YtbpfdbbijfpjkaaDoorVxC
import Derived.Test.YtbpfdbbijfpjkaaDoorVxLfB
import Derived.Test.YtbpfdbbijfpjkaaDoorVxN
import Derived.Test.YtbpfdbbijfpjkaaDoorCards
import Derived.Test.YtbpfdbbijfpjkaaDoorTie
import Derived.OpenShut
import Derived.ShutString
import Derived.ChangeOld
import Derived.JoinedOf
import Derived.WalkKit
import Derived.Carry
set_option linter.unusedVariables false
set_option linter.unusedSimpArgs false
namespace Go.Proofs.YtbpfdbbijfpjkaaDoor
open Go.ChangeShapes Go.WideShapes Go.ChangeAt Go.RowKit
open Go.Sx Go.Sx.Tryd
set_option maxRecDepth 100000
theorem own : ownKnob Tryd.prog.godebug = none := by kernel_rfl
theorem und24 : ∃ fs, Tryd.prog.underlying 24 = some (.struct fs) := ⟨_, rfl⟩
theorem und3 : Tryd.prog.underlying 3 = some (.int .i64) := by kernel_rfl
theorem und4 : Tryd.prog.underlying 4 = some .bool := by kernel_rfl
theorem laidOut' : laidOutB Tryd.prog = true := by kernel_rfl
theorem kids' : Kids Tryd.prog (· < Tryd.prog.types.size) := kids_rows laidOut' (by kernel_rfl)
theorem leaf24 : leafTys Tryd.prog 10 24 = some [.slice nodeTy, .int .i64] := by kernel_rfl
theorem fine_nodes {L : List Nd} (h : Fine (.slice nodeTy) L) : L.all fineN = true := by
  rw [List.all_eq_true]
  intro x hx
  have h1 : Fine nodeTy x := h x hx
  obtain ⟨_, _, _, _, _, _, _, _, _, h2, _⟩ := h1
  exact h2
theorem tree_arg {H : Type} {enc : TypeId × Value → H} {W : World} {b0 : Nat} {r : Reach} {v : Value} {d : DataW H} {p : List MemPlace} (hv : Value.okWide Tryd.prog W r b0 24 v) (h : DataW.Trod enc Tryd.prog W 0 (fun _ => true) true 24 v d p) :
    ∃ (L : List Nd) (rt : Int), VRel (Ctx0 W) (.agg (trC L rt)) v ∧ L.all fineN = true := by
  obtain ⟨fs, hfs⟩ := und24
  obtain ⟨cs, rfl, _⟩ := okWide_struct hfs hv
  obtain ⟨x, hx, fx⟩ := arg_struct kids' (of_decide_eq_true (by kernel_rfl)) leaf24 h
  exact ⟨x.1, x.2.1, hx, fine_nodes fx.1⟩
theorem treeForms_lifted (os : Os) (started : os.Started) (H : Type) (enc : TypeId × Value → H) :
    ReturnsInHanded {} Tryd.checked os 4 .any (fun w args => (Rows.treeFormsSpec.pre enc Tryd.prog Tryd.f4 [] false w args ∧ laidMetH Tryd.prog Rows.treeFormsRow.laid w) ∧ sizedMet enc Tryd.prog Tryd.f4 (OpenSpec.ofChange Rows.treeFormsSpec) false w args)
      (Rows.treeFormsSpec.post enc Tryd.prog Tryd.f4 false true false false) := by
  refine returnsInHanded_of_change_and (C := Tryd.checked) (X := fun w _ => laidMetH Tryd.prog Rows.treeFormsRow.laid w) (fun _ _ _ hh h => h.of_heap hh) own started (by kernel_rfl) Tryd.func4
    (witness_any (enc := enc) (C := Tryd.checked) (os := os) (X := fun w _ => laidMetH Tryd.prog Rows.treeFormsRow.laid w) false (laidWorld os) #[.agg #[.slice none 0 0, .int .i64 0], .agg #[.slice none 0 0, .int .i64 0], .int .i64 0] 8 rfl (by kernel_rfl) (by kernel_rfl) (by kernel_rfl) (by kernel_rfl) (by kernel_rfl) (laid_met os _)) ?_
  intro W base args ds gs before hval0 hW _ _ hL _
  have hL : laidMet Tryd.prog rowLaid W := hL
  have hval : ∀ (j : Nat) t v, Tryd.f4.params[j]? = some t → args[j]? = some v → Value.okWide Tryd.prog W .any base t v := hval0
  have hW' := hW
  obtain ⟨p, q, hA0, hV, rfl, hfz, hnd⟩ := hW
  have hA : DataW.TrodAll enc Tryd.prog W 0 (fun _ => true) true [24, 24, 3] args.toList ds p := hA0
  obtain ⟨v0, v1, v2, d0, d1, d2, p0, p1, p2, rfl, rfl, rfl, h0, h1, h2⟩ := trodAll_three hA
  obtain ⟨rfl, rfl⟩ := trodVars_none hV
  obtain ⟨L0, rt0, r0, f0⟩ := tree_arg (hval 0 24 v0 rfl rfl) h0
  obtain ⟨L1, rt1, r1, f1⟩ := tree_arg (hval 1 24 v1 rfl rfl) h1
  obtain ⟨a2, rfl, rfl, rfl, wa2⟩ := open_int und3 (hval 2 3 v2 rfl rfl) h2
  clear hA0 hval0
  have hlt : ∀ x ∈ p0 ++ p1, x.block < W.heap.size := fun x hx => by simpa using hW'.lt x (by simpa using hx)
  have tb := tabs_of_laid hL
  refine (law_calls (vals := [v0, v1, .int .i64 a2]) fc4 (law4_SA tb L0 rt0 L1 rt1 a2 f0 f1) ⟨_, _, rfl, r0, _, _, rfl, r1, _, _, rfl, rfl, rfl⟩).mono fun e W' ⟨he, bel⟩ => ?_
  subst he
  refine ⟨_, rfl, _, _, _, [], _, [], hW', trodAll_mk1 (shut_bool und4 _), trodAll_mk3 (Below.trod laidOut' (by kernel_rfl) (of_decide_eq_true (by kernel_rfl)) h0 bel (fun x hx => hlt x (by simp [hx]))) (Below.trod laidOut' (by kernel_rfl) (of_decide_eq_true (by kernel_rfl)) h1 bel (fun x hx => hlt x (by simp [hx]))) (shut_int und3 wa2), rfl, bel.frame _, fun h => by cases h⟩

theorem treeForms_row : Rows.TreeFormsSaid :=
  OpenClaim.holds_of_wide 4 Tryd.f4 rfl rfl rfl rfl rfl rfl rfl ⟨rfl, rfl, rfl, rfl, rfl⟩ rfl rfl rfl rfl rfl (by kernel_rfl) Tryd.func4 (by kernel_rfl)
    (of_decide_eq_true (by kernel_rfl)) (by unfold Func.isWrapper; first | (rw [if_pos (by decide +kernel)]; kernel_rfl) | (rw [if_neg (by decide +kernel)]; exact ⟨rfl, rfl⟩))
    (fun os started H enc _ => treeForms_lifted os started H enc)

theorem treeForms_card : Rows.TreeFormsCardSaid :=
  Claim7.holds_tied_plain_at .later [] [.data, .data, .data, .data, .pinned, .pinned, .pinned, .pinned, .pinned, .pinned] true (true, "2def4420bb02a479c42e86214b2e6a5e25034af3e610a811c9241951764c50f0") false
    treeForms_row (fun _ h => by cases h) (by kernel_rfl) (fun _ h => by cases h) treeForms_row_tie rfl ⟨rfl, rfl⟩ (by kernel_rfl) rfl
    (fun f fn hf hfn => by
      obtain rfl : f = 4 := Option.some.inj ((show Tryd.prog.funcNamed "caulker/caulkerlaw07.TreeForms" = some 4 by kernel_rfl).symm.trans hf) |>.symm
      obtain rfl : fn = Tryd.f4 := (Option.some.inj (Tryd.func4.symm.trans hfn)).symm
      exact ⟨by kernel_rfl, fun j t ht => by
        have ht : (#[24, 24, 3] : Array TypeId)[j]? = some t := ht
        have h3 : t = 3 ∨ t = 24 := by
          have hm : t ∈ (#[24, 24, 3] : Array TypeId) := Array.mem_of_getElem? ht
          simp at hm
          first | (rcases hm with h | h | h <;> simp [h]) | (rcases hm with h | h <;> simp [h]) | simp [hm]
        rcases h3 with rfl | rfl
        · exact (show Tryd.prog.wantsStandIn 3 = false by kernel_rfl)
        · exact (show Tryd.prog.wantsStandIn 24 = false by kernel_rfl)⟩)
    (by kernel_rfl)
end Go.Proofs.YtbpfdbbijfpjkaaDoor
