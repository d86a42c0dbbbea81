/- TreeErases: for any nodes the law answers true, and its argument reads behind the call as before. No condition of the proof's own; the listed tables read as listed (the card ties them). The road: an evaluator of the model's code that is proved sound, the library's functions by the shelf's contracts, the code's pieces as equations of the kernel's, and plain laws of them. -/
import Derived.Test.YtbpfdbbijfpjkaaDoorUxLaid
import Derived.Test.YtbpfdbbijfpjkaaDoorUxC
import Derived.Test.YtbpfdbbijfpjkaaDoorUxEmB
import Derived.Test.YtbpfdbbijfpjkaaDoorUxN
import Derived.Test.YtbpfdbbijfpjkaaDoorCards
import Derived.Test.YtbpfdbbijfpjkaaDoorTie
import Derived.OpenShut
import Derived.ShutString
import Derived.ChangeOld
import Derived.JoinedOf
import Derived.WalkKit
import Derived.Carry
set_option linter.unusedVariables false
set_option linter.unusedSimpArgs false
namespace Go.Proofs.YtbpfdbbijfpjkaaDoor
open Go.ChangeShapes Go.WideShapes Go.ChangeAt Go.RowKit
open Go.Sx Go.Sx.Tryd
set_option maxRecDepth 100000
theorem own : ownKnob Tryd.prog.godebug = none := by kernel_rfl
theorem und24 : ∃ fs, Tryd.prog.underlying 24 = some (.struct fs) := ⟨_, rfl⟩
theorem und3 : Tryd.prog.underlying 3 = some (.int .i64) := by kernel_rfl
theorem und4 : Tryd.prog.underlying 4 = some .bool := by kernel_rfl
theorem laidOut' : laidOutB Tryd.prog = true := by kernel_rfl
theorem kids' : Kids Tryd.prog (· < Tryd.prog.types.size) := kids_rows laidOut' (by kernel_rfl)
theorem leaf24 : leafTys Tryd.prog 10 24 = some [.slice nodeTy, .int .i64] := by kernel_rfl
theorem fine_nodes {L : List Nd} (h : Fine (.slice nodeTy) L) : L.all fineN = true := by
  rw [List.all_eq_true]
  intro x hx
  have h1 : Fine nodeTy x := h.2 x hx
  obtain ⟨_, _, _, _, _, _, _, _, _, h2, _⟩ := h1
  exact h2
theorem ends_nodes {L : List Nd} (h : Fine (.slice nodeTy) L) : L.all endsN = true := by
  rw [List.all_eq_true]
  intro x hx
  have h1 : Fine nodeTy x := h.2 x hx
  obtain ⟨_, _, _, _, _, _, _, _, _, _, _, _, h2, _⟩ := h1
  have h3 : (nEnds x).length * 8 ≤ reachBytes := h2.1
  have h4 : reachBytes = 140737488351232 := rfl
  simp only [endsN, decide_eq_true_eq]
  omega
theorem tree_arg {H : Type} {enc : TypeId × Value → H} {W : World} {b0 : Nat} {r : Reach} {v : Value} {d : DataW H} {p : List MemPlace} (hv : Value.okWide Tryd.prog W r b0 24 v) (h : DataW.Trod enc Tryd.prog W 0 (fun _ => true) true 24 v d p) (hw : ∀ b ∈ d.weights Tryd.prog 24, b ≤ reachBytes) :
    ∃ (L : List Nd) (rt : Int), VRel (Ctx0 W) (.agg (trC L rt)) v ∧ L.all fineN = true ∧ L.all endsN = true := by
  obtain ⟨fs, hfs⟩ := und24
  obtain ⟨cs, rfl, _⟩ := okWide_struct hfs hv
  obtain ⟨x, hx, fx⟩ := arg_struct kids' (of_decide_eq_true (by kernel_rfl)) leaf24 h hw
  exact ⟨x.1, x.2.1, hx, fine_nodes fx.1, ends_nodes fx.1⟩
theorem treeErases_lifted (os : Os) (started : os.Started) (H : Type) (enc : TypeId × Value → H) :
    ReturnsInHanded {} Tryd.checked os 6 .any (fun w args => (Rows.treeErasesSpec.pre enc Tryd.prog Tryd.f6 [] false w args ∧ laidMetH Tryd.prog Rows.treeErasesRow.laid w) ∧ sizedMet enc Tryd.prog Tryd.f6 (OpenSpec.ofChange Rows.treeErasesSpec) false w args)
      (Rows.treeErasesSpec.post enc Tryd.prog Tryd.f6 false true false false) := by
  refine returnsInHanded_of_change_and (C := Tryd.checked) (X := fun w _ => laidMetH Tryd.prog Rows.treeErasesRow.laid w) (fun _ _ _ hh h => h.of_heap hh) own started (by kernel_rfl) Tryd.func6
    (witness_any (enc := enc) (C := Tryd.checked) (os := os) (X := fun w _ => laidMetH Tryd.prog Rows.treeErasesRow.laid w) false (laidWorld os) #[.agg #[.slice none 0 0, .int .i64 0]] 8 rfl (by kernel_rfl) (by kernel_rfl) (by kernel_rfl) (by kernel_rfl) (by kernel_rfl) (laid_met os _)) ?_
  intro W base args ds gs before hval0 hW _ hsz hL _
  have hL : laidMet Tryd.prog rowLaid W := hL
  have hval : ∀ (j : Nat) t v, Tryd.f6.params[j]? = some t → args[j]? = some v → Value.okWide Tryd.prog W .any base t v := hval0
  have hW' := hW
  obtain ⟨p, q, hA0, hV, rfl, hfz, hnd⟩ := hW
  have hA : DataW.TrodAll enc Tryd.prog W 0 (fun _ => true) true [24] args.toList ds p := hA0
  obtain ⟨v0, d0, rfl, rfl, h0⟩ := trodAll_one hA
  obtain ⟨rfl, rfl⟩ := trodVars_none hV
  obtain ⟨L0, rt0, r0, f0, e0⟩ := tree_arg (hval 0 24 v0 rfl rfl) h0 (fun b hb => of_decide_eq_true (List.all_eq_true.1 hsz b (weights_each (i := 0) rfl rfl b hb)))
  clear hA0 hval0
  have hlt : ∀ x ∈ p, x.block < W.heap.size := fun x hx => by simpa using hW'.lt x (by simpa using hx)
  have tb := tabs_of_laid hL
  refine (law_calls (vals := [v0]) fc6 (law6_SA tb L0 rt0 f0 e0) ⟨_, _, rfl, r0, rfl⟩).mono fun e W' ⟨he, bel⟩ => ?_
  subst he
  refine ⟨_, rfl, _, _, _, [], _, [], hW', trodAll_mk1 (shut_bool und4 _), trodAll_mk1 (Below.trod laidOut' (by kernel_rfl) (of_decide_eq_true (by kernel_rfl)) h0 bel hlt), rfl, bel.frame _, fun h => by cases h⟩

theorem treeErases_row : Rows.TreeErasesSaid :=
  OpenClaim.holds_of_wide 6 Tryd.f6 rfl rfl rfl rfl rfl rfl rfl ⟨rfl, rfl, rfl, rfl, rfl⟩ rfl rfl rfl rfl rfl (by kernel_rfl) Tryd.func6 (by kernel_rfl)
    (of_decide_eq_true (by kernel_rfl)) (by unfold Func.isWrapper; first | (rw [if_pos (by decide +kernel)]; kernel_rfl) | (rw [if_neg (by decide +kernel)]; exact ⟨rfl, rfl⟩))
    (fun os started H enc _ => treeErases_lifted os started H enc)

theorem treeErases_card : Rows.TreeErasesCardSaid :=
  Claim7.holds_tied_plain_at .later [] [.data, .data, .data, .data, .pinned, .pinned, .pinned, .pinned, .pinned, .pinned] true (true, "2def4420bb02a479c42e86214b2e6a5e25034af3e610a811c9241951764c50f0") false
    treeErases_row (fun _ h => by cases h) (by kernel_rfl) (fun _ h => by cases h) treeErases_row_tie rfl ⟨rfl, rfl⟩ (by kernel_rfl) rfl
    (fun f fn hf hfn => by
      obtain rfl : f = 6 := Option.some.inj ((show Tryd.prog.funcNamed "caulker/caulkerlaw07.TreeErases" = some 6 by kernel_rfl).symm.trans hf) |>.symm
      obtain rfl : fn = Tryd.f6 := (Option.some.inj (Tryd.func6.symm.trans hfn)).symm
      exact ⟨by kernel_rfl, fun j t ht => by
        have ht : (#[24] : Array TypeId)[j]? = some t := ht
        have h3 : t = 24 := by
          have hm : t ∈ (#[24] : Array TypeId) := Array.mem_of_getElem? ht
          simp at hm
          first | (rcases hm with h | h | h <;> simp [h]) | (rcases hm with h | h <;> simp [h]) | simp [hm]
        rcases h3 with rfl
        · exact (show Tryd.prog.wantsStandIn 24 = false by kernel_rfl)⟩)
    (by kernel_rfl)
end Go.Proofs.YtbpfdbbijfpjkaaDoor
