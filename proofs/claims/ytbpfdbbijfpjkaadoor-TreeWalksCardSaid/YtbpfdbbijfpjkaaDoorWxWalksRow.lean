/- TreeWalks: for any nodes and any number the law answers true, and its arguments read behind the call as before. No condition of the proof's own; the listed tables read as listed (the card ties them). The road: an evaluator of the model's code that is proved sound, the library's functions by the shelf's contracts, the code's pieces as equations of the kernel's, and plain laws of them. -/
import Derived.Test.YtbpfdbbijfpjkaaDoorWxLaid
import Derived.Test.YtbpfdbbijfpjkaaDoorWxC
import Derived.Test.YtbpfdbbijfpjkaaDoorWxTreeS
import Derived.Test.YtbpfdbbijfpjkaaDoorWxN
import Derived.Test.YtbpfdbbijfpjkaaDoorCards
import Derived.Test.YtbpfdbbijfpjkaaDoorTie
import Derived.OpenShut
import Derived.ShutString
import Derived.ChangeOld
import Derived.JoinedOf
import Derived.WalkKit
import Derived.Carry
set_option linter.unusedVariables false
set_option linter.unusedSimpArgs false
namespace Go.Proofs.YtbpfdbbijfpjkaaDoor
open Go.ChangeShapes Go.WideShapes Go.ChangeAt Go.RowKit
open Go.Sx Go.Sx.Tryd
set_option maxRecDepth 100000
theorem own : ownKnob Tryd.prog.godebug = none := by kernel_rfl
theorem und24 : ∃ fs, Tryd.prog.underlying 24 = some (.struct fs) := ⟨_, rfl⟩
theorem und3 : Tryd.prog.underlying 3 = some (.int .i64) := by kernel_rfl
theorem und4 : Tryd.prog.underlying 4 = some .bool := by kernel_rfl
theorem laidOut' : laidOutB Tryd.prog = true := by kernel_rfl
theorem kids' : Kids Tryd.prog (· < Tryd.prog.types.size) := kids_rows laidOut' (by kernel_rfl)
theorem leaf24 : leafTys Tryd.prog 10 24 = some [.slice nodeTy, .int .i64] := by kernel_rfl
theorem tree_arg {H : Type} {enc : TypeId × Value → H} {W : World} {b0 : Nat} {r : Reach} {v : Value} {d : DataW H} {p : List MemPlace} (hv : Value.okWide Tryd.prog W r b0 24 v) (h : DataW.Trod enc Tryd.prog W 0 (fun _ => true) true 24 v d p) :
    ∃ (L : List Nd) (rt : Int), VRel (Ctx0 W) (.agg (trC L rt)) v := by
  obtain ⟨fs, hfs⟩ := und24
  obtain ⟨cs, rfl, _⟩ := okWide_struct hfs hv
  obtain ⟨x, hx⟩ := arg_struct kids' (of_decide_eq_true (by kernel_rfl)) leaf24 h
  exact ⟨x.1, x.2.1, hx⟩

theorem walks_lifted (os : Os) (started : os.Started) (H : Type) (enc : TypeId × Value → H) :
    ReturnsInHanded {} Tryd.checked os 5 .any (fun w args => (Rows.treeWalksSpec.pre enc Tryd.prog Tryd.f5 [] false w args ∧ laidMetH Tryd.prog Rows.treeWalksRow.laid w) ∧ sizedMet enc Tryd.prog Tryd.f5 (OpenSpec.ofChange Rows.treeWalksSpec) false w args)
      (Rows.treeWalksSpec.post enc Tryd.prog Tryd.f5 false true false false) := by
  refine returnsInHanded_of_change_and (C := Tryd.checked) (X := fun w _ => laidMetH Tryd.prog Rows.treeWalksRow.laid w) (fun _ _ _ hh h => h.of_heap hh) own started (by kernel_rfl) Tryd.func5
    (witness_any (enc := enc) (C := Tryd.checked) (os := os) (X := fun w _ => laidMetH Tryd.prog Rows.treeWalksRow.laid w) false (laidWorld os) #[.agg #[.slice none 0 0, .int .i64 0], .int .i64 0] 8 rfl (by kernel_rfl) (by kernel_rfl) (by kernel_rfl) (by kernel_rfl) (by kernel_rfl) (laid_met os _)) ?_
  intro W base args ds gs before hval0 hW _ _ hL _
  have hL : laidMet Tryd.prog rowLaid W := hL
  have hval : ∀ (j : Nat) t v, Tryd.f5.params[j]? = some t → args[j]? = some v → Value.okWide Tryd.prog W .any base t v := hval0
  have hW' := hW
  obtain ⟨p, q, hA0, hV, rfl, hfz, hnd⟩ := hW
  have hA : DataW.TrodAll enc Tryd.prog W 0 (fun _ => true) true [24, 3] args.toList ds p := hA0
  obtain ⟨v0, v1, d0, d1, p0, p1, rfl, rfl, rfl, h0, h1⟩ := trodAll_two hA
  obtain ⟨rfl, rfl⟩ := trodVars_none hV
  obtain ⟨L, rt, r0⟩ := tree_arg (hval 0 24 v0 rfl rfl) h0
  have h1k := h1
  obtain ⟨a, rfl, rfl, rfl, wa⟩ := open_int und3 (hval 1 3 v1 rfl rfl) h1
  clear hA0 hval0
  have hlt : ∀ x ∈ p0, x.block < W.heap.size := fun x hx => by simpa using hW'.lt x (by simpa using hx)
  have tb := tabs_of_laid hL
  refine (law_calls (vals := [v0, .int .i64 a]) fc5 (law5_SA tb L rt a) ⟨_, _, rfl, r0, _, _, rfl, rfl, rfl⟩).mono fun e W' ⟨he, bel⟩ => ?_
  subst he
  refine ⟨_, rfl, _, _, _, [], _, [], hW', trodAll_mk1 (shut_bool und4 _), trodAll_mk2 (Below.trod laidOut' (by kernel_rfl) (of_decide_eq_true (by kernel_rfl)) h0 bel hlt) (shut_int und3 wa), rfl, bel.frame _, fun h => by cases h⟩

theorem walks_row : Rows.TreeWalksSaid :=
  OpenClaim.holds_of_wide 5 Tryd.f5 rfl rfl rfl rfl rfl rfl rfl ⟨rfl, rfl, rfl, rfl, rfl⟩ rfl rfl rfl rfl rfl (by kernel_rfl) Tryd.func5 (by kernel_rfl)
    (of_decide_eq_true (by kernel_rfl)) (by unfold Func.isWrapper; first | (rw [if_pos (by decide +kernel)]; kernel_rfl) | (rw [if_neg (by decide +kernel)]; exact ⟨rfl, rfl⟩))
    (fun os started H enc _ => walks_lifted os started H enc)

theorem treeWalks_card : Rows.TreeWalksCardSaid :=
  Claim7.holds_tied_plain_at .later [] [.data, .data, .data, .data, .pinned, .pinned, .pinned, .pinned, .pinned, .pinned] true (true, "2def4420bb02a479c42e86214b2e6a5e25034af3e610a811c9241951764c50f0") false
    walks_row (fun _ h => by cases h) (by kernel_rfl) (fun _ h => by cases h) treeWalks_row_tie rfl ⟨rfl, rfl⟩ (by kernel_rfl) rfl
    (fun f fn hf hfn => by
      obtain rfl : f = 5 := Option.some.inj ((show Tryd.prog.funcNamed "caulker/caulkerlaw07.TreeWalks" = some 5 by kernel_rfl).symm.trans hf) |>.symm
      obtain rfl : fn = Tryd.f5 := (Option.some.inj (Tryd.func5.symm.trans hfn)).symm
      exact ⟨by kernel_rfl, fun j t ht => by
        have ht : (#[24, 3] : Array TypeId)[j]? = some t := ht
        have h3 : t = 24 ∨ t = 3 := by
          rcases j with _ | _ | j
          · exact .inl (by simpa using ht.symm)
          · exact .inr (by simpa using ht.symm)
          · simp at ht
        rcases h3 with rfl | rfl
        · exact (show Tryd.prog.wantsStandIn 24 = false by kernel_rfl)
        · exact (show Tryd.prog.wantsStandIn 3 = false by kernel_rfl)⟩)
    (by kernel_rfl)
end Go.Proofs.YtbpfdbbijfpjkaaDoor
