/- TreeTypes: for any two types the law answers true, and its arguments read behind the call as before. No condition of the proof's own; the listed tables read as listed (the card ties them). The road: an evaluator of the model's code that is proved sound, the library's functions by the shelf's contracts, the code's pieces as equations of the kernel's, and plain laws of them. -/
import Derived.Test.YtbpfdbbijfpjkaaDoorWxLaid
import Derived.Test.YtbpfdbbijfpjkaaDoorWxC
import Derived.Test.YtbpfdbbijfpjkaaDoorWxLaw
import Derived.Test.YtbpfdbbijfpjkaaDoorCards
import Derived.Test.YtbpfdbbijfpjkaaDoorTie
import Derived.OpenShut
import Derived.ShutString
import Derived.ChangeOld
import Derived.JoinedOf
import Derived.WalkKit
import Derived.Carry
set_option linter.unusedVariables false
set_option linter.unusedSimpArgs false
namespace Go.Proofs.YtbpfdbbijfpjkaaDoor
open Go.ChangeShapes Go.WideShapes Go.ChangeAt Go.RowKit
open Go.Sx Go.Sx.Tryd
set_option maxRecDepth 100000
theorem own : ownKnob Tryd.prog.godebug = none := by kernel_rfl
def typeFields : Array Field := #[{ name := "Base", type := 3, offset := 0, embedded := false, tag := "", pkgPath := "", byteOffset := 0 }, { name := "Name", type := 9, offset := 1, embedded := false, tag := "", pkgPath := "", byteOffset := 8 },
  { name := "Dims", type := 3, offset := 2, embedded := false, tag := "", pkgPath := "", byteOffset := 24 }, { name := "Marks", type := 9, offset := 3, embedded := false, tag := "", pkgPath := "", byteOffset := 32 }]
theorem und44 : Tryd.prog.underlying 44 = some (.struct typeFields) := by kernel_rfl
theorem und9 : Tryd.prog.underlying 9 = some .string := by kernel_rfl
theorem und3 : Tryd.prog.underlying 3 = some (.int .i64) := by kernel_rfl
theorem und4 : Tryd.prog.underlying 4 = some .bool := by kernel_rfl
theorem cells3 : Tryd.prog.cellsOf 3 = 1 := by kernel_rfl
theorem cells9 : Tryd.prog.cellsOf 9 = 1 := by kernel_rfl
theorem cells44 : Tryd.prog.cellsOf 44 = 4 := by kernel_rfl
theorem laidOut' : laidOutB Tryd.prog = true := by kernel_rfl

theorem type_arg {H : Type} {enc : TypeId × Value → H} {W : World} {b0 : Nat} {r : Reach} {v : Value} {d : DataW H} {p : List MemPlace} (hv : Value.okWide Tryd.prog W r b0 44 v) (h : DataW.Trod enc Tryd.prog W 0 (fun _ => true) true 44 v d p) :
    ∃ b n dd m, VRel (Ctx0 W) (.agg (tyC b n dd m)) v := by
  obtain ⟨cs, rfl, hsz⟩ := okWide_struct und44 hv
  rw [cells44] at hsz
  obtain ⟨fuel, hf⟩ := h
  obtain ⟨xs, n, rfl, _, _, hl, hx⟩ := DataW.trod_struct und44 hf
  obtain ⟨l⟩ := cs
  match l, hsz with
  | [c0, c1, c2, c3], _ =>
    have e0 : DataW.trod enc Tryd.prog W 0 (fun _ => true) true n 3 ((List.drop 0 [c0, c1, c2, c3]).take (Tryd.prog.cellsOf 3)) = xs[0]? := hx 0 _ rfl
    have e1 : DataW.trod enc Tryd.prog W 0 (fun _ => true) true n 9 ((List.drop 1 [c0, c1, c2, c3]).take (Tryd.prog.cellsOf 9)) = xs[1]? := hx 1 _ rfl
    have e2 : DataW.trod enc Tryd.prog W 0 (fun _ => true) true n 3 ((List.drop 2 [c0, c1, c2, c3]).take (Tryd.prog.cellsOf 3)) = xs[2]? := hx 2 _ rfl
    have e3 : DataW.trod enc Tryd.prog W 0 (fun _ => true) true n 9 ((List.drop 3 [c0, c1, c2, c3]).take (Tryd.prog.cellsOf 9)) = xs[3]? := hx 3 _ rfl
    rw [cells3] at e0 e2
    rw [cells9] at e1 e3
    have hl4 : xs.length = 4 := hl
    rw [List.getElem?_eq_getElem (by omega)] at e0 e1 e2 e3
    obtain ⟨k0, z0, _⟩ := DataW.trod_int und3 e0
    obtain ⟨k1, z1, _⟩ := DataW.trod_string und9 e1
    obtain ⟨k2, z2, _⟩ := DataW.trod_int und3 e2
    obtain ⟨k3, z3, _⟩ := DataW.trod_string und9 e3
    have y0 : c0 = .int .i64 k0 := by simpa [Value.cells] using z0
    have y1 : c1 = .string k1 := by simpa [Value.cells] using z1
    have y2 : c2 = .int .i64 k2 := by simpa [Value.cells] using z2
    have y3 : c3 = .string k3 := by simpa [Value.cells] using z3
    subst y0 y1 y2 y3
    exact ⟨k0, k1.data.toList, k2, k3.data.toList, _, rfl, _, _, rfl, rfl, _, _, rfl, rfl, _, _, rfl, rfl, _, _, rfl, rfl, rfl⟩

theorem types_lifted (os : Os) (started : os.Started) (H : Type) (enc : TypeId × Value → H) :
    ReturnsInHanded {} Tryd.checked os 7 .any (fun w args => (Rows.treeTypesSpec.pre enc Tryd.prog Tryd.f7 [] false w args ∧ laidMetH Tryd.prog Rows.treeTypesRow.laid w) ∧ sizedMet enc Tryd.prog Tryd.f7 (OpenSpec.ofChange Rows.treeTypesSpec) false w args)
      (Rows.treeTypesSpec.post enc Tryd.prog Tryd.f7 false true false false) := by
  refine returnsInHanded_of_change_and (C := Tryd.checked) (X := fun w _ => laidMetH Tryd.prog Rows.treeTypesRow.laid w) (fun _ _ _ hh h => h.of_heap hh) own started (by kernel_rfl) Tryd.func7
    (witness_any (enc := enc) (C := Tryd.checked) (os := os) (X := fun w _ => laidMetH Tryd.prog Rows.treeTypesRow.laid w) false (laidWorld os) #[.agg #[.int .i64 0, .string ⟨#[]⟩, .int .i64 0, .string ⟨#[]⟩], .agg #[.int .i64 0, .string ⟨#[]⟩, .int .i64 0, .string ⟨#[]⟩]] 8 rfl (by kernel_rfl) (by kernel_rfl) (by kernel_rfl) (by kernel_rfl) (by kernel_rfl) (laid_met os _)) ?_
  intro W base args ds gs before hval0 hW _ _ hL _
  have hL : laidMet Tryd.prog rowLaid W := hL
  have hval : ∀ (j : Nat) t v, Tryd.f7.params[j]? = some t → args[j]? = some v → Value.okWide Tryd.prog W .any base t v := hval0
  have hW' := hW
  obtain ⟨p, q, hA0, hV, rfl, hfz, hnd⟩ := hW
  have hA : DataW.TrodAll enc Tryd.prog W 0 (fun _ => true) true [44, 44] args.toList ds p := hA0
  obtain ⟨v0, v1, d0, d1, p0, p1, rfl, rfl, rfl, h0, h1⟩ := trodAll_two hA
  obtain ⟨rfl, rfl⟩ := trodVars_none hV
  obtain ⟨b, n, dd, m, r0⟩ := type_arg (hval 0 44 v0 rfl rfl) h0
  obtain ⟨b2, n2, dd2, m2, r1⟩ := type_arg (hval 1 44 v1 rfl rfl) h1
  clear hA0 hval0
  have hlt : ∀ x ∈ p0 ++ p1, x.block < W.heap.size := fun x hx => by simpa using hW'.lt x (by simpa using hx)
  have tb := tabs_of_laid hL
  refine (law_calls (vals := [v0, v1]) fc7 (law7_SA tb b n dd m b2 n2 dd2 m2) ⟨_, _, rfl, r0, _, _, rfl, r1, rfl⟩).mono fun e W' ⟨he, bel⟩ => ?_
  subst he
  refine ⟨_, rfl, _, _, _, [], _, [], hW', trodAll_mk1 (shut_bool und4 _), trodAll_mk2 (Below.trod laidOut' (by kernel_rfl) (of_decide_eq_true (by kernel_rfl)) h0 bel fun x hx => hlt x (by simp [hx])) (Below.trod laidOut' (by kernel_rfl) (of_decide_eq_true (by kernel_rfl)) h1 bel fun x hx => hlt x (by simp [hx])), rfl, bel.frame _, fun h => by cases h⟩

theorem types_row : Rows.TreeTypesSaid :=
  OpenClaim.holds_of_wide 7 Tryd.f7 rfl rfl rfl rfl rfl rfl rfl ⟨rfl, rfl, rfl, rfl, rfl⟩ rfl rfl rfl rfl rfl (by kernel_rfl) Tryd.func7 (by kernel_rfl)
    (of_decide_eq_true (by kernel_rfl)) (by unfold Func.isWrapper; first | (rw [if_pos (by decide +kernel)]; kernel_rfl) | (rw [if_neg (by decide +kernel)]; exact ⟨rfl, rfl⟩))
    (fun os started H enc _ => types_lifted os started H enc)

theorem treeTypes_card : Rows.TreeTypesCardSaid :=
  Claim7.holds_tied_plain_at .later [] [.data, .data, .data, .data, .pinned, .pinned, .pinned, .pinned, .pinned, .pinned] true (true, "2def4420bb02a479c42e86214b2e6a5e25034af3e610a811c9241951764c50f0") false
    types_row (fun _ h => by cases h) (by kernel_rfl) (fun _ h => by cases h) treeTypes_row_tie rfl ⟨rfl, rfl⟩ (by kernel_rfl) rfl
    (fun f fn hf hfn => by
      obtain rfl : f = 7 := Option.some.inj ((show Tryd.prog.funcNamed "caulker/caulkerlaw07.TreeTypes" = some 7 by kernel_rfl).symm.trans hf) |>.symm
      obtain rfl : fn = Tryd.f7 := (Option.some.inj (Tryd.func7.symm.trans hfn)).symm
      exact ⟨by kernel_rfl, fun j t ht => by
        have ht : (#[44, 44] : Array TypeId)[j]? = some t := ht
        have h3 : t = 44 := by
          rcases j with _ | _ | j
          · simpa using ht.symm
          · simpa using ht.symm
          · simp at ht
        subst h3
        exact (show Tryd.prog.wantsStandIn 44 = false by kernel_rfl)⟩)
    (by kernel_rfl)
end Go.Proofs.YtbpfdbbijfpjkaaDoor
