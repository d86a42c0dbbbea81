/- what may not be written isn't, and why: names and numbers that the language hasn't, and nodes where they may not stand The road: an evaluator of the model's code that is proved sound, the library's functions by the shelf's contracts, the code's pieces as equations of the kernel's, and plain laws of them. -/
import Derived.Test.YtehaoepopklboaaGreatDoorZh23
import Derived.Test.YtehaoepopklboaaGreatDoorZh08
import Derived.Test.YtehaoepopklboaaGreatDoorZh27
import Derived.Test.YtehaoepopklboaaGreatDoorCards
import Derived.Test.YtehaoepopklboaaGreatDoorTie
import Derived.OpenShut
import Derived.ShutString
import Derived.ChangeOld
import Derived.JoinedOf
import Derived.WalkKit
import Derived.Carry
import Derived.ChangeMaps5
set_option linter.unusedVariables false
set_option linter.unusedSimpArgs false
noncomputable section
namespace Go.Proofs.YtehaoepopklboaaGreatDoor
open Go.ChangeShapes Go.WideShapes Go.ChangeAt Go.RowKit Go.ChangeMaps
open Go.Sx Go.Sx.Tryz
set_option maxRecDepth 100000
theorem pN {H : Type} {enc : TypeId × Value → H} {a : Assume} {C : Checked} {os : Os} {f : FuncId} {fn : Func} {s : ChangeSpec} {conds : List PathCond} {apart fresh handsOn again : Bool} {X : World → Array Value → Prop}
  (hX : ∀ (w w' : World) (args : Array Value), w.heap = w'.heap → X w args → X w' args)
  (own : ownKnob C.prog.godebug = none) (started : os.Started) (noInit : C.prog.inits.idxOf? f = none) (hfn : C.prog.funcs[f]? = some fn)
  (witness : ∃ (w : World) (tape : Tape) (i : Input), w.os = os ∧ (w.forCall tape i).Shaped C.prog ∧ i.vars = [] ∧ Input.okWide C.prog (w.forCall tape i) .any w.heap.size f i ∧
   ((s.pre enc C.prog fn conds apart (w.forCall tape i).memory i.args ∧ X (w.forCall tape i).memory i.args) ∧ sizedMet enc C.prog fn (OpenSpec.ofChange s) apart (w.forCall tape i).memory i.args) ∧ a.holds C.prog (lone (Frame.enter C.prog f i.args .normal) [] (w.forCall tape i)))
  (contract : ∀ (W : World) (base : Nat) (args : Array Value) (ds gs : List (DataW H)) (before : List MemPlace),
   (∀ (j : Nat) t v, fn.params[j]? = some t → args[j]? = some v → Value.okWide C.prog W .any base t v) →
   DataW.Whole enc C.prog fn.params.toList s.vars apart W args.toList ds gs before →
   (DataW.weightsEach C.prog (fn.params.toList ++ s.plain.varTypes C.prog) (ds ++ gs)).all (· ≤ reachBytes) = true → X W args → W.ShapedOpen C.prog →
   Calls C.prog f args W fun e W' => ∃ v, e = .returned v ∧ s.post enc C.prog fn apart fresh handsOn again W args v W') :
  ReturnsInHanded a C os f .any (fun w args => (s.pre enc C.prog fn conds apart w args ∧ X w args) ∧ sizedMet enc C.prog fn (OpenSpec.ofChange s) apart w args) (s.post enc C.prog fn apart fresh handsOn again) := by
 refine returnsInHanded_of_calls own started noInit witness fun w tape i _ hsh _ hok hpre _ => ?_
 obtain ⟨_, _, _, fn2, hfn2, _, _, _, _, hval⟩ := hok
 have e : fn2 = fn := Option.some.inj (hfn2.symm.trans hfn)
 subst e
 obtain ⟨⟨⟨ds, gs, before, hw, _⟩, hx⟩, hz⟩ := hpre
 refine (contract (w.forCall tape i) w.heap.size i.args ds gs before hval (DataW.Whole.of_heap (w' := w.forCall tape i) (by rfl) hw) (hz.weights hw) (hX _ _ _ (by rfl) hx) hsh).mono fun e W' h => ?_
 obtain ⟨v, he, hp⟩ := h
 subst he
 exact ChangeSpec.post_blind hp
theorem JA {n : Int} (h : (Lit.int .i64 n).wf = true) : -9223372036854775808 ≤ n := by
 have h : (decide ((-9223372036854775808 : Int) ≤ n) && decide (n ≤ 9223372036854775807)) = true := h
 simp only [Bool.and_eq_true, decide_eq_true_eq] at h
 exact h.1
theorem Kf {n : Int} (h : (Lit.int .i64 n).wf = true) : n ≤ 9223372036854775807 := by
 have h : (decide ((-9223372036854775808 : Int) ≤ n) && decide (n ≤ 9223372036854775807)) = true := h
 simp only [Bool.and_eq_true, decide_eq_true_eq] at h
 exact h.2
theorem own : ownKnob Tryz.prog.godebug = none := by kernel_rfl
theorem Md : Tryz.prog.underlying 3 = some (.int .i64) := by kernel_rfl
theorem Nn : Tryz.prog.underlying 2 = some (.int .i64) := by kernel_rfl
theorem Nb : Tryz.prog.underlying 9 = some .string := by kernel_rfl
theorem und4 : Tryz.prog.underlying 4 = some .bool := by kernel_rfl
theorem j8 (os : Os) (started : os.Started) (H : Type) (enc : TypeId × Value → H) :
  ReturnsInHanded {} Tryz.checked os 3 .any (fun w args => (Rows.showRefusesSpec.pre enc Tryz.prog Tryz.f3 [] false w args ∧ laidMetH Tryz.prog Rows.showRefusesRow.laid w) ∧ sizedMet enc Tryz.prog Tryz.f3 (OpenSpec.ofChange Rows.showRefusesSpec) false w args)
   (Rows.showRefusesSpec.post enc Tryz.prog Tryz.f3 false true false false) := by
 refine pN (C := Tryz.checked) (X := fun w _ => laidMetH Tryz.prog Rows.showRefusesRow.laid w) (fun _ _ _ hh h => h.of_heap hh) own started (by kernel_rfl) Tryz.func3
  (uF (enc := enc) (C := Tryz.checked) (os := os) (X := fun w _ => laidMetH Tryz.prog Rows.showRefusesRow.laid w) false (qA os) #[.string ⟨#[]⟩, .int .i64 0, .int .i64 0] 8 rfl (by kernel_rfl) (by kernel_rfl) (by kernel_rfl) (by kernel_rfl) (by kernel_rfl) (Cd os _)) ?_
 intro W base args ds gs before hval0 hW hsz hL hSh
 have hL : laidMet Tryz.prog dh W := hL
 have hval : ∀ (j : Nat) t v, Tryz.f3.params[j]? = some t → args[j]? = some v → Value.okWide Tryz.prog W .any base t v := hval0
 have hW' := hW
 obtain ⟨p, q, hA0, hV, rfl, hfz, hnd⟩ := hW
 have hA : DataW.TrodAll enc Tryz.prog W 0 (fun _ => true) true [9, 2, 3] args.toList ds p := hA0
 obtain ⟨v0, v1, v2, d0, d1, d2, p0, p1, p2, rfl, rfl, rfl, h0, h1, h2⟩ := trodAll_three hA
 obtain ⟨rfl, rfl⟩ := trodVars_none hV
 obtain ⟨a0, rfl, rfl, rfl, wa0⟩ := open_string Nb (hval 0 9 v0 rfl rfl) h0
 obtain ⟨a1, rfl, rfl, rfl, wa1⟩ := open_int Nn (hval 1 2 v1 rfl rfl) h1
 obtain ⟨a2, rfl, rfl, rfl, wa2⟩ := open_int Md (hval 2 3 v2 rfl rfl) h2
 clear hA0 hval0
 have tb := sC hSh hL
 refine (Ax (vals := [.string a0, .int .i64 a1, .int .i64 a2]) fc3 (Fl tb a0.data.toList a2 (JA wa1) (Kf wa1)) ⟨_, _, rfl, rfl, _, _, rfl, rfl, _, _, rfl, rfl, rfl⟩).mono fun e W' ⟨he, bel⟩ => ?_
 subst he
 refine ⟨_, rfl, _, _, _, [], _, [], hW', trodAll_mk1 (shut_bool und4 _), trodAll_mk3 (shut_string Nb wa0) (shut_int Nn wa1) (shut_int Md wa2), rfl, bel.frame _, fun h => by cases h⟩
theorem mV : Rows.ShowRefusesSaid :=
 OpenClaim.holds_of_wide 3 Tryz.f3 rfl rfl rfl rfl rfl rfl rfl ⟨rfl, rfl, rfl, rfl, rfl⟩ rfl rfl rfl rfl rfl (by kernel_rfl) Tryz.func3 (by kernel_rfl)
  (of_decide_eq_true (by kernel_rfl)) (by unfold Func.isWrapper; first | (rw [if_pos (by decide +kernel)]; kernel_rfl) | (rw [if_neg (by decide +kernel)]; exact ⟨rfl, rfl⟩))
  (fun os started H enc _ => j8 os started H enc)
theorem showRefuses_card : Rows.ShowRefusesCardSaid :=
 Claim7.holds_tied_plain_at .later [] [.data, .data, .widerDeep, .widerDeep, .data, .data, .data, .data, .data, .data, .sentinel, .sentinel, .pinned, .pinned, .pinned] true (true, "22a93e1c6224e9b462de59588f70464869516dd15ba7870af5d102f846abc5d6") true
  mV (fun _ h => by cases h) (by kernel_rfl) (fun _ h => by cases h) showRefuses_row_tie rfl ⟨rfl, rfl⟩ (by kernel_rfl) rfl
  (fun f fn hf hfn => by
   obtain rfl : f = 3 := Option.some.inj ((show Tryz.prog.funcNamed "caulker/caulkerlaw09.ShowRefuses" = some 3 by kernel_rfl).symm.trans hf) |>.symm
   obtain rfl : fn = Tryz.f3 := (Option.some.inj (Tryz.func3.symm.trans hfn)).symm
   exact ⟨by kernel_rfl, fun j t ht => by
    have ht : (#[9, 2, 3] : Array TypeId)[j]? = some t := ht
    have hm : t ∈ (#[9, 2, 3] : Array TypeId) := Array.mem_of_getElem? ht
    have h3 : t = 3 ∨ t = 9 ∨ t = 2 := by
     simp at hm
     first
     | (rcases hm with h | h | h <;> simp [h])
     | (rcases hm with h | h <;> simp [h])
     | simp [hm]
    rcases h3 with rfl | rfl | rfl
    ·exact (show Tryz.prog.wantsStandIn 3 = false by kernel_rfl)
    ·exact (show Tryz.prog.wantsStandIn 9 = false by kernel_rfl)
    ·exact (show Tryz.prog.wantsStandIn 2 = false by kernel_rfl)⟩)
  (by kernel_rfl)
end Go.Proofs.YtehaoepopklboaaGreatDoor
