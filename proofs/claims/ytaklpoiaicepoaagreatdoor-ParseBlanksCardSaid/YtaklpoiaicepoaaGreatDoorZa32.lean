/- ParseBlanks holds: blanks, comments and line ends between the tokens of a text of at most 1500 bytes change nothing but where things stand. The road: an evaluator of the model's code that is proved sound, the library's functions by the shelf's contracts, the code's pieces as equations of the kernel's, and plain laws of them. -/
import Derived.Test.YtaklpoiaicepoaaGreatDoorZa25
import Derived.Test.YtaklpoiaicepoaaGreatDoorZa08
import Derived.Test.YtaklpoiaicepoaaGreatDoorZa31
import Derived.Test.YtaklpoiaicepoaaGreatDoorCards
import Derived.Test.YtaklpoiaicepoaaGreatDoorTie
import Derived.OpenShut
import Derived.ShutString
import Derived.ChangeOld
import Derived.JoinedOf
import Derived.WalkKit
import Derived.Carry
import Derived.ChangeMaps5
set_option linter.unusedVariables false
set_option linter.unusedSimpArgs false
noncomputable section
namespace Go.Proofs.YtaklpoiaicepoaaGreatDoor
open Go.ChangeShapes Go.WideShapes Go.ChangeAt Go.RowKit Go.ChangeMaps
open Go.Sx Go.Sx.Tryz
set_option maxRecDepth 100000
theorem sC {H : Type} {enc : TypeId × Value → H} {a : Assume} {C : Checked} {os : Os} {f : FuncId} {fn : Func} {s : ChangeSpec} {conds : List PathCond} {apart fresh handsOn again : Bool} {X : World → Array Value → Prop}
  (hX : ∀ (w w' : World) (args : Array Value), w.heap = w'.heap → X w args → X w' args)
  (own : ownKnob C.prog.godebug = none) (started : os.Started) (noInit : C.prog.inits.idxOf? f = none) (hfn : C.prog.funcs[f]? = some fn)
  (witness : ∃ (w : World) (tape : Tape) (i : Input), w.os = os ∧ (w.forCall tape i).Shaped C.prog ∧ i.vars = [] ∧ Input.okWide C.prog (w.forCall tape i) .any w.heap.size f i ∧
   ((s.pre enc C.prog fn conds apart (w.forCall tape i).memory i.args ∧ X (w.forCall tape i).memory i.args) ∧ sizedMet enc C.prog fn (OpenSpec.ofChange s) apart (w.forCall tape i).memory i.args) ∧ a.holds C.prog (lone (Frame.enter C.prog f i.args .normal) [] (w.forCall tape i)))
  (contract : ∀ (W : World) (base : Nat) (args : Array Value) (ds gs : List (DataW H)) (before : List MemPlace),
   (∀ (j : Nat) t v, fn.params[j]? = some t → args[j]? = some v → Value.okWide C.prog W .any base t v) →
   DataW.Whole enc C.prog fn.params.toList s.vars apart W args.toList ds gs before →
   (DataW.weightsEach C.prog (fn.params.toList ++ s.plain.varTypes C.prog) (ds ++ gs)).all (· ≤ reachBytes) = true → X W args → W.ShapedOpen C.prog →
   Calls C.prog f args W fun e W' => ∃ v, e = .returned v ∧ s.post enc C.prog fn apart fresh handsOn again W args v W') :
  ReturnsInHanded a C os f .any (fun w args => (s.pre enc C.prog fn conds apart w args ∧ X w args) ∧ sizedMet enc C.prog fn (OpenSpec.ofChange s) apart w args) (s.post enc C.prog fn apart fresh handsOn again) := by
 refine returnsInHanded_of_calls own started noInit witness fun w tape i _ hsh _ hok hpre _ => ?_
 obtain ⟨_, _, _, fn2, hfn2, _, _, _, _, hval⟩ := hok
 have e : fn2 = fn := Option.some.inj (hfn2.symm.trans hfn)
 subst e
 obtain ⟨⟨⟨ds, gs, before, hw, _⟩, hx⟩, hz⟩ := hpre
 refine (contract (w.forCall tape i) w.heap.size i.args ds gs before hval (DataW.Whole.of_heap (w' := w.forCall tape i) (by rfl) hw) (hz.weights hw) (hX _ _ _ (by rfl) hx) hsh).mono fun e W' h => ?_
 obtain ⟨v, he, hp⟩ := h
 subst he
 exact ChangeSpec.post_blind hp
theorem own : ownKnob Tryz.prog.godebug = none := by kernel_rfl
theorem S5 : Tryz.prog.underlying 9 = some .string := by kernel_rfl
theorem und4 : Tryz.prog.underlying 4 = some .bool := by kernel_rfl
theorem yT : laidOutB Tryz.prog = true := by kernel_rfl
theorem UK : Kids Tryz.prog (· < Tryz.prog.types.size) := kids_rows yT (by kernel_rfl)
theorem VK : Tryz.prog.underlying 33 = some (.slice 3) := by kernel_rfl
theorem NJ : kV Tryz.prog 10 33 = some [.slice (.int .i64)] := by kernel_rfl
theorem Ez {H : Type} {enc : TypeId × Value → H} {W : World} {b0 : Nat} {r : Reach} {v : Value} {d : DataW H} {p : List MemPlace} (hv : Value.okWide Tryz.prog W r b0 33 v) (h : DataW.Trod enc Tryz.prog W 0 (fun _ => true) true 33 v d p) (hw : ∀ b ∈ d.weights Tryz.prog 33, b ≤ reachBytes) :
  ∃ g : List Int, aA (wR W) (.sl (.int .i64) g) v := by
 obtain ⟨a0, l0, c0, rfl⟩ := okWide_slice VK hv
 obtain ⟨n, hn⟩ := h
 obtain ⟨v1, r1, e1, ⟨x, hx, _⟩, e2⟩ := kI UK 10 n 33 _ _ _ (of_decide_eq_true (by kernel_rfl)) hn NJ hw
 have e2 : r1 = [] := e2
 subst e2
 have e1 : [Value.slice a0 l0 c0] = [v1] := e1
 cases e1
 refine ⟨x, Rep.mono (fun k o w h1 _ => ⟨h1, fun h3 => ?_⟩) hx⟩
 rcases h3 with h3 | ⟨id, b, h4, _⟩
 ·exact h3
 ·simp [wR, ay, aF] at h4
theorem mn (os : Os) (started : os.Started) (H : Type) (enc : TypeId × Value → H) :
  ReturnsInHanded {} Tryz.checked os 5 .any (fun w args => (Rows.parseBlanksSpec.pre enc Tryz.prog Tryz.f5 [] false w args ∧ laidMetH Tryz.prog Rows.parseBlanksRow.laid w) ∧ sizedMet enc Tryz.prog Tryz.f5 (OpenSpec.ofChange Rows.parseBlanksSpec) false w args)
   (Rows.parseBlanksSpec.post enc Tryz.prog Tryz.f5 false true false false) := by
 refine sC (C := Tryz.checked) (X := fun w _ => laidMetH Tryz.prog Rows.parseBlanksRow.laid w) (fun _ _ _ hh h => h.of_heap hh) own started (by kernel_rfl) Tryz.func5
  (zg (enc := enc) (C := Tryz.checked) (os := os) (X := fun w _ => laidMetH Tryz.prog Rows.parseBlanksRow.laid w) false (uA os) #[.string ⟨#[]⟩, .slice none 0 0] 8 rfl (by kernel_rfl) (by kernel_rfl) (by kernel_rfl) (by kernel_rfl) (by kernel_rfl) (Gy os _)) ?_
 intro W base args ds gs before hval0 hW hsz hL hSh
 have hL : laidMet Tryz.prog cP W := hL
 have hval : ∀ (j : Nat) t v, Tryz.f5.params[j]? = some t → args[j]? = some v → Value.okWide Tryz.prog W .any base t v := hval0
 have hW' := hW
 obtain ⟨p, q, hA0, hV, rfl, hfz, hnd⟩ := hW
 have hA : DataW.TrodAll enc Tryz.prog W 0 (fun _ => true) true [9, 33] args.toList ds p := hA0
 obtain ⟨v0, v1, d0, d1, p0, p1, rfl, rfl, rfl, h0, h1⟩ := trodAll_two hA
 obtain ⟨rfl, rfl⟩ := trodVars_none hV
 obtain ⟨a0, rfl, rfl, rfl, wa0⟩ := open_string S5 (hval 0 9 v0 rfl rfl) h0
 obtain ⟨a1, r1⟩ := Ez (hval 1 33 v1 rfl rfl) h1 (fun b hb => of_decide_eq_true (List.all_eq_true.1 hsz b (jy (i := 1) rfl rfl b hb)))
 have hlt : ∀ x ∈ p1, x.block < W.heap.size := fun x hx => by simpa using hW'.lt x (by simpa using hx)
 clear hA0 hval0
 have tb := wV hSh hL
 refine (DD (vals := [.string a0, v1]) fc5 (J0 tb a0.data.toList a1) ⟨_, _, rfl, rfl, _, _, rfl, r1, rfl⟩).mono fun e W' ⟨he, bel⟩ => ?_
 subst he
 refine ⟨_, rfl, _, _, _, [], _, [], hW', trodAll_mk1 (shut_bool und4 _), trodAll_mk2 (shut_string S5 wa0) (Below.trod yT (by kernel_rfl) (of_decide_eq_true (by kernel_rfl)) h1 bel hlt), rfl, bel.frame _, fun h => by cases h⟩
theorem pN : Rows.ParseBlanksSaid :=
 OpenClaim.holds_of_wide 5 Tryz.f5 rfl rfl rfl rfl rfl rfl rfl ⟨rfl, rfl, rfl, rfl, rfl⟩ rfl rfl rfl rfl rfl (by kernel_rfl) Tryz.func5 (by kernel_rfl)
  (of_decide_eq_true (by kernel_rfl)) (by unfold Func.isWrapper; first | (rw [if_pos (by decide +kernel)]; kernel_rfl) | (rw [if_neg (by decide +kernel)]; exact ⟨rfl, rfl⟩))
  (fun os started H enc _ => mn os started H enc)
theorem parseBlanks_card : Rows.ParseBlanksCardSaid :=
 Claim7.holds_tied_plain_at .later [] [.data, .data, .widerDeep, .widerDeep, .data, .data, .data, .data, .data, .data, .sentinel, .sentinel, .pinned, .pinned, .pinned, .pinned, .pinned, .pinned, .pinned, .pinned] true (true, "ecbe5053fcff2cbb4f6f17af245e5768c5d4ec8570a7104141b50f8d9a4f6d80") true
  pN (fun _ h => by cases h) (by kernel_rfl) (fun _ h => by cases h) parseBlanks_row_tie rfl ⟨rfl, rfl⟩ (by kernel_rfl) rfl
  (fun f fn hf hfn => by
   obtain rfl : f = 5 := Option.some.inj ((show Tryz.prog.funcNamed "caulker/caulkerlaw08.ParseBlanks" = some 5 by kernel_rfl).symm.trans hf) |>.symm
   obtain rfl : fn = Tryz.f5 := (Option.some.inj (Tryz.func5.symm.trans hfn)).symm
   exact ⟨by kernel_rfl, fun j t ht => by
    have ht : (#[9, 33] : Array TypeId)[j]? = some t := ht
    have hm : t ∈ (#[9, 33] : Array TypeId) := Array.mem_of_getElem? ht
    have h3 : t = 3 ∨ t = 9 ∨ t = 33 := by
     simp at hm
     first
     | (rcases hm with h | h | h <;> simp [h])
     | (rcases hm with h | h <;> simp [h])
     | simp [hm]
    rcases h3 with rfl | rfl | rfl
    ·exact (show Tryz.prog.wantsStandIn 3 = false by kernel_rfl)
    ·exact (show Tryz.prog.wantsStandIn 9 = false by kernel_rfl)
    ·exact (show Tryz.prog.wantsStandIn 33 = false by kernel_rfl)⟩)
  (by kernel_rfl)
end Go.Proofs.YtaklpoiaicepoaaGreatDoor
