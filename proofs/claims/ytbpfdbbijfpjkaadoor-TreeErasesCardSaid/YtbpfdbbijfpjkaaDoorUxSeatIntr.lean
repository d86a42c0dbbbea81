/- A part of the proof: see the row's text. -/
import Derived.Test.YtbpfdbbijfpjkaaDoorUxC
import Derived.Test.YtbpfdbbijfpjkaaDoorUxChk
import Derived.Test.YtbpfdbbijfpjkaaDoorUxSeatLib
set_option linter.unusedVariables false
set_option linter.unusedSimpArgs false
namespace Go.Sx.Tryd
open Go Go.Sx Go.Proofs

/-- the library's tables, in some world -/
structure TabsAt (w : World) : Prop where
  pt : Lib.PrintTabsAt 3 4 5 6 Lib.goPrintTabs w
  u8 : Lib.Utf8Tabs 1 2 w
  p10 : Lib.TabIs Tryd.prog w "internal/strconv.uint64pow10" .u64 Lib.pow10Tab

theorem cell_old {w0 w : World} (h : ∀ (k : Nat) (o : Obj), w0.heap[k]? = some o → w.heap[k]? = some o) {a : Addr} {v : Value} (hc : w0.cell? a = some v) : w.cell? a = some v := by
  have key : ∀ o, w0.heap[a.block]? = some o → w.heap[a.block]? = w0.heap[a.block]? := fun o ho => by rw [h _ _ ho, ho]
  cases ho : w0.heap[a.block]? with
  | none => simp [World.cell?, ho] at hc
  | some o => rw [World.cell?_of_block (key o ho)]; exact hc

theorem TabsAt.old {w0 w : World} (h : ∀ (k : Nat) (o : Obj), w0.heap[k]? = some o → w.heap[k]? = some o) (t : TabsAt w0) : TabsAt w where
  pt := by
    obtain ⟨⟨R1, o1, c1, a1, b1⟩, ⟨R2, o2, c2, a2, b2⟩, ⟨R3, o3, c3, a3, b3⟩, ⟨R4, o4, c4, a4, b4⟩, r⟩ := t.pt
    exact ⟨⟨R1, o1, c1, cell_old h a1, fun j hj => cell_old h (b1 j hj)⟩, ⟨R2, o2, c2, cell_old h a2, fun j hj => cell_old h (b2 j hj)⟩, ⟨R3, o3, c3, cell_old h a3, fun j hj => cell_old h (b3 j hj)⟩, ⟨R4, o4, c4, cell_old h a4, fun j hj => cell_old h (b4 j hj)⟩, r⟩
  u8 := ⟨fun c hc => cell_old h (t.u8.1 c hc), fun i hi => ⟨cell_old h (t.u8.2 i hi).1, cell_old h (t.u8.2 i hi).2⟩⟩
  p10 := by
    have := t.p10
    unfold Lib.TabIs World.var? at this ⊢
    cases hg : Tryd.prog.globalNamed "internal/strconv.uint64pow10" with
    | none => rw [hg] at this; cases this
    | some g =>
      rw [hg] at this
      simp only [Option.bind_some] at this ⊢
      cases ho : w0.heap[g]? with
      | none => rw [ho] at this; cases this
      | some o => rw [ho] at this; rw [h _ _ ho]; exact this

theorem TabsAt.at {w0 : World} (t : TabsAt w0) {D : Ctx} (hG : D.gl = GW w0) (hs : SRel D) : TabsAt D.w :=
  t.old fun k o hk => (hs.gl k o (by rw [hG]; exact hk)).1

noncomputable def lib1 : List (Nat × Intr) := [(44, ofT 44 (stringT 69 5)), (45, ofT 45 quoteT), (46, ofT 46 formatT), (48, ofT 48 trimT), (49, ofT 49 (cloneT 3)), (55, ofT 55 repeatT), (63, ofT 63 (copyCheckT 69))]

theorem grow_below (w : World) (k : Nat) (os : Array Obj) : RowKit.Below w.heap.size w (Sort.grow (w.drewN k) os) := by
  have h1 : RowKit.Below w.heap.size w (w.drewN k) := by
    refine ⟨rfl, rfl, rfl, Nat.le_refl _, fun _ _ => rfl⟩
  refine h1.trans ⟨rfl, rfl, rfl, by simp [Sort.grow], fun j hj => ?_⟩
  show (_ ++ os)[j]? = _
  rw [Array.getElem?_append_left]
  exact Nat.lt_of_lt_of_le hj h1.size

theorem lib1_ok {w0 : World} (t : TabsAt w0) : IChk Tryd.prog (GW w0) lib1 := by
  refine .cons ?_ (.cons ?_ (.cons ?_ (.cons ?_ (.cons ?_ (.cons ?_ (.cons ?_ .nil))))))
  · refine ofT_ok ?_ (stringT_D 69 5)
    exact stringD_ok fc44 (fun b g o cap p l w h0 hcap h63 cur fz hbk hg hsz hcell => string_full Tryd.lays169 Tryd.Builder_Extra_169 b g o cap p l w h0 hcap h63 cur fz hbk hg hsz hcell)
      (fun b p w h => string_none Tryd.lays169 Tryd.Builder_Extra_169 b p w h) (fun b g o p cur w h fz hg => string_noroom Tryd.lays169 Tryd.Builder_Extra_169 b g o p cur w h fz hg)
      (fun b g o cap p w hc h => string_room Tryd.lays169 Tryd.Builder_Extra_169 b g o cap p w hc h)
  · refine ofT_ok ?_ (quoteT_D)
    exact quoteD_ok fc45 fun D hG hs s hlen => Any.strconv_Quote Tryd.lays177 (by kernel_rfl) Lib.goPrintTabs s D.w hlen (t.at hG hs).pt (t.at hG hs).u8
  · refine ofT_ok ?_ (formatT_D)
    exact formatD_ok fc46 fun D hG hs n h0 h1 => Calls.mono (Any.strconv_FormatInt_10 Tryd.laysM173 n h0 h1 D.w (t.at hG hs).p10) fun e w' ⟨e1, k, os, e2⟩ => ⟨e1, by rw [e2]; exact grow_below _ _ _⟩
  · refine ofT_ok ?_ (trimT_D)
    exact trimD_ok fc48 fun w s c hc hs => Any.strings_Trim_one Tryd.lays160 s c hc w hs
  · refine ofT_ok ?_ (cloneT_D 3)
    exact cloneD_ok fc49 (fun b off n c zs w hz hbig hc => Any.slices_Clone_int Tryd.laysNm215 b off n c zs w hz hbig hc) (fun n c w => Any.slices_Clone_int_nil Tryd.laysNm215 n c w) (fun a c w => Any.slices_Clone_int_zero Tryd.laysNm215 a c w)
  · refine ofT_ok ?_ (repeatT_D)
    exact repeatD_ok fc55 fun w s c hc hlen => Any.strings_Repeat Tryd.lays105 Tryd.Builder_Extra_105 s c w hc hlen
  · refine ofT_ok ?_ (copyCheckT_D 69)
    exact copyCheckD_ok fc63 (fun b w h0 hsh hfz => Tryd.cc_fresh b w h0 hsh hfz) (fun b w h0 => Tryd.cc_used b w h0)
end Go.Sx.Tryd
