/- A part of the proof: see the row's text. -/
import Derived.Test.YtbpfdbbijfpjkaaDoorUxFormA
import Derived.Test.YtbpfdbbijfpjkaaDoorUxGrows
set_option linter.unusedVariables false
set_option linter.unusedSimpArgs false
namespace Go.Sx.Tryd
open Go Go.Sx Go.Proofs
set_option maxRecDepth 100000
def formS (L : List Nd) (r a : Int) : List UInt8 := bif inI a L.length && checkS L r == 0 then formN L a.toNat else []
def okFm (x : Dens sigTI) : Bool := midS x.1.1 && x.1.1.all fineN
def formX (x : Dens sigTI) : Dens sigS := (formS x.1.1 x.1.2.1 x.2.1, ())
abbrev sigTT : Sig := [(true, treeTy), (true, treeTy)]
def okTT (x : Dens sigTT) : Bool := (midS x.1.1 && x.1.1.all fineN) && (midS x.2.1.1 && x.2.1.1.all fineN)
def sameS (L : List Nd) (r : Int) (L2 : List Nd) (r2 : Int) : Bool := formS L r r == formS L2 r2 r2 && !(formS L r r == [])
def sameX (x : Dens sigTT) : Dens sigB := (sameS x.1.1 x.1.2.1 x.2.1.1 x.2.1.2.1, ())
noncomputable def lib14 : List (Nat × Intr) := [(13, specI 13 sigTr sigI smallTr checkX), (43, castI 43 [[.bself, .own 5 (.int .u8)]] (shiftI 43 (formC 1000000))), (44, ofT 44 (stringT 69 5))]
noncomputable def lib16 : List (Nat × Intr) := [(14, specI 14 sigTI sigS okFm formX)]
noncomputable def lib3 : List (Nat × Intr) := [(10, oneI 10 (fun l => l.isEmpty) (.ret (.bool true), [])), (11, specI 11 sigTr sigB (fun _ => true) smallX2), (12, specI 12 sigTr sigI smallTr checkX), (13, specI 13 sigTr sigI smallTr checkX), (14, specI 14 sigTI sigS okFm formX), (15, specI 15 sigTr sigI smallTr depthX), (16, specI 16 sigTT sigB okTT sameX), (17, specI 17 sigTI sigI (okW 1000000) depX)]
end Go.Sx.Tryd
namespace Go.Sx.Tryd
open Go Go.Sx
set_option maxRecDepth 100000
theorem body14 (L : List Nd) (r a : Int) : body (R := R0) E (tabI lib14) fi14 [.agg (trC L r), .int .i64 a] [] .ok =
    bif decide (a < 0) then Rs.ok (Out.ret (AV.str []), [])
  else
    bif decide (a ≥ (↑(List.length L) : Int)) then Rs.ok (Out.ret (AV.str []), [])
    else
      bif smallTr ((L, r, ()), ()) then
        bif checkS L r != 0 then Rs.ok (Out.ret (AV.str []), [])
        else
          bif okF 1000000 L r a [] then
            bif List.all (app [] (nums (formN L (Int.toNat a)))) isByte && Nat.ble (List.length (app [] (nums (formN L (Int.toNat a))))) 9223372036854775807 then
              Rs.ok (Out.ret (AV.str (toBytes (app [] (nums (formN L (Int.toNat a)))))), [])
            else Rs.err 1000044
          else Rs.err 43
      else Rs.err 3000013 := by kernel_rfl
theorem body16 (L : List Nd) (r : Int) (L2 : List Nd) (r2 : Int) : body (R := R0) E (tabI lib16) fi16 [.agg (trC L r), .agg (trC L2 r2)] [] .ok =
    bif okFm ((L, r, ()), r, ()) then
    bif okFm ((L2, r2, ()), r2, ()) then bif formS L r r == formS L2 r2 r2 then Rs.ok (Out.ret (AV.bool !formS L r r == []), []) else Rs.ok (Out.ret (AV.bool false), [])
    else Rs.err 3000014
  else Rs.err 3000014 := by kernel_rfl
theorem body3 (L : List Nd) (r : Int) : body (R := R0) E (tabI lib3) fi3 [.agg (trC L r)] [] .ok =
    bif !smallS L then Rs.ok (Out.ret (AV.bool true), [])
  else
    bif smallTr ((L, r, ()), ()) then
      bif smallTr ((L, r, ()), ()) then
        bif checkS L r != checkS L r then Rs.ok (Out.ret (AV.bool false), [])
        else
          bif checkS L r != 0 then
            bif okFm ((L, r, ()), r, ()) then
              bif formS L r r == [] then
                bif smallTr ((L, r, ()), ()) then
                  bif depthS L r == 0 then bif okTT ((L, r, ()), (L, r, ()), ()) then Rs.ok (Out.ret (AV.bool !sameS L r L r), []) else Rs.err 3000016
                  else Rs.ok (Out.ret (AV.bool false), [])
                else Rs.err 3000015
              else Rs.ok (Out.ret (AV.bool false), [])
            else Rs.err 3000014
          else
            bif smallTr ((L, r, ()), ()) then
              bif okW 1000000 ((L, r, ()), r, ()) then
                bif depthS L r == depA L r then bif okTT ((L, r, ()), (L, r, ()), ()) then Rs.ok (Out.ret (AV.bool (sameS L r L r)), []) else Rs.err 3000016
                else Rs.ok (Out.ret (AV.bool false), [])
              else Rs.err 3000017
            else Rs.err 3000015
      else Rs.err 3000013
    else Rs.err 3000012 := by kernel_rfl
end Go.Sx.Tryd
namespace Go.Sx.Tryd
open Go Go.Sx Go.Proofs
set_option maxRecDepth 100000
abbrev outS (s : List UInt8) : R0 := (.ret (.str s), [])
theorem inI_iff {i : Int} {n : Nat} : inI i n = true ↔ 0 ≤ i ∧ i < n := by simp only [inI, Bool.and_eq_true, decide_eq_true_eq]
theorem lib14_ok {w0 : World} (t : TabsAt w0) : IChk Tryd.prog (GW w0) lib14 := by
  refine .cons (specI_ok fun x h => check13_SA t x h) (.cons (castI_ok (shiftI_ok (form_ok t 1000000))) (.cons ?_ .nil))
  refine ofT_ok ?_ (stringT_D 69 5)
  exact stringD_ok fc44 (fun b g o cap p l w h0 hcap h63 cur fz hbk hg hsz hcell => string_full Tryd.lays169 Tryd.Builder_Extra_169 b g o cap p l w h0 hcap h63 cur fz hbk hg hsz hcell)
    (fun b p w h => string_none Tryd.lays169 Tryd.Builder_Extra_169 b p w h) (fun b g o p cur w h fz hg => string_noroom Tryd.lays169 Tryd.Builder_Extra_169 b g o p cur w h fz hg)
    (fun b g o cap p w hc h => string_room Tryd.lays169 Tryd.Builder_Extra_169 b g o cap p w hc h)
theorem form_body (L : List Nd) (r a : Int) (hm : midS L = true) (hf : L.all fineN = true) : body (R := R0) E (tabI lib14) fi14 [.agg (trC L r), .int .i64 a] [] .ok = .ok (outS (formS L r a)) := by
  refine (body14 L r a).trans ?_
  have h1 : smallTr ((L, r, ()), ()) = true := hm
  unfold formS
  rw [h1]
  by_cases n1 : a < 0
  · have e : inI a L.length = false := by
      cases h : inI a L.length
      · rfl
      · have := inI_iff.1 h; omega
    simp only [n1, e, decide_true, cond_true, Bool.false_and, cond_false]
  · by_cases n2 : a ≥ (L.length : Int)
    · have e : inI a L.length = false := by
        cases h : inI a L.length
        · rfl
        · have := inI_iff.1 h; omega
      simp only [n1, n2, e, decide_true, decide_false, cond_true, Bool.false_and, cond_false]
    · have e : inI a L.length = true := inI_iff.2 ⟨by omega, by omega⟩
      cases hc : (checkS L r != 0)
      · have hc0 : checkS L r = 0 := by simpa using hc
        have hc1 : (checkS L r == 0) = true := by simpa using hc0
        have g := good_of hc0
        obtain ⟨i, rfl⟩ : ∃ i : Nat, a = (i : Int) := ⟨a.toNat, by omega⟩
        have hi : i < L.length := by omega
        have hL := (midS_kids hm).1
        have hroom := form_room g hm hf hi
        rw [Int.toNat_natCast]
        have h2 : okF 1000000 L r i [] = true := by
          have h9 : decide ((i : Int) < 1000000) = true := decide_eq_true (by omega)
          have h10 : decide (([] : List Int).length + (formN L i).length < maxRoom) = true := decide_eq_true (by simpa using hroom)
          have h11 : okLR L r = true := by
            show (midS L && checkS L r == 0) = true
            rw [hm, hc1]; rfl
          rw [okF_eq, Int.toNat_natCast, h11, hf, e, h9, h10]
          rfl
        have h3 : (List.all (app [] (nums (formN L i))) isByte && Nat.ble (List.length (app [] (nums (formN L i)))) 9223372036854775807) = true := by
          have e1 : app [] (nums (formN L i)) = nums (formN L i) := rfl
          rw [e1, byte_nums, nums_length, Bool.true_and]
          have hmr : maxRoom = 68719476736 := rfl
          exact Nat.ble_eq_true_of_le (by omega)
        have h4 : toBytes (app [] (nums (formN L i))) = formN L i := bytes_nums _
        simp only [n1, n2, e, h2, h3, h4, hc1, decide_false, cond_true, cond_false, Bool.and_self]
      · have hc1 : (checkS L r == 0) = false := by simpa [bne] using hc
        simp only [n1, n2, hc1, decide_false, cond_true, cond_false, Bool.and_false]
theorem form_SA {w0 : World} (t : TabsAt w0) (x : Dens sigTI) (h : okFm x = true) : SAD Tryd.prog (GW w0) 14 sigTI sigS x (formX x) := by
  obtain ⟨⟨L, r, ⟨⟩⟩, a, ⟨⟩⟩ := x
  have h : (midS L && L.all fineN) = true := h
  simp only [Bool.and_eq_true] at h
  exact body_ok (envOK []) (tabI_ok (lib14_ok t)) fc14 (form_body L r a h.1 h.2)
theorem lib16_ok {w0 : World} (t : TabsAt w0) : IChk Tryd.prog (GW w0) lib16 := .cons (specI_ok fun x h => form_SA t x h) .nil
theorem same_SA {w0 : World} (t : TabsAt w0) (x : Dens sigTT) (h : okTT x = true) : SAD Tryd.prog (GW w0) 16 sigTT sigB x (sameX x) := by
  obtain ⟨⟨L, r, ⟨⟩⟩, ⟨L2, r2, ⟨⟩⟩, ⟨⟩⟩ := x
  have h : ((midS L && L.all fineN) && (midS L2 && L2.all fineN)) = true := h
  simp only [Bool.and_eq_true] at h
  have h1 : okFm ((L, r, ()), r, ()) = true := by
    show (midS L && L.all fineN) = true
    rw [h.1.1, h.1.2]; rfl
  have h2 : okFm ((L2, r2, ()), r2, ()) = true := by
    show (midS L2 && L2.all fineN) = true
    rw [h.2.1, h.2.2]; rfl
  refine body_ok (envOK []) (tabI_ok (lib16_ok t)) fc16 ((body16 L r L2 r2).trans ?_)
  show _ = Rs.ok (outB (sameS L r L2 r2))
  unfold sameS
  rw [h1, h2]
  simp only [cond_true]
  cases (formS L r r == formS L2 r2 r2) <;> rfl
end Go.Sx.Tryd
namespace Go.Sx.Tryd
open Go Go.Sx Go.Proofs
set_option maxRecDepth 100000
theorem lib3_ok {w0 : World} (t : TabsAt w0) : IChk Tryd.prog (GW w0) lib3 := by
  refine .cons (oneI_ok fun args h => ?_) (.cons (specI_ok fun x _ => small_SA t x) (.cons (specI_ok fun x h => check_SA t x h) (.cons (specI_ok fun x h => check13_SA t x h) (.cons (specI_ok fun x h => form_SA t x h) (.cons (specI_ok fun x h => depth_SA t x h) (.cons (specI_ok fun x h => same_SA t x h) (.cons (specI_ok fun x h => rdep_SA 1000000 x h) .nil)))))))
  cases args with
  | nil => exact grows_SA t
  | cons a r => cases h
theorem hdS_ne (x : Nd) : ∃ l, hdS x = 40 :: l := ⟨_, rfl⟩
theorem formN_ne {L : List Nd} {r : Int} (g : Good L r) {i : Nat} (hi : i < L.length) : formN L i ≠ [] := by
  obtain ⟨l, h⟩ := hdS_ne (getN L i)
  rw [formN_eq g hi, h]
  simp
theorem law3_body (L : List Nd) (r : Int) (hf : L.all fineN = true) : body (R := R0) E (tabI lib3) fi3 [.agg (trC L r)] [] .ok = .ok (outB true) := by
  refine (body3 L r).trans ?_
  cases hs : smallS L
  · rfl
  have hm := mid_of hs
  have h1 : smallTr ((L, r, ()), ()) = true := hm
  have h2 : okFm ((L, r, ()), r, ()) = true := by
    show (midS L && L.all fineN) = true
    rw [hm, hf]; rfl
  have h3 : okTT ((L, r, ()), (L, r, ()), ()) = true := by
    show ((midS L && L.all fineN) && (midS L && L.all fineN)) = true
    rw [hm, hf]; rfl
  rw [h1, h2, h3]
  simp only [Bool.not_true, bne_self_eq_false, cond_true, cond_false]
  cases hc : (checkS L r != 0)
  · have hc0 : checkS L r = 0 := by simpa using hc
    have g := good_of hc0
    have hpos := g.pos
    have hr := g.root
    have hL := (midS_kids hm).1
    have h4 : okW 1000000 ((L, r, ()), r, ()) = true := by
      have h8 : inI r L.length = true := inI_iff.2 ⟨by omega, by omega⟩
      have h9 : decide (r < 1000000) = true := decide_eq_true (by omega)
      have h11 : okLR L r = true := by
        show (midS L && checkS L r == 0) = true
        rw [hm, hc0]; rfl
      rw [okW_eq, h11, h8, h9]
      rfl
    have e : r.toNat = L.length - 1 := by omega
    have h5 : (depthS L r == depA L r) = true := by
      have : depthS L r = depA L r := by
        unfold depthS depA
        rw [hc, e]; rfl
      rw [this]; simp
    have h6 : sameS L r L r = true := by
      have h7 : formS L r r = formN L (L.length - 1) := by
        unfold formS
        have h8 : inI r L.length = true := inI_iff.2 ⟨by omega, by omega⟩
        rw [h8, hc0, e]; rfl
      have h8 := formN_ne g (i := L.length - 1) (by omega)
      unfold sameS
      rw [h7]
      simp [h8]
    simp only [h4, h5, h6, cond_true, cond_false]
  · have hc1 : (checkS L r == 0) = false := by simpa [bne] using hc
    have h7 : formS L r r = [] := by
      unfold formS
      rw [hc1, Bool.and_false]; rfl
    have h8 : depthS L r = 0 := by
      unfold depthS
      rw [hc]; rfl
    have h9 : sameS L r L r = false := by
      unfold sameS
      rw [h7]; rfl
    rw [h7, h8, h9]
    rfl
theorem law3_SA {w0 : World} (tb : TabsAt w0) (L : List Nd) (r : Int) (hf : L.all fineN = true) : SA Tryd.prog (GW w0) 3 [.agg (trC L r)] [] (outB true) :=
  body_ok (envOK []) (tabI_ok (lib3_ok tb)) fc3 (law3_body L r hf)
end Go.Sx.Tryd
