/- A part of the proof: see the row's text. -/
import Derived.Test.YtbpfdbbijfpjkaaDoorUxDep
import Derived.Test.YtbpfdbbijfpjkaaDoorUxC
import Derived.Lib.ItoaLen
set_option linter.unusedVariables false
set_option linter.unusedSimpArgs false
namespace Go.Sx.Tryd
open Go Go.Sx
set_option maxRecDepth 100000
/-- a Builder that holds some bytes -/
def bsB (s : List Int) : List Blk := [.cells 69 [.bself 0, .own 1 0], .list 5 (.int .u8) 0 false s]
end Go.Sx.Tryd
namespace Go.Sx.Tryd
open Go Go.Sx Go.Proofs
set_option maxRecDepth 100000
def app (s t : List Int) : List Int := s ++ t
def nums (t : List UInt8) : List Int := t.map fun b => (b.toNat : Int)
theorem ws_body (s : List Int) (t : List UInt8) (h : s.length + (nums t).length < maxRoom) : body (R := R0) E (tabI lib1) fi51 [.ref 0 0, .str t] (bsB s) .ok =
    .ok (.ret (.tup [.int .i64 t.length, .nili]), [.cells 69 [.bself 0, .own 1 1], .list 5 (.int .u8) 1 false (s ++ nums t)]) := by
  have h1 : body (R := R0) E (tabI lib1) fi51 [.ref 0 0, .str t] (bsB s) .ok = (bif decide (s.length + (nums t).length < maxRoom) then .ok (.ret (.tup [.int .i64 t.length, .nili]), [.cells 69 [.bself 0, .own 1 1], .list 5 (.int .u8) 1 false (s ++ nums t)]) else .err 206) := by kernel_rfl
  rw [h1]
  simp only [h, decide_true, cond_true]
theorem wb_body (s : List Int) (c : Int) (h : s.length + 1 < maxRoom) : body (R := R0) E (tabI lib1) fi52 [.ref 0 0, .int .u8 c] (bsB s) .ok =
    .ok (.ret .nili, [.cells 69 [.bself 0, .own 1 1], .list 5 (.int .u8) 1 false (s ++ [c])]) := by
  have h1 : body (R := R0) E (tabI lib1) fi52 [.ref 0 0, .int .u8 c] (bsB s) .ok = (bif decide (s.length + 1 < maxRoom) then .ok (.ret .nili, [.cells 69 [.bself 0, .own 1 1], .list 5 (.int .u8) 1 false (s ++ [c])]) else .err 207) := by kernel_rfl
  rw [h1]
  simp only [h, decide_true, cond_true]
/-- WriteString, WriteByte -/
def wsC : Intr := fun R args bs k => match args, bs with
  | [.ref 0 0, .str t], [.cells 69 [.bself 0, .own 1 0], .list 5 (.int .u8) 0 false s] => (match decide (List.length s + (nums t).length < maxRoom) with
    | true => k (.ret (.tup [.int .i64 t.length, .nili]), [.cells 69 [.bself 0, .own 1 1], .list 5 (.int .u8) 1 false (app s (nums t))])
    | false => .err 51)
  | _, _ => .err 51
def wbC : Intr := fun R args bs k => match args, bs with
  | [.ref 0 0, .int .u8 c], [.cells 69 [.bself 0, .own 1 0], .list 5 (.int .u8) 0 false s] => (match decide (List.length s + 1 < maxRoom) with
    | true => k (.ret .nili, [.cells 69 [.bself 0, .own 1 1], .list 5 (.int .u8) 1 false (app s [c])])
    | false => .err 52)
  | _, _ => .err 52
theorem wsC_ok {w0 : World} (t : TabsAt w0) : IntrOne Tryd.prog (GW w0) 51 wsC := fun R args bs k r hr => by
  unfold wsC at hr
  split at hr
  · split at hr
    · rename_i hd
      exact ⟨_, hr, body_ok (envOK []) (lib1_K t) fc51 (ws_body _ _ (of_decide_eq_true hd))⟩
    · cases hr
  · cases hr
theorem wbC_ok {w0 : World} (t : TabsAt w0) : IntrOne Tryd.prog (GW w0) 52 wbC := fun R args bs k r hr => by
  unfold wbC at hr
  split at hr
  · split at hr
    · rename_i hd
      exact ⟨_, hr, body_ok (envOK []) (lib1_K t) fc52 (wb_body _ _ (of_decide_eq_true hd))⟩
    · cases hr
  · cases hr
end Go.Sx.Tryd
namespace Go.Sx.Tryd
open Go Go.Sx
set_option maxRecDepth 100000
/-- a node's type, written -/
def tyS (x : Nd) : List UInt8 := bif rightS (nBase x) (nName x) (nDims x) (nMarks x) then textS (nBase x) (nName x) (nDims x) (nMarks x) else []
/-- what is written of a node itself -/
def hdS (x : Nd) : List UInt8 := [40] ++ nameS (nKind x) ++ (bif shTxt (nKind x) then [32] ++ quoteS (nText x) else []) ++ (bif shTyd (nKind x) then [32] ++ tyS x else []) ++ (bif nKind x == 19 || nKind x == 21 then [32] ++ Lib.itoa (nN x) else [])
/-- what form writes (fuel: how deep) -/
def formF (L : List Nd) : Nat → Nat → List UInt8
  | 0, _ => []
  | f + 1, i => hdS (getN L i) ++ (nKids (getN L i)).flatMap (fun k => [32] ++ formF L f k.toNat) ++ [41]
def formN (L : List Nd) (i : Nat) : List UInt8 := formF L (i + 1) i
def cut43 : List Cut := [⟨[true, true, true, true, true, true, true, false, true, false, false], some ⟨[(0, []), (4, []), (54, [.sl (.int .i64)]), (55, []), (56, [])], [[], [], []]⟩⟩]
def mk43 (L : List Nd) (r : Int) (s : List Int) (K : List Int) (l k : Int) : St := { tmps := [(0, .ref 0 0), (4, .ref 2 0), (54, .sl (.int .i64) K), (55, .int .i64 l), (56, .int .i64 k)], blks := [(0, .cells 69 [.bself 0, .own 1 1]), (1, .list 5 (.int .u8) 1 false s), (2, .cells 24 (trC L r))], next := 3 }
end Go.Sx.Tryd
namespace Go.Sx.Tryd
open Go Go.Sx
set_option maxRecDepth 100000
def fineN (x : Nd) : Bool := decide (-9223372036854775808 ≤ nN x) && decide (nN x ≤ 9223372036854775807)
def okF (N : Int) (L : List Nd) (r a : Int) (s : List Int) : Bool := okLR L r && (L.all fineN && (inI a L.length && (decide (a < N) && decide (s.length + (formN L a.toNat).length < maxRoom))))
/-- form, at a Builder -/
def formC (N : Int) : Intr := fun R args bs k => match args, bs with
  | [.ref 0 0, .agg [.sl tL L, .int .i64 r], .int .i64 a], [.cells 69 [.bself 0, .own 1 0], .list 5 (.int .u8) 0 false s] => (match castL tL nodeTy L with
    | some L => (match okF N L r a s with
      | true => k (.ret (.tup []), [.cells 69 [.bself 0, .own 1 2], .list 5 (.int .u8) 2 false (app s (nums (formN L a.toNat)))])
      | false => .err 43)
    | none => .err 43)
  | _, _ => .err 43
noncomputable def lib43 (N : Int) : List (Nat × Intr) := [(41, specI 41 sigI sigSh (fun _ => true) shX), (45, ofT 45 quoteT), (46, ofT 46 formatT), (23, specI 23 sigT sigS smallX textX), (51, shiftI 51 wsC), (52, shiftI 52 wbC), (43, shiftI 43 (formC N))]
end Go.Sx.Tryd
namespace Go.Sx.Tryd
open Go Go.Sx
set_option maxRecDepth 100000
theorem start43 (J : Jump R0) (N : Int) (L : List Nd) (r a : Int) (s : List Int) : start E (tabI (lib43 N)) fi43 cut43 J [.ref 0 0, .agg (trC L r), .int .i64 a] (bsB s) .ok =
    bif inI a (List.length L) then
    bif decide (List.length [40] + List.length (nameS (nKind (getN L (Int.toNat a)))) < 2 ^ 62) then
      bif decide (List.length s + List.length (nums ([40] ++ nameS (nKind (getN L (Int.toNat a))))) < maxRoom) then
        bif shTxt (nKind (getN L (Int.toNat a))) then
          bif Nat.ble (List.length (nText (getN L (Int.toNat a)))) 1099511627776 then
            bif decide (List.length [32] + List.length (quoteS (nText (getN L (Int.toNat a)))) < 2 ^ 62) then
              bif
                  decide
                    (List.length (app s (nums ([40] ++ nameS (nKind (getN L (Int.toNat a)))))) + List.length (nums ([32] ++ quoteS (nText (getN L (Int.toNat a))))) < maxRoom) then
                bif shTyd (nKind (getN L (Int.toNat a))) then
                  bif smallX ((nBase (getN L (Int.toNat a)), nName (getN L (Int.toNat a)), nDims (getN L (Int.toNat a)), nMarks (getN L (Int.toNat a)), ()), ()) then
                    bif
                        decide
                          (List.length [32] +
                              List.length
                                (bif rightS (nBase (getN L (Int.toNat a))) (nName (getN L (Int.toNat a))) (nDims (getN L (Int.toNat a))) (nMarks (getN L (Int.toNat a))) then
                                  textS (nBase (getN L (Int.toNat a))) (nName (getN L (Int.toNat a))) (nDims (getN L (Int.toNat a))) (nMarks (getN L (Int.toNat a)))
                                else []) <
                            2 ^ 62) then
                      bif
                          decide
                            (List.length (app (app s (nums ([40] ++ nameS (nKind (getN L (Int.toNat a)))))) (nums ([32] ++ quoteS (nText (getN L (Int.toNat a)))))) +
                                List.length
                                  (nums
                                    ([32] ++
                                      bif rightS (nBase (getN L (Int.toNat a))) (nName (getN L (Int.toNat a))) (nDims (getN L (Int.toNat a))) (nMarks (getN L (Int.toNat a))) then
                                        textS (nBase (getN L (Int.toNat a))) (nName (getN L (Int.toNat a))) (nDims (getN L (Int.toNat a))) (nMarks (getN L (Int.toNat a)))
                                      else [])) <
                              maxRoom) then
                        bif nKind (getN L (Int.toNat a)) == 19 then
                          bif decide (10 = 10) && (decide (-9223372036854775808 ≤ nN (getN L (Int.toNat a))) && decide (nN (getN L (Int.toNat a)) ≤ 9223372036854775807)) then
                            bif decide (List.length [32] + List.length (Lib.itoa (nN (getN L (Int.toNat a)))) < 2 ^ 62) then
                              bif
                                  decide
                                    (List.length
                                          (app (app (app s (nums ([40] ++ nameS (nKind (getN L (Int.toNat a)))))) (nums ([32] ++ quoteS (nText (getN L (Int.toNat a))))))
                                            (nums
                                              ([32] ++
                                                bif
                                                    rightS (nBase (getN L (Int.toNat a))) (nName (getN L (Int.toNat a))) (nDims (getN L (Int.toNat a)))
                                                      (nMarks (getN L (Int.toNat a))) then
                                                  textS (nBase (getN L (Int.toNat a))) (nName (getN L (Int.toNat a))) (nDims (getN L (Int.toNat a))) (nMarks (getN L (Int.toNat a)))
                                                else []))) +
                                        List.length (nums ([32] ++ Lib.itoa (nN (getN L (Int.toNat a))))) <
                                      maxRoom) then
                                J 0
                                  {
                                    tmps :=
                                      [(0, AV.ref 0 0), (4, AV.ref 2 0), (54, AV.sl (Ty.int IntKind.i64) (nKids (getN L (Int.toNat a)))),
                                        (55, AV.int IntKind.i64 (↑(List.length (nKids (getN L (Int.toNat a)))) : Int)), (56, AV.int IntKind.i64 0)],
                                    blks :=
                                      [(0, Blk.cells 69 [AV.bself 0, AV.own 1 1]),
                                        (1,
                                          Blk.list 5 (Ty.int IntKind.u8) 1 false
                                            (app
                                              (app (app (app s (nums ([40] ++ nameS (nKind (getN L (Int.toNat a)))))) (nums ([32] ++ quoteS (nText (getN L (Int.toNat a))))))
                                                (nums
                                                  ([32] ++
                                                    bif
                                                        rightS (nBase (getN L (Int.toNat a))) (nName (getN L (Int.toNat a))) (nDims (getN L (Int.toNat a)))
                                                          (nMarks (getN L (Int.toNat a))) then
                                                      textS (nBase (getN L (Int.toNat a))) (nName (getN L (Int.toNat a))) (nDims (getN L (Int.toNat a)))
                                                        (nMarks (getN L (Int.toNat a)))
                                                    else [])))
                                              (nums ([32] ++ Lib.itoa (nN (getN L (Int.toNat a))))))),
                                        (2, Blk.cells 24 [AV.sl nodeTy L, AV.int IntKind.i64 r])],
                                    next := 3 }
                              else Rs.err 51
                            else Rs.err 904
                          else Rs.err 1000046
                        else
                          bif nKind (getN L (Int.toNat a)) == 21 then
                            bif decide (10 = 10) && (decide (-9223372036854775808 ≤ nN (getN L (Int.toNat a))) && decide (nN (getN L (Int.toNat a)) ≤ 9223372036854775807)) then
                              bif decide (List.length [32] + List.length (Lib.itoa (nN (getN L (Int.toNat a)))) < 2 ^ 62) then
                                bif
                                    decide
                                      (List.length
                                            (app (app (app s (nums ([40] ++ nameS (nKind (getN L (Int.toNat a)))))) (nums ([32] ++ quoteS (nText (getN L (Int.toNat a))))))
                                              (nums
                                                ([32] ++
                                                  bif
                                                      rightS (nBase (getN L (Int.toNat a))) (nName (getN L (Int.toNat a))) (nDims (getN L (Int.toNat a)))
                                                        (nMarks (getN L (Int.toNat a))) then
                                                    textS (nBase (getN L (Int.toNat a))) (nName (getN L (Int.toNat a))) (nDims (getN L (Int.toNat a))) (nMarks (getN L (Int.toNat a)))
                                                  else []))) +
                                          List.length (nums ([32] ++ Lib.itoa (nN (getN L (Int.toNat a))))) <
                                        maxRoom) then
                                  J 0
                                    {
                                      tmps :=
                                        [(0, AV.ref 0 0), (4, AV.ref 2 0), (54, AV.sl (Ty.int IntKind.i64) (nKids (getN L (Int.toNat a)))),
                                          (55, AV.int IntKind.i64 (↑(List.length (nKids (getN L (Int.toNat a)))) : Int)), (56, AV.int IntKind.i64 0)],
                                      blks :=
                                        [(0, Blk.cells 69 [AV.bself 0, AV.own 1 1]),
                                          (1,
                                            Blk.list 5 (Ty.int IntKind.u8) 1 false
                                              (app
                                                (app (app (app s (nums ([40] ++ nameS (nKind (getN L (Int.toNat a)))))) (nums ([32] ++ quoteS (nText (getN L (Int.toNat a))))))
                                                  (nums
                                                    ([32] ++
                                                      bif
                                                          rightS (nBase (getN L (Int.toNat a))) (nName (getN L (Int.toNat a))) (nDims (getN L (Int.toNat a)))
                                                            (nMarks (getN L (Int.toNat a))) then
                                                        textS (nBase (getN L (Int.toNat a))) (nName (getN L (Int.toNat a))) (nDims (getN L (Int.toNat a)))
                                                          (nMarks (getN L (Int.toNat a)))
                                                      else [])))
                                                (nums ([32] ++ Lib.itoa (nN (getN L (Int.toNat a))))))),
                                          (2, Blk.cells 24 [AV.sl nodeTy L, AV.int IntKind.i64 r])],
                                      next := 3 }
                                else Rs.err 51
                              else Rs.err 904
                            else Rs.err 1000046
                          else
                            J 0
                              {
                                tmps :=
                                  [(0, AV.ref 0 0), (4, AV.ref 2 0), (54, AV.sl (Ty.int IntKind.i64) (nKids (getN L (Int.toNat a)))),
                                    (55, AV.int IntKind.i64 (↑(List.length (nKids (getN L (Int.toNat a)))) : Int)), (56, AV.int IntKind.i64 0)],
                                blks :=
                                  [(0, Blk.cells 69 [AV.bself 0, AV.own 1 1]),
                                    (1,
                                      Blk.list 5 (Ty.int IntKind.u8) 1 false
                                        (app (app (app s (nums ([40] ++ nameS (nKind (getN L (Int.toNat a)))))) (nums ([32] ++ quoteS (nText (getN L (Int.toNat a))))))
                                          (nums
                                            ([32] ++
                                              bif
                                                  rightS (nBase (getN L (Int.toNat a))) (nName (getN L (Int.toNat a))) (nDims (getN L (Int.toNat a)))
                                                    (nMarks (getN L (Int.toNat a))) then
                                                textS (nBase (getN L (Int.toNat a))) (nName (getN L (Int.toNat a))) (nDims (getN L (Int.toNat a))) (nMarks (getN L (Int.toNat a)))
                                              else [])))),
                                    (2, Blk.cells 24 [AV.sl nodeTy L, AV.int IntKind.i64 r])],
                                next := 3 }
                      else Rs.err 51
                    else Rs.err 704
                  else Rs.err 3000023
                else
                  bif nKind (getN L (Int.toNat a)) == 19 then
                    bif decide (10 = 10) && (decide (-9223372036854775808 ≤ nN (getN L (Int.toNat a))) && decide (nN (getN L (Int.toNat a)) ≤ 9223372036854775807)) then
                      bif decide (List.length [32] + List.length (Lib.itoa (nN (getN L (Int.toNat a)))) < 2 ^ 62) then
                        bif
                            decide
                              (List.length (app (app s (nums ([40] ++ nameS (nKind (getN L (Int.toNat a)))))) (nums ([32] ++ quoteS (nText (getN L (Int.toNat a)))))) +
                                  List.length (nums ([32] ++ Lib.itoa (nN (getN L (Int.toNat a))))) <
                                maxRoom) then
                          J 0
                            {
                              tmps :=
                                [(0, AV.ref 0 0), (4, AV.ref 2 0), (54, AV.sl (Ty.int IntKind.i64) (nKids (getN L (Int.toNat a)))),
                                  (55, AV.int IntKind.i64 (↑(List.length (nKids (getN L (Int.toNat a)))) : Int)), (56, AV.int IntKind.i64 0)],
                              blks :=
                                [(0, Blk.cells 69 [AV.bself 0, AV.own 1 1]),
                                  (1,
                                    Blk.list 5 (Ty.int IntKind.u8) 1 false
                                      (app (app (app s (nums ([40] ++ nameS (nKind (getN L (Int.toNat a)))))) (nums ([32] ++ quoteS (nText (getN L (Int.toNat a))))))
                                        (nums ([32] ++ Lib.itoa (nN (getN L (Int.toNat a))))))),
                                  (2, Blk.cells 24 [AV.sl nodeTy L, AV.int IntKind.i64 r])],
                              next := 3 }
                        else Rs.err 51
                      else Rs.err 904
                    else Rs.err 1000046
                  else
                    bif nKind (getN L (Int.toNat a)) == 21 then
                      bif decide (10 = 10) && (decide (-9223372036854775808 ≤ nN (getN L (Int.toNat a))) && decide (nN (getN L (Int.toNat a)) ≤ 9223372036854775807)) then
                        bif decide (List.length [32] + List.length (Lib.itoa (nN (getN L (Int.toNat a)))) < 2 ^ 62) then
                          bif
                              decide
                                (List.length (app (app s (nums ([40] ++ nameS (nKind (getN L (Int.toNat a)))))) (nums ([32] ++ quoteS (nText (getN L (Int.toNat a)))))) +
                                    List.length (nums ([32] ++ Lib.itoa (nN (getN L (Int.toNat a))))) <
                                  maxRoom) then
                            J 0
                              {
                                tmps :=
                                  [(0, AV.ref 0 0), (4, AV.ref 2 0), (54, AV.sl (Ty.int IntKind.i64) (nKids (getN L (Int.toNat a)))),
                                    (55, AV.int IntKind.i64 (↑(List.length (nKids (getN L (Int.toNat a)))) : Int)), (56, AV.int IntKind.i64 0)],
                                blks :=
                                  [(0, Blk.cells 69 [AV.bself 0, AV.own 1 1]),
                                    (1,
                                      Blk.list 5 (Ty.int IntKind.u8) 1 false
                                        (app (app (app s (nums ([40] ++ nameS (nKind (getN L (Int.toNat a)))))) (nums ([32] ++ quoteS (nText (getN L (Int.toNat a))))))
                                          (nums ([32] ++ Lib.itoa (nN (getN L (Int.toNat a))))))),
                                    (2, Blk.cells 24 [AV.sl nodeTy L, AV.int IntKind.i64 r])],
                                next := 3 }
                          else Rs.err 51
                        else Rs.err 904
                      else Rs.err 1000046
                    else
                      J 0
                        {
                          tmps :=
                            [(0, AV.ref 0 0), (4, AV.ref 2 0), (54, AV.sl (Ty.int IntKind.i64) (nKids (getN L (Int.toNat a)))),
                              (55, AV.int IntKind.i64 (↑(List.length (nKids (getN L (Int.toNat a)))) : Int)), (56, AV.int IntKind.i64 0)],
                          blks :=
                            [(0, Blk.cells 69 [AV.bself 0, AV.own 1 1]),
                              (1,
                                Blk.list 5 (Ty.int IntKind.u8) 1 false
                                  (app (app s (nums ([40] ++ nameS (nKind (getN L (Int.toNat a)))))) (nums ([32] ++ quoteS (nText (getN L (Int.toNat a))))))),
                              (2, Blk.cells 24 [AV.sl nodeTy L, AV.int IntKind.i64 r])],
                          next := 3 }
              else Rs.err 51
            else Rs.err 504
          else Rs.err 1000045
        else
          bif shTyd (nKind (getN L (Int.toNat a))) then
            bif smallX ((nBase (getN L (Int.toNat a)), nName (getN L (Int.toNat a)), nDims (getN L (Int.toNat a)), nMarks (getN L (Int.toNat a)), ()), ()) then
              bif
                  decide
                    (List.length [32] +
                        List.length
                          (bif rightS (nBase (getN L (Int.toNat a))) (nName (getN L (Int.toNat a))) (nDims (getN L (Int.toNat a))) (nMarks (getN L (Int.toNat a))) then
                            textS (nBase (getN L (Int.toNat a))) (nName (getN L (Int.toNat a))) (nDims (getN L (Int.toNat a))) (nMarks (getN L (Int.toNat a)))
                          else []) <
                      2 ^ 62) then
                bif
                    decide
                      (List.length (app s (nums ([40] ++ nameS (nKind (getN L (Int.toNat a)))))) +
                          List.length
                            (nums
                              ([32] ++
                                bif rightS (nBase (getN L (Int.toNat a))) (nName (getN L (Int.toNat a))) (nDims (getN L (Int.toNat a))) (nMarks (getN L (Int.toNat a))) then
                                  textS (nBase (getN L (Int.toNat a))) (nName (getN L (Int.toNat a))) (nDims (getN L (Int.toNat a))) (nMarks (getN L (Int.toNat a)))
                                else [])) <
                        maxRoom) then
                  bif nKind (getN L (Int.toNat a)) == 19 then
                    bif decide (10 = 10) && (decide (-9223372036854775808 ≤ nN (getN L (Int.toNat a))) && decide (nN (getN L (Int.toNat a)) ≤ 9223372036854775807)) then
                      bif decide (List.length [32] + List.length (Lib.itoa (nN (getN L (Int.toNat a)))) < 2 ^ 62) then
                        bif
                            decide
                              (List.length
                                    (app (app s (nums ([40] ++ nameS (nKind (getN L (Int.toNat a))))))
                                      (nums
                                        ([32] ++
                                          bif rightS (nBase (getN L (Int.toNat a))) (nName (getN L (Int.toNat a))) (nDims (getN L (Int.toNat a))) (nMarks (getN L (Int.toNat a))) then
                                            textS (nBase (getN L (Int.toNat a))) (nName (getN L (Int.toNat a))) (nDims (getN L (Int.toNat a))) (nMarks (getN L (Int.toNat a)))
                                          else []))) +
                                  List.length (nums ([32] ++ Lib.itoa (nN (getN L (Int.toNat a))))) <
                                maxRoom) then
                          J 0
                            {
                              tmps :=
                                [(0, AV.ref 0 0), (4, AV.ref 2 0), (54, AV.sl (Ty.int IntKind.i64) (nKids (getN L (Int.toNat a)))),
                                  (55, AV.int IntKind.i64 (↑(List.length (nKids (getN L (Int.toNat a)))) : Int)), (56, AV.int IntKind.i64 0)],
                              blks :=
                                [(0, Blk.cells 69 [AV.bself 0, AV.own 1 1]),
                                  (1,
                                    Blk.list 5 (Ty.int IntKind.u8) 1 false
                                      (app
                                        (app (app s (nums ([40] ++ nameS (nKind (getN L (Int.toNat a))))))
                                          (nums
                                            ([32] ++
                                              bif
                                                  rightS (nBase (getN L (Int.toNat a))) (nName (getN L (Int.toNat a))) (nDims (getN L (Int.toNat a)))
                                                    (nMarks (getN L (Int.toNat a))) then
                                                textS (nBase (getN L (Int.toNat a))) (nName (getN L (Int.toNat a))) (nDims (getN L (Int.toNat a))) (nMarks (getN L (Int.toNat a)))
                                              else [])))
                                        (nums ([32] ++ Lib.itoa (nN (getN L (Int.toNat a))))))),
                                  (2, Blk.cells 24 [AV.sl nodeTy L, AV.int IntKind.i64 r])],
                              next := 3 }
                        else Rs.err 51
                      else Rs.err 904
                    else Rs.err 1000046
                  else
                    bif nKind (getN L (Int.toNat a)) == 21 then
                      bif decide (10 = 10) && (decide (-9223372036854775808 ≤ nN (getN L (Int.toNat a))) && decide (nN (getN L (Int.toNat a)) ≤ 9223372036854775807)) then
                        bif decide (List.length [32] + List.length (Lib.itoa (nN (getN L (Int.toNat a)))) < 2 ^ 62) then
                          bif
                              decide
                                (List.length
                                      (app (app s (nums ([40] ++ nameS (nKind (getN L (Int.toNat a))))))
                                        (nums
                                          ([32] ++
                                            bif
                                                rightS (nBase (getN L (Int.toNat a))) (nName (getN L (Int.toNat a))) (nDims (getN L (Int.toNat a)))
                                                  (nMarks (getN L (Int.toNat a))) then
                                              textS (nBase (getN L (Int.toNat a))) (nName (getN L (Int.toNat a))) (nDims (getN L (Int.toNat a))) (nMarks (getN L (Int.toNat a)))
                                            else []))) +
                                    List.length (nums ([32] ++ Lib.itoa (nN (getN L (Int.toNat a))))) <
                                  maxRoom) then
                            J 0
                              {
                                tmps :=
                                  [(0, AV.ref 0 0), (4, AV.ref 2 0), (54, AV.sl (Ty.int IntKind.i64) (nKids (getN L (Int.toNat a)))),
                                    (55, AV.int IntKind.i64 (↑(List.length (nKids (getN L (Int.toNat a)))) : Int)), (56, AV.int IntKind.i64 0)],
                                blks :=
                                  [(0, Blk.cells 69 [AV.bself 0, AV.own 1 1]),
                                    (1,
                                      Blk.list 5 (Ty.int IntKind.u8) 1 false
                                        (app
                                          (app (app s (nums ([40] ++ nameS (nKind (getN L (Int.toNat a))))))
                                            (nums
                                              ([32] ++
                                                bif
                                                    rightS (nBase (getN L (Int.toNat a))) (nName (getN L (Int.toNat a))) (nDims (getN L (Int.toNat a)))
                                                      (nMarks (getN L (Int.toNat a))) then
                                                  textS (nBase (getN L (Int.toNat a))) (nName (getN L (Int.toNat a))) (nDims (getN L (Int.toNat a))) (nMarks (getN L (Int.toNat a)))
                                                else [])))
                                          (nums ([32] ++ Lib.itoa (nN (getN L (Int.toNat a))))))),
                                    (2, Blk.cells 24 [AV.sl nodeTy L, AV.int IntKind.i64 r])],
                                next := 3 }
                          else Rs.err 51
                        else Rs.err 904
                      else Rs.err 1000046
                    else
                      J 0
                        {
                          tmps :=
                            [(0, AV.ref 0 0), (4, AV.ref 2 0), (54, AV.sl (Ty.int IntKind.i64) (nKids (getN L (Int.toNat a)))),
                              (55, AV.int IntKind.i64 (↑(List.length (nKids (getN L (Int.toNat a)))) : Int)), (56, AV.int IntKind.i64 0)],
                          blks :=
                            [(0, Blk.cells 69 [AV.bself 0, AV.own 1 1]),
                              (1,
                                Blk.list 5 (Ty.int IntKind.u8) 1 false
                                  (app (app s (nums ([40] ++ nameS (nKind (getN L (Int.toNat a))))))
                                    (nums
                                      ([32] ++
                                        bif rightS (nBase (getN L (Int.toNat a))) (nName (getN L (Int.toNat a))) (nDims (getN L (Int.toNat a))) (nMarks (getN L (Int.toNat a))) then
                                          textS (nBase (getN L (Int.toNat a))) (nName (getN L (Int.toNat a))) (nDims (getN L (Int.toNat a))) (nMarks (getN L (Int.toNat a)))
                                        else [])))),
                              (2, Blk.cells 24 [AV.sl nodeTy L, AV.int IntKind.i64 r])],
                          next := 3 }
                else Rs.err 51
              else Rs.err 704
            else Rs.err 3000023
          else
            bif nKind (getN L (Int.toNat a)) == 19 then
              bif decide (10 = 10) && (decide (-9223372036854775808 ≤ nN (getN L (Int.toNat a))) && decide (nN (getN L (Int.toNat a)) ≤ 9223372036854775807)) then
                bif decide (List.length [32] + List.length (Lib.itoa (nN (getN L (Int.toNat a)))) < 2 ^ 62) then
                  bif
                      decide
                        (List.length (app s (nums ([40] ++ nameS (nKind (getN L (Int.toNat a)))))) + List.length (nums ([32] ++ Lib.itoa (nN (getN L (Int.toNat a))))) < maxRoom) then
                    J 0
                      {
                        tmps :=
                          [(0, AV.ref 0 0), (4, AV.ref 2 0), (54, AV.sl (Ty.int IntKind.i64) (nKids (getN L (Int.toNat a)))),
                            (55, AV.int IntKind.i64 (↑(List.length (nKids (getN L (Int.toNat a)))) : Int)), (56, AV.int IntKind.i64 0)],
                        blks :=
                          [(0, Blk.cells 69 [AV.bself 0, AV.own 1 1]),
                            (1,
                              Blk.list 5 (Ty.int IntKind.u8) 1 false
                                (app (app s (nums ([40] ++ nameS (nKind (getN L (Int.toNat a)))))) (nums ([32] ++ Lib.itoa (nN (getN L (Int.toNat a))))))),
                            (2, Blk.cells 24 [AV.sl nodeTy L, AV.int IntKind.i64 r])],
                        next := 3 }
                  else Rs.err 51
                else Rs.err 904
              else Rs.err 1000046
            else
              bif nKind (getN L (Int.toNat a)) == 21 then
                bif decide (10 = 10) && (decide (-9223372036854775808 ≤ nN (getN L (Int.toNat a))) && decide (nN (getN L (Int.toNat a)) ≤ 9223372036854775807)) then
                  bif decide (List.length [32] + List.length (Lib.itoa (nN (getN L (Int.toNat a)))) < 2 ^ 62) then
                    bif
                        decide
                          (List.length (app s (nums ([40] ++ nameS (nKind (getN L (Int.toNat a)))))) + List.length (nums ([32] ++ Lib.itoa (nN (getN L (Int.toNat a))))) <
                            maxRoom) then
                      J 0
                        {
                          tmps :=
                            [(0, AV.ref 0 0), (4, AV.ref 2 0), (54, AV.sl (Ty.int IntKind.i64) (nKids (getN L (Int.toNat a)))),
                              (55, AV.int IntKind.i64 (↑(List.length (nKids (getN L (Int.toNat a)))) : Int)), (56, AV.int IntKind.i64 0)],
                          blks :=
                            [(0, Blk.cells 69 [AV.bself 0, AV.own 1 1]),
                              (1,
                                Blk.list 5 (Ty.int IntKind.u8) 1 false
                                  (app (app s (nums ([40] ++ nameS (nKind (getN L (Int.toNat a)))))) (nums ([32] ++ Lib.itoa (nN (getN L (Int.toNat a))))))),
                              (2, Blk.cells 24 [AV.sl nodeTy L, AV.int IntKind.i64 r])],
                          next := 3 }
                    else Rs.err 51
                  else Rs.err 904
                else Rs.err 1000046
              else
                J 0
                  {
                    tmps :=
                      [(0, AV.ref 0 0), (4, AV.ref 2 0), (54, AV.sl (Ty.int IntKind.i64) (nKids (getN L (Int.toNat a)))),
                        (55, AV.int IntKind.i64 (↑(List.length (nKids (getN L (Int.toNat a)))) : Int)), (56, AV.int IntKind.i64 0)],
                    blks :=
                      [(0, Blk.cells 69 [AV.bself 0, AV.own 1 1]), (1, Blk.list 5 (Ty.int IntKind.u8) 1 false (app s (nums ([40] ++ nameS (nKind (getN L (Int.toNat a))))))),
                        (2, Blk.cells 24 [AV.sl nodeTy L, AV.int IntKind.i64 r])],
                    next := 3 }
      else Rs.err 51
    else Rs.err 303
  else Rs.err 103 := by kernel_rfl
theorem loop43 (J : Jump R0) (N : Int) (L : List Nd) (r : Int) (s : List Int) (K : List Int) (l k : Int) : resume E (tabI (lib43 N)) (cutsOf 2 cut43 0) J [true, true, true, true, true, true, true, false, true, false, false] fi43.code 1 (mk43 L r s K l k) (finK E 2 fi43.results .ok) =
    bif decide (k < l) then
    bif inI k (List.length K) then
      bif decide (List.length s + 1 < maxRoom) then
        bif okF N L r (getI K (Int.toNat k)) (app s [32]) then
          J 0
            { tmps := [(0, AV.ref 0 0), (4, AV.ref 2 0), (54, AV.sl (Ty.int IntKind.i64) K), (55, AV.int IntKind.i64 l), (56, AV.int IntKind.i64 (IntKind.wrap IntKind.i64 (k + 1)))],
              blks :=
                [(0, Blk.cells 69 [AV.bself 0, AV.own 1 1]), (1, Blk.list 5 (Ty.int IntKind.u8) 1 false (app (app s [32]) (nums (formN L (Int.toNat (getI K (Int.toNat k))))))),
                  (2, Blk.cells 24 [AV.sl nodeTy L, AV.int IntKind.i64 r])],
              next := 3 }
        else Rs.err 43
      else Rs.err 52
    else Rs.err 1200
  else
    bif decide (List.length s + 1 < maxRoom) then Rs.ok (Out.ret (AV.tup []), [Blk.cells 69 [AV.bself 0, AV.own 1 2], Blk.list 5 (Ty.int IntKind.u8) 2 false (app s [41])])
    else Rs.err 52 := by kernel_rfl
end Go.Sx.Tryd
namespace Go.Sx.Tryd
open Go Go.Sx Go.Proofs
set_option maxRecDepth 100000
theorem flatMap_congrG {α β : Type} {l : List α} {f h : α → List β} (e : ∀ k ∈ l, f k = h k) : l.flatMap f = l.flatMap h := by
  induction l with
  | nil => rfl
  | cons a l ih => rw [List.flatMap_cons, List.flatMap_cons, e a (by simp), ih fun k hk => e k (by simp [hk])]
theorem form_stable {L : List Nd} {r : Int} (g : Good L r) : ∀ (n i f : Nat), i < n → i < L.length → i + 1 ≤ f → formF L f i = formN L i
  | 0, i, f, h, _, _ => by omega
  | n + 1, i, 0, _, _, h => by omega
  | n + 1, i, f + 1, hn, hi, hf => by
    simp only [formF, formN]
    refine congrArg (fun z => hdS (getN L i) ++ z ++ [41]) (flatMap_congrG fun k hk => ?_)
    obtain ⟨_, _, h3⟩ := g.kid hi hk
    rw [form_stable g n k.toNat f (by omega) (by omega) (by omega), form_stable g n k.toNat i (by omega) (by omega) (by omega)]
theorem formN_eq {L : List Nd} {r : Int} (g : Good L r) {i : Nat} (hi : i < L.length) : formN L i = hdS (getN L i) ++ (nKids (getN L i)).flatMap (fun k => [32] ++ formN L k.toNat) ++ [41] := by
  show hdS (getN L i) ++ _ ++ [41] = _
  refine congrArg (fun z => hdS (getN L i) ++ z ++ [41]) (flatMap_congrG fun k hk => ?_)
  obtain ⟨_, _, h3⟩ := g.kid hi hk
  rw [form_stable g (k.toNat + 1) k.toNat i (by omega) (by omega) (by omega)]

theorem bif_lt {α : Type} {a b : Nat} {x y : α} (h : a < b) : (bif decide (a < b) then x else y) = x := by rw [decide_eq_true h]; rfl
theorem bif_t {α : Type} {c : Bool} {x y : α} (h : c = true) : (bif c then x else y) = x := by rw [h]; rfl
theorem bif_f {α : Type} {c : Bool} {x y : α} (h : c = false) : (bif c then x else y) = y := by rw [h]; rfl
theorem nums_append (a b : List UInt8) : nums (a ++ b) = nums a ++ nums b := by simp [nums]
theorem nums_length (a : List UInt8) : (nums a).length = a.length := by simp [nums]
theorem app_length (a b : List Int) : (app a b).length = a.length + b.length := by simp [app]

def FinF (N : Int) (st : St) (o : R0) : Prop := ∃ fuel, pieces (R := R0) E (tabI (lib43 N)) fi43 cut43 2 .ok fuel 0 st = .ok o
def outF (s : List Int) : R0 := (.ret (.tup []), [.cells 69 [.bself 0, .own 1 2], .list 5 (.int .u8) 2 false s])

theorem start43' (J : Jump R0) (N : Int) (L : List Nd) (r : Int) (i : Nat) (s : List Int) (hi : i < L.length) (hb : s.length + (hdS (getN L i)).length < maxRoom) (ht : (nText (getN L i)).length ≤ 1000)
    (hn : (nName (getN L i)).length ≤ 1000) (hm : (nMarks (getN L i)).length ≤ 1000) (hf : fineN (getN L i) = true) :
    start E (tabI (lib43 N)) fi43 cut43 J [.ref 0 0, .agg (trC L r), .int .i64 i] (bsB s) .ok = J 0 (mk43 L r (app s (nums (hdS (getN L i)))) (nKids (getN L i)) (nKids (getN L i)).length 0) := by
  refine (start43 J N L r i s).trans ?_
  rw [Int.toNat_natCast]
  generalize hx : getN L i = x at *
  have h1 : inI (i : Int) L.length = true := inI_of (by omega) (by omega)
  have h2 : Nat.ble (nText x).length 1099511627776 = true := Nat.ble_eq_true_of_le (by omega)
  have h3 : smallX ((nBase x, nName x, nDims x, nMarks x, ()), ()) = true := by
    simp only [smallX, Bool.and_eq_true, decide_eq_true_eq]
    exact ⟨hn, hm⟩
  have h4 := hf
  simp only [fineN, Bool.and_eq_true] at h4
  obtain ⟨h4, h5⟩ := h4
  have hmr : maxRoom = 68719476736 := rfl
  simp only [h1, h2, h3, cond_true]
  unfold hdS at hb ⊢
  unfold tyS at hb ⊢
  cases e1 : shTxt (nKind x) <;> cases e2 : shTyd (nKind x) <;> cases e3 : (nKind x == 19) <;> cases e4 : (nKind x == 21)
  all_goals
    simp only [e1, e2, e3, e4, h4, h5, decide_true, Bool.and_self, cond_true, cond_false, Bool.or_true, Bool.or_false, Bool.true_or] at hb ⊢
    repeat refine Eq.trans (bif_lt (by simp only [app_length, nums_length, List.length_append, List.length_cons, List.length_nil, hmr] at hb ⊢; omega)) ?_
    simp only [mk43, app, nums_append, List.append_assoc, List.append_nil]
end Go.Sx.Tryd
namespace Go.Sx.Tryd
open Go Go.Sx Go.Proofs
set_option maxRecDepth 100000
def kidsT (L : List Nd) (ks : List Int) : List UInt8 := ks.flatMap fun k => [32] ++ formN L k.toNat
theorem kidsT_cons (L : List Nd) (k : Int) (ks : List Int) : kidsT L (k :: ks) = [32] ++ formN L k.toNat ++ kidsT L ks := rfl
theorem okF_eq (N : Int) (L : List Nd) (r a : Int) (s : List Int) : okF N L r a s = (okLR L r && (L.all fineN && (inI a L.length && (decide (a < N) && decide (s.length + (formN L a.toNat).length < maxRoom))))) := rfl
theorem finF {L : List Nd} {r : Int} {N : Int} (g : Good L r) (hok : okLR L r = true) (hfine : L.all fineN = true) {i : Nat} (hi : i < L.length) (hL : L.length ≤ 1000) (hN : (i : Int) ≤ N) (hK : (nKids (getN L i)).length ≤ 1000) : ∀ (ks pre : List Int) (s : List Int), nKids (getN L i) = pre ++ ks →
    s.length + (kidsT L ks).length + 1 < maxRoom → FinF N (mk43 L r s (nKids (getN L i)) (nKids (getN L i)).length pre.length) (outF (app s (nums (kidsT L ks ++ [41]))))
  | [], pre, s, hp, hb => by
    refine ⟨1, (loop43 (pieces (R := R0) E (tabI (lib43 N)) fi43 cut43 2 .ok 0) N L r s (nKids (getN L i)) (nKids (getN L i)).length pre.length).trans ?_⟩
    have h1 : ¬ ((pre.length : Int) < (nKids (getN L i)).length) := by rw [hp, List.append_nil]; omega
    have h2 : s.length + 1 < maxRoom := by simp only [kidsT, List.flatMap_nil, List.length_nil] at hb; omega
    simp only [h1, h2, decide_false, decide_true, cond_true, cond_false]
    rfl
  | k :: ks, pre, s, hp, hb => by
    have hlen : pre.length + 1 + ks.length = (nKids (getN L i)).length := by rw [hp]; simp; omega
    obtain ⟨k0, k1, k2⟩ := g.kid hi (k := k) (by rw [hp]; simp)
    have h5 : (((pre ++ [k]).length : Nat) : Int) = (pre.length : Int) + 1 := by simp
    rw [kidsT_cons, List.length_append, List.length_append, List.length_singleton] at hb
    obtain ⟨fuel, ih⟩ := finF g hok hfine hi hL hN hK ks (pre ++ [k]) (app (app s [32]) (nums (formN L k.toNat))) (by simp [hp]) (by simp only [app_length, nums_length, List.length_singleton]; omega)
    refine ⟨fuel + 1, (loop43 (pieces (R := R0) E (tabI (lib43 N)) fi43 cut43 2 .ok fuel) N L r s (nKids (getN L i)) (nKids (getN L i)).length pre.length).trans ?_⟩
    have h1 : (pre.length : Int) < (nKids (getN L i)).length := by omega
    have h3 : inI (pre.length : Int) (nKids (getN L i)).length = true := by rw [hp]; exact inI_appI _ _ _
    have h4 : getI (nKids (getN L i)) pre.length = k := by rw [hp]; exact getI_app _ _ _
    have h6 : IntKind.wrap .i64 ((pre.length : Int) + 1) = (pre.length : Int) + 1 := wrap64 (by omega) (by omega)
    have h2 : s.length + 1 < maxRoom := by omega
    have h7 : okF N L r k (app s [32]) = true := by
      have h8 : inI k L.length = true := inI_of k0 (by omega)
      have h9 : decide (k < N) = true := decide_eq_true (by omega)
      have h10 : decide ((app s [32]).length + (formN L k.toNat).length < maxRoom) = true := decide_eq_true (by simp only [app_length, List.length_singleton]; omega)
      rw [okF_eq, hok, hfine, h8, h9, h10]
      rfl
    simp only [h1, h2, h3, h4, h6, h7, Int.toNat_natCast, decide_true, cond_true]
    rw [h5] at ih
    rw [kidsT_cons]
    have e : app s (nums ([32] ++ formN L k.toNat ++ kidsT L ks ++ [41])) = app (app (app s [32]) (nums (formN L k.toNat))) (nums (kidsT L ks ++ [41])) := by
      simp only [app, nums_append, List.append_assoc]
      rfl
    rw [e]
    exact ih

theorem lib43_ok {w0 : World} (t : TabsAt w0) {N : Int} (h : IntrOne Tryd.prog (GW w0) 43 (formC N)) : IChk Tryd.prog (GW w0) (lib43 N) := by
  have h1 := lib1_ok t
  refine .cons (specI_ok fun x _ => of_SA t x) (.cons ?_ (.cons ?_ (.cons (specI_ok fun x h => text_SA t x h) (.cons (shiftI_ok (wsC_ok t)) (.cons (shiftI_ok (wbC_ok t)) (.cons (shiftI_ok h) .nil))))))
  · exact ofT_ok (quoteD_ok fc45 fun D hG hs s hlen => Any.strconv_Quote Tryd.lays177 (by kernel_rfl) Lib.goPrintTabs s D.w hlen (t.at hG hs).pt (t.at hG hs).u8) quoteT_D
  · exact ofT_ok (formatD_ok fc46 fun D hG hs n h0 h1 => Calls.mono (Any.strconv_FormatInt_10 Tryd.laysM173 n h0 h1 D.w (t.at hG hs).p10) fun e w' ⟨e1, k, os, e2⟩ => ⟨e1, by rw [e2]; exact grow_below _ _ _⟩) formatT_D

theorem form_step {w0 : World} (t : TabsAt w0) (N : Nat) (ih : IntrOne Tryd.prog (GW w0) 43 (formC N)) (L : List Nd) (r a : Int) (s : List Int) (h : okF ((N + 1 : Nat) : Int) L r a s = true) :
    SA Tryd.prog (GW w0) 43 [.ref 0 0, .agg (trC L r), .int .i64 a] (bsB s) (outF (app s (nums (formN L a.toNat)))) := by
  rw [okF_eq] at h
  simp only [Bool.and_eq_true, decide_eq_true_eq] at h
  obtain ⟨hok, hfine, hin, hN, hb⟩ := h
  have hin' := hin
  simp only [inI, Bool.and_eq_true, decide_eq_true_eq] at hin'
  have hok' := hok
  simp only [okLR, Bool.and_eq_true, beq_iff_eq] at hok'
  have g := good_of hok'.2
  obtain ⟨hL, hK⟩ := midS_kids hok'.1
  obtain ⟨i, rfl⟩ : ∃ i : Nat, a = (i : Int) := ⟨a.toNat, by omega⟩
  have hi : i < L.length := by omega
  rw [Int.toNat_natCast] at hb ⊢
  have e : formN L i = hdS (getN L i) ++ kidsT L (nKids (getN L i)) ++ [41] := formN_eq g hi
  rw [e] at hb ⊢
  rw [List.length_append, List.length_append, List.length_singleton] at hb
  obtain ⟨fuel, hf⟩ := finF (N := N) g hok hfine hi hL (by omega) (hK i hi) (nKids (getN L i)) [] (app s (nums (hdS (getN L i)))) rfl (by simp only [app_length, nums_length]; omega)
  have hsm : smallN (getN L i) = true := by
    have := hok'.1
    simp only [midS, Bool.and_eq_true] at this
    exact List.all_eq_true.1 this.2 _ (List.mem_of_getElem? (getN_get hi))
  simp only [smallN, Bool.and_eq_true, decide_eq_true_eq] at hsm
  have hfn := List.all_eq_true.1 hfine _ (List.mem_of_getElem? (getN_get hi))
  have hs : start (R := R0) E (tabI (lib43 N)) fi43 cut43 (pieces (R := R0) E (tabI (lib43 N)) fi43 cut43 2 .ok fuel) [.ref 0 0, .agg (trC L r), .int .i64 i] (bsB s) .ok = .ok (outF (app s (nums (hdS (getN L i) ++ kidsT L (nKids (getN L i)) ++ [41])))) := by
    refine (start43' _ N L r i s hi (by omega) (by omega) (by omega) (by omega) hfn).trans ?_
    refine hf.trans ?_
    simp only [app, nums_append, List.append_assoc]
  exact start_ok (envOK []) (tabI_ok (lib43_ok t ih)) fc43 (.inl fun ee tt gg sh l hm => by
    simp only [bsB, List.mem_cons, List.not_mem_nil, or_false, reduceCtorEq, false_or] at hm
    cases hm
    rfl) hs

theorem castL_self (t : Ty) (x : List t.den) : castL t t x = some x := by simp [castL]
theorem castL_ty {t t' : Ty} {x : List t.den} {y : List t'.den} (h : castL t t' x = some y) : ∃ e : t = t', e ▸ x = y := by
  unfold castL at h
  split at h
  · rename_i e
    exact ⟨e, Option.some.inj h⟩
  · cases h
theorem formC_of {w0 : World} {N : Int} (h : ∀ (L : List Nd) (r a : Int) (s : List Int), okF N L r a s = true → SA Tryd.prog (GW w0) 43 [.ref 0 0, .agg (trC L r), .int .i64 a] (bsB s) (outF (app s (nums (formN L a.toNat))))) : IntrOne Tryd.prog (GW w0) 43 (formC N) := fun R args bs k r hr => by
  unfold formC at hr
  split at hr
  · split at hr
    · rename_i L' hc
      split at hr
      · rename_i hd
        obtain ⟨e, hL⟩ := castL_ty hc
        subst e
        subst hL
        exact ⟨_, hr, h _ _ _ _ hd⟩
      · cases hr
    · cases hr
  · cases hr

theorem form_ok {w0 : World} (t : TabsAt w0) : ∀ N : Nat, IntrOne Tryd.prog (GW w0) 43 (formC N)
  | 0 => formC_of fun L r a s h => by
    rw [okF_eq] at h
    simp only [Bool.and_eq_true, decide_eq_true_eq, inI] at h
    omega
  | N + 1 => formC_of fun L r a s h => form_step t N (form_ok t N) L r a s h
end Go.Sx.Tryd
namespace Go.Sx.Tryd
open Go Go.Sx Go.Proofs
set_option maxRecDepth 100000
/-! how long what is written may be -/
theorem nameS_len (k : Int) : (nameS k).length ≤ 10 := by
  unfold nameS
  cases decide (k < 1)
  · cases decide (k ≥ 46)
    · have h : names.all (fun l => decide (l.length ≤ 10)) = true := by kernel_rfl
      simp only [cond_false]
      by_cases hk : k.toNat < names.length
      · have := List.all_eq_true.1 h (names[k.toNat]) (List.getElem_mem hk)
        simpa [List.getD, List.getElem?_eq_getElem hk] using this
      · simp [List.getD, List.getElem?_eq_none (Nat.le_of_not_lt hk)]
    · simp
  · simp
theorem quoteS_len (s : List UInt8) : (quoteS s).length ≤ 10 * s.length + 2 := by
  have := Lib.quoteZ_length_le Lib.goPrintTabs ⟨⟨s⟩⟩
  simp only [quoteS, List.length_map]
  exact this
theorem textL_len : ∀ (m s : List UInt8) (i : Int), (textL s i m).length ≤ s.length + 10 * m.length
  | [], s, i => by simp [textL]
  | c :: m, s, i => by
    have h1 := textL_len m (stepT s i c) (i + 1)
    have h2 := stepT_len s i c
    simp only [textL, List.length_cons]
    omega
theorem tyS_len {x : Nd} (h : smallN x = true) : (tyS x).length ≤ 1500 := by
  simp only [smallN, Bool.and_eq_true, decide_eq_true_eq] at h
  unfold tyS textS
  cases rightS (nBase x) (nName x) (nDims x) (nMarks x)
  · simp
  · have h1 := textL_len (nMarks x) (baseS (nBase x) (nName x)) 0
    have h2 := baseS_len (b := nBase x) (n := nName x) (by omega)
    simp only [cond_true]
    omega
theorem bif_len {α : Type} {c : Bool} {x : List α} {n : Nat} (h : x.length ≤ n) : (bif c then x else []).length ≤ n := by cases c <;> simp [h]
theorem hdS_len {x : Nd} (h : smallN x = true) (hf : fineN x = true) : (hdS x).length ≤ 4000 := by
  have h1 := tyS_len h
  have h2 := nameS_len (nKind x)
  have h3 := quoteS_len (nText x)
  simp only [fineN, Bool.and_eq_true, decide_eq_true_eq] at hf
  have h4 := Lib.itoa_length_le (nN x) hf.1 hf.2
  simp only [smallN, Bool.and_eq_true, decide_eq_true_eq] at h
  unfold hdS
  simp only [List.length_append, List.length_singleton]
  have h5 : (bif shTxt (nKind x) then [32] ++ quoteS (nText x) else []).length ≤ 2010 := bif_len (by simp only [List.length_append, List.length_singleton]; omega)
  have h6 : (bif shTyd (nKind x) then [32] ++ tyS x else []).length ≤ 1510 := bif_len (by simp only [List.length_append, List.length_singleton]; omega)
  have h7 : (bif nKind x == 19 || nKind x == 21 then [32] ++ Lib.itoa (nN x) else []).length ≤ 30 := bif_len (by simp only [List.length_append, List.length_singleton]; omega)
  omega
theorem form_len {L : List Nd} {r : Int} (g : Good L r) (hs : L.all smallN = true) (hf : L.all fineN = true) : ∀ (n i : Nat), i < n → i < L.length → (formN L i).length + 1 ≤ 4010 * (preN L i).length
  | 0, i, h, _ => by omega
  | n + 1, i, hn, hi => by
    rw [formN_eq g hi, preN_eq g hi]
    have hm := List.mem_of_getElem? (getN_get hi)
    have h1 := hdS_len (List.all_eq_true.1 hs _ hm) (List.all_eq_true.1 hf _ hm)
    have h2 : ∀ ks : List Int, (∀ k ∈ ks, k ∈ nKids (getN L i)) → (ks.flatMap fun k => [32] ++ formN L k.toNat).length ≤ 4010 * (ks.flatMap fun k => preN L k.toNat).length := by
      intro ks
      induction ks with
      | nil => intro _; simp
      | cons k ks ih =>
        intro hk
        have h3 := ih fun x hx => hk x (by simp [hx])
        obtain ⟨k0, k1, k2⟩ := g.kid hi (hk k (by simp))
        have h4 := form_len g hs hf n k.toNat (by omega) (by omega)
        rw [List.flatMap_cons, List.flatMap_cons, List.length_append, List.length_append, List.length_append, List.length_singleton]
        omega
    have h3 := h2 _ fun k hk => hk
    simp only [List.length_append, List.length_singleton, List.length_cons, List.length_nil]
    omega
theorem form_room {L : List Nd} {r : Int} (g : Good L r) (hm : midS L = true) (hf : L.all fineN = true) {i : Nat} (hi : i < L.length) : (formN L i).length < maxRoom := by
  have hs := hm
  simp only [midS, Bool.and_eq_true, decide_eq_true_eq] at hs
  have h1 := form_len g hs.2 hf (i + 1) i (by omega) hi
  have h2 := pre_len_le g hi
  have hmr : maxRoom = 68719476736 := rfl
  omega
theorem bytes_nums (s : List UInt8) : toBytes (nums s) = s := by
  induction s with
  | nil => rfl
  | cons c s ih =>
    have h : UInt8.ofNat ((c.toNat : Int)).toNat = c := by simp
    show UInt8.ofNat ((c.toNat : Int)).toNat :: toBytes (nums s) = _
    rw [h, ih]
theorem byte_nums (s : List UInt8) : (nums s).all isByte = true := by
  rw [List.all_eq_true]
  intro x hx
  obtain ⟨c, _, rfl⟩ := List.mem_map.1 hx
  have := c.toNat_lt
  simp only [isByte, Bool.and_eq_true, decide_eq_true_eq]
  omega
end Go.Sx.Tryd
