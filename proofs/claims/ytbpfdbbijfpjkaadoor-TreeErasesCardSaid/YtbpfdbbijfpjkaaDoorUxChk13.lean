/- A part of the proof: see the row's text. -/
import Derived.Test.YtbpfdbbijfpjkaaDoorUxTreeS
import Derived.Test.YtbpfdbbijfpjkaaDoorUxGrows
set_option linter.unusedVariables false
set_option linter.unusedSimpArgs false
namespace Go.Sx.Tryd
open Go Go.Sx
set_option maxRecDepth 100000
abbrev shapeTy : Ty := .pair .str (.pair (.int .i64) (.pair (.int .i64) (.pair .bool (.pair .bool .unit))))
abbrev sigSh : Sig := [(true, shapeTy)]
/-- a kind's shape -/
def shLeast (k : Int) : Int := bif inK k then leastS k else 0
def shMost (k : Int) : Int := bif inK k then mostS k else 0
def shTxt (k : Int) : Bool := bif inK k then txtS k else false
def shTyd (k : Int) : Bool := bif inK k then tydS k else false
def shS (k : Int) : Dens sigSh := ((nameS k, shLeast k, shMost k, shTxt k, shTyd k, ()), ())
def shX (x : Dens sigI) : Dens sigSh := shS x.1
abbrev ownB : List Sh := [.own 4 .bool]
noncomputable def lib13 : List (Nat × Intr) := [(41, specI 41 sigI sigSh (fun _ => true) shX), (42, specI 42 sigT sigB (fun _ => true) rightX)]
def cut13 : List Cut := [⟨[true, true, true, true, false, true, false, false], some ⟨[(1, []), (3, ownB), (43, []), (44, []), (45, [])], [[], []]⟩⟩,
  ⟨[true, true, true, true, false, true, false, false, true, true, false, false, true, true, true, true, false, false], some ⟨[(1, []), (3, ownB), (4, []), (43, []), (44, []), (45, []), (104, [.sl (.int .i64)]), (105, []), (106, [])], [[], []]⟩⟩,
  ⟨[true, true, true, true, true, false, true, false, false], some ⟨[(1, []), (126, ownB), (127, []), (128, [])], [[], []]⟩⟩]
def mk13a (L : List Nd) (r : Int) (u : List Bool) (n i : Int) : St := { tmps := [(1, .ref 0 0), (3, .own 1 0), (43, .sl nodeTy L), (44, .int .i64 n), (45, .int .i64 i)], blks := [(0, .cells 24 (trC L r)), (1, .list 4 .bool 0 false u)], next := 2 }
def mk13b (L : List Nd) (r : Int) (u : List Bool) (n i : Int) (x : Int) (K : List Int) (l k : Int) : St := { tmps := [(1, .ref 0 0), (3, .own 1 0), (4, .int .i64 x), (43, .sl nodeTy L), (44, .int .i64 n), (45, .int .i64 i), (104, .sl (.int .i64) K), (105, .int .i64 l), (106, .int .i64 k)], blks := [(0, .cells 24 (trC L r)), (1, .list 4 .bool 0 false u)], next := 2 }
def mk13c (L : List Nd) (r : Int) (u : List Bool) (n i : Int) : St := { tmps := [(1, .ref 0 0), (126, .own 1 0), (127, .int .i64 n), (128, .int .i64 i)], blks := [(0, .cells 24 (trC L r)), (1, .list 4 .bool 0 false u)], next := 2 }
end Go.Sx.Tryd
namespace Go.Sx.Tryd
open Go Go.Sx
set_option maxRecDepth 100000
theorem start13 (J : Jump R0) (L : List Nd) (r : Int) : start E (tabI lib13) fi13 cut13 J [.agg (trC L r)] [] .ok =
    bif decide ((↑(List.length L) : Int) > 16384) then Rs.ok (Out.ret (AV.int IntKind.i64 (Int.ofNat 2)), [])
  else
    bif (↑(List.length L) : Int) == 0 then Rs.ok (Out.ret (AV.int IntKind.i64 (Int.ofNat 5)), [])
    else
      bif r != IntKind.wrap IntKind.i64 ((↑(List.length L) : Int) - 1) then Rs.ok (Out.ret (AV.int IntKind.i64 (Int.ofNat 5)), [])
      else
        bif inI r (List.length L) then
          bif nKind (getN L (Int.toNat r)) != 1 then Rs.ok (Out.ret (AV.int IntKind.i64 (Int.ofNat 5)), [])
          else
            bif inR (↑(List.length L) : Int) && (↑(List.length L) : Int) == (↑(List.length L) : Int) then
              J 0
                { tmps := [(1, AV.ref 0 0), (3, AV.own 1 0), (43, AV.sl nodeTy L), (44, AV.int IntKind.i64 (↑(List.length L) : Int)), (45, AV.int IntKind.i64 0)],
                  blks := [(0, Blk.cells 24 [AV.sl nodeTy L, AV.int IntKind.i64 r]), (1, Blk.list 4 Ty.bool 0 false (List.replicate (Int.toNat (↑(List.length L) : Int)) false))],
                  next := 2 }
            else Rs.err 503
        else Rs.err 318 := by kernel_rfl
theorem loop13a (J : Jump R0) (L : List Nd) (r : Int) (u : List Bool) (n i : Int) : resume E (tabI lib13) (cutsOf 0 cut13 0) J [true, true, true, true, false, true, false, false] fi13.code 1 (mk13a L r u n i) (finK E 0 fi13.results .ok) =
    bif decide (i < n) then
    bif inI i (List.length L) then
      bif nameS (nKind (getN L (Int.toNat i))) == [] then Rs.ok (Out.ret (AV.int IntKind.i64 (Int.ofNat 3)), [])
      else
        bif decide ((↑(List.length (nKids (getN L (Int.toNat i)))) : Int) < shLeast (nKind (getN L (Int.toNat i)))) then Rs.ok (Out.ret (AV.int IntKind.i64 (Int.ofNat 131)), [])
        else
          bif decide (shMost (nKind (getN L (Int.toNat i))) ≥ 0) then
            bif decide ((↑(List.length (nKids (getN L (Int.toNat i)))) : Int) > shMost (nKind (getN L (Int.toNat i)))) then Rs.ok (Out.ret (AV.int IntKind.i64 (Int.ofNat 131)), [])
            else
              bif !shTxt (nKind (getN L (Int.toNat i))) then
                bif !nText (getN L (Int.toNat i)) == [] then
                  bif !nText (getN L (Int.toNat i)) == [] then Rs.ok (Out.ret (AV.int IntKind.i64 (Int.ofNat 5)), [])
                  else
                    J 1
                      {
                        tmps :=
                          [(1, AV.ref 0 0), (3, AV.own 1 0), (4, AV.int IntKind.i64 i), (43, AV.sl nodeTy L), (44, AV.int IntKind.i64 n), (45, AV.int IntKind.i64 i),
                            (104, AV.sl (Ty.int IntKind.i64) (nKids (getN L (Int.toNat i)))), (105, AV.int IntKind.i64 (↑(List.length (nKids (getN L (Int.toNat i)))) : Int)),
                            (106, AV.int IntKind.i64 0)],
                        blks := [(0, Blk.cells 24 [AV.sl nodeTy L, AV.int IntKind.i64 r]), (1, Blk.list 4 Ty.bool 0 false u)], next := 2 }
                else
                  bif
                      !shTyd (nKind (getN L (Int.toNat i))) ==
                          rightS (nBase (getN L (Int.toNat i))) (nName (getN L (Int.toNat i))) (nDims (getN L (Int.toNat i))) (nMarks (getN L (Int.toNat i))) then
                    Rs.ok (Out.ret (AV.int IntKind.i64 (Int.ofNat 5)), [])
                  else
                    bif !shTyd (nKind (getN L (Int.toNat i))) then
                      bif
                          !(nBase (getN L (Int.toNat i)) == 0 &&
                              (nName (getN L (Int.toNat i)) == [] && (nDims (getN L (Int.toNat i)) == 0 && nMarks (getN L (Int.toNat i)) == []))) then
                        Rs.ok (Out.ret (AV.int IntKind.i64 (Int.ofNat 5)), [])
                      else
                        J 1
                          {
                            tmps :=
                              [(1, AV.ref 0 0), (3, AV.own 1 0), (4, AV.int IntKind.i64 i), (43, AV.sl nodeTy L), (44, AV.int IntKind.i64 n), (45, AV.int IntKind.i64 i),
                                (104, AV.sl (Ty.int IntKind.i64) (nKids (getN L (Int.toNat i)))), (105, AV.int IntKind.i64 (↑(List.length (nKids (getN L (Int.toNat i)))) : Int)),
                                (106, AV.int IntKind.i64 0)],
                            blks := [(0, Blk.cells 24 [AV.sl nodeTy L, AV.int IntKind.i64 r]), (1, Blk.list 4 Ty.bool 0 false u)], next := 2 }
                    else
                      J 1
                        {
                          tmps :=
                            [(1, AV.ref 0 0), (3, AV.own 1 0), (4, AV.int IntKind.i64 i), (43, AV.sl nodeTy L), (44, AV.int IntKind.i64 n), (45, AV.int IntKind.i64 i),
                              (104, AV.sl (Ty.int IntKind.i64) (nKids (getN L (Int.toNat i)))), (105, AV.int IntKind.i64 (↑(List.length (nKids (getN L (Int.toNat i)))) : Int)),
                              (106, AV.int IntKind.i64 0)],
                          blks := [(0, Blk.cells 24 [AV.sl nodeTy L, AV.int IntKind.i64 r]), (1, Blk.list 4 Ty.bool 0 false u)], next := 2 }
              else
                bif
                    !shTyd (nKind (getN L (Int.toNat i))) ==
                        rightS (nBase (getN L (Int.toNat i))) (nName (getN L (Int.toNat i))) (nDims (getN L (Int.toNat i))) (nMarks (getN L (Int.toNat i))) then
                  Rs.ok (Out.ret (AV.int IntKind.i64 (Int.ofNat 5)), [])
                else
                  bif !shTyd (nKind (getN L (Int.toNat i))) then
                    bif
                        !(nBase (getN L (Int.toNat i)) == 0 &&
                            (nName (getN L (Int.toNat i)) == [] && (nDims (getN L (Int.toNat i)) == 0 && nMarks (getN L (Int.toNat i)) == []))) then
                      Rs.ok (Out.ret (AV.int IntKind.i64 (Int.ofNat 5)), [])
                    else
                      J 1
                        {
                          tmps :=
                            [(1, AV.ref 0 0), (3, AV.own 1 0), (4, AV.int IntKind.i64 i), (43, AV.sl nodeTy L), (44, AV.int IntKind.i64 n), (45, AV.int IntKind.i64 i),
                              (104, AV.sl (Ty.int IntKind.i64) (nKids (getN L (Int.toNat i)))), (105, AV.int IntKind.i64 (↑(List.length (nKids (getN L (Int.toNat i)))) : Int)),
                              (106, AV.int IntKind.i64 0)],
                          blks := [(0, Blk.cells 24 [AV.sl nodeTy L, AV.int IntKind.i64 r]), (1, Blk.list 4 Ty.bool 0 false u)], next := 2 }
                  else
                    J 1
                      {
                        tmps :=
                          [(1, AV.ref 0 0), (3, AV.own 1 0), (4, AV.int IntKind.i64 i), (43, AV.sl nodeTy L), (44, AV.int IntKind.i64 n), (45, AV.int IntKind.i64 i),
                            (104, AV.sl (Ty.int IntKind.i64) (nKids (getN L (Int.toNat i)))), (105, AV.int IntKind.i64 (↑(List.length (nKids (getN L (Int.toNat i)))) : Int)),
                            (106, AV.int IntKind.i64 0)],
                        blks := [(0, Blk.cells 24 [AV.sl nodeTy L, AV.int IntKind.i64 r]), (1, Blk.list 4 Ty.bool 0 false u)], next := 2 }
          else
            bif !shTxt (nKind (getN L (Int.toNat i))) then
              bif !nText (getN L (Int.toNat i)) == [] then
                bif !nText (getN L (Int.toNat i)) == [] then Rs.ok (Out.ret (AV.int IntKind.i64 (Int.ofNat 5)), [])
                else
                  J 1
                    {
                      tmps :=
                        [(1, AV.ref 0 0), (3, AV.own 1 0), (4, AV.int IntKind.i64 i), (43, AV.sl nodeTy L), (44, AV.int IntKind.i64 n), (45, AV.int IntKind.i64 i),
                          (104, AV.sl (Ty.int IntKind.i64) (nKids (getN L (Int.toNat i)))), (105, AV.int IntKind.i64 (↑(List.length (nKids (getN L (Int.toNat i)))) : Int)),
                          (106, AV.int IntKind.i64 0)],
                      blks := [(0, Blk.cells 24 [AV.sl nodeTy L, AV.int IntKind.i64 r]), (1, Blk.list 4 Ty.bool 0 false u)], next := 2 }
              else
                bif
                    !shTyd (nKind (getN L (Int.toNat i))) ==
                        rightS (nBase (getN L (Int.toNat i))) (nName (getN L (Int.toNat i))) (nDims (getN L (Int.toNat i))) (nMarks (getN L (Int.toNat i))) then
                  Rs.ok (Out.ret (AV.int IntKind.i64 (Int.ofNat 5)), [])
                else
                  bif !shTyd (nKind (getN L (Int.toNat i))) then
                    bif
                        !(nBase (getN L (Int.toNat i)) == 0 &&
                            (nName (getN L (Int.toNat i)) == [] && (nDims (getN L (Int.toNat i)) == 0 && nMarks (getN L (Int.toNat i)) == []))) then
                      Rs.ok (Out.ret (AV.int IntKind.i64 (Int.ofNat 5)), [])
                    else
                      J 1
                        {
                          tmps :=
                            [(1, AV.ref 0 0), (3, AV.own 1 0), (4, AV.int IntKind.i64 i), (43, AV.sl nodeTy L), (44, AV.int IntKind.i64 n), (45, AV.int IntKind.i64 i),
                              (104, AV.sl (Ty.int IntKind.i64) (nKids (getN L (Int.toNat i)))), (105, AV.int IntKind.i64 (↑(List.length (nKids (getN L (Int.toNat i)))) : Int)),
                              (106, AV.int IntKind.i64 0)],
                          blks := [(0, Blk.cells 24 [AV.sl nodeTy L, AV.int IntKind.i64 r]), (1, Blk.list 4 Ty.bool 0 false u)], next := 2 }
                  else
                    J 1
                      {
                        tmps :=
                          [(1, AV.ref 0 0), (3, AV.own 1 0), (4, AV.int IntKind.i64 i), (43, AV.sl nodeTy L), (44, AV.int IntKind.i64 n), (45, AV.int IntKind.i64 i),
                            (104, AV.sl (Ty.int IntKind.i64) (nKids (getN L (Int.toNat i)))), (105, AV.int IntKind.i64 (↑(List.length (nKids (getN L (Int.toNat i)))) : Int)),
                            (106, AV.int IntKind.i64 0)],
                        blks := [(0, Blk.cells 24 [AV.sl nodeTy L, AV.int IntKind.i64 r]), (1, Blk.list 4 Ty.bool 0 false u)], next := 2 }
            else
              bif
                  !shTyd (nKind (getN L (Int.toNat i))) ==
                      rightS (nBase (getN L (Int.toNat i))) (nName (getN L (Int.toNat i))) (nDims (getN L (Int.toNat i))) (nMarks (getN L (Int.toNat i))) then
                Rs.ok (Out.ret (AV.int IntKind.i64 (Int.ofNat 5)), [])
              else
                bif !shTyd (nKind (getN L (Int.toNat i))) then
                  bif !(nBase (getN L (Int.toNat i)) == 0 && (nName (getN L (Int.toNat i)) == [] && (nDims (getN L (Int.toNat i)) == 0 && nMarks (getN L (Int.toNat i)) == []))) then
                    Rs.ok (Out.ret (AV.int IntKind.i64 (Int.ofNat 5)), [])
                  else
                    J 1
                      {
                        tmps :=
                          [(1, AV.ref 0 0), (3, AV.own 1 0), (4, AV.int IntKind.i64 i), (43, AV.sl nodeTy L), (44, AV.int IntKind.i64 n), (45, AV.int IntKind.i64 i),
                            (104, AV.sl (Ty.int IntKind.i64) (nKids (getN L (Int.toNat i)))), (105, AV.int IntKind.i64 (↑(List.length (nKids (getN L (Int.toNat i)))) : Int)),
                            (106, AV.int IntKind.i64 0)],
                        blks := [(0, Blk.cells 24 [AV.sl nodeTy L, AV.int IntKind.i64 r]), (1, Blk.list 4 Ty.bool 0 false u)], next := 2 }
                else
                  J 1
                    {
                      tmps :=
                        [(1, AV.ref 0 0), (3, AV.own 1 0), (4, AV.int IntKind.i64 i), (43, AV.sl nodeTy L), (44, AV.int IntKind.i64 n), (45, AV.int IntKind.i64 i),
                          (104, AV.sl (Ty.int IntKind.i64) (nKids (getN L (Int.toNat i)))), (105, AV.int IntKind.i64 (↑(List.length (nKids (getN L (Int.toNat i)))) : Int)),
                          (106, AV.int IntKind.i64 0)],
                      blks := [(0, Blk.cells 24 [AV.sl nodeTy L, AV.int IntKind.i64 r]), (1, Blk.list 4 Ty.bool 0 false u)], next := 2 }
    else Rs.err 801
  else
    J 2
      { tmps := [(1, AV.ref 0 0), (126, AV.own 1 0), (127, AV.int IntKind.i64 (↑(List.length u) : Int)), (128, AV.int IntKind.i64 0)],
        blks := [(0, Blk.cells 24 [AV.sl nodeTy L, AV.int IntKind.i64 r]), (1, Blk.list 4 Ty.bool 0 false u)], next := 2 } := by kernel_rfl
theorem loop13b (J : Jump R0) (L : List Nd) (r : Int) (u : List Bool) (n i : Int) (x : Int) (K : List Int) (l k : Int) : resume E (tabI lib13) (cutsOf 0 cut13 0) J [true, true, true, true, false, true, false, false, true, true, false, false, true, true, true, true, false, false] fi13.code 1 (mk13b L r u n i x K l k) (finK E 0 fi13.results .ok) =
    bif decide (k < l) then
    bif inI k (List.length K) then
      bif decide (getI K (Int.toNat k) < 0) then Rs.ok (Out.ret (AV.int IntKind.i64 (Int.ofNat 7)), [])
      else
        bif decide (getI K (Int.toNat k) ≥ x) then Rs.ok (Out.ret (AV.int IntKind.i64 (Int.ofNat 7)), [])
        else
          bif inI (getI K (Int.toNat k)) (List.length u) then
            bif List.getD u (Int.toNat (getI K (Int.toNat k))) (Ty.dflt Ty.bool) then Rs.ok (Out.ret (AV.int IntKind.i64 (Int.ofNat 4)), [])
            else
              bif inI (getI K (Int.toNat k)) (List.length u) then
                J 1
                  {
                    tmps :=
                      [(1, AV.ref 0 0), (3, AV.own 1 0), (4, AV.int IntKind.i64 x), (43, AV.sl nodeTy L), (44, AV.int IntKind.i64 n), (45, AV.int IntKind.i64 i),
                        (104, AV.sl (Ty.int IntKind.i64) K), (105, AV.int IntKind.i64 l), (106, AV.int IntKind.i64 (IntKind.wrap IntKind.i64 (k + 1)))],
                    blks := [(0, Blk.cells 24 [AV.sl nodeTy L, AV.int IntKind.i64 r]), (1, Blk.list 4 Ty.bool 0 false (List.set u (Int.toNat (getI K (Int.toNat k))) true))],
                    next := 2 }
              else Rs.err 2402
          else Rs.err 2202
    else Rs.err 1900
  else
    J 0
      { tmps := [(1, AV.ref 0 0), (3, AV.own 1 0), (43, AV.sl nodeTy L), (44, AV.int IntKind.i64 n), (45, AV.int IntKind.i64 (IntKind.wrap IntKind.i64 (i + 1)))],
        blks := [(0, Blk.cells 24 [AV.sl nodeTy L, AV.int IntKind.i64 r]), (1, Blk.list 4 Ty.bool 0 false u)], next := 2 } := by kernel_rfl
theorem loop13c (J : Jump R0) (L : List Nd) (r : Int) (u : List Bool) (n i : Int) : resume E (tabI lib13) (cutsOf 0 cut13 0) J [true, true, true, true, true, false, true, false, false] fi13.code 1 (mk13c L r u n i) (finK E 0 fi13.results .ok) =
    bif decide (i < n) then
    bif inI i (List.length u) then
      bif !List.getD u (Int.toNat i) (Ty.dflt Ty.bool) then
        bif i != r then Rs.ok (Out.ret (AV.int IntKind.i64 (Int.ofNat 3)), [])
        else
          J 2
            { tmps := [(1, AV.ref 0 0), (126, AV.own 1 0), (127, AV.int IntKind.i64 n), (128, AV.int IntKind.i64 (IntKind.wrap IntKind.i64 (i + 1)))],
              blks := [(0, Blk.cells 24 [AV.sl nodeTy L, AV.int IntKind.i64 r]), (1, Blk.list 4 Ty.bool 0 false u)], next := 2 }
      else
        J 2
          { tmps := [(1, AV.ref 0 0), (126, AV.own 1 0), (127, AV.int IntKind.i64 n), (128, AV.int IntKind.i64 (IntKind.wrap IntKind.i64 (i + 1)))],
            blks := [(0, Blk.cells 24 [AV.sl nodeTy L, AV.int IntKind.i64 r]), (1, Blk.list 4 Ty.bool 0 false u)], next := 2 }
    else Rs.err 2901
  else Rs.ok (Out.ret (AV.int IntKind.i64 0), []) := by kernel_rfl
end Go.Sx.Tryd
namespace Go.Sx.Tryd
open Go Go.Sx Go.Proofs
set_option maxRecDepth 100000
/-! tree.Check answers as the document's -/
def FinT (j : Nat) (st : St) (o : R0) : Prop := ∃ fuel, pieces (R := R0) E (tabI lib13) fi13 cut13 0 .ok fuel j st = .ok o
def toI (b : Bool) : Int := bif b then 1 else 0
theorem getI_map (us : List Bool) (k : Nat) : getI (us.map toI) k = toI (us.getD k false) := by
  simp only [getI, List.getD, List.getElem?_map]
  cases us[k]? <;> rfl
theorem setI_map (us : List Bool) (k : Nat) : setI (us.map toI) k 1 = (us.set k true).map toI := by
  simp only [setI, List.map_set]
  rfl
theorem toI_pos (b : Bool) : decide (toI b > 0) = b := by cases b <;> rfl

theorem finT_b {L : List Nd} {r n i : Int} {K : List Int} {o : R0} (hK : K.length ≤ 100) (h0 : 0 ≤ i) (hi : i ≤ 1000) : ∀ (ks pre : List Int) (us : List Bool), K = pre ++ ks → i ≤ us.length →
    (match kidsS i ks (us.map toI) with | .inl c => o = outI c | .inr u' => ∀ us' : List Bool, u' = us'.map toI → us'.length = us.length → FinT 0 (mk13a L r us' n (i + 1)) o) → FinT 1 (mk13b L r us n i i K K.length pre.length) o
  | [], pre, us, hp, hu, h => by
    obtain ⟨fuel, h⟩ : FinT 0 (mk13a L r us n (i + 1)) o := h us rfl rfl
    refine ⟨fuel + 1, (loop13b (pieces (R := R0) E (tabI lib13) fi13 cut13 0 .ok fuel) L r us n i i K K.length pre.length).trans ?_⟩
    rw [List.append_nil] at hp
    subst hp
    have h1 : ¬ ((K.length : Int) < K.length) := by omega
    have h4 : IntKind.wrap .i64 (i + 1) = i + 1 := wrap64 (by omega) (by omega)
    simp only [h1, decide_false, cond_false, h4]
    exact h
  | k :: ks, pre, us, hp, hu, h => by
    have hlen : pre.length + 1 + ks.length = K.length := by rw [hp]; simp; omega
    have h1 : (pre.length : Int) < K.length := by omega
    have h2 : inI (pre.length : Int) K.length = true := by rw [hp]; exact inI_appI _ _ _
    have h3 : getI K (Int.toNat (pre.length : Int)) = k := by rw [hp, Int.toNat_natCast]; exact getI_app _ _ _
    have h4 : IntKind.wrap .i64 ((pre.length : Int) + 1) = (pre.length : Int) + 1 := wrap64 (by omega) (by omega)
    have h5 : (((pre ++ [k]).length : Nat) : Int) = (pre.length : Int) + 1 := by simp
    simp only [kidsS, getI_map, setI_map, toI_pos] at h
    by_cases e1 : k < 0
    · simp only [e1, decide_true, cond_true] at h
      refine ⟨1, (loop13b (pieces (R := R0) E (tabI lib13) fi13 cut13 0 .ok 0) L r us n i i K K.length pre.length).trans ?_⟩
      simp only [h1, h2, h3, e1, decide_true, cond_true, h]
      rfl
    · by_cases e2 : k ≥ i
      · simp only [e1, e2, decide_true, decide_false, cond_true, cond_false] at h
        refine ⟨1, (loop13b (pieces (R := R0) E (tabI lib13) fi13 cut13 0 .ok 0) L r us n i i K K.length pre.length).trans ?_⟩
        simp only [h1, h2, h3, e1, e2, decide_true, decide_false, cond_true, cond_false, h]
        rfl
      · have h6 : inI k us.length = true := inI_of (by omega) (by omega)
        have hd : us.getD k.toNat (Ty.dflt Ty.bool) = us.getD k.toNat false := rfl
        cases e3 : us.getD k.toNat false
        · simp only [e1, e2, e3, decide_false, cond_false] at h
          obtain ⟨fuel, ih⟩ := finT_b hK h0 hi ks (pre ++ [k]) (us.set k.toNat true) (by simp [hp]) (by simp only [List.length_set]; exact hu) (by simpa only [List.length_set] using h)
          refine ⟨fuel + 1, (loop13b (pieces (R := R0) E (tabI lib13) fi13 cut13 0 .ok fuel) L r us n i i K K.length pre.length).trans ?_⟩
          simp only [h1, h2, h3, h4, h6, hd, e1, e2, e3, decide_true, decide_false, cond_true, cond_false]
          rw [h5] at ih
          exact ih
        · simp only [e1, e2, e3, decide_true, decide_false, cond_true, cond_false] at h
          refine ⟨1, (loop13b (pieces (R := R0) E (tabI lib13) fi13 cut13 0 .ok 0) L r us n i i K K.length pre.length).trans ?_⟩
          simp only [h1, h2, h3, h6, hd, e1, e2, e3, decide_true, decide_false, cond_true, cond_false, h]
          rfl

theorem loop13a' (J : Jump R0) {L : List Nd} {r n : Int} {us : List Bool} {i : Int} {x : Nd} (h1 : i < n) (h2 : inI i L.length = true) (h3 : getN L i.toNat = x) :
    resume E (tabI lib13) (cutsOf 0 cut13 0) J [true, true, true, true, false, true, false, false] fi13.code 1 (mk13a L r us n i) (finK E 0 fi13.results .ok) =
      bif nodeE x != 0 then .ok (outI (nodeE x)) else J 1 (mk13b L r us n i i (nKids x) (nKids x).length 0) := by
  rw [loop13a]
  simp only [h1, h2, h3, decide_true, cond_true]
  unfold nodeE badT
  cases e1 : (nameS (nKind x) == [])
  · have hk : inK (nKind x) = true := inK_name e1
    simp only [shLeast, shMost, shTxt, shTyd, hk, cond_false, cond_true]
    have hR : rightS (nBase x) (nName x) (nDims x) (nMarks x) = true → (nBase x == 0) = false := fun h => by
      have := right_facts h
      simp
      omega
    cases e2 : decide (((nKids x).length : Int) < leastS (nKind x))
    · cases e3 : decide (mostS (nKind x) ≥ 0)
      · cases e5 : txtS (nKind x) <;> cases e6 : (nText x == []) <;> first | rfl | skip
        all_goals
          cases e7 : tydS (nKind x)
          · cases e12 : rightS (nBase x) (nName x) (nDims x) (nMarks x)
            · cases e8 : (nBase x == 0) <;> cases e9 : (nName x == []) <;> cases e10 : (nDims x == 0) <;> cases e11 : (nMarks x == []) <;> simp only [bne, e8, e9, e10, e11] <;> rfl
            · simp only [bne, hR e12]; rfl
          · cases e8 : rightS (nBase x) (nName x) (nDims x) (nMarks x) <;> rfl
      · cases e4 : decide (((nKids x).length : Int) > mostS (nKind x))
        · cases e5 : txtS (nKind x) <;> cases e6 : (nText x == []) <;> first | rfl | skip
          all_goals
            cases e7 : tydS (nKind x)
            · cases e12 : rightS (nBase x) (nName x) (nDims x) (nMarks x)
              · cases e8 : (nBase x == 0) <;> cases e9 : (nName x == []) <;> cases e10 : (nDims x == 0) <;> cases e11 : (nMarks x == []) <;> simp only [bne, e8, e9, e10, e11] <;> rfl
              · simp only [bne, hR e12]; rfl
            · cases e8 : rightS (nBase x) (nName x) (nDims x) (nMarks x) <;> rfl
        · rfl
    · rfl
  · rfl
end Go.Sx.Tryd
namespace Go.Sx.Tryd
open Go Go.Sx Go.Proofs
set_option maxRecDepth 100000
theorem finT_c {L : List Nd} {r n : Int} {us : List Bool} {o : R0} (hu : (us.length : Int) = n) (hn : n ≤ 1000) (hr : r = n - 1) : ∀ (d : Nat) (i : Int), 0 ≤ i → i + d = n → o = outI (lastS ((((us.map toI).drop i.toNat).take (d - 1)))) → FinT 2 (mk13c L r us n i) o
  | 0, i, h0, hd, h => by
    refine ⟨1, (loop13c (pieces (R := R0) E (tabI lib13) fi13 cut13 0 .ok 0) L r us n i).trans ?_⟩
    have h1 : ¬ i < n := by omega
    simp only [h1, decide_false, cond_false, h]
    rfl
  | d + 1, i, h0, hd, h => by
    have h1 : i < n := by omega
    have h2 : inI i us.length = true := inI_of h0 (by omega)
    have h5 : IntKind.wrap .i64 (i + 1) = i + 1 := wrap64 (by omega) (by omega)
    have hlt : i.toNat < (us.map toI).length := by simp; omega
    have hg : us.getD i.toNat (Ty.dflt Ty.bool) = us.getD i.toNat false := rfl
    cases d with
    | zero =>
      have hir : (i != r) = false := by simp; omega
      obtain ⟨fuel, ih⟩ := finT_c (o := o) hu hn hr 0 (i + 1) (by omega) (by omega) (by rw [h]; rfl)
      refine ⟨fuel + 1, (loop13c (pieces (R := R0) E (tabI lib13) fi13 cut13 0 .ok fuel) L r us n i).trans ?_⟩
      simp only [h1, h2, h5, hir, decide_true, cond_true, cond_false]
      cases (us.getD i.toNat (Ty.dflt Ty.bool)) <;> exact ih
    | succ d =>
      have hir : (i != r) = true := by simp; omega
      have e : ((us.map toI).drop i.toNat).take (d + 1 + 1 - 1) = getI (us.map toI) i.toNat :: ((us.map toI).drop (i + 1).toNat).take (d + 1 - 1) := by
        show ((us.map toI).drop i.toNat).take (d + 1) = _ :: ((us.map toI).drop (i + 1).toNat).take d
        rw [List.drop_eq_getElem_cons hlt, List.take_succ_cons]
        have : i.toNat + 1 = (i + 1).toNat := by omega
        rw [this]
        congr 1
        rw [getI, List.getD, List.getElem?_eq_getElem hlt]
        rfl
      rw [e, getI_map] at h
      cases e1 : us.getD i.toNat false
      · refine ⟨1, (loop13c (pieces (R := R0) E (tabI lib13) fi13 cut13 0 .ok 0) L r us n i).trans ?_⟩
        rw [e1] at h
        have h : o = outI 3 := h
        simp only [h1, h2, hg, e1, hir, Bool.not_false, decide_true, cond_true, h]
        rfl
      · have e2 : (toI true == 0) = false := rfl
        rw [e1] at h
        simp only [lastS, List.any_cons, e2, Bool.false_or] at h
        obtain ⟨fuel, ih⟩ := finT_c hu hn hr (d + 1) (i + 1) (by omega) (by omega) h
        refine ⟨fuel + 1, (loop13c (pieces (R := R0) E (tabI lib13) fi13 cut13 0 .ok fuel) L r us n i).trans ?_⟩
        simp only [h1, h2, h5, hg, e1, Bool.not_true, decide_true, cond_true, cond_false]
        exact ih

theorem finT_a {L : List Nd} {r : Int} {o : R0} (hL : L.length ≤ 1000) : ∀ (xs pre : List Nd) (us : List Bool), L = pre ++ xs → xs.all smallN = true → us.length = L.length →
    (match nodesS pre.length xs (us.map toI) with | .inl c => o = outI c | .inr u' => ∀ us' : List Bool, u' = us'.map toI → us'.length = L.length → FinT 2 (mk13c L r us' L.length 0) o) → FinT 0 (mk13a L r us L.length pre.length) o
  | [], pre, us, hp, _, hu, h => by
    obtain ⟨fuel, h⟩ : FinT 2 (mk13c L r us L.length 0) o := h us rfl hu
    refine ⟨fuel + 1, (loop13a (pieces (R := R0) E (tabI lib13) fi13 cut13 0 .ok fuel) L r us L.length pre.length).trans ?_⟩
    have h1 : ¬ ((pre.length : Int) < L.length) := by rw [hp, List.append_nil]; omega
    simp only [h1, decide_false, cond_false]
    rw [← hu] at h
    exact h
  | x :: xs, pre, us, hp, hs, hu, h => by
    have hlen : pre.length + 1 + xs.length = L.length := by rw [hp]; simp; omega
    have h1 : (pre.length : Int) < L.length := by omega
    have h2 : inI (pre.length : Int) L.length = true := by rw [hp]; exact inI_appN _ _ _
    have h3 : getN L (Int.toNat (pre.length : Int)) = x := by rw [hp, Int.toNat_natCast]; exact getN_app _ _ _
    have h5 : (((pre ++ [x]).length : Nat) : Int) = (pre.length : Int) + 1 := by simp
    simp only [List.all_cons, Bool.and_eq_true] at hs
    have hsx := hs.1
    simp only [smallN, Bool.and_eq_true, decide_eq_true_eq] at hsx
    have hk : (nKids x).length ≤ 100 := hsx.1
    simp only [nodesS] at h
    cases e : (nodeE x != 0)
    · simp only [e, cond_false] at h
      have key : FinT 1 (mk13b L r us L.length pre.length pre.length (nKids x) (nKids x).length 0) o := finT_b hk (by omega) (by omega) (nKids x) [] us rfl (by omega) (by
        cases e2 : kidsS (pre.length : Int) (nKids x) (us.map toI) with
        | inl c => rw [e2] at h; exact h
        | inr u' =>
          rw [e2] at h
          intro us' hus' hl'
          have := finT_a (r := r) (o := o) hL xs (pre ++ [x]) us' (by simp [hp]) hs.2 (by omega) (by rw [h5, ← hus']; exact h)
          rw [h5] at this
          exact this)
      obtain ⟨fuel, hf⟩ := key
      refine ⟨fuel + 1, (loop13a' (pieces (R := R0) E (tabI lib13) fi13 cut13 0 .ok fuel) h1 h2 h3).trans ?_⟩
      rw [e]
      exact hf
    · simp only [e, cond_true] at h
      refine ⟨1, (loop13a' (pieces (R := R0) E (tabI lib13) fi13 cut13 0 .ok 0) h1 h2 h3).trans ?_⟩
      rw [e, h]
      rfl

theorem check13_start (L : List Nd) (r : Int) (hs : midS L = true) : ∃ fuel, start (R := R0) E (tabI lib13) fi13 cut13 (pieces (R := R0) E (tabI lib13) fi13 cut13 0 .ok fuel) [.agg (trC L r)] [] .ok = .ok (outI (checkS L r)) := by
  simp only [midS, Bool.and_eq_true, decide_eq_true_eq] at hs
  obtain ⟨hL, hs⟩ := hs
  have h0 : ¬ ((L.length : Int) > 16384) := by omega
  have hw : IntKind.wrap .i64 ((L.length : Int) - 1) = (L.length : Int) - 1 := wrap64 (by omega) (by omega)
  unfold checkS
  by_cases h1 : (L.length : Int) = 0
  · exact ⟨0, by rw [start13]; simp only [h0, h1, decide_false, cond_false, cond_true, beq_self_eq_true]; rfl⟩
  have h1' : ((L.length : Int) == 0) = false := by simpa using h1
  cases e2 : (r != (L.length : Int) - 1)
  · have hr : r = (L.length : Int) - 1 := by simpa using e2
    have hin : inI r L.length = true := inI_of (by omega) (by omega)
    cases e3 : (nKind (getN L r.toNat) != 1)
    · have hrep : (List.replicate L.length false).map toI = List.replicate L.length 0 := by simp [toI]
      obtain ⟨fuel, hf⟩ : FinT 0 (mk13a L r (List.replicate L.length false) L.length 0) (outI (match nodesS 0 L (List.replicate L.length 0) with | .inl c => c | .inr u => lastS (u.take (L.length - 1)))) := by
        have := finT_a (r := r) (o := outI (match nodesS 0 L (List.replicate L.length 0) with | .inl c => c | .inr u => lastS (u.take (L.length - 1)))) hL L [] (List.replicate L.length false) rfl hs (by simp) (by
          rw [hrep]
          simp only [List.length_nil, Int.natCast_zero]
          cases e4 : nodesS 0 L (List.replicate L.length 0) with
          | inl c => rfl
          | inr u =>
            intro us hus hl
            exact finT_c (by omega) (by omega) hr L.length 0 (by omega) (by omega) (by rw [hus]; rfl))
        exact this
      refine ⟨fuel, ?_⟩
      rw [start13, hw]
      have h5 : inR (L.length : Int) = true := by
        have hm : maxRoom = 68719476736 := rfl
        simp only [inR, Bool.and_eq_true, decide_eq_true_eq, hm]
        omega
      simp only [h0, h1', e2, e3, hin, h5, beq_self_eq_true, Bool.and_self, decide_false, cond_false, cond_true]
      exact hf
    · refine ⟨0, ?_⟩
      rw [start13, hw]
      simp only [h0, h1', e2, e3, hin, decide_false, cond_false, cond_true]
      rfl
  · refine ⟨0, ?_⟩
    rw [start13, hw]
    simp only [h0, h1', e2, decide_false, cond_false, cond_true]
    rfl
end Go.Sx.Tryd
namespace Go.Sx.Tryd
open Go Go.Sx Go.Proofs
set_option maxRecDepth 100000
def shapesL : List (List UInt8 × Int × Int × Bool × Bool × Unit) := [([], 0, 0, false, false, ()), ([112, 114, 111, 103, 114, 97, 109], 0, -1, false, false, ()), ([99, 108, 97, 115, 115], 0, -1, true, false, ()), ([101, 120, 116, 101, 110, 100, 115], 0, 0, true, false, ()), ([102, 105, 101, 108, 100], 0, 0, true, true, ()), ([105, 110, 105, 116], 1, -1, false, false, ()), ([109, 101, 116, 104, 111, 100], 1, -1, true, true, ()), ([112, 97, 114, 97, 109], 0, 0, true, true, ()), ([98, 108, 111, 99, 107], 0, -1, false, false, ()), ([100, 101, 99, 108], 0, 1, true, true, ()), ([97, 115, 115, 105, 103, 110], 2, 2, false, false, ()), ([105, 102], 2, 3, false, false, ()), ([119, 104, 105, 108, 101], 2, 2, false, false, ()), ([98, 114, 101, 97, 107], 0, 0, false, false, ()), ([99, 111, 110, 116, 105, 110, 117, 101], 0, 0, false, false, ()), ([114, 101, 116, 117, 114, 110], 0, 1, false, false, ()), ([112, 114, 105, 110, 116], 1, 1, false, false, ()), ([115, 117, 112, 101, 114], 0, -1, false, false, ()), ([101, 120, 112, 114], 1, 1, false, false, ()), ([105, 110, 116], 0, 0, false, false, ()), ([100, 111, 117, 98, 108, 101], 0, 0, true, false, ()), ([98, 111, 111, 108], 0, 0, false, false, ()), ([115, 116, 114], 0, 0, true, false, ()), ([110, 117, 108, 108], 0, 0, false, false, ()), ([116, 104, 105, 115], 0, 0, false, false, ()), ([118, 97, 114], 0, 0, true, false, ()), ([103, 101, 116], 1, 1, true, false, ()), ([105, 110, 100, 101, 120], 2, 2, false, false, ()), ([108, 101, 110, 103, 116, 104], 1, 1, false, false, ()), ([99, 97, 108, 108], 1, -1, true, false, ()), ([110, 101, 119], 0, -1, false, true, ()), ([97, 114, 114, 97, 121], 1, 1, false, true, ()), ([110, 101, 103], 1, 1, false, false, ()), ([110, 111, 116], 1, 1, false, false, ()), ([98, 105, 110, 97, 114, 121], 2, 2, true, false, ()), ([99, 97, 115, 116], 1, 1, false, true, ()), ([116, 111, 105, 110, 116], 1, 1, false, false, ()), ([116, 111, 100, 111, 117, 98, 108, 101], 1, 1, false, false, ()), ([105, 110, 112, 117, 116], 0, 0, false, false, ()), ([97, 115, 107], 1, 1, false, false, ()), ([103, 117, 97, 114, 100], 1, 1, false, false, ()), ([115, 111, 109, 101], 1, 1, false, false, ()), ([110, 111, 110, 101], 0, 0, false, false, ()), ([105, 115, 115, 111, 109, 101], 1, 1, false, false, ()), ([105, 115, 110, 111, 110, 101], 1, 1, false, false, ()), ([118, 97, 108], 1, 1, false, false, ())]
def shT (k : Int) : List UInt8 × Int × Int × Bool × Bool × Unit := (nameS k, shLeast k, shMost k, shTxt k, shTyd k, ())
def sh0 : List UInt8 × Int × Int × Bool × Bool × Unit := ([], 0, 0, false, false, ())
def shC (x : List UInt8 × Int × Int × Bool × Bool × Unit) : List AV := [.str x.1, .int .i64 x.2.1, .int .i64 x.2.2.1, .bool x.2.2.2.1, .bool x.2.2.2.2.1]
theorem body41 (k : Int) : body (R := R0) E (runD E0 (intrList 64 lib1) cl 1000 10) fi41 [.int .i64 k] [] .ok =
    bif decide (k < 0) then .ok (.ret (.agg (shC sh0)), []) else bif decide (k ≥ 46) then .ok (.ret (.agg (shC sh0)), []) else
      bif inI k 46 then .ok (.ret (.agg (shC (shapesL.getD k.toNat sh0))), []) else .err 302 := by kernel_rfl
theorem shapes_eq : shapesL = (List.range 46).map (fun i : Nat => shT i) := by kernel_rfl
theorem of_body (k : Int) : body (R := R0) E (runD E0 (intrList 64 lib1) cl 1000 10) fi41 [.int .i64 k] [] .ok = .ok (.ret (.agg (shC (shT k))), []) := by
  rw [body41]
  have out : inK k = false → nameS k = [] → shT k = sh0 := fun h hn => by
    unfold shT shLeast shMost shTxt shTyd
    rw [h, hn]
    rfl
  by_cases h0 : k < 0
  · have h1 : inK k = false := by simp [inK]; omega
    have h2 : nameS k = [] := by
      have : k < 1 := by omega
      simp [nameS, this]
    rw [out h1 h2]
    simp only [h0, decide_true, cond_true]
  · by_cases h46 : k ≥ 46
    · have h1 : inK k = false := by simp [inK]; omega
      have h2 : nameS k = [] := by
        have : ¬ k < 1 := by omega
        have h3 : (46 : Int) ≤ k := h46
        simp [nameS, this, h3]
      rw [out h1 h2]
      simp only [h0, h46, decide_true, decide_false, cond_true, cond_false]
    · have h1 : inI k 46 = true := inI_of (by omega) (by omega)
      have h2 : shapesL.getD k.toNat sh0 = shT k := by
        rw [shapes_eq]
        have h3 : k.toNat < 46 := by omega
        have h4 : ((k.toNat : Nat) : Int) = k := Int.toNat_of_nonneg (by omega)
        rw [List.getD, List.getElem?_map, List.getElem?_range h3]
        show shT (k.toNat : Int) = shT k
        rw [h4]
      simp only [h0, h46, h1, h2, decide_false, cond_true, cond_false]
theorem of_SA {w0 : World} (t : TabsAt w0) (x : Dens sigI) : SAD Tryd.prog (GW w0) 41 sigI sigSh x (shX x) := by
  obtain ⟨k, ⟨⟩⟩ := x
  exact body_ok (envOK []) (runD_ok (envOK []) (lib1_ok t).ok fiOK 10) fc41 (of_body k)
theorem lib13_ok {w0 : World} (t : TabsAt w0) : IChk Tryd.prog (GW w0) lib13 := .cons (specI_ok fun x _ => of_SA t x) (.cons (specI_ok fun x _ => typed_SA t x) .nil)
theorem check13_SA {w0 : World} (t : TabsAt w0) (x : Dens sigTr) (h : smallTr x = true) : SAD Tryd.prog (GW w0) 13 sigTr sigI x (checkX x) := by
  obtain ⟨⟨L, r, ⟨⟩⟩, ⟨⟩⟩ := x
  obtain ⟨fuel, hf⟩ := check13_start L r h
  exact start_ok (envOK []) (tabI_ok (lib13_ok t)) fc13 (.inl gen0_nil) hf
end Go.Sx.Tryd
