/- A part of the proof: see the row's text. -/
import Derived.Test.YtbpfdbbijfpjkaaDoorUxErB
import Derived.Test.YtbpfdbbijfpjkaaDoorUxC
set_option linter.unusedVariables false
set_option linter.unusedSimpArgs false
namespace Go.Sx.Tryd
open Go Go.Sx Go.Proofs
set_option maxRecDepth 100000
/-! erase, at a Builder -/
def bsE (A : List Nd) (t : Int) : List Blk := [.cells 53 [.own 1 0, .int .i64 t], .list 46 nodeTy 0 false A]
def bsE1 (A : List Nd) (t : Int) : List Blk := [.cells 53 [.own 1 1, .int .i64 t], .list 46 nodeTy 1 false A]
def erS (L : List Nd) (a : Int) (b : Nat) : List Nd := erN L a.toNat b
def endsN (x : Nd) : Bool := decide ((nEnds x).length ≤ 17592186044416)
def okE (N : Int) (L : List Nd) (r a : Int) (A : List Nd) : Bool := okLR L r && (L.all fineN && (L.all endsN && (inI a L.length && (decide (a < N) && decide (A.length + (erS L a A.length).length ≤ 16384)))))
def appN (A B : List Nd) : List Nd := A ++ B
def topE (L : List Nd) (a : Int) (A : List Nd) : Int := ((A.length + (erS L a A.length).length : Nat) : Int) - 1
def erC (N : Int) : Intr := fun R args bs k => match args, bs with
  | [.ref 0 0, .agg [.sl tL L, .int .i64 r], .int .i64 a], [.cells 53 [.own 1 0, .int .i64 t], .list 46 tA 0 false A] => (match castL tL nodeTy L, castL tA nodeTy A with
    | some L, some A => (match okE N L r a A with
      | true => k (.ret (.int .i64 (topE L a A)), bsE1 (appN A (erS L a A.length)) t)
      | false => .err 47)
    | _, _ => .err 47)
  | _, _ => .err 47
noncomputable def lib47 (N : Int) : List (Nat × Intr) := [(47, shiftI 47 (erC N)), (28, inlI E lib1 fi28), (55, ofT 55 repeatT)]
def cut47 : List Cut := [⟨[true, true, true, false], some ⟨[(0, []), (4, []), (7, [])], [[], [], [], []]⟩⟩, ⟨[true, true, true, true, false, true, false, false], some ⟨[(0, []), (4, []), (7, []), (13, ownI), (75, [.sl (.int .i64)]), (76, []), (77, [])], [[], [], [], [], []]⟩⟩,
  ⟨[true, true, false, true, false, true], some ⟨[(0, []), (4, []), (7, []), (24, []), (25, [])], [[], [], [], []]⟩⟩,
  ⟨[true, true, false, true, false, true, true, true, true, true], some ⟨[(0, []), (4, []), (7, []), (39, [])], [[], [], [], []]⟩⟩, ⟨[true, true, false, true, false, true, true, true, true, true, false, true, true, false], some ⟨[(0, []), (7, []), (8, []), (9, [])], [[], [], []]⟩⟩]
def mk47a (L : List Nd) (r : Int) (A : List Nd) (t : Int) (x : Nd) : St := { tmps := [(0, .ref 0 0), (4, .ref 2 0), (7, .ref 3 0)], blks := [(0, .cells 53 [.own 1 1, .int .i64 t]), (1, .list 46 nodeTy 1 false A), (2, .cells 24 (trC L r)), (3, .cells 46 (flat nodeTy x))], next := 4 }
def mk47b (L : List Nd) (r : Int) (A : List Nd) (t : Int) (x : Nd) (J K : List Int) (l k : Int) : St := { tmps := [(0, .ref 0 0), (4, .ref 2 0), (7, .ref 3 0), (13, .own 4 0), (75, .sl (.int .i64) K), (76, .int .i64 l), (77, .int .i64 k)], blks := [(0, .cells 53 [.own 1 1, .int .i64 t]), (1, .list 46 nodeTy 1 false A), (2, .cells 24 (trC L r)), (3, .cells 46 (flat nodeTy x)), (4, .list 3 (.int .i64) 0 false J)], next := 5 }
def mk47c (L : List Nd) (r : Int) (A : List Nd) (t : Int) (x : Nd) (k : Int) (b : Bool) : St := { tmps := [(0, .ref 0 0), (4, .ref 2 0), (7, .ref 3 0), (24, .int .i64 k), (25, .bool b)], blks := [(0, .cells 53 [.own 1 1, .int .i64 t]), (1, .list 46 nodeTy 1 false A), (2, .cells 24 (trC L r)), (3, .cells 46 (flat nodeTy x))], next := 4 }
def mk47d (L : List Nd) (r : Int) (A : List Nd) (t : Int) (x : Nd) (b : Bool) : St := { tmps := [(0, .ref 0 0), (4, .ref 2 0), (7, .ref 3 0), (39, .bool b)], blks := [(0, .cells 53 [.own 1 1, .int .i64 t]), (1, .list 46 nodeTy 1 false A), (2, .cells 24 (trC L r)), (3, .cells 46 (flat nodeTy x))], next := 4 }
def mk47e (A : List Nd) (t : Int) (x : Nd) (i j : Int) : St := { tmps := [(0, .ref 0 0), (7, .ref 2 0), (8, .int .i64 i), (9, .int .i64 j)], blks := [(0, .cells 53 [.own 1 1, .int .i64 t]), (1, .list 46 nodeTy 1 false A), (2, .cells 46 (flat nodeTy x))], next := 3 }
end Go.Sx.Tryd
namespace Go.Sx.Tryd
open Go Go.Sx
set_option maxRecDepth 100000
theorem start47 (J : Jump R0) (N : Int) (L : List Nd) (r a : Int) (A : List Nd) (t : Int) : start E (tabI (lib47 N)) fi47 cut47 J [.ref 0 0, .agg (trC L r), .int .i64 a] (bsE A t) .ok =
    bif inI a (List.length L) then
    bif nKind (getN L (Int.toNat a)) == 40 then
      J 2
        { tmps := [(0, AV.ref 0 0), (4, AV.ref 2 0), (7, AV.ref 3 0), (24, AV.int IntKind.i64 (nKind (getN L (Int.toNat a)))), (25, AV.bool (nKind (getN L (Int.toNat a)) == 40))],
          blks :=
            [(0, Blk.cells 53 [AV.own 1 1, AV.int IntKind.i64 t]), (1, Blk.list 46 nodeTy 1 false A), (2, Blk.cells 24 [AV.sl nodeTy L, AV.int IntKind.i64 r]),
              (3,
                Blk.cells 46
                  [AV.int IntKind.i64 (nKind (getN L (Int.toNat a))), AV.int IntKind.i64 (nAt (getN L (Int.toNat a))), AV.int IntKind.i64 (nTo (getN L (Int.toNat a))),
                    AV.sl (Ty.int IntKind.i64) (nKids (getN L (Int.toNat a))), AV.str (nText (getN L (Int.toNat a))), AV.int IntKind.i64 (nBase (getN L (Int.toNat a))),
                    AV.str (nName (getN L (Int.toNat a))), AV.int IntKind.i64 (nDims (getN L (Int.toNat a))), AV.str (nMarks (getN L (Int.toNat a))),
                    AV.int IntKind.i64 (nN (getN L (Int.toNat a))), AV.int IntKind.i64 (nW1 (getN L (Int.toNat a))), AV.int IntKind.i64 (nW2 (getN L (Int.toNat a))),
                    AV.sl (Ty.int IntKind.i64) (nEnds (getN L (Int.toNat a)))])],
          next := 4 }
    else
      bif nKind (getN L (Int.toNat a)) == 41 then
        J 2
          { tmps := [(0, AV.ref 0 0), (4, AV.ref 2 0), (7, AV.ref 3 0), (24, AV.int IntKind.i64 (nKind (getN L (Int.toNat a)))), (25, AV.bool (nKind (getN L (Int.toNat a)) == 41))],
            blks :=
              [(0, Blk.cells 53 [AV.own 1 1, AV.int IntKind.i64 t]), (1, Blk.list 46 nodeTy 1 false A), (2, Blk.cells 24 [AV.sl nodeTy L, AV.int IntKind.i64 r]),
                (3,
                  Blk.cells 46
                    [AV.int IntKind.i64 (nKind (getN L (Int.toNat a))), AV.int IntKind.i64 (nAt (getN L (Int.toNat a))), AV.int IntKind.i64 (nTo (getN L (Int.toNat a))),
                      AV.sl (Ty.int IntKind.i64) (nKids (getN L (Int.toNat a))), AV.str (nText (getN L (Int.toNat a))), AV.int IntKind.i64 (nBase (getN L (Int.toNat a))),
                      AV.str (nName (getN L (Int.toNat a))), AV.int IntKind.i64 (nDims (getN L (Int.toNat a))), AV.str (nMarks (getN L (Int.toNat a))),
                      AV.int IntKind.i64 (nN (getN L (Int.toNat a))), AV.int IntKind.i64 (nW1 (getN L (Int.toNat a))), AV.int IntKind.i64 (nW2 (getN L (Int.toNat a))),
                      AV.sl (Ty.int IntKind.i64) (nEnds (getN L (Int.toNat a)))])],
            next := 4 }
      else
        J 2
          { tmps := [(0, AV.ref 0 0), (4, AV.ref 2 0), (7, AV.ref 3 0), (24, AV.int IntKind.i64 (nKind (getN L (Int.toNat a)))), (25, AV.bool (nKind (getN L (Int.toNat a)) == 45))],
            blks :=
              [(0, Blk.cells 53 [AV.own 1 1, AV.int IntKind.i64 t]), (1, Blk.list 46 nodeTy 1 false A), (2, Blk.cells 24 [AV.sl nodeTy L, AV.int IntKind.i64 r]),
                (3,
                  Blk.cells 46
                    [AV.int IntKind.i64 (nKind (getN L (Int.toNat a))), AV.int IntKind.i64 (nAt (getN L (Int.toNat a))), AV.int IntKind.i64 (nTo (getN L (Int.toNat a))),
                      AV.sl (Ty.int IntKind.i64) (nKids (getN L (Int.toNat a))), AV.str (nText (getN L (Int.toNat a))), AV.int IntKind.i64 (nBase (getN L (Int.toNat a))),
                      AV.str (nName (getN L (Int.toNat a))), AV.int IntKind.i64 (nDims (getN L (Int.toNat a))), AV.str (nMarks (getN L (Int.toNat a))),
                      AV.int IntKind.i64 (nN (getN L (Int.toNat a))), AV.int IntKind.i64 (nW1 (getN L (Int.toNat a))), AV.int IntKind.i64 (nW2 (getN L (Int.toNat a))),
                      AV.sl (Ty.int IntKind.i64) (nEnds (getN L (Int.toNat a)))])],
            next := 4 }
  else Rs.err 103 := by kernel_rfl
theorem piece47a (J : Jump R0) (N : Int) (L : List Nd) (r : Int) (A : List Nd) (t : Int) (x : Nd) : resume E (tabI (lib47 N)) (cutsOf 2 cut47 0) J [true, true, true, false] fi47.code 1 (mk47a L r A t x) (finK E 2 fi47.results .ok) =
    J 1
    {
      tmps :=
        [(0, AV.ref 0 0), (4, AV.ref 2 0), (7, AV.ref 3 0), (13, AV.own 4 0), (75, AV.sl (Ty.int IntKind.i64) (nKids x)), (76, AV.int IntKind.i64 (↑(List.length (nKids x)) : Int)),
          (77, AV.int IntKind.i64 0)],
      blks :=
        [(0, Blk.cells 53 [AV.own 1 1, AV.int IntKind.i64 t]), (1, Blk.list 46 nodeTy 1 false A), (2, Blk.cells 24 [AV.sl nodeTy L, AV.int IntKind.i64 r]),
          (3,
            Blk.cells 46
              [AV.int IntKind.i64 (nKind x), AV.int IntKind.i64 (nAt x), AV.int IntKind.i64 (nTo x), AV.sl (Ty.int IntKind.i64) (nKids x), AV.str (nText x),
                AV.int IntKind.i64 (nBase x), AV.str (nName x), AV.int IntKind.i64 (nDims x), AV.str (nMarks x), AV.int IntKind.i64 (nN x), AV.int IntKind.i64 (nW1 x),
                AV.int IntKind.i64 (nW2 x), AV.sl (Ty.int IntKind.i64) (nEnds x)]),
          (4, Blk.list 3 (Ty.int IntKind.i64) 0 false [])],
      next := 5 } := by kernel_rfl
theorem piece47c (J : Jump R0) (N : Int) (L : List Nd) (r : Int) (A : List Nd) (t : Int) (x : Nd) (k : Int) (b : Bool) : resume E (tabI (lib47 N)) (cutsOf 2 cut47 0) J [true, true, false, true, false, true] fi47.code 1 (mk47c L r A t x k b) (finK E 2 fi47.results .ok) =
    bif b then
    bif inI 0 (List.length (nKids x)) then
      bif okE N L r (getI (nKids x) (Int.toNat 0)) A then
        Rs.ok
          (Out.ret (AV.int IntKind.i64 (topE L (getI (nKids x) (Int.toNat 0)) A)),
            [Blk.cells 53 [AV.own 1 2, AV.int IntKind.i64 t], Blk.list 46 nodeTy 2 false (appN A (erS L (getI (nKids x) (Int.toNat 0)) (List.length A)))])
      else Rs.err 47
    else Rs.err 604
  else
    bif k == 42 then
      J 0
        { tmps := [(0, AV.ref 0 0), (4, AV.ref 2 0), (7, AV.ref 3 0)],
          blks :=
            [(0, Blk.cells 53 [AV.own 1 1, AV.int IntKind.i64 t]), (1, Blk.list 46 nodeTy 1 false A), (2, Blk.cells 24 [AV.sl nodeTy L, AV.int IntKind.i64 r]),
              (3,
                Blk.cells 46
                  [AV.int IntKind.i64 (Int.ofNat 23), AV.int IntKind.i64 (nAt x), AV.int IntKind.i64 (nTo x), AV.sl (Ty.int IntKind.i64) (nKids x), AV.str (nText x),
                    AV.int IntKind.i64 (nBase x), AV.str (nName x), AV.int IntKind.i64 (nDims x), AV.str (nMarks x), AV.int IntKind.i64 (nN x), AV.int IntKind.i64 (nW1 x),
                    AV.int IntKind.i64 (nW2 x), AV.sl (Ty.int IntKind.i64) (nEnds x)])],
          next := 4 }
    else
      bif k == 43 then
        J 3
          { tmps := [(0, AV.ref 0 0), (4, AV.ref 2 0), (7, AV.ref 3 0), (39, AV.bool (k == 43))],
            blks :=
              [(0, Blk.cells 53 [AV.own 1 1, AV.int IntKind.i64 t]), (1, Blk.list 46 nodeTy 1 false A), (2, Blk.cells 24 [AV.sl nodeTy L, AV.int IntKind.i64 r]),
                (3,
                  Blk.cells 46
                    [AV.int IntKind.i64 (nKind x), AV.int IntKind.i64 (nAt x), AV.int IntKind.i64 (nTo x), AV.sl (Ty.int IntKind.i64) (nKids x), AV.str (nText x),
                      AV.int IntKind.i64 (nBase x), AV.str (nName x), AV.int IntKind.i64 (nDims x), AV.str (nMarks x), AV.int IntKind.i64 (nN x), AV.int IntKind.i64 (nW1 x),
                      AV.int IntKind.i64 (nW2 x), AV.sl (Ty.int IntKind.i64) (nEnds x)])],
            next := 4 }
      else
        J 3
          { tmps := [(0, AV.ref 0 0), (4, AV.ref 2 0), (7, AV.ref 3 0), (39, AV.bool (k == 44))],
            blks :=
              [(0, Blk.cells 53 [AV.own 1 1, AV.int IntKind.i64 t]), (1, Blk.list 46 nodeTy 1 false A), (2, Blk.cells 24 [AV.sl nodeTy L, AV.int IntKind.i64 r]),
                (3,
                  Blk.cells 46
                    [AV.int IntKind.i64 (nKind x), AV.int IntKind.i64 (nAt x), AV.int IntKind.i64 (nTo x), AV.sl (Ty.int IntKind.i64) (nKids x), AV.str (nText x),
                      AV.int IntKind.i64 (nBase x), AV.str (nName x), AV.int IntKind.i64 (nDims x), AV.str (nMarks x), AV.int IntKind.i64 (nN x), AV.int IntKind.i64 (nW1 x),
                      AV.int IntKind.i64 (nW2 x), AV.sl (Ty.int IntKind.i64) (nEnds x)])],
            next := 4 } := by kernel_rfl
theorem piece47d (J : Jump R0) (N : Int) (L : List Nd) (r : Int) (A : List Nd) (t : Int) (x : Nd) (b : Bool) : resume E (tabI (lib47 N)) (cutsOf 2 cut47 0) J [true, true, false, true, false, true, true, true, true, true] fi47.code 1 (mk47d L r A t x b) (finK E 2 fi47.results .ok) =
    bif b then
    bif inI 0 (List.length (nKids x)) then
      bif okE N L r (getI (nKids x) (Int.toNat 0)) A then
        bif decide ((↑(List.length (appN A (erS L (getI (nKids x) (Int.toNat 0)) (List.length A)))) : Int) ≥ 16384) then
          J 4
            { tmps := [(0, AV.ref 0 0), (7, AV.ref 2 0), (8, AV.int IntKind.i64 (topE L (getI (nKids x) (Int.toNat 0)) A)), (9, AV.int IntKind.i64 0)],
              blks :=
                [(0, Blk.cells 53 [AV.own 1 1, AV.int IntKind.i64 t]), (1, Blk.list 46 nodeTy 1 false (appN A (erS L (getI (nKids x) (Int.toNat 0)) (List.length A)))),
                  (2,
                    Blk.cells 46
                      [AV.int IntKind.i64 (nKind x), AV.int IntKind.i64 (nAt x), AV.int IntKind.i64 (nTo x), AV.sl (Ty.int IntKind.i64) (nKids x), AV.str (nText x),
                        AV.int IntKind.i64 (nBase x), AV.str (nName x), AV.int IntKind.i64 (nDims x), AV.str (nMarks x), AV.int IntKind.i64 (nN x), AV.int IntKind.i64 (nW1 x),
                        AV.int IntKind.i64 (nW2 x), AV.sl (Ty.int IntKind.i64) (nEnds x)])],
              next := 3 }
        else
          bif
              decide
                (List.length (appN A (erS L (getI (nKids x) (Int.toNat 0)) (List.length A))) + List.length [(mkN (23) (nAt x) (nTo x) ([]) ([]) (0) ([]) (0) ([]) (0) (0) (0) ([]))] < maxRoom) then
            J 4
              {
                tmps :=
                  [(0, AV.ref 0 0), (7, AV.ref 2 0), (8, AV.int IntKind.i64 (topE L (getI (nKids x) (Int.toNat 0)) A)),
                    (9,
                      AV.int IntKind.i64
                        (IntKind.wrap IntKind.i64
                          ((↑(List.length (appN A (erS L (getI (nKids x) (Int.toNat 0)) (List.length A)) ++ [(mkN (23) (nAt x) (nTo x) ([]) ([]) (0) ([]) (0) ([]) (0) (0) (0) ([]))])) : Int) -
                            1)))],
                blks :=
                  [(0, Blk.cells 53 [AV.own 1 1, AV.int IntKind.i64 t]),
                    (1, Blk.list 46 nodeTy 1 false (appN A (erS L (getI (nKids x) (Int.toNat 0)) (List.length A)) ++ [(mkN (23) (nAt x) (nTo x) ([]) ([]) (0) ([]) (0) ([]) (0) (0) (0) ([]))])),
                    (2,
                      Blk.cells 46
                        [AV.int IntKind.i64 (nKind x), AV.int IntKind.i64 (nAt x), AV.int IntKind.i64 (nTo x), AV.sl (Ty.int IntKind.i64) (nKids x), AV.str (nText x),
                          AV.int IntKind.i64 (nBase x), AV.str (nName x), AV.int IntKind.i64 (nDims x), AV.str (nMarks x), AV.int IntKind.i64 (nN x), AV.int IntKind.i64 (nW1 x),
                          AV.int IntKind.i64 (nW2 x), AV.sl (Ty.int IntKind.i64) (nEnds x)])],
                next := 3 }
          else Rs.err 408
      else Rs.err 47
    else Rs.err 1104
  else
    J 0
      { tmps := [(0, AV.ref 0 0), (4, AV.ref 2 0), (7, AV.ref 3 0)],
        blks :=
          [(0, Blk.cells 53 [AV.own 1 1, AV.int IntKind.i64 t]), (1, Blk.list 46 nodeTy 1 false A), (2, Blk.cells 24 [AV.sl nodeTy L, AV.int IntKind.i64 r]),
            (3,
              Blk.cells 46
                [AV.int IntKind.i64 (nKind x), AV.int IntKind.i64 (nAt x), AV.int IntKind.i64 (nTo x), AV.sl (Ty.int IntKind.i64) (nKids x), AV.str (nText x),
                  AV.int IntKind.i64 (nBase x), AV.str (nName x), AV.int IntKind.i64 (nDims x), AV.str (nMarks x), AV.int IntKind.i64 (nN x), AV.int IntKind.i64 (nW1 x),
                  AV.int IntKind.i64 (nW2 x), AV.sl (Ty.int IntKind.i64) (nEnds x)])],
        next := 4 } := by kernel_rfl
theorem piece47e (J : Jump R0) (N : Int) (A : List Nd) (t : Int) (x : Nd) (i j : Int) : resume E (tabI (lib47 N)) (cutsOf 2 cut47 0) J [true, true, false, true, false, true, true, true, true, true, false, true, true, false] fi47.code 1 (mk47e A t x i j) (finK E 2 fi47.results .ok) =
    bif nKind x == 44 then
    bif decide ((↑(List.length A) : Int) ≥ 16384) then
      Rs.ok (Out.ret (AV.int IntKind.i64 0), [Blk.cells 53 [AV.own 1 1, AV.int IntKind.i64 t], Blk.list 46 nodeTy 1 false A])
    else
      bif Nat.ble (List.length (nEnds x)) 17592186044416 then
        bif decide (List.length A + List.length [(mkN (34) (nAt x) (nTo x) ([i, j]) ([61, 61]) (nBase x) (nName x) (nDims x) (nMarks x) (nN x) (nW1 x) (nW2 x) (nEnds x))] < maxRoom) then
          Rs.ok
            (Out.ret
                (AV.int IntKind.i64
                  (IntKind.wrap IntKind.i64
                    ((↑(List.length (A ++ [(mkN (34) (nAt x) (nTo x) ([i, j]) ([61, 61]) (nBase x) (nName x) (nDims x) (nMarks x) (nN x) (nW1 x) (nW2 x) (nEnds x))])) : Int) - 1))),
              [Blk.cells 53 [AV.own 1 2, AV.int IntKind.i64 t],
                Blk.list 46 nodeTy 2 false (A ++ [(mkN (34) (nAt x) (nTo x) ([i, j]) ([61, 61]) (nBase x) (nName x) (nDims x) (nMarks x) (nN x) (nW1 x) (nW2 x) (nEnds x))])])
        else Rs.err 408
      else Rs.err 1000049
  else
    bif decide ((↑(List.length A) : Int) ≥ 16384) then
      Rs.ok (Out.ret (AV.int IntKind.i64 0), [Blk.cells 53 [AV.own 1 1, AV.int IntKind.i64 t], Blk.list 46 nodeTy 1 false A])
    else
      bif Nat.ble (List.length (nEnds x)) 17592186044416 then
        bif decide (List.length A + List.length [(mkN (34) (nAt x) (nTo x) ([i, j]) ([33, 61]) (nBase x) (nName x) (nDims x) (nMarks x) (nN x) (nW1 x) (nW2 x) (nEnds x))] < maxRoom) then
          Rs.ok
            (Out.ret
                (AV.int IntKind.i64
                  (IntKind.wrap IntKind.i64
                    ((↑(List.length (A ++ [(mkN (34) (nAt x) (nTo x) ([i, j]) ([33, 61]) (nBase x) (nName x) (nDims x) (nMarks x) (nN x) (nW1 x) (nW2 x) (nEnds x))])) : Int) - 1))),
              [Blk.cells 53 [AV.own 1 2, AV.int IntKind.i64 t],
                Blk.list 46 nodeTy 2 false (A ++ [(mkN (34) (nAt x) (nTo x) ([i, j]) ([33, 61]) (nBase x) (nName x) (nDims x) (nMarks x) (nN x) (nW1 x) (nW2 x) (nEnds x))])])
        else Rs.err 408
      else Rs.err 1000049 := by kernel_rfl
theorem loop47 (J : Jump R0) (N : Int) (L : List Nd) (r : Int) (A : List Nd) (t : Int) (x : Nd) (Q K : List Int) (l k : Int) : resume E (tabI (lib47 N)) (cutsOf 2 cut47 0) J [true, true, true, true, false, true, false, false] fi47.code 1 (mk47b L r A t x Q K l k) (finK E 2 fi47.results .ok) =
    bif decide (k < l) then
    bif inI k (List.length K) then
      bif okE N L r (getI K (Int.toNat k)) A then
        bif decide (List.length Q + List.length [topE L (getI K (Int.toNat k)) A] < maxRoom) then
          J 1
            {
              tmps :=
                [(0, AV.ref 0 0), (4, AV.ref 2 0), (7, AV.ref 3 0), (13, AV.own 4 0), (75, AV.sl (Ty.int IntKind.i64) K), (76, AV.int IntKind.i64 l),
                  (77, AV.int IntKind.i64 (IntKind.wrap IntKind.i64 (k + 1)))],
              blks :=
                [(0, Blk.cells 53 [AV.own 1 1, AV.int IntKind.i64 t]), (1, Blk.list 46 nodeTy 1 false (appN A (erS L (getI K (Int.toNat k)) (List.length A)))),
                  (2, Blk.cells 24 [AV.sl nodeTy L, AV.int IntKind.i64 r]),
                  (3,
                    Blk.cells 46
                      [AV.int IntKind.i64 (nKind x), AV.int IntKind.i64 (nAt x), AV.int IntKind.i64 (nTo x), AV.sl (Ty.int IntKind.i64) (nKids x), AV.str (nText x),
                        AV.int IntKind.i64 (nBase x), AV.str (nName x), AV.int IntKind.i64 (nDims x), AV.str (nMarks x), AV.int IntKind.i64 (nN x), AV.int IntKind.i64 (nW1 x),
                        AV.int IntKind.i64 (nW2 x), AV.sl (Ty.int IntKind.i64) (nEnds x)]),
                  (4, Blk.list 3 (Ty.int IntKind.i64) 0 false (Q ++ [topE L (getI K (Int.toNat k)) A]))],
              next := 5 }
        else Rs.err 2306
      else Rs.err 47
    else Rs.err 2200
  else
    bif
        decide (0 ≤ (↑(List.length (nMarks x)) : Int)) &&
          (decide ((↑(List.length (nMarks x)) : Int) ≤ 9223372036854775807) && Nat.ble (List.length [32] * Int.toNat (↑(List.length (nMarks x)) : Int)) 140737488355328) then
      bif decide ((↑(List.length A) : Int) ≥ 16384) then
        Rs.ok (Out.ret (AV.int IntKind.i64 0), [Blk.cells 53 [AV.own 1 1, AV.int IntKind.i64 t], Blk.list 46 nodeTy 1 false A])
      else
        bif Nat.ble (List.length Q) 17592186044416 then
          bif Nat.ble (List.length (nEnds x)) 17592186044416 then
            bif
                decide
                  (List.length A +
                      List.length
                        [(mkN (nKind x) (nAt x) (nTo x) (Q) (nText x) (nBase x) (nName x) (nDims x) (Lib.repeatL [32] (Int.toNat (↑(List.length (nMarks x)) : Int))) (nN x) (nW1 x) (nW2 x) (nEnds x))] <
                    maxRoom) then
              Rs.ok
                (Out.ret
                    (AV.int IntKind.i64
                      (IntKind.wrap IntKind.i64
                        ((↑(List.length
                                (A ++
                                  [(mkN (nKind x) (nAt x) (nTo x) (Q) (nText x) (nBase x) (nName x) (nDims x) (Lib.repeatL [32] (Int.toNat (↑(List.length (nMarks x)) : Int))) (nN x) (nW1 x) (nW2 x) (nEnds x))])) :
                            Int) -
                          1))),
                  [Blk.cells 53 [AV.own 1 2, AV.int IntKind.i64 t],
                    Blk.list 46 nodeTy 2 false
                      (A ++
                        [(mkN (nKind x) (nAt x) (nTo x) (Q) (nText x) (nBase x) (nName x) (nDims x) (Lib.repeatL [32] (Int.toNat (↑(List.length (nMarks x)) : Int))) (nN x) (nW1 x) (nW2 x) (nEnds x))])])
            else Rs.err 408
          else Rs.err 1000049
        else Rs.err 1000049
    else Rs.err 1000055 := by kernel_rfl
end Go.Sx.Tryd
namespace Go.Sx.Tryd
open Go Go.Sx Go.Proofs
set_option maxRecDepth 100000
theorem okE_eq (N : Int) (L : List Nd) (r a : Int) (A : List Nd) : okE N L r a A = (okLR L r && (L.all fineN && (L.all endsN && (inI a L.length && (decide (a < N) && decide (A.length + (erS L a A.length).length ≤ 16384)))))) := rfl
theorem okE_of {N : Int} {L : List Nd} {r k : Int} {A : List Nd} (hok : okLR L r = true) (hfine : L.all fineN = true) (he : L.all endsN = true) (h0 : 0 ≤ k) (h1 : k < (L.length : Int)) (hN : k < N) (hb : A.length + (erN L k.toNat A.length).length ≤ 16384) : okE N L r k A = true := by
  have h8 : inI k L.length = true := inI_of h0 h1
  have h9 : decide (k < N) = true := decide_eq_true hN
  have h10 : decide (A.length + (erS L k A.length).length ≤ 16384) = true := decide_eq_true hb
  rw [okE_eq, hok, hfine, he, h8, h9, h10]
  rfl
def Fin47 (N : Int) (j : Nat) (st : St) (o : R0) : Prop := ∃ fuel, pieces (R := R0) E (tabI (lib47 N)) fi47 cut47 2 .ok fuel j st = .ok o
def outE (g : Nat) (A : List Nd) (t top : Int) : R0 := (.ret (.int .i64 top), [.cells 53 [.own 1 g, .int .i64 t], .list 46 nodeTy g false A])
/-- of another kind -/
def kN (x : Nd) : Nd := mkN (bif nKind x == 42 then 23 else nKind x) (nAt x) (nTo x) (nKids x) (nText x) (nBase x) (nName x) (nDims x) (nMarks x) (nN x) (nW1 x) (nW2 x) (nEnds x)
theorem repeat_bl (m : List UInt8) : Lib.repeatL [32] m.length = bl m := by
  unfold bl
  induction m with
  | nil => rfl
  | cons c m ih =>
    rw [List.length_cons, List.replicate_succ, ← ih]
    rfl
theorem end_kN (x : Nd) (Q : List Int) : mkN (nKind (kN x)) (nAt (kN x)) (nTo (kN x)) Q (nText (kN x)) (nBase (kN x)) (nName (kN x)) (nDims (kN x)) (Lib.repeatL [32] (nMarks (kN x)).length) (nN (kN x)) (nW1 (kN x)) (nW2 (kN x)) (nEnds (kN x)) = endN x Q := by
  rw [repeat_bl]
  rfl
def FE (L : List Nd) (k : Int) (c : Nat) : List Nd := erN L k.toNat c
theorem fin47_b {L : List Nd} {r : Int} {N t : Int} (g : Good L r) (hok : okLR L r = true) (hfine : L.all fineN = true) (he : L.all endsN = true) {i : Nat} (hi : i < L.length) (hL : L.length ≤ 1000) (hN : (i : Int) ≤ N) (hK : (nKids (getN L i)).length ≤ 1000) (hm : (nMarks (getN L i)).length ≤ 1000)
    (hE : (nEnds (getN L i)).length ≤ 17592186044416) : ∀ (ks pre : List Int) (A : List Nd) (Q : List Int), nKids (getN L i) = pre ++ ks → Q.length = pre.length → A.length + (eachE (FE L) ks A.length).1.length + 1 ≤ 16384 →
    Fin47 N 1 (mk47b L r A t (kN (getN L i)) Q (nKids (getN L i)) (nKids (getN L i)).length pre.length) (outE 2 (A ++ (eachE (FE L) ks A.length).1 ++ [endN (getN L i) (Q ++ (eachE (FE L) ks A.length).2)]) t ((A.length + (eachE (FE L) ks A.length).1.length : Nat) : Int))
  | [], pre, A, Q, hp, hQ, hb => by
    refine ⟨1, (loop47 (pieces (R := R0) E (tabI (lib47 N)) fi47 cut47 2 .ok 0) N L r A t (kN (getN L i)) Q (nKids (getN L i)) (nKids (getN L i)).length pre.length).trans ?_⟩
    simp only [eachE, List.length_nil, Nat.add_zero] at hb
    have hmr : maxRoom = 68719476736 := rfl
    have h1 : ¬ ((pre.length : Int) < (nKids (getN L i)).length) := by rw [hp, List.append_nil]; omega
    have hQ2 : Q.length ≤ 1000 := by rw [hp, List.append_nil] at hK; omega
    have e1 : nMarks (kN (getN L i)) = nMarks (getN L i) := rfl
    have e2 : nEnds (kN (getN L i)) = nEnds (getN L i) := rfl
    have h2 : (decide (0 ≤ ((nMarks (getN L i)).length : Int)) && (decide (((nMarks (getN L i)).length : Int) ≤ 9223372036854775807) && Nat.ble (List.length ([32] : List UInt8) * Int.toNat ((nMarks (getN L i)).length : Int)) 140737488355328)) = true := by
      simp only [Bool.and_eq_true, decide_eq_true_eq]
      exact ⟨by omega, by omega, Nat.ble_eq_true_of_le (by simp only [List.length_singleton]; omega)⟩
    have h3 : ¬ ((A.length : Int) ≥ 16384) := by omega
    have h4 : Nat.ble Q.length 17592186044416 = true := Nat.ble_eq_true_of_le (by omega)
    have h5 : Nat.ble (nEnds (getN L i)).length 17592186044416 = true := Nat.ble_eq_true_of_le hE
    rw [Int.toNat_natCast] at h2
    simp only [Int.toNat_natCast, end_kN]
    simp only [e1, e2, h1, decide_false, cond_false, eachE, List.append_nil, List.length_nil, Nat.add_zero]
    refine Eq.trans (bif_t h2) ?_
    simp only [h3, h4, h5, decide_false, cond_true, cond_false]
    refine Eq.trans (bif_lt (by simp only [List.length_singleton]; omega)) ?_
    have h6 : IntKind.wrap .i64 (((A ++ [endN (getN L i) Q]).length : Int) - 1) = (A.length : Int) := by
      rw [wrap64 (by simp only [List.length_append, List.length_singleton]; omega) (by simp only [List.length_append, List.length_singleton]; omega)]
      simp only [List.length_append, List.length_singleton]
      omega
    rw [h6]
    rfl
  | k :: ks, pre, A, Q, hp, hQ, hb => by
    have hlen : pre.length + 1 + ks.length = (nKids (getN L i)).length := by rw [hp]; simp; omega
    obtain ⟨k0, k1, k2⟩ := g.kid hi (k := k) (by rw [hp]; simp)
    have h5 : (((pre ++ [k]).length : Nat) : Int) = (pre.length : Int) + 1 := by simp
    have hmr : maxRoom = 68719476736 := rfl
    have hlA : (A ++ FE L k A.length).length = A.length + (FE L k A.length).length := List.length_append
    simp only [eachE, List.length_append] at hb
    obtain ⟨fuel, ih⟩ := fin47_b (t := t) g hok hfine he hi hL hN hK hm hE ks (pre ++ [k]) (A ++ FE L k A.length) (Q ++ [(((A.length + (FE L k A.length).length : Nat) : Int) - 1)]) (by simp [hp]) (by simp [hQ]) (by rw [hlA]; omega)
    refine ⟨fuel + 1, (loop47 (pieces (R := R0) E (tabI (lib47 N)) fi47 cut47 2 .ok fuel) N L r A t (kN (getN L i)) Q (nKids (getN L i)) (nKids (getN L i)).length pre.length).trans ?_⟩
    have h1 : (pre.length : Int) < (nKids (getN L i)).length := by omega
    have h3 : inI (pre.length : Int) (nKids (getN L i)).length = true := by rw [hp]; exact inI_appI _ _ _
    have h4 : getI (nKids (getN L i)) pre.length = k := by rw [hp]; exact getI_app _ _ _
    have h6 : IntKind.wrap .i64 ((pre.length : Int) + 1) = (pre.length : Int) + 1 := wrap64 (by omega) (by omega)
    have h7 : okE N L r k A = true := okE_of hok hfine he k0 (by omega) (by omega) (by show A.length + (FE L k A.length).length ≤ 16384; omega)
    simp only [h1, h3, h4, h6, h7, Int.toNat_natCast, decide_true, cond_true]
    refine Eq.trans (bif_lt (by simp only [List.length_singleton]; omega)) ?_
    rw [h5, hlA] at ih
    have e1 : A ++ (eachE (FE L) (k :: ks) A.length).1 ++ [endN (getN L i) (Q ++ (eachE (FE L) (k :: ks) A.length).2)] = A ++ FE L k A.length ++ (eachE (FE L) ks (A.length + (FE L k A.length).length)).1 ++ [endN (getN L i) (Q ++ [(((A.length + (FE L k A.length).length : Nat) : Int) - 1)] ++ (eachE (FE L) ks (A.length + (FE L k A.length).length)).2)] := by
      simp only [eachE, List.append_assoc, List.singleton_append]
    have e2 : (A.length + (eachE (FE L) (k :: ks) A.length).1.length : Nat) = A.length + (FE L k A.length).length + (eachE (FE L) ks (A.length + (FE L k A.length).length)).1.length := by
      simp only [eachE, List.length_append]
      omega
    rw [e1, e2]
    exact ih
end Go.Sx.Tryd
namespace Go.Sx.Tryd
open Go Go.Sx Go.Proofs
set_option maxRecDepth 100000
theorem piece47a' (J : Jump R0) (N : Int) (L : List Nd) (r : Int) (A : List Nd) (t : Int) (x : Nd) : resume E (tabI (lib47 N)) (cutsOf 2 cut47 0) J [true, true, true, false] fi47.code 1 (mk47a L r A t x) (finK E 2 fi47.results .ok) = J 1 (mk47b L r A t x [] (nKids x) (nKids x).length 0) := piece47a J N L r A t x
theorem kN_same {x : Nd} (h : (nKind x == 42) = false) : kN x = x := by
  unfold kN
  rw [h]
  rfl
theorem erase_fin {L : List Nd} {r N t a : Int} {A : List Nd} (h : okE (N + 1) L r a A = true) :
    ∃ g fuel, start (R := R0) E (tabI (lib47 N)) fi47 cut47 (pieces (R := R0) E (tabI (lib47 N)) fi47 cut47 2 .ok fuel) [.ref 0 0, .agg (trC L r), .int .i64 a] (bsE A t) .ok = .ok (outE g (A ++ erS L a A.length) t (topE L a A)) := by
  rw [okE_eq] at h
  simp only [Bool.and_eq_true, decide_eq_true_eq] at h
  obtain ⟨hok, hfine, he, hin, hN, hb⟩ := h
  have hin' := inI_iff.1 hin
  have hok' := hok
  simp only [okLR, Bool.and_eq_true, beq_iff_eq] at hok'
  have g := good_of hok'.2
  obtain ⟨hL, hK⟩ := midS_kids hok'.1
  obtain ⟨i, rfl⟩ : ∃ i : Nat, a = (i : Int) := ⟨a.toNat, by omega⟩
  have hi : i < L.length := by omega
  have e0 : erS L i A.length = erN L i A.length := by unfold erS; rw [Int.toNat_natCast]
  have e0' : topE L i A = ((A.length + (erN L i A.length).length : Nat) : Int) - 1 := by unfold topE; rw [e0]
  rw [e0] at hb
  rw [e0', e0]
  have hmem := List.mem_of_getElem? (getN_get hi)
  have hsm : smallN (getN L i) = true := by
    have := hok'.1
    simp only [midS, Bool.and_eq_true] at this
    exact List.all_eq_true.1 this.2 _ hmem
  simp only [smallN, Bool.and_eq_true, decide_eq_true_eq] at hsm
  have hen : (nEnds (getN L i)).length ≤ 17592186044416 := of_decide_eq_true (List.all_eq_true.1 he _ hmem)
  rw [erN_eq g hi] at hb ⊢
  have first : ∀ (o : R0), (∀ b, b = wraps (nKind (getN L i)) → Fin47 N 2 (mk47c L r A t (getN L i) (nKind (getN L i)) b) o) → ∃ fuel, start (R := R0) E (tabI (lib47 N)) fi47 cut47 (pieces (R := R0) E (tabI (lib47 N)) fi47 cut47 2 .ok fuel) [.ref 0 0, .agg (trC L r), .int .i64 i] (bsE A t) .ok = .ok o := fun o ho => by
    obtain ⟨fuel, hf⟩ := ho _ rfl
    refine ⟨fuel, (start47 _ N L r i A t).trans ?_⟩
    rw [hin]
    simp only [Int.toNat_natCast, cond_true]
    unfold wraps at hf
    cases e1 : (nKind (getN L i) == 40)
    · cases e2 : (nKind (getN L i) == 41)
      · simp only [cond_false]
        rw [e1, e2] at hf
        exact hf
      · simp only [cond_false, cond_true]
        rw [e1, e2] at hf
        exact hf
    · simp only [cond_true]
      rw [e1] at hf
      exact hf
  cases hw : wraps (nKind (getN L i))
  · rw [hw] at hb first
    cases ht : tests (nKind (getN L i))
    · rw [ht] at hb
      simp only [cond_false] at hb ⊢
      rw [List.length_append, List.length_singleton] at hb
      refine ⟨2, first _ fun b hb0 => ?_⟩
      subst hb0
      obtain ⟨fuel, hf⟩ := fin47_b (N := N) (t := t) g hok hfine he hi hL (by omega) (hK i hi) (by omega) hen (nKids (getN L i)) [] A [] rfl rfl (by show A.length + (eachE (fun k c => erN L k.toNat c) (nKids (getN L i)) A.length).1.length + 1 ≤ 16384; omega)
      have h0 : Fin47 N 0 (mk47a L r A t (kN (getN L i))) (outE 2 (A ++ (eachE (FE L) (nKids (getN L i)) A.length).1 ++ [endN (getN L i) ([] ++ (eachE (FE L) (nKids (getN L i)) A.length).2)]) t ((A.length + (eachE (FE L) (nKids (getN L i)) A.length).1.length : Nat) : Int)) :=
        ⟨fuel + 1, (piece47a' (pieces (R := R0) E (tabI (lib47 N)) fi47 cut47 2 .ok fuel) N L r A t (kN (getN L i))).trans hf⟩
      have hts' : (nKind (getN L i) == 43) = false ∧ (nKind (getN L i) == 44) = false := by simpa [tests] using ht
      have eo : outE 2 (A ++ ((eachE (fun k c => erN L k.toNat c) (nKids (getN L i)) A.length).1 ++ [endN (getN L i) (eachE (fun k c => erN L k.toNat c) (nKids (getN L i)) A.length).2])) t (((A.length + ((eachE (fun k c => erN L k.toNat c) (nKids (getN L i)) A.length).1 ++ [endN (getN L i) (eachE (fun k c => erN L k.toNat c) (nKids (getN L i)) A.length).2]).length : Nat) : Int) - 1) =
          outE 2 (A ++ (eachE (FE L) (nKids (getN L i)) A.length).1 ++ [endN (getN L i) ([] ++ (eachE (FE L) (nKids (getN L i)) A.length).2)]) t ((A.length + (eachE (FE L) (nKids (getN L i)) A.length).1.length : Nat) : Int) := by
        rw [List.append_assoc, List.length_append, List.length_singleton]
        congr 1
        show ((A.length + ((eachE (FE L) (nKids (getN L i)) A.length).1.length + 1) : Nat) : Int) - 1 = _
        omega
      rw [eo]
      obtain ⟨fuel, h0⟩ := h0
      cases h42 : (nKind (getN L i) == 42)
      · rw [kN_same h42] at h0
        have h3 : Fin47 N 3 (mk47d L r A t (getN L i) false) _ := ⟨fuel + 1, (piece47d (pieces (R := R0) E (tabI (lib47 N)) fi47 cut47 2 .ok fuel) N L r A t (getN L i) false).trans h0⟩
        obtain ⟨fuel, h3⟩ := h3
        refine ⟨fuel + 1, (piece47c (pieces (R := R0) E (tabI (lib47 N)) fi47 cut47 2 .ok fuel) N L r A t (getN L i) _ _).trans ?_⟩
        simp only [h42, hts'.1, hts'.2, cond_false]
        exact h3
      · refine ⟨fuel + 1, (piece47c (pieces (R := R0) E (tabI (lib47 N)) fi47 cut47 2 .ok fuel) N L r A t (getN L i) _ _).trans ?_⟩
        have ek : kN (getN L i) = mkN 23 (nAt (getN L i)) (nTo (getN L i)) (nKids (getN L i)) (nText (getN L i)) (nBase (getN L i)) (nName (getN L i)) (nDims (getN L i)) (nMarks (getN L i)) (nN (getN L i)) (nW1 (getN L i)) (nW2 (getN L i)) (nEnds (getN L i)) := by
          unfold kN
          rw [h42]
          rfl
        rw [ek] at h0
        simp only [h42, cond_false, cond_true]
        exact h0
    · have h0 := g.kid0s hi (by rw [ht, Bool.or_true])
      obtain ⟨k0, k1, k2⟩ := g.kid hi (k := kid0 (getN L i)) (by rw [h0]; simp)
      rw [ht] at hb
      simp only [cond_false, cond_true] at hb ⊢
      simp only [List.length_append, List.length_cons, List.length_nil] at hb
      have hn : inI 0 (nKids (getN L i)).length = true := by rw [h0]; rfl
      have e1 : getI (nKids (getN L i)) (Int.toNat 0) = kid0 (getN L i) := rfl
      have e2 : erS L (kid0 (getN L i)) A.length = erN L (kid0 (getN L i)).toNat A.length := rfl
      have e3 : topE L (kid0 (getN L i)) A = ((A.length + (erN L (kid0 (getN L i)).toNat A.length).length : Nat) : Int) - 1 := rfl
      have h7 : okE N L r (kid0 (getN L i)) A = true := okE_of hok hfine he k0 (by omega) (by omega) (by omega)
      have hmr : maxRoom = 68719476736 := rfl
      generalize hB : erN L (kid0 (getN L i)).toNat A.length = B at hb e2 e3 ⊢
      refine ⟨2, first _ fun b hb0 => ?_⟩
      subst hb0
      have hc : nKind (getN L i) = 43 ∨ nKind (getN L i) = 44 := by simpa [tests] using ht
      have hlen : (A ++ B).length = A.length + B.length := List.length_append
      have h4 : Fin47 N 4 (mk47e (A ++ B ++ [nullN (getN L i)]) t (getN L i) (((A.length + B.length : Nat) : Int) - 1) ((A.length + B.length : Nat) : Int)) (outE 2 (A ++ (B ++ [nullN (getN L i), binN (getN L i) (((A.length + B.length : Nat) : Int) - 1) ((A.length + B.length : Nat) : Int)])) t (((A.length + (B ++ [nullN (getN L i), binN (getN L i) (((A.length + B.length : Nat) : Int) - 1) ((A.length + B.length : Nat) : Int)]).length : Nat) : Int) - 1)) := by
        refine ⟨1, (piece47e (pieces (R := R0) E (tabI (lib47 N)) fi47 cut47 2 .ok 0) N (A ++ B ++ [nullN (getN L i)]) t (getN L i) _ _).trans ?_⟩
        have hl3 : (A ++ B ++ [nullN (getN L i)]).length = A.length + B.length + 1 := by simp only [List.length_append, List.length_singleton]
        have q1 : ¬ (((A ++ B ++ [nullN (getN L i)]).length : Int) ≥ 16384) := by rw [hl3]; omega
        have q2 : Nat.ble (nEnds (getN L i)).length 17592186044416 = true := Nat.ble_eq_true_of_le hen
        have wr : ∀ z : Nd, IntKind.wrap .i64 (((A ++ B ++ [nullN (getN L i)] ++ [z]).length : Int) - 1) = (((A.length + (B ++ [nullN (getN L i), binN (getN L i) (((A.length + B.length : Nat) : Int) - 1) ((A.length + B.length : Nat) : Int)]).length : Nat) : Int) - 1) := fun z => by
          have hl4 : (A ++ B ++ [nullN (getN L i)] ++ [z]).length = A.length + B.length + 2 := by rw [List.length_append, hl3]; rfl
          rw [hl4, wrap64 (by omega) (by omega)]
          simp only [List.length_append, List.length_cons, List.length_nil]
          omega
        have eo : A ++ (B ++ [nullN (getN L i), binN (getN L i) (((A.length + B.length : Nat) : Int) - 1) ((A.length + B.length : Nat) : Int)]) = A ++ B ++ [nullN (getN L i)] ++ [binN (getN L i) (((A.length + B.length : Nat) : Int) - 1) ((A.length + B.length : Nat) : Int)] := by simp only [List.append_assoc]; rfl
        rw [eo]
        simp only [q1, q2, wr, decide_false, cond_false, cond_true]
        rcases hc with e | e
        · have e5 : (nKind (getN L i) == 44) = false := by rw [e]; rfl
          simp only [e5, cond_false]
          refine Eq.trans (bif_lt (by rw [hl3]; simp only [List.length_singleton]; omega)) ?_
          unfold binN
          rw [e5]
          rfl
        · have e5 : (nKind (getN L i) == 44) = true := by rw [e]; rfl
          simp only [e5, cond_true]
          refine Eq.trans (bif_lt (by rw [hl3]; simp only [List.length_singleton]; omega)) ?_
          unfold binN
          rw [e5]
          rfl
      obtain ⟨fuel, h4⟩ := h4
      have h3 : Fin47 N 3 (mk47d L r A t (getN L i) true) (outE 2 (A ++ (B ++ [nullN (getN L i), binN (getN L i) (((A.length + B.length : Nat) : Int) - 1) ((A.length + B.length : Nat) : Int)])) t (((A.length + (B ++ [nullN (getN L i), binN (getN L i) (((A.length + B.length : Nat) : Int) - 1) ((A.length + B.length : Nat) : Int)]).length : Nat) : Int) - 1)) := by
        refine ⟨fuel + 1, (piece47d (pieces (R := R0) E (tabI (lib47 N)) fi47 cut47 2 .ok fuel) N L r A t (getN L i) true).trans ?_⟩
        have ea : appN A B = A ++ B := rfl
        have q1 : ¬ (((A ++ B).length : Int) ≥ 16384) := by rw [hlen]; omega
        simp only [hn, e1, e2, h7, ea, q1, decide_false, cond_false, cond_true]
        refine Eq.trans (bif_lt (by rw [hlen]; simp only [List.length_singleton]; omega)) ?_
        have wr : IntKind.wrap .i64 (((A ++ B ++ [mkN 23 (nAt (getN L i)) (nTo (getN L i)) [] [] 0 [] 0 [] 0 0 0 []]).length : Int) - 1) = ((A.length + B.length : Nat) : Int) := by
          have hl4 : (A ++ B ++ [mkN 23 (nAt (getN L i)) (nTo (getN L i)) [] [] 0 [] 0 [] 0 0 0 []]).length = A.length + B.length + 1 := by rw [List.length_append, hlen]; rfl
          rw [hl4, wrap64 (by omega) (by omega)]
          omega
        rw [wr, e3]
        exact h4
      obtain ⟨fuel, h3⟩ := h3
      refine ⟨fuel + 1, (piece47c (pieces (R := R0) E (tabI (lib47 N)) fi47 cut47 2 .ok fuel) N L r A t (getN L i) _ _).trans ?_⟩
      rcases hc with e | e
      · have q1 : (nKind (getN L i) == 42) = false := by rw [e]; rfl
        have q2 : (nKind (getN L i) == 43) = true := by rw [e]; rfl
        simp only [q1, q2, cond_false, cond_true]
        exact h3
      · have q1 : (nKind (getN L i) == 42) = false := by rw [e]; rfl
        have q2 : (nKind (getN L i) == 43) = false := by rw [e]; rfl
        have q3 : (nKind (getN L i) == 44) = true := by rw [e]; rfl
        simp only [q1, q2, q3, cond_false]
        exact h3
  · have h0 := g.kid0s hi (by rw [hw, Bool.true_or])
    obtain ⟨k0, k1, k2⟩ := g.kid hi (k := kid0 (getN L i)) (by rw [h0]; simp)
    rw [hw] at hb first
    simp only [cond_true] at hb ⊢
    have hn : inI 0 (nKids (getN L i)).length = true := by rw [h0]; rfl
    have e1 : getI (nKids (getN L i)) (Int.toNat 0) = kid0 (getN L i) := rfl
    have h7 : okE N L r (kid0 (getN L i)) A = true := okE_of hok hfine he k0 (by omega) (by omega) hb
    refine ⟨2, first _ fun b hb0 => ?_⟩
    subst hb0
    refine ⟨1, (piece47c (pieces (R := R0) E (tabI (lib47 N)) fi47 cut47 2 .ok 0) N L r A t (getN L i) _ _).trans ?_⟩
    simp only [hn, e1, h7, cond_true]
    rfl
end Go.Sx.Tryd
