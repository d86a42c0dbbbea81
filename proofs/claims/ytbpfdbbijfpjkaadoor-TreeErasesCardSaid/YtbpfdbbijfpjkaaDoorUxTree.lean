/- A part of the proof: see the row's text. -/
import Derived.Test.YtbpfdbbijfpjkaaDoorUxTypes
set_option linter.unusedVariables false
set_option linter.unusedSimpArgs false
namespace Go.Sx.Tryd
open Go Go.Sx
set_option maxRecDepth 100000
abbrev intsTy : Ty := .slice (.int .i64)
abbrev nodeTy : Ty := .pair (.int .i64) (.pair (.int .i64) (.pair (.int .i64) (.pair intsTy (.pair .str (.pair (.int .i64) (.pair .str (.pair (.int .i64) (.pair .str (.pair (.int .i64) (.pair (.int .i64) (.pair (.int .i64) (.pair intsTy .unit))))))))))))
abbrev treeTy : Ty := .pair (.slice nodeTy) (.pair (.int .i64) .unit)
abbrev Nd : Type := nodeTy.den
def nKind (x : Nd) : Int := x.1
def nKids (x : Nd) : List Int := x.2.2.2.1
def nText (x : Nd) : List UInt8 := x.2.2.2.2.1
def nBase (x : Nd) : Int := x.2.2.2.2.2.1
def nName (x : Nd) : List UInt8 := x.2.2.2.2.2.2.1
def nDims (x : Nd) : Int := x.2.2.2.2.2.2.2.1
def nMarks (x : Nd) : List UInt8 := x.2.2.2.2.2.2.2.2.1
def nN (x : Nd) : Int := x.2.2.2.2.2.2.2.2.2.1
def nAt (x : Nd) : Int := x.2.1
def nTo (x : Nd) : Int := x.2.2.1
def nW1 (x : Nd) : Int := x.2.2.2.2.2.2.2.2.2.2.1
def nW2 (x : Nd) : Int := x.2.2.2.2.2.2.2.2.2.2.2.1
def nEnds (x : Nd) : List Int := x.2.2.2.2.2.2.2.2.2.2.2.2.1
def nd0 : Nd := Ty.dflt nodeTy
def getI (l : List Int) (i : Nat) : Int := l.getD i 0
def setI (l : List Int) (i : Nat) (v : Int) : List Int := l.set i v
def getN (l : List Nd) (i : Nat) : Nd := l.getD i nd0
/-- a node's cells -/
def ndC (x : Nd) : List AV := [.int .i64 (nKind x), .int .i64 (nAt x), .int .i64 (nTo x), .sl (.int .i64) (nKids x), .str (nText x), .int .i64 (nBase x), .str (nName x), .int .i64 (nDims x), .str (nMarks x), .int .i64 (nN x), .int .i64 (nW1 x), .int .i64 (nW2 x), .sl (.int .i64) (nEnds x)]
abbrev trC (L : List Nd) (r : Int) : List AV := [.sl nodeTy L, .int .i64 r]
abbrev sigTr : Sig := [(true, treeTy)]
abbrev sigI : Sig := [(false, .int .i64)]

def cut11 : List Cut := [⟨[true, true, false, true, false, false], some ⟨[(10, []), (11, []), (12, [])], []⟩⟩]
def mk11 (L : List Nd) (n i : Int) : St := { tmps := [(10, .sl nodeTy L), (11, .int .i64 n), (12, .int .i64 i)], blks := [], next := 0 }

abbrev ownI : List Sh := [.own 3 (.int .i64)]
def cut12 : List Cut := [⟨[true, true, true, true, true, false, true, false, false], some ⟨[(1, []), (3, []), (4, ownI), (5, [])], [[], []]⟩⟩,
  ⟨[true, true, true, true, true, true, false, true, false, false], some ⟨[(1, []), (3, []), (4, ownI), (6, [])], [[], []]⟩⟩,
  ⟨[true, true, true, true, true, true, false, true, false, false, true, false, false, true, true, true, true, true, true, false, false], some ⟨[(1, []), (3, []), (4, ownI), (6, []), (7, []), (8, [])], [[], [], []]⟩⟩,
  ⟨[true, true, true, true, true, true, true, false, true, false, false], some ⟨[(3, []), (4, ownI), (9, [])], [[]]⟩⟩]
def mk12a (L : List Nd) (r n : Int) (u : List Int) (i : Int) : St := { tmps := [(1, .ref 0 0), (3, .int .i64 n), (4, .own 1 0), (5, .int .i64 i)], blks := [(0, .cells 24 (trC L r)), (1, .list 3 (.int .i64) 0 false u)], next := 2 }
def mk12b (L : List Nd) (r n : Int) (u : List Int) (i : Int) : St := { tmps := [(1, .ref 0 0), (3, .int .i64 n), (4, .own 1 0), (6, .int .i64 i)], blks := [(0, .cells 24 (trC L r)), (1, .list 3 (.int .i64) 0 false u)], next := 2 }
def mk12c (L : List Nd) (r n : Int) (u : List Int) (i : Int) (x : Nd) (k : Int) : St := { tmps := [(1, .ref 0 0), (3, .int .i64 n), (4, .own 1 0), (6, .int .i64 i), (7, .ref 2 0), (8, .int .i64 k)], blks := [(0, .cells 24 (trC L r)), (1, .list 3 (.int .i64) 0 false u), (2, .cells 46 (flat nodeTy x))], next := 3 }
def mk12d (n : Int) (u : List Int) (i : Int) : St := { tmps := [(3, .int .i64 n), (4, .own 0 0), (9, .int .i64 i)], blks := [(0, .list 3 (.int .i64) 0 false u)], next := 1 }

def cut19 : List Cut := [⟨[true, true, true, false, false, false], some ⟨[(2, []), (5, ownI), (6, ownI)], [[], [], []]⟩⟩,
  ⟨[true, true, true, false, false, false, true, false, true, true, true, true, true, false, false], some ⟨[(2, []), (5, ownI), (6, ownI), (7, []), (8, [])], [[], [], []]⟩⟩]
def mk19a (L : List Nd) (r : Int) (o t : List Int) : St := { tmps := [(2, .ref 0 0), (5, .own 1 0), (6, .own 2 0)], blks := [(0, .cells 24 (trC L r)), (1, .list 3 (.int .i64) 0 false o), (2, .list 3 (.int .i64) 0 false t)], next := 3 }
def mk19b (L : List Nd) (r : Int) (o t : List Int) (i k : Int) : St := { tmps := [(2, .ref 0 0), (5, .own 1 0), (6, .own 2 0), (7, .int .i64 i), (8, .int .i64 k)], blks := [(0, .cells 24 (trC L r)), (1, .list 3 (.int .i64) 0 false o), (2, .list 3 (.int .i64) 0 false t)], next := 3 }
end Go.Sx.Tryd
namespace Go.Sx.Tryd
open Go Go.Sx
set_option maxRecDepth 100000
def names : List (List UInt8) := [[], [112, 114, 111, 103, 114, 97, 109], [99, 108, 97, 115, 115], [101, 120, 116, 101, 110, 100, 115], [102, 105, 101, 108, 100], [105, 110, 105, 116], [109, 101, 116, 104, 111, 100], [112, 97, 114, 97, 109], [98, 108, 111, 99, 107], [100, 101, 99, 108], [97, 115, 115, 105, 103, 110], [105, 102], [119, 104, 105, 108, 101], [98, 114, 101, 97, 107], [99, 111, 110, 116, 105, 110, 117, 101], [114, 101, 116, 117, 114, 110], [112, 114, 105, 110, 116], [115, 117, 112, 101, 114], [101, 120, 112, 114], [105, 110, 116], [100, 111, 117, 98, 108, 101], [98, 111, 111, 108], [115, 116, 114], [110, 117, 108, 108], [116, 104, 105, 115], [118, 97, 114], [103, 101, 116], [105, 110, 100, 101, 120], [108, 101, 110, 103, 116, 104], [99, 97, 108, 108], [110, 101, 119], [97, 114, 114, 97, 121], [110, 101, 103], [110, 111, 116], [98, 105, 110, 97, 114, 121], [99, 97, 115, 116], [116, 111, 105, 110, 116], [116, 111, 100, 111, 117, 98, 108, 101], [105, 110, 112, 117, 116], [97, 115, 107], [103, 117, 97, 114, 100], [115, 111, 109, 101], [110, 111, 110, 101], [105, 115, 115, 111, 109, 101], [105, 115, 110, 111, 110, 101], [118, 97, 108]]
def leastL : List Int := [0, 0, 0, 0, 0, 1, 1, 0, 0, 0, 2, 2, 2, 0, 0, 0, 1, 0, 1, 0, 0, 0, 0, 0, 0, 0, 1, 2, 1, 1, 0, 1, 1, 1, 2, 1, 1, 1, 0, 1, 1, 1, 0, 1, 1, 1]
def inK (k : Int) : Bool := decide (0 ≤ k) && decide (k < 46)
def nameS (k : Int) : List UInt8 := bif decide (k < 1) then [] else bif decide (k ≥ 46) then [] else names.getD k.toNat []
def leastS (k : Int) : Int := leastL.getD k.toNat 0
def mostS (k : Int) : Int := bif k == 1 || (k == 2 || (k == 5 || (k == 6 || (k == 8 || (k == 17 || (k == 29 || k == 30)))))) then -1 else bif k == 9 || k == 15 then 1 else bif k == 11 then 3 else leastS k
def txtS (k : Int) : Bool := k == 2 || (k == 3 || (k == 4 || (k == 6 || (k == 7 || (k == 9 || (k == 20 || (k == 22 || (k == 25 || (k == 26 || (k == 29 || k == 34))))))))))
def tydS (k : Int) : Bool := k == 4 || (k == 6 || (k == 7 || (k == 9 || (k == 30 || (k == 31 || k == 35)))))
def inKX (x : Dens sigI) : Bool := inK x.1
def nameX (x : Dens sigI) : Dens sigS := (nameS x.1, ())
def leastX (x : Dens sigI) : Dens sigI := (leastS x.1, ())
def mostX (x : Dens sigI) : Dens sigI := (mostS x.1, ())
def txtX (x : Dens sigI) : Dens sigB := (txtS x.1, ())
def tydX (x : Dens sigI) : Dens sigB := (tydS x.1, ())
noncomputable def libM : List (Nat × Intr) := [(37, specI 37 sigI sigI inKX leastX)]
/-- what is known of the callees, of Check -/
noncomputable def libC : List (Nat × Intr) := [(33, specI 33 sigI sigS (fun _ => true) nameX), (37, specI 37 sigI sigI inKX leastX), (38, specI 38 sigI sigI inKX mostX), (39, specI 39 sigI sigB (fun _ => true) txtX), (40, specI 40 sigI sigB (fun _ => true) tydX),
  (24, specI 24 sigT sigB (fun x => decide (x.1.2.2.2.1.length ≤ 1000)) rightX)]
end Go.Sx.Tryd
namespace Go.Sx.Tryd
open Go Go.Sx
set_option maxRecDepth 100000
theorem body33 (k : Int) : body (R := R0) E (tabI lib1) fi33 [.int .i64 k] [] .ok =
    bif decide (k < 1) then Rs.ok (Out.ret (AV.str []), [])
  else
    bif
        decide
          (k ≥
            (↑(List.length
                  [[], [112, 114, 111, 103, 114, 97, 109], [99, 108, 97, 115, 115], [101, 120, 116, 101, 110, 100, 115], [102, 105, 101, 108, 100], [105, 110, 105, 116],
                    [109, 101, 116, 104, 111, 100], [112, 97, 114, 97, 109], [98, 108, 111, 99, 107], [100, 101, 99, 108], [97, 115, 115, 105, 103, 110], [105, 102],
                    [119, 104, 105, 108, 101], [98, 114, 101, 97, 107], [99, 111, 110, 116, 105, 110, 117, 101], [114, 101, 116, 117, 114, 110], [112, 114, 105, 110, 116],
                    [115, 117, 112, 101, 114], [101, 120, 112, 114], [105, 110, 116], [100, 111, 117, 98, 108, 101], [98, 111, 111, 108], [115, 116, 114], [110, 117, 108, 108],
                    [116, 104, 105, 115], [118, 97, 114], [103, 101, 116], [105, 110, 100, 101, 120], [108, 101, 110, 103, 116, 104], [99, 97, 108, 108], [110, 101, 119],
                    [97, 114, 114, 97, 121], [110, 101, 103], [110, 111, 116], [98, 105, 110, 97, 114, 121], [99, 97, 115, 116], [116, 111, 105, 110, 116],
                    [116, 111, 100, 111, 117, 98, 108, 101], [105, 110, 112, 117, 116], [97, 115, 107], [103, 117, 97, 114, 100], [115, 111, 109, 101], [110, 111, 110, 101],
                    [105, 115, 115, 111, 109, 101], [105, 115, 110, 111, 110, 101], [118, 97, 108]]) :
              Int)) then
      Rs.ok (Out.ret (AV.str []), [])
    else
      bif
          inI k
            (List.length
              [[], [112, 114, 111, 103, 114, 97, 109], [99, 108, 97, 115, 115], [101, 120, 116, 101, 110, 100, 115], [102, 105, 101, 108, 100], [105, 110, 105, 116],
                [109, 101, 116, 104, 111, 100], [112, 97, 114, 97, 109], [98, 108, 111, 99, 107], [100, 101, 99, 108], [97, 115, 115, 105, 103, 110], [105, 102],
                [119, 104, 105, 108, 101], [98, 114, 101, 97, 107], [99, 111, 110, 116, 105, 110, 117, 101], [114, 101, 116, 117, 114, 110], [112, 114, 105, 110, 116],
                [115, 117, 112, 101, 114], [101, 120, 112, 114], [105, 110, 116], [100, 111, 117, 98, 108, 101], [98, 111, 111, 108], [115, 116, 114], [110, 117, 108, 108],
                [116, 104, 105, 115], [118, 97, 114], [103, 101, 116], [105, 110, 100, 101, 120], [108, 101, 110, 103, 116, 104], [99, 97, 108, 108], [110, 101, 119],
                [97, 114, 114, 97, 121], [110, 101, 103], [110, 111, 116], [98, 105, 110, 97, 114, 121], [99, 97, 115, 116], [116, 111, 105, 110, 116],
                [116, 111, 100, 111, 117, 98, 108, 101], [105, 110, 112, 117, 116], [97, 115, 107], [103, 117, 97, 114, 100], [115, 111, 109, 101], [110, 111, 110, 101],
                [105, 115, 115, 111, 109, 101], [105, 115, 110, 111, 110, 101], [118, 97, 108]]) then
        Rs.ok
          (Out.ret
              (AV.str
                (List.getD
                  [[], [112, 114, 111, 103, 114, 97, 109], [99, 108, 97, 115, 115], [101, 120, 116, 101, 110, 100, 115], [102, 105, 101, 108, 100], [105, 110, 105, 116],
                    [109, 101, 116, 104, 111, 100], [112, 97, 114, 97, 109], [98, 108, 111, 99, 107], [100, 101, 99, 108], [97, 115, 115, 105, 103, 110], [105, 102],
                    [119, 104, 105, 108, 101], [98, 114, 101, 97, 107], [99, 111, 110, 116, 105, 110, 117, 101], [114, 101, 116, 117, 114, 110], [112, 114, 105, 110, 116],
                    [115, 117, 112, 101, 114], [101, 120, 112, 114], [105, 110, 116], [100, 111, 117, 98, 108, 101], [98, 111, 111, 108], [115, 116, 114], [110, 117, 108, 108],
                    [116, 104, 105, 115], [118, 97, 114], [103, 101, 116], [105, 110, 100, 101, 120], [108, 101, 110, 103, 116, 104], [99, 97, 108, 108], [110, 101, 119],
                    [97, 114, 114, 97, 121], [110, 101, 103], [110, 111, 116], [98, 105, 110, 97, 114, 121], [99, 97, 115, 116], [116, 111, 105, 110, 116],
                    [116, 111, 100, 111, 117, 98, 108, 101], [105, 110, 112, 117, 116], [97, 115, 107], [103, 117, 97, 114, 100], [115, 111, 109, 101], [110, 111, 110, 101],
                    [105, 115, 115, 111, 109, 101], [105, 115, 110, 111, 110, 101], [118, 97, 108]]
                  (Int.toNat k) (Ty.dflt Ty.str))),
            [])
      else Rs.err 402 := by kernel_rfl
theorem body37 (k : Int) : body (R := R0) E (tabI lib1) fi37 [.int .i64 k] [] .ok =
    bif inI k (List.length [0, 0, 0, 0, 0, 1, 1, 0, 0, 0, 2, 2, 2, 0, 0, 0, 1, 0, 1, 0, 0, 0, 0, 0, 0, 0, 1, 2, 1, 1, 0, 1, 1, 1, 2, 1, 1, 1, 0, 1, 1, 1, 0, 1, 1, 1]) then
    Rs.ok
      (Out.ret
          (AV.int IntKind.i64
            (getI [0, 0, 0, 0, 0, 1, 1, 0, 0, 0, 2, 2, 2, 0, 0, 0, 1, 0, 1, 0, 0, 0, 0, 0, 0, 0, 1, 2, 1, 1, 0, 1, 1, 1, 2, 1, 1, 1, 0, 1, 1, 1, 0, 1, 1, 1] (Int.toNat k))),
        [])
  else Rs.err 202 := by kernel_rfl
theorem body38 (k : Int) : body (R := R0) E (tabI libM) fi38 [.int .i64 k] [] .ok =
    bif k == 1 then Rs.ok (Out.ret (AV.int IntKind.i64 (Int.negSucc 0)), [])
  else
    bif k == 2 then Rs.ok (Out.ret (AV.int IntKind.i64 (Int.negSucc 0)), [])
    else
      bif k == 5 then Rs.ok (Out.ret (AV.int IntKind.i64 (Int.negSucc 0)), [])
      else
        bif k == 6 then Rs.ok (Out.ret (AV.int IntKind.i64 (Int.negSucc 0)), [])
        else
          bif k == 8 then Rs.ok (Out.ret (AV.int IntKind.i64 (Int.negSucc 0)), [])
          else
            bif k == 17 then Rs.ok (Out.ret (AV.int IntKind.i64 (Int.negSucc 0)), [])
            else
              bif k == 29 then Rs.ok (Out.ret (AV.int IntKind.i64 (Int.negSucc 0)), [])
              else
                bif k == 30 then Rs.ok (Out.ret (AV.int IntKind.i64 (Int.negSucc 0)), [])
                else
                  bif k == 9 then Rs.ok (Out.ret (AV.int IntKind.i64 (Int.ofNat 1)), [])
                  else
                    bif k == 15 then Rs.ok (Out.ret (AV.int IntKind.i64 (Int.ofNat 1)), [])
                    else
                      bif k == 11 then Rs.ok (Out.ret (AV.int IntKind.i64 (Int.ofNat 3)), [])
                      else bif inKX (k, ()) then Rs.ok (Out.ret (AV.int IntKind.i64 (leastS k)), []) else Rs.err 3000037 := by kernel_rfl
theorem body39 (k : Int) : body (R := R0) E (tabI lib1) fi39 [.int .i64 k] [] .ok =
    bif k == 2 then Rs.ok (Out.ret (AV.bool true), [])
  else
    bif k == 3 then Rs.ok (Out.ret (AV.bool true), [])
    else
      bif k == 4 then Rs.ok (Out.ret (AV.bool true), [])
      else
        bif k == 6 then Rs.ok (Out.ret (AV.bool true), [])
        else
          bif k == 7 then Rs.ok (Out.ret (AV.bool true), [])
          else
            bif k == 9 then Rs.ok (Out.ret (AV.bool true), [])
            else
              bif k == 20 then Rs.ok (Out.ret (AV.bool true), [])
              else
                bif k == 22 then Rs.ok (Out.ret (AV.bool true), [])
                else
                  bif k == 25 then Rs.ok (Out.ret (AV.bool true), [])
                  else bif k == 26 then Rs.ok (Out.ret (AV.bool true), []) else bif k == 29 then Rs.ok (Out.ret (AV.bool true), []) else Rs.ok (Out.ret (AV.bool (k == 34)), []) := by kernel_rfl
theorem body40 (k : Int) : body (R := R0) E (tabI lib1) fi40 [.int .i64 k] [] .ok =
    bif k == 4 then Rs.ok (Out.ret (AV.bool true), [])
  else
    bif k == 6 then Rs.ok (Out.ret (AV.bool true), [])
    else
      bif k == 7 then Rs.ok (Out.ret (AV.bool true), [])
      else
        bif k == 9 then Rs.ok (Out.ret (AV.bool true), [])
        else bif k == 30 then Rs.ok (Out.ret (AV.bool true), []) else bif k == 31 then Rs.ok (Out.ret (AV.bool true), []) else Rs.ok (Out.ret (AV.bool (k == 35)), []) := by kernel_rfl
theorem start11 (J : Jump R0) (L : List Nd) (r : Int) : start E (tabI lib1) fi11 cut11 J [.agg (trC L r)] [] .ok =
    bif decide ((↑(List.length L) : Int) > 300) then Rs.ok (Out.ret (AV.bool false), [])
  else J 0 { tmps := [(10, AV.sl nodeTy L), (11, AV.int IntKind.i64 (↑(List.length L) : Int)), (12, AV.int IntKind.i64 0)], blks := [], next := 0 } := by kernel_rfl
theorem loop11 (J : Jump R0) (L : List Nd) (n i : Int) : resume E (tabI lib1) (cutsOf 0 cut11 0) J [true, true, false, true, false, false] fi11.code 1 (mk11 L n i) (finK E 0 fi11.results .ok) =
    bif decide (i < n) then
    bif inI i (List.length L) then
      bif decide ((↑(List.length (nKids (getN L (Int.toNat i)))) : Int) > 100) then Rs.ok (Out.ret (AV.bool false), [])
      else
        bif decide ((↑(List.length (nText (getN L (Int.toNat i)))) : Int) > 200) then Rs.ok (Out.ret (AV.bool false), [])
        else
          bif decide ((↑(List.length (nName (getN L (Int.toNat i)))) : Int) > 200) then Rs.ok (Out.ret (AV.bool false), [])
          else
            bif decide ((↑(List.length (nMarks (getN L (Int.toNat i)))) : Int) > 50) then Rs.ok (Out.ret (AV.bool false), [])
            else J 0 { tmps := [(10, AV.sl nodeTy L), (11, AV.int IntKind.i64 n), (12, AV.int IntKind.i64 (IntKind.wrap IntKind.i64 (i + 1)))], blks := [], next := 0 }
    else Rs.err 500
  else Rs.ok (Out.ret (AV.bool true), []) := by kernel_rfl
theorem start19 (J : Jump R0) (L : List Nd) (r at0 : Int) : start E (tabI lib1) fi19 cut19 J [.agg (trC L r), .int .i64 at0] [] .ok =
    J 0
    { tmps := [(2, AV.ref 0 0), (5, AV.own 1 0), (6, AV.own 2 0)],
      blks := [(0, Blk.cells 24 [AV.sl nodeTy L, AV.int IntKind.i64 r]), (1, Blk.list 3 (Ty.int IntKind.i64) 0 false []), (2, Blk.list 3 (Ty.int IntKind.i64) 0 false [at0])],
      next := 3 } := by kernel_rfl
theorem loop19a (J : Jump R0) (L : List Nd) (r : Int) (o t : List Int) : resume E (tabI lib1) (cutsOf 0 cut19 0) J [true, true, true, false, false, false] fi19.code 1 (mk19a L r o t) (finK E 0 fi19.results .ok) =
    bif decide ((↑(List.length t) : Int) > 0) then
    bif inI (IntKind.wrap IntKind.i64 ((↑(List.length t) : Int) - 1)) (List.length t) then
      bif inB 0 (IntKind.wrap IntKind.i64 ((↑(List.length t) : Int) - 1)) (List.length t) then
        bif decide (getI t (Int.toNat (IntKind.wrap IntKind.i64 ((↑(List.length t) : Int) - 1))) < 0) then
          J 0
            { tmps := [(2, AV.ref 0 0), (5, AV.own 1 0), (6, AV.own 2 0)],
              blks :=
                [(0, Blk.cells 24 [AV.sl nodeTy L, AV.int IntKind.i64 r]), (1, Blk.list 3 (Ty.int IntKind.i64) 0 false o),
                  (2, Blk.list 3 (Ty.int IntKind.i64) 0 false (List.take (Int.toNat (IntKind.wrap IntKind.i64 ((↑(List.length t) : Int) - 1))) t))],
              next := 3 }
        else
          bif decide (getI t (Int.toNat (IntKind.wrap IntKind.i64 ((↑(List.length t) : Int) - 1))) ≥ (↑(List.length L) : Int)) then
            J 0
              { tmps := [(2, AV.ref 0 0), (5, AV.own 1 0), (6, AV.own 2 0)],
                blks :=
                  [(0, Blk.cells 24 [AV.sl nodeTy L, AV.int IntKind.i64 r]), (1, Blk.list 3 (Ty.int IntKind.i64) 0 false o),
                    (2, Blk.list 3 (Ty.int IntKind.i64) 0 false (List.take (Int.toNat (IntKind.wrap IntKind.i64 ((↑(List.length t) : Int) - 1))) t))],
                next := 3 }
          else
            bif decide ((↑(List.length o) : Int) ≥ 16384) then
              J 0
                { tmps := [(2, AV.ref 0 0), (5, AV.own 1 0), (6, AV.own 2 0)],
                  blks :=
                    [(0, Blk.cells 24 [AV.sl nodeTy L, AV.int IntKind.i64 r]), (1, Blk.list 3 (Ty.int IntKind.i64) 0 false o),
                      (2, Blk.list 3 (Ty.int IntKind.i64) 0 false (List.take (Int.toNat (IntKind.wrap IntKind.i64 ((↑(List.length t) : Int) - 1))) t))],
                  next := 3 }
            else
              bif decide (List.length o + List.length [getI t (Int.toNat (IntKind.wrap IntKind.i64 ((↑(List.length t) : Int) - 1)))] < maxRoom) then
                bif inI (getI t (Int.toNat (IntKind.wrap IntKind.i64 ((↑(List.length t) : Int) - 1)))) (List.length L) then
                  J 1
                    {
                      tmps :=
                        [(2, AV.ref 0 0), (5, AV.own 1 0), (6, AV.own 2 0), (7, AV.int IntKind.i64 (getI t (Int.toNat (IntKind.wrap IntKind.i64 ((↑(List.length t) : Int) - 1))))),
                          (8,
                            AV.int IntKind.i64
                              (IntKind.wrap IntKind.i64
                                ((↑(List.length (nKids (getN L (Int.toNat (getI t (Int.toNat (IntKind.wrap IntKind.i64 ((↑(List.length t) : Int) - 1)))))))) : Int) - 1)))],
                      blks :=
                        [(0, Blk.cells 24 [AV.sl nodeTy L, AV.int IntKind.i64 r]),
                          (1, Blk.list 3 (Ty.int IntKind.i64) 0 false (o ++ [getI t (Int.toNat (IntKind.wrap IntKind.i64 ((↑(List.length t) : Int) - 1)))])),
                          (2, Blk.list 3 (Ty.int IntKind.i64) 0 false (List.take (Int.toNat (IntKind.wrap IntKind.i64 ((↑(List.length t) : Int) - 1))) t))],
                      next := 3 }
                else Rs.err 803
              else Rs.err 703
      else Rs.err 504
    else Rs.err 404
  else Rs.ok (Out.ret (AV.own 0 0), [Blk.list 3 (Ty.int IntKind.i64) 0 false o]) := by kernel_rfl
theorem loop19b (J : Jump R0) (L : List Nd) (r : Int) (o t : List Int) (i k : Int) : resume E (tabI lib1) (cutsOf 0 cut19 0) J [true, true, true, false, false, false, true, false, true, true, true, true, true, false, false] fi19.code 1 (mk19b L r o t i k) (finK E 0 fi19.results .ok) =
    bif decide (k ≥ 0) then
    bif inI i (List.length L) then
      bif inI k (List.length (nKids (getN L (Int.toNat i)))) then
        bif decide (getI (nKids (getN L (Int.toNat i))) (Int.toNat k) < i) then
          bif decide (List.length t + List.length [getI (nKids (getN L (Int.toNat i))) (Int.toNat k)] < maxRoom) then
            J 1
              { tmps := [(2, AV.ref 0 0), (5, AV.own 1 0), (6, AV.own 2 0), (7, AV.int IntKind.i64 i), (8, AV.int IntKind.i64 (IntKind.wrap IntKind.i64 (k - 1)))],
                blks :=
                  [(0, Blk.cells 24 [AV.sl nodeTy L, AV.int IntKind.i64 r]), (1, Blk.list 3 (Ty.int IntKind.i64) 0 false o),
                    (2, Blk.list 3 (Ty.int IntKind.i64) 0 false (t ++ [getI (nKids (getN L (Int.toNat i))) (Int.toNat k)]))],
                next := 3 }
          else Rs.err 1303
        else
          J 1
            { tmps := [(2, AV.ref 0 0), (5, AV.own 1 0), (6, AV.own 2 0), (7, AV.int IntKind.i64 i), (8, AV.int IntKind.i64 (IntKind.wrap IntKind.i64 (k - 1)))],
              blks := [(0, Blk.cells 24 [AV.sl nodeTy L, AV.int IntKind.i64 r]), (1, Blk.list 3 (Ty.int IntKind.i64) 0 false o), (2, Blk.list 3 (Ty.int IntKind.i64) 0 false t)],
              next := 3 }
      else Rs.err 1107
    else Rs.err 1103
  else
    J 0
      { tmps := [(2, AV.ref 0 0), (5, AV.own 1 0), (6, AV.own 2 0)],
        blks := [(0, Blk.cells 24 [AV.sl nodeTy L, AV.int IntKind.i64 r]), (1, Blk.list 3 (Ty.int IntKind.i64) 0 false o), (2, Blk.list 3 (Ty.int IntKind.i64) 0 false t)],
        next := 3 } := by kernel_rfl
theorem start12 (J : Jump R0) (L : List Nd) (r : Int) : start E (tabI libC) fi12 cut12 J [.agg (trC L r)] [] .ok =
    bif decide ((↑(List.length L) : Int) > 16384) then Rs.ok (Out.ret (AV.int IntKind.i64 (Int.ofNat 2)), [])
  else
    bif (↑(List.length L) : Int) == 0 then Rs.ok (Out.ret (AV.int IntKind.i64 (Int.ofNat 5)), [])
    else
      bif r != IntKind.wrap IntKind.i64 ((↑(List.length L) : Int) - 1) then Rs.ok (Out.ret (AV.int IntKind.i64 (Int.ofNat 5)), [])
      else
        bif inI r (List.length L) then
          bif nKind (getN L (Int.toNat r)) != 1 then Rs.ok (Out.ret (AV.int IntKind.i64 (Int.ofNat 5)), [])
          else
            J 0
              { tmps := [(1, AV.ref 0 0), (3, AV.int IntKind.i64 (↑(List.length L) : Int)), (4, AV.own 1 0), (5, AV.int IntKind.i64 0)],
                blks := [(0, Blk.cells 24 [AV.sl nodeTy L, AV.int IntKind.i64 r]), (1, Blk.list 3 (Ty.int IntKind.i64) 0 false [])], next := 2 }
        else Rs.err 414 := by kernel_rfl
theorem loop12a (J : Jump R0) (L : List Nd) (r n : Int) (u : List Int) (i : Int) : resume E (tabI libC) (cutsOf 0 cut12 0) J [true, true, true, true, true, false, true, false, false] fi12.code 1 (mk12a L r n u i) (finK E 0 fi12.results .ok) =
    bif decide (i < n) then
    bif decide (List.length u + List.length [0] < maxRoom) then
      J 0
        { tmps := [(1, AV.ref 0 0), (3, AV.int IntKind.i64 n), (4, AV.own 1 0), (5, AV.int IntKind.i64 (IntKind.wrap IntKind.i64 (i + 1)))],
          blks := [(0, Blk.cells 24 [AV.sl nodeTy L, AV.int IntKind.i64 r]), (1, Blk.list 3 (Ty.int IntKind.i64) 0 false (u ++ [0]))], next := 2 }
    else Rs.err 1002
  else
    J 1
      { tmps := [(1, AV.ref 0 0), (3, AV.int IntKind.i64 n), (4, AV.own 1 0), (6, AV.int IntKind.i64 0)],
        blks := [(0, Blk.cells 24 [AV.sl nodeTy L, AV.int IntKind.i64 r]), (1, Blk.list 3 (Ty.int IntKind.i64) 0 false u)], next := 2 } := by kernel_rfl
theorem loop12b (J : Jump R0) (L : List Nd) (r n : Int) (u : List Int) (i : Int) : resume E (tabI libC) (cutsOf 0 cut12 0) J [true, true, true, true, true, true, false, true, false, false] fi12.code 1 (mk12b L r n u i) (finK E 0 fi12.results .ok) =
    bif decide (i < n) then
    bif inI i (List.length L) then
      bif nameS (nKind (getN L (Int.toNat i))) == [] then Rs.ok (Out.ret (AV.int IntKind.i64 (Int.ofNat 3)), [])
      else
        bif inKX (nKind (getN L (Int.toNat i)), ()) then
          bif decide ((↑(List.length (nKids (getN L (Int.toNat i)))) : Int) < leastS (nKind (getN L (Int.toNat i)))) then Rs.ok (Out.ret (AV.int IntKind.i64 (Int.ofNat 131)), [])
          else
            bif inKX (nKind (getN L (Int.toNat i)), ()) then
              bif decide (mostS (nKind (getN L (Int.toNat i))) ≥ 0) then
                bif inKX (nKind (getN L (Int.toNat i)), ()) then
                  bif decide ((↑(List.length (nKids (getN L (Int.toNat i)))) : Int) > mostS (nKind (getN L (Int.toNat i)))) then
                    Rs.ok (Out.ret (AV.int IntKind.i64 (Int.ofNat 131)), [])
                  else
                    bif !txtS (nKind (getN L (Int.toNat i))) then
                      bif !nText (getN L (Int.toNat i)) == [] then Rs.ok (Out.ret (AV.int IntKind.i64 (Int.ofNat 5)), [])
                      else
                        bif tydS (nKind (getN L (Int.toNat i))) then
                          bif decide (List.length (nMarks (getN L (Int.toNat i))) ≤ 1000) then
                            bif !rightS (nBase (getN L (Int.toNat i))) (nName (getN L (Int.toNat i))) (nDims (getN L (Int.toNat i))) (nMarks (getN L (Int.toNat i))) then
                              Rs.ok (Out.ret (AV.int IntKind.i64 (Int.ofNat 5)), [])
                            else
                              bif !tydS (nKind (getN L (Int.toNat i))) then
                                bif nBase (getN L (Int.toNat i)) != 0 then Rs.ok (Out.ret (AV.int IntKind.i64 (Int.ofNat 5)), [])
                                else
                                  bif !nName (getN L (Int.toNat i)) == [] then Rs.ok (Out.ret (AV.int IntKind.i64 (Int.ofNat 5)), [])
                                  else
                                    bif nDims (getN L (Int.toNat i)) != 0 then Rs.ok (Out.ret (AV.int IntKind.i64 (Int.ofNat 5)), [])
                                    else
                                      bif !nMarks (getN L (Int.toNat i)) == [] then Rs.ok (Out.ret (AV.int IntKind.i64 (Int.ofNat 5)), [])
                                      else
                                        J 2
                                          {
                                            tmps :=
                                              [(1, AV.ref 0 0), (3, AV.int IntKind.i64 n), (4, AV.own 1 0), (6, AV.int IntKind.i64 i), (7, AV.ref 2 0),
                                                (8, AV.int IntKind.i64 0)],
                                            blks :=
                                              [(0, Blk.cells 24 [AV.sl nodeTy L, AV.int IntKind.i64 r]), (1, Blk.list 3 (Ty.int IntKind.i64) 0 false u),
                                                (2,
                                                  Blk.cells 46
                                                    [AV.int IntKind.i64 (nKind (getN L (Int.toNat i))), AV.int IntKind.i64 (nAt (getN L (Int.toNat i))),
                                                      AV.int IntKind.i64 (nTo (getN L (Int.toNat i))), AV.sl (Ty.int IntKind.i64) (nKids (getN L (Int.toNat i))),
                                                      AV.str (nText (getN L (Int.toNat i))), AV.int IntKind.i64 (nBase (getN L (Int.toNat i))), AV.str (nName (getN L (Int.toNat i))),
                                                      AV.int IntKind.i64 (nDims (getN L (Int.toNat i))), AV.str (nMarks (getN L (Int.toNat i))),
                                                      AV.int IntKind.i64 (nN (getN L (Int.toNat i))), AV.int IntKind.i64 (nW1 (getN L (Int.toNat i))),
                                                      AV.int IntKind.i64 (nW2 (getN L (Int.toNat i))), AV.sl (Ty.int IntKind.i64) (nEnds (getN L (Int.toNat i)))])],
                                            next := 3 }
                              else
                                J 2
                                  {
                                    tmps :=
                                      [(1, AV.ref 0 0), (3, AV.int IntKind.i64 n), (4, AV.own 1 0), (6, AV.int IntKind.i64 i), (7, AV.ref 2 0),
                                        (8, AV.int IntKind.i64 0)],
                                    blks :=
                                      [(0, Blk.cells 24 [AV.sl nodeTy L, AV.int IntKind.i64 r]), (1, Blk.list 3 (Ty.int IntKind.i64) 0 false u),
                                        (2,
                                          Blk.cells 46
                                            [AV.int IntKind.i64 (nKind (getN L (Int.toNat i))), AV.int IntKind.i64 (nAt (getN L (Int.toNat i))),
                                              AV.int IntKind.i64 (nTo (getN L (Int.toNat i))), AV.sl (Ty.int IntKind.i64) (nKids (getN L (Int.toNat i))),
                                              AV.str (nText (getN L (Int.toNat i))), AV.int IntKind.i64 (nBase (getN L (Int.toNat i))), AV.str (nName (getN L (Int.toNat i))),
                                              AV.int IntKind.i64 (nDims (getN L (Int.toNat i))), AV.str (nMarks (getN L (Int.toNat i))),
                                              AV.int IntKind.i64 (nN (getN L (Int.toNat i))), AV.int IntKind.i64 (nW1 (getN L (Int.toNat i))),
                                              AV.int IntKind.i64 (nW2 (getN L (Int.toNat i))), AV.sl (Ty.int IntKind.i64) (nEnds (getN L (Int.toNat i)))])],
                                    next := 3 }
                          else Rs.err 3000024
                        else
                          bif !tydS (nKind (getN L (Int.toNat i))) then
                            bif nBase (getN L (Int.toNat i)) != 0 then Rs.ok (Out.ret (AV.int IntKind.i64 (Int.ofNat 5)), [])
                            else
                              bif !nName (getN L (Int.toNat i)) == [] then Rs.ok (Out.ret (AV.int IntKind.i64 (Int.ofNat 5)), [])
                              else
                                bif nDims (getN L (Int.toNat i)) != 0 then Rs.ok (Out.ret (AV.int IntKind.i64 (Int.ofNat 5)), [])
                                else
                                  bif !nMarks (getN L (Int.toNat i)) == [] then Rs.ok (Out.ret (AV.int IntKind.i64 (Int.ofNat 5)), [])
                                  else
                                    J 2
                                      {
                                        tmps :=
                                          [(1, AV.ref 0 0), (3, AV.int IntKind.i64 n), (4, AV.own 1 0), (6, AV.int IntKind.i64 i), (7, AV.ref 2 0),
                                            (8, AV.int IntKind.i64 0)],
                                        blks :=
                                          [(0, Blk.cells 24 [AV.sl nodeTy L, AV.int IntKind.i64 r]), (1, Blk.list 3 (Ty.int IntKind.i64) 0 false u),
                                            (2,
                                              Blk.cells 46
                                                [AV.int IntKind.i64 (nKind (getN L (Int.toNat i))), AV.int IntKind.i64 (nAt (getN L (Int.toNat i))),
                                                  AV.int IntKind.i64 (nTo (getN L (Int.toNat i))), AV.sl (Ty.int IntKind.i64) (nKids (getN L (Int.toNat i))),
                                                  AV.str (nText (getN L (Int.toNat i))), AV.int IntKind.i64 (nBase (getN L (Int.toNat i))), AV.str (nName (getN L (Int.toNat i))),
                                                  AV.int IntKind.i64 (nDims (getN L (Int.toNat i))), AV.str (nMarks (getN L (Int.toNat i))),
                                                  AV.int IntKind.i64 (nN (getN L (Int.toNat i))), AV.int IntKind.i64 (nW1 (getN L (Int.toNat i))),
                                                  AV.int IntKind.i64 (nW2 (getN L (Int.toNat i))), AV.sl (Ty.int IntKind.i64) (nEnds (getN L (Int.toNat i)))])],
                                        next := 3 }
                          else
                            J 2
                              {
                                tmps :=
                                  [(1, AV.ref 0 0), (3, AV.int IntKind.i64 n), (4, AV.own 1 0), (6, AV.int IntKind.i64 i), (7, AV.ref 2 0), (8, AV.int IntKind.i64 0)],
                                blks :=
                                  [(0, Blk.cells 24 [AV.sl nodeTy L, AV.int IntKind.i64 r]), (1, Blk.list 3 (Ty.int IntKind.i64) 0 false u),
                                    (2,
                                      Blk.cells 46
                                        [AV.int IntKind.i64 (nKind (getN L (Int.toNat i))), AV.int IntKind.i64 (nAt (getN L (Int.toNat i))),
                                          AV.int IntKind.i64 (nTo (getN L (Int.toNat i))), AV.sl (Ty.int IntKind.i64) (nKids (getN L (Int.toNat i))),
                                          AV.str (nText (getN L (Int.toNat i))), AV.int IntKind.i64 (nBase (getN L (Int.toNat i))), AV.str (nName (getN L (Int.toNat i))),
                                          AV.int IntKind.i64 (nDims (getN L (Int.toNat i))), AV.str (nMarks (getN L (Int.toNat i))), AV.int IntKind.i64 (nN (getN L (Int.toNat i))),
                                          AV.int IntKind.i64 (nW1 (getN L (Int.toNat i))), AV.int IntKind.i64 (nW2 (getN L (Int.toNat i))),
                                          AV.sl (Ty.int IntKind.i64) (nEnds (getN L (Int.toNat i)))])],
                                next := 3 }
                    else
                      bif tydS (nKind (getN L (Int.toNat i))) then
                        bif decide (List.length (nMarks (getN L (Int.toNat i))) ≤ 1000) then
                          bif !rightS (nBase (getN L (Int.toNat i))) (nName (getN L (Int.toNat i))) (nDims (getN L (Int.toNat i))) (nMarks (getN L (Int.toNat i))) then
                            Rs.ok (Out.ret (AV.int IntKind.i64 (Int.ofNat 5)), [])
                          else
                            bif !tydS (nKind (getN L (Int.toNat i))) then
                              bif nBase (getN L (Int.toNat i)) != 0 then Rs.ok (Out.ret (AV.int IntKind.i64 (Int.ofNat 5)), [])
                              else
                                bif !nName (getN L (Int.toNat i)) == [] then Rs.ok (Out.ret (AV.int IntKind.i64 (Int.ofNat 5)), [])
                                else
                                  bif nDims (getN L (Int.toNat i)) != 0 then Rs.ok (Out.ret (AV.int IntKind.i64 (Int.ofNat 5)), [])
                                  else
                                    bif !nMarks (getN L (Int.toNat i)) == [] then Rs.ok (Out.ret (AV.int IntKind.i64 (Int.ofNat 5)), [])
                                    else
                                      J 2
                                        {
                                          tmps :=
                                            [(1, AV.ref 0 0), (3, AV.int IntKind.i64 n), (4, AV.own 1 0), (6, AV.int IntKind.i64 i), (7, AV.ref 2 0),
                                              (8, AV.int IntKind.i64 0)],
                                          blks :=
                                            [(0, Blk.cells 24 [AV.sl nodeTy L, AV.int IntKind.i64 r]), (1, Blk.list 3 (Ty.int IntKind.i64) 0 false u),
                                              (2,
                                                Blk.cells 46
                                                  [AV.int IntKind.i64 (nKind (getN L (Int.toNat i))), AV.int IntKind.i64 (nAt (getN L (Int.toNat i))),
                                                    AV.int IntKind.i64 (nTo (getN L (Int.toNat i))), AV.sl (Ty.int IntKind.i64) (nKids (getN L (Int.toNat i))),
                                                    AV.str (nText (getN L (Int.toNat i))), AV.int IntKind.i64 (nBase (getN L (Int.toNat i))), AV.str (nName (getN L (Int.toNat i))),
                                                    AV.int IntKind.i64 (nDims (getN L (Int.toNat i))), AV.str (nMarks (getN L (Int.toNat i))),
                                                    AV.int IntKind.i64 (nN (getN L (Int.toNat i))), AV.int IntKind.i64 (nW1 (getN L (Int.toNat i))),
                                                    AV.int IntKind.i64 (nW2 (getN L (Int.toNat i))), AV.sl (Ty.int IntKind.i64) (nEnds (getN L (Int.toNat i)))])],
                                          next := 3 }
                            else
                              J 2
                                {
                                  tmps :=
                                    [(1, AV.ref 0 0), (3, AV.int IntKind.i64 n), (4, AV.own 1 0), (6, AV.int IntKind.i64 i), (7, AV.ref 2 0), (8, AV.int IntKind.i64 0)],
                                  blks :=
                                    [(0, Blk.cells 24 [AV.sl nodeTy L, AV.int IntKind.i64 r]), (1, Blk.list 3 (Ty.int IntKind.i64) 0 false u),
                                      (2,
                                        Blk.cells 46
                                          [AV.int IntKind.i64 (nKind (getN L (Int.toNat i))), AV.int IntKind.i64 (nAt (getN L (Int.toNat i))),
                                            AV.int IntKind.i64 (nTo (getN L (Int.toNat i))), AV.sl (Ty.int IntKind.i64) (nKids (getN L (Int.toNat i))),
                                            AV.str (nText (getN L (Int.toNat i))), AV.int IntKind.i64 (nBase (getN L (Int.toNat i))), AV.str (nName (getN L (Int.toNat i))),
                                            AV.int IntKind.i64 (nDims (getN L (Int.toNat i))), AV.str (nMarks (getN L (Int.toNat i))), AV.int IntKind.i64 (nN (getN L (Int.toNat i))),
                                            AV.int IntKind.i64 (nW1 (getN L (Int.toNat i))), AV.int IntKind.i64 (nW2 (getN L (Int.toNat i))),
                                            AV.sl (Ty.int IntKind.i64) (nEnds (getN L (Int.toNat i)))])],
                                  next := 3 }
                        else Rs.err 3000024
                      else
                        bif !tydS (nKind (getN L (Int.toNat i))) then
                          bif nBase (getN L (Int.toNat i)) != 0 then Rs.ok (Out.ret (AV.int IntKind.i64 (Int.ofNat 5)), [])
                          else
                            bif !nName (getN L (Int.toNat i)) == [] then Rs.ok (Out.ret (AV.int IntKind.i64 (Int.ofNat 5)), [])
                            else
                              bif nDims (getN L (Int.toNat i)) != 0 then Rs.ok (Out.ret (AV.int IntKind.i64 (Int.ofNat 5)), [])
                              else
                                bif !nMarks (getN L (Int.toNat i)) == [] then Rs.ok (Out.ret (AV.int IntKind.i64 (Int.ofNat 5)), [])
                                else
                                  J 2
                                    {
                                      tmps :=
                                        [(1, AV.ref 0 0), (3, AV.int IntKind.i64 n), (4, AV.own 1 0), (6, AV.int IntKind.i64 i), (7, AV.ref 2 0),
                                          (8, AV.int IntKind.i64 0)],
                                      blks :=
                                        [(0, Blk.cells 24 [AV.sl nodeTy L, AV.int IntKind.i64 r]), (1, Blk.list 3 (Ty.int IntKind.i64) 0 false u),
                                          (2,
                                            Blk.cells 46
                                              [AV.int IntKind.i64 (nKind (getN L (Int.toNat i))), AV.int IntKind.i64 (nAt (getN L (Int.toNat i))),
                                                AV.int IntKind.i64 (nTo (getN L (Int.toNat i))), AV.sl (Ty.int IntKind.i64) (nKids (getN L (Int.toNat i))),
                                                AV.str (nText (getN L (Int.toNat i))), AV.int IntKind.i64 (nBase (getN L (Int.toNat i))), AV.str (nName (getN L (Int.toNat i))),
                                                AV.int IntKind.i64 (nDims (getN L (Int.toNat i))), AV.str (nMarks (getN L (Int.toNat i))),
                                                AV.int IntKind.i64 (nN (getN L (Int.toNat i))), AV.int IntKind.i64 (nW1 (getN L (Int.toNat i))),
                                                AV.int IntKind.i64 (nW2 (getN L (Int.toNat i))), AV.sl (Ty.int IntKind.i64) (nEnds (getN L (Int.toNat i)))])],
                                      next := 3 }
                        else
                          J 2
                            {
                              tmps :=
                                [(1, AV.ref 0 0), (3, AV.int IntKind.i64 n), (4, AV.own 1 0), (6, AV.int IntKind.i64 i), (7, AV.ref 2 0), (8, AV.int IntKind.i64 0)],
                              blks :=
                                [(0, Blk.cells 24 [AV.sl nodeTy L, AV.int IntKind.i64 r]), (1, Blk.list 3 (Ty.int IntKind.i64) 0 false u),
                                  (2,
                                    Blk.cells 46
                                      [AV.int IntKind.i64 (nKind (getN L (Int.toNat i))), AV.int IntKind.i64 (nAt (getN L (Int.toNat i))),
                                        AV.int IntKind.i64 (nTo (getN L (Int.toNat i))), AV.sl (Ty.int IntKind.i64) (nKids (getN L (Int.toNat i))),
                                        AV.str (nText (getN L (Int.toNat i))), AV.int IntKind.i64 (nBase (getN L (Int.toNat i))), AV.str (nName (getN L (Int.toNat i))),
                                        AV.int IntKind.i64 (nDims (getN L (Int.toNat i))), AV.str (nMarks (getN L (Int.toNat i))), AV.int IntKind.i64 (nN (getN L (Int.toNat i))),
                                        AV.int IntKind.i64 (nW1 (getN L (Int.toNat i))), AV.int IntKind.i64 (nW2 (getN L (Int.toNat i))),
                                        AV.sl (Ty.int IntKind.i64) (nEnds (getN L (Int.toNat i)))])],
                              next := 3 }
                else Rs.err 3000038
              else
                bif !txtS (nKind (getN L (Int.toNat i))) then
                  bif !nText (getN L (Int.toNat i)) == [] then Rs.ok (Out.ret (AV.int IntKind.i64 (Int.ofNat 5)), [])
                  else
                    bif tydS (nKind (getN L (Int.toNat i))) then
                      bif decide (List.length (nMarks (getN L (Int.toNat i))) ≤ 1000) then
                        bif !rightS (nBase (getN L (Int.toNat i))) (nName (getN L (Int.toNat i))) (nDims (getN L (Int.toNat i))) (nMarks (getN L (Int.toNat i))) then
                          Rs.ok (Out.ret (AV.int IntKind.i64 (Int.ofNat 5)), [])
                        else
                          bif !tydS (nKind (getN L (Int.toNat i))) then
                            bif nBase (getN L (Int.toNat i)) != 0 then Rs.ok (Out.ret (AV.int IntKind.i64 (Int.ofNat 5)), [])
                            else
                              bif !nName (getN L (Int.toNat i)) == [] then Rs.ok (Out.ret (AV.int IntKind.i64 (Int.ofNat 5)), [])
                              else
                                bif nDims (getN L (Int.toNat i)) != 0 then Rs.ok (Out.ret (AV.int IntKind.i64 (Int.ofNat 5)), [])
                                else
                                  bif !nMarks (getN L (Int.toNat i)) == [] then Rs.ok (Out.ret (AV.int IntKind.i64 (Int.ofNat 5)), [])
                                  else
                                    J 2
                                      {
                                        tmps :=
                                          [(1, AV.ref 0 0), (3, AV.int IntKind.i64 n), (4, AV.own 1 0), (6, AV.int IntKind.i64 i), (7, AV.ref 2 0),
                                            (8, AV.int IntKind.i64 0)],
                                        blks :=
                                          [(0, Blk.cells 24 [AV.sl nodeTy L, AV.int IntKind.i64 r]), (1, Blk.list 3 (Ty.int IntKind.i64) 0 false u),
                                            (2,
                                              Blk.cells 46
                                                [AV.int IntKind.i64 (nKind (getN L (Int.toNat i))), AV.int IntKind.i64 (nAt (getN L (Int.toNat i))),
                                                  AV.int IntKind.i64 (nTo (getN L (Int.toNat i))), AV.sl (Ty.int IntKind.i64) (nKids (getN L (Int.toNat i))),
                                                  AV.str (nText (getN L (Int.toNat i))), AV.int IntKind.i64 (nBase (getN L (Int.toNat i))), AV.str (nName (getN L (Int.toNat i))),
                                                  AV.int IntKind.i64 (nDims (getN L (Int.toNat i))), AV.str (nMarks (getN L (Int.toNat i))),
                                                  AV.int IntKind.i64 (nN (getN L (Int.toNat i))), AV.int IntKind.i64 (nW1 (getN L (Int.toNat i))),
                                                  AV.int IntKind.i64 (nW2 (getN L (Int.toNat i))), AV.sl (Ty.int IntKind.i64) (nEnds (getN L (Int.toNat i)))])],
                                        next := 3 }
                          else
                            J 2
                              {
                                tmps :=
                                  [(1, AV.ref 0 0), (3, AV.int IntKind.i64 n), (4, AV.own 1 0), (6, AV.int IntKind.i64 i), (7, AV.ref 2 0), (8, AV.int IntKind.i64 0)],
                                blks :=
                                  [(0, Blk.cells 24 [AV.sl nodeTy L, AV.int IntKind.i64 r]), (1, Blk.list 3 (Ty.int IntKind.i64) 0 false u),
                                    (2,
                                      Blk.cells 46
                                        [AV.int IntKind.i64 (nKind (getN L (Int.toNat i))), AV.int IntKind.i64 (nAt (getN L (Int.toNat i))),
                                          AV.int IntKind.i64 (nTo (getN L (Int.toNat i))), AV.sl (Ty.int IntKind.i64) (nKids (getN L (Int.toNat i))),
                                          AV.str (nText (getN L (Int.toNat i))), AV.int IntKind.i64 (nBase (getN L (Int.toNat i))), AV.str (nName (getN L (Int.toNat i))),
                                          AV.int IntKind.i64 (nDims (getN L (Int.toNat i))), AV.str (nMarks (getN L (Int.toNat i))), AV.int IntKind.i64 (nN (getN L (Int.toNat i))),
                                          AV.int IntKind.i64 (nW1 (getN L (Int.toNat i))), AV.int IntKind.i64 (nW2 (getN L (Int.toNat i))),
                                          AV.sl (Ty.int IntKind.i64) (nEnds (getN L (Int.toNat i)))])],
                                next := 3 }
                      else Rs.err 3000024
                    else
                      bif !tydS (nKind (getN L (Int.toNat i))) then
                        bif nBase (getN L (Int.toNat i)) != 0 then Rs.ok (Out.ret (AV.int IntKind.i64 (Int.ofNat 5)), [])
                        else
                          bif !nName (getN L (Int.toNat i)) == [] then Rs.ok (Out.ret (AV.int IntKind.i64 (Int.ofNat 5)), [])
                          else
                            bif nDims (getN L (Int.toNat i)) != 0 then Rs.ok (Out.ret (AV.int IntKind.i64 (Int.ofNat 5)), [])
                            else
                              bif !nMarks (getN L (Int.toNat i)) == [] then Rs.ok (Out.ret (AV.int IntKind.i64 (Int.ofNat 5)), [])
                              else
                                J 2
                                  {
                                    tmps :=
                                      [(1, AV.ref 0 0), (3, AV.int IntKind.i64 n), (4, AV.own 1 0), (6, AV.int IntKind.i64 i), (7, AV.ref 2 0),
                                        (8, AV.int IntKind.i64 0)],
                                    blks :=
                                      [(0, Blk.cells 24 [AV.sl nodeTy L, AV.int IntKind.i64 r]), (1, Blk.list 3 (Ty.int IntKind.i64) 0 false u),
                                        (2,
                                          Blk.cells 46
                                            [AV.int IntKind.i64 (nKind (getN L (Int.toNat i))), AV.int IntKind.i64 (nAt (getN L (Int.toNat i))),
                                              AV.int IntKind.i64 (nTo (getN L (Int.toNat i))), AV.sl (Ty.int IntKind.i64) (nKids (getN L (Int.toNat i))),
                                              AV.str (nText (getN L (Int.toNat i))), AV.int IntKind.i64 (nBase (getN L (Int.toNat i))), AV.str (nName (getN L (Int.toNat i))),
                                              AV.int IntKind.i64 (nDims (getN L (Int.toNat i))), AV.str (nMarks (getN L (Int.toNat i))),
                                              AV.int IntKind.i64 (nN (getN L (Int.toNat i))), AV.int IntKind.i64 (nW1 (getN L (Int.toNat i))),
                                              AV.int IntKind.i64 (nW2 (getN L (Int.toNat i))), AV.sl (Ty.int IntKind.i64) (nEnds (getN L (Int.toNat i)))])],
                                    next := 3 }
                      else
                        J 2
                          { tmps := [(1, AV.ref 0 0), (3, AV.int IntKind.i64 n), (4, AV.own 1 0), (6, AV.int IntKind.i64 i), (7, AV.ref 2 0), (8, AV.int IntKind.i64 0)],
                            blks :=
                              [(0, Blk.cells 24 [AV.sl nodeTy L, AV.int IntKind.i64 r]), (1, Blk.list 3 (Ty.int IntKind.i64) 0 false u),
                                (2,
                                  Blk.cells 46
                                    [AV.int IntKind.i64 (nKind (getN L (Int.toNat i))), AV.int IntKind.i64 (nAt (getN L (Int.toNat i))),
                                      AV.int IntKind.i64 (nTo (getN L (Int.toNat i))), AV.sl (Ty.int IntKind.i64) (nKids (getN L (Int.toNat i))),
                                      AV.str (nText (getN L (Int.toNat i))), AV.int IntKind.i64 (nBase (getN L (Int.toNat i))), AV.str (nName (getN L (Int.toNat i))),
                                      AV.int IntKind.i64 (nDims (getN L (Int.toNat i))), AV.str (nMarks (getN L (Int.toNat i))), AV.int IntKind.i64 (nN (getN L (Int.toNat i))),
                                      AV.int IntKind.i64 (nW1 (getN L (Int.toNat i))), AV.int IntKind.i64 (nW2 (getN L (Int.toNat i))),
                                      AV.sl (Ty.int IntKind.i64) (nEnds (getN L (Int.toNat i)))])],
                            next := 3 }
                else
                  bif tydS (nKind (getN L (Int.toNat i))) then
                    bif decide (List.length (nMarks (getN L (Int.toNat i))) ≤ 1000) then
                      bif !rightS (nBase (getN L (Int.toNat i))) (nName (getN L (Int.toNat i))) (nDims (getN L (Int.toNat i))) (nMarks (getN L (Int.toNat i))) then
                        Rs.ok (Out.ret (AV.int IntKind.i64 (Int.ofNat 5)), [])
                      else
                        bif !tydS (nKind (getN L (Int.toNat i))) then
                          bif nBase (getN L (Int.toNat i)) != 0 then Rs.ok (Out.ret (AV.int IntKind.i64 (Int.ofNat 5)), [])
                          else
                            bif !nName (getN L (Int.toNat i)) == [] then Rs.ok (Out.ret (AV.int IntKind.i64 (Int.ofNat 5)), [])
                            else
                              bif nDims (getN L (Int.toNat i)) != 0 then Rs.ok (Out.ret (AV.int IntKind.i64 (Int.ofNat 5)), [])
                              else
                                bif !nMarks (getN L (Int.toNat i)) == [] then Rs.ok (Out.ret (AV.int IntKind.i64 (Int.ofNat 5)), [])
                                else
                                  J 2
                                    {
                                      tmps :=
                                        [(1, AV.ref 0 0), (3, AV.int IntKind.i64 n), (4, AV.own 1 0), (6, AV.int IntKind.i64 i), (7, AV.ref 2 0),
                                          (8, AV.int IntKind.i64 0)],
                                      blks :=
                                        [(0, Blk.cells 24 [AV.sl nodeTy L, AV.int IntKind.i64 r]), (1, Blk.list 3 (Ty.int IntKind.i64) 0 false u),
                                          (2,
                                            Blk.cells 46
                                              [AV.int IntKind.i64 (nKind (getN L (Int.toNat i))), AV.int IntKind.i64 (nAt (getN L (Int.toNat i))),
                                                AV.int IntKind.i64 (nTo (getN L (Int.toNat i))), AV.sl (Ty.int IntKind.i64) (nKids (getN L (Int.toNat i))),
                                                AV.str (nText (getN L (Int.toNat i))), AV.int IntKind.i64 (nBase (getN L (Int.toNat i))), AV.str (nName (getN L (Int.toNat i))),
                                                AV.int IntKind.i64 (nDims (getN L (Int.toNat i))), AV.str (nMarks (getN L (Int.toNat i))),
                                                AV.int IntKind.i64 (nN (getN L (Int.toNat i))), AV.int IntKind.i64 (nW1 (getN L (Int.toNat i))),
                                                AV.int IntKind.i64 (nW2 (getN L (Int.toNat i))), AV.sl (Ty.int IntKind.i64) (nEnds (getN L (Int.toNat i)))])],
                                      next := 3 }
                        else
                          J 2
                            {
                              tmps :=
                                [(1, AV.ref 0 0), (3, AV.int IntKind.i64 n), (4, AV.own 1 0), (6, AV.int IntKind.i64 i), (7, AV.ref 2 0), (8, AV.int IntKind.i64 0)],
                              blks :=
                                [(0, Blk.cells 24 [AV.sl nodeTy L, AV.int IntKind.i64 r]), (1, Blk.list 3 (Ty.int IntKind.i64) 0 false u),
                                  (2,
                                    Blk.cells 46
                                      [AV.int IntKind.i64 (nKind (getN L (Int.toNat i))), AV.int IntKind.i64 (nAt (getN L (Int.toNat i))),
                                        AV.int IntKind.i64 (nTo (getN L (Int.toNat i))), AV.sl (Ty.int IntKind.i64) (nKids (getN L (Int.toNat i))),
                                        AV.str (nText (getN L (Int.toNat i))), AV.int IntKind.i64 (nBase (getN L (Int.toNat i))), AV.str (nName (getN L (Int.toNat i))),
                                        AV.int IntKind.i64 (nDims (getN L (Int.toNat i))), AV.str (nMarks (getN L (Int.toNat i))), AV.int IntKind.i64 (nN (getN L (Int.toNat i))),
                                        AV.int IntKind.i64 (nW1 (getN L (Int.toNat i))), AV.int IntKind.i64 (nW2 (getN L (Int.toNat i))),
                                        AV.sl (Ty.int IntKind.i64) (nEnds (getN L (Int.toNat i)))])],
                              next := 3 }
                    else Rs.err 3000024
                  else
                    bif !tydS (nKind (getN L (Int.toNat i))) then
                      bif nBase (getN L (Int.toNat i)) != 0 then Rs.ok (Out.ret (AV.int IntKind.i64 (Int.ofNat 5)), [])
                      else
                        bif !nName (getN L (Int.toNat i)) == [] then Rs.ok (Out.ret (AV.int IntKind.i64 (Int.ofNat 5)), [])
                        else
                          bif nDims (getN L (Int.toNat i)) != 0 then Rs.ok (Out.ret (AV.int IntKind.i64 (Int.ofNat 5)), [])
                          else
                            bif !nMarks (getN L (Int.toNat i)) == [] then Rs.ok (Out.ret (AV.int IntKind.i64 (Int.ofNat 5)), [])
                            else
                              J 2
                                {
                                  tmps :=
                                    [(1, AV.ref 0 0), (3, AV.int IntKind.i64 n), (4, AV.own 1 0), (6, AV.int IntKind.i64 i), (7, AV.ref 2 0), (8, AV.int IntKind.i64 0)],
                                  blks :=
                                    [(0, Blk.cells 24 [AV.sl nodeTy L, AV.int IntKind.i64 r]), (1, Blk.list 3 (Ty.int IntKind.i64) 0 false u),
                                      (2,
                                        Blk.cells 46
                                          [AV.int IntKind.i64 (nKind (getN L (Int.toNat i))), AV.int IntKind.i64 (nAt (getN L (Int.toNat i))),
                                            AV.int IntKind.i64 (nTo (getN L (Int.toNat i))), AV.sl (Ty.int IntKind.i64) (nKids (getN L (Int.toNat i))),
                                            AV.str (nText (getN L (Int.toNat i))), AV.int IntKind.i64 (nBase (getN L (Int.toNat i))), AV.str (nName (getN L (Int.toNat i))),
                                            AV.int IntKind.i64 (nDims (getN L (Int.toNat i))), AV.str (nMarks (getN L (Int.toNat i))), AV.int IntKind.i64 (nN (getN L (Int.toNat i))),
                                            AV.int IntKind.i64 (nW1 (getN L (Int.toNat i))), AV.int IntKind.i64 (nW2 (getN L (Int.toNat i))),
                                            AV.sl (Ty.int IntKind.i64) (nEnds (getN L (Int.toNat i)))])],
                                  next := 3 }
                    else
                      J 2
                        { tmps := [(1, AV.ref 0 0), (3, AV.int IntKind.i64 n), (4, AV.own 1 0), (6, AV.int IntKind.i64 i), (7, AV.ref 2 0), (8, AV.int IntKind.i64 0)],
                          blks :=
                            [(0, Blk.cells 24 [AV.sl nodeTy L, AV.int IntKind.i64 r]), (1, Blk.list 3 (Ty.int IntKind.i64) 0 false u),
                              (2,
                                Blk.cells 46
                                  [AV.int IntKind.i64 (nKind (getN L (Int.toNat i))), AV.int IntKind.i64 (nAt (getN L (Int.toNat i))),
                                    AV.int IntKind.i64 (nTo (getN L (Int.toNat i))), AV.sl (Ty.int IntKind.i64) (nKids (getN L (Int.toNat i))), AV.str (nText (getN L (Int.toNat i))),
                                    AV.int IntKind.i64 (nBase (getN L (Int.toNat i))), AV.str (nName (getN L (Int.toNat i))), AV.int IntKind.i64 (nDims (getN L (Int.toNat i))),
                                    AV.str (nMarks (getN L (Int.toNat i))), AV.int IntKind.i64 (nN (getN L (Int.toNat i))), AV.int IntKind.i64 (nW1 (getN L (Int.toNat i))),
                                    AV.int IntKind.i64 (nW2 (getN L (Int.toNat i))), AV.sl (Ty.int IntKind.i64) (nEnds (getN L (Int.toNat i)))])],
                          next := 3 }
            else Rs.err 3000038
        else Rs.err 3000037
    else Rs.err 1403
  else J 3 { tmps := [(3, AV.int IntKind.i64 n), (4, AV.own 0 0), (9, AV.int IntKind.i64 0)], blks := [(0, Blk.list 3 (Ty.int IntKind.i64) 0 false u)], next := 1 } := by kernel_rfl
theorem loop12c (J : Jump R0) (L : List Nd) (r n : Int) (u : List Int) (i : Int) (x : Nd) (k : Int) : resume E (tabI libC) (cutsOf 0 cut12 0) J [true, true, true, true, true, true, false, true, false, false, true, false, false, true, true, true, true, true, true, false, false] fi12.code 1 (mk12c L r n u i x k) (finK E 0 fi12.results .ok) =
    bif decide (k < (↑(List.length (nKids x)) : Int)) then
    bif inI k (List.length (nKids x)) then
      bif decide (getI (nKids x) (Int.toNat k) < 0) then Rs.ok (Out.ret (AV.int IntKind.i64 (Int.ofNat 7)), [])
      else
        bif inI k (List.length (nKids x)) then
          bif decide (getI (nKids x) (Int.toNat k) ≥ i) then Rs.ok (Out.ret (AV.int IntKind.i64 (Int.ofNat 7)), [])
          else
            bif inI k (List.length (nKids x)) then
              bif inI (getI (nKids x) (Int.toNat k)) (List.length u) then
                bif decide (getI u (Int.toNat (getI (nKids x) (Int.toNat k))) > 0) then Rs.ok (Out.ret (AV.int IntKind.i64 (Int.ofNat 4)), [])
                else
                  bif inI k (List.length (nKids x)) then
                    bif inI (getI (nKids x) (Int.toNat k)) (List.length u) then
                      J 2
                        {
                          tmps :=
                            [(1, AV.ref 0 0), (3, AV.int IntKind.i64 n), (4, AV.own 1 0), (6, AV.int IntKind.i64 i), (7, AV.ref 2 0),
                              (8, AV.int IntKind.i64 (IntKind.wrap IntKind.i64 (k + 1)))],
                          blks :=
                            [(0, Blk.cells 24 [AV.sl nodeTy L, AV.int IntKind.i64 r]),
                              (1, Blk.list 3 (Ty.int IntKind.i64) 0 false (setI u (Int.toNat (getI (nKids x) (Int.toNat k))) 1)),
                              (2,
                                Blk.cells 46
                                  [AV.int IntKind.i64 (nKind x), AV.int IntKind.i64 (nAt x), AV.int IntKind.i64 (nTo x), AV.sl (Ty.int IntKind.i64) (nKids x), AV.str (nText x),
                                    AV.int IntKind.i64 (nBase x), AV.str (nName x), AV.int IntKind.i64 (nDims x), AV.str (nMarks x), AV.int IntKind.i64 (nN x),
                                    AV.int IntKind.i64 (nW1 x), AV.int IntKind.i64 (nW2 x), AV.sl (Ty.int IntKind.i64) (nEnds x)])],
                          next := 3 }
                    else Rs.err 3006
                  else Rs.err 3004
              else Rs.err 2806
            else Rs.err 2804
        else Rs.err 2610
    else Rs.err 2603
  else
    J 1
      { tmps := [(1, AV.ref 0 0), (3, AV.int IntKind.i64 n), (4, AV.own 1 0), (6, AV.int IntKind.i64 (IntKind.wrap IntKind.i64 (i + 1)))],
        blks := [(0, Blk.cells 24 [AV.sl nodeTy L, AV.int IntKind.i64 r]), (1, Blk.list 3 (Ty.int IntKind.i64) 0 false u)], next := 2 } := by kernel_rfl
theorem loop12d (J : Jump R0) (n : Int) (u : List Int) (i : Int) : resume E (tabI libC) (cutsOf 0 cut12 0) J [true, true, true, true, true, true, true, false, true, false, false] fi12.code 1 (mk12d n u i) (finK E 0 fi12.results .ok) =
    bif decide (i < IntKind.wrap IntKind.i64 (n - 1)) then
    bif inI i (List.length u) then
      bif getI u (Int.toNat i) == 0 then Rs.ok (Out.ret (AV.int IntKind.i64 (Int.ofNat 3)), [])
      else
        J 3
          { tmps := [(3, AV.int IntKind.i64 n), (4, AV.own 0 0), (9, AV.int IntKind.i64 (IntKind.wrap IntKind.i64 (i + 1)))],
            blks := [(0, Blk.list 3 (Ty.int IntKind.i64) 0 false u)], next := 1 }
    else Rs.err 3402
  else Rs.ok (Out.ret (AV.int IntKind.i64 0), []) := by kernel_rfl
end Go.Sx.Tryd
