/- A part of the proof: see the row's text. -/
import Derived.Test.YtbpfdbbijfpjkaaDoorUxSeatIntr
set_option linter.unusedVariables false
set_option linter.unusedSimpArgs false
namespace Go.Sx.Tryd
open Go Go.Sx
set_option maxRecDepth 100000
abbrev typeTy : Ty := .pair (.int .i64) (.pair .str (.pair (.int .i64) (.pair .str .unit)))
noncomputable abbrev E : Env := E0
/-- a type's cells -/
abbrev tyC (b : Int) (n : List UInt8) (d : Int) (m : List UInt8) : List AV := [.int .i64 b, .str n, .int .i64 d, .str m]
abbrev R0 : Type := Out × List Blk
abbrev sigT : Sig := [(true, typeTy)]
abbrev sigB : Sig := [(false, .bool)]
abbrev sigS : Sig := [(false, .str)]

/-- may a mark stand there? -/
def okM (b d i : Int) (c : UInt8) : Bool :=
  bif (c.toNat : Int) == 32 then true else bif (c.toNat : Int) == 63 then (bif i == 0 then b == 5 else true)
  else bif (c.toNat : Int) == 111 then (bif i == 0 then b == 5 else true) && !decide (i < d) else false
def marksOk (b d : Int) : Int → List UInt8 → Bool
  | _, [] => true
  | i, c :: r => okM b d i c && marksOk b d (i + 1) r
/-- may a type be? -/
def rightS (b : Int) (n : List UInt8) (d : Int) (m : List UInt8) : Bool :=
  !decide (d < 0) && (!decide (d > 4) && (((m.length : Int) == d + 1) && (!decide (b < 1) && (!decide (b > 6) && (((b == 5) == (n != [])) && (!(b == 6 && decide (d > 0)) && marksOk b d 0 m))))))
def rightX (x : Dens sigT) : Dens sigB := (rightS x.1.1 x.1.2.1 x.1.2.2.1 x.1.2.2.2.1, ())

/-- a type's text -/
def stepT (s : List UInt8) (i : Int) (c : UInt8) : List UInt8 :=
  let s1 := bif decide (i > 0) then s ++ [91, 93] else s
  bif (c.toNat : Int) == 63 then s1 ++ [63] else bif (c.toNat : Int) == 111 then [79, 112, 116, 105, 111, 110, 60] ++ s1 ++ [62] else s1
def textL (s : List UInt8) : Int → List UInt8 → List UInt8
  | _, [] => s
  | i, c :: r => textL (stepT s i c) (i + 1) r
def baseS (b : Int) (n : List UInt8) : List UInt8 :=
  bif b == 1 then [105, 110, 116] else bif b == 2 then [98, 111, 111, 108] else bif b == 3 then [100, 111, 117, 98, 108, 101] else bif b == 4 then [115, 116, 114] else bif b == 6 then [118, 111, 105, 100] else n
def textS (b : Int) (n : List UInt8) (d : Int) (m : List UInt8) : List UInt8 := textL (baseS b n) 0 m

def cut42 : List Cut := [⟨[true, true, false, true, false, false], some ⟨[(1, []), (52, []), (53, [])], [[]]⟩⟩]
def mk42 (b : Int) (n : List UInt8) (d : Int) (m : List UInt8) (l i : Int) : St := { tmps := [(1, .ref 0 0), (52, .int .i64 l), (53, .int .i64 i)], blks := [(0, .cells 44 (tyC b n d m))], next := 1 }
def cut24 : List Cut := [⟨[true, true, true, false, true, false, false], some ⟨[(1, []), (3, [])], [[]]⟩⟩]
def mk24 (b : Int) (n : List UInt8) (d : Int) (m : List UInt8) (i : Int) : St := { tmps := [(1, .ref 0 0), (3, .int .i64 i)], blks := [(0, .cells 44 (tyC b n d m))], next := 1 }
def cut25 : List Cut := [⟨[true, true, true, false, true, false, false], some ⟨[(1, []), (3, []), (4, [])], [[]]⟩⟩]
def mk25 (b : Int) (n : List UInt8) (d : Int) (m : List UInt8) (s : List UInt8) (i : Int) : St := { tmps := [(1, .ref 0 0), (3, .str s), (4, .int .i64 i)], blks := [(0, .cells 44 (tyC b n d m))], next := 1 }
def cut23 : List Cut := [⟨[true, true, true, true, false, true, false, false], some ⟨[(1, []), (3, []), (24, []), (25, [])], [[]]⟩⟩]
def mk23 (b : Int) (n : List UInt8) (d : Int) (m : List UInt8) (s : List UInt8) (l i : Int) : St := { tmps := [(1, .ref 0 0), (3, .str s), (24, .int .i64 l), (25, .int .i64 i)], blks := [(0, .cells 44 (tyC b n d m))], next := 1 }
/-- what is known of the callees, of TypeText -/
noncomputable def libT : List (Nat × Intr) := (42, specI 42 sigT sigB (fun _ => true) rightX) :: lib1
end Go.Sx.Tryd
namespace Go.Sx.Tryd
open Go Go.Sx
set_option maxRecDepth 100000
theorem start42 (J : Jump R0) (b : Int) (n : List UInt8) (d : Int) (m : List UInt8) : start E (tabI lib1) fi42 cut42 J [.agg (tyC b n d m)] [] .ok =
    bif decide (d < 0) then Rs.ok (Out.ret (AV.bool false), [])
  else
    bif decide (d > 4) then Rs.ok (Out.ret (AV.bool false), [])
    else
      bif (↑(List.length m) : Int) != IntKind.wrap IntKind.i64 (d + 1) then Rs.ok (Out.ret (AV.bool false), [])
      else
        bif decide (b < 1) then Rs.ok (Out.ret (AV.bool false), [])
        else
          bif decide (b > 6) then Rs.ok (Out.ret (AV.bool false), [])
          else
            bif !(b == 5) == !n == ([] : List UInt8) then Rs.ok (Out.ret (AV.bool false), [])
            else
              bif b == 6 then
                bif decide (d > 0) then Rs.ok (Out.ret (AV.bool false), [])
                else
                  J 0
                    { tmps := [(1, AV.ref 0 0), (52, AV.int IntKind.i64 (↑(List.length m) : Int)), (53, AV.int IntKind.i64 0)],
                      blks := [(0, Blk.cells 44 [AV.int IntKind.i64 b, AV.str n, AV.int IntKind.i64 d, AV.str m])], next := 1 }
              else
                J 0
                  { tmps := [(1, AV.ref 0 0), (52, AV.int IntKind.i64 (↑(List.length m) : Int)), (53, AV.int IntKind.i64 0)],
                    blks := [(0, Blk.cells 44 [AV.int IntKind.i64 b, AV.str n, AV.int IntKind.i64 d, AV.str m])], next := 1 } := by kernel_rfl
theorem loop42 (J : Jump R0) (b : Int) (n : List UInt8) (d : Int) (m : List UInt8) (l i : Int) : resume E (tabI lib1) (cutsOf 0 cut42 0) J [true, true, false, true, false, false] fi42.code 1 (mk42 b n d m l i) (finK E 0 fi42.results .ok) =
    bif decide (i < l) then
    bif inI i (List.length m) then
      bif (↑(UInt8.toNat (List.getD m (Int.toNat i) 0)) : Int) == 32 then
        J 0
          { tmps := [(1, AV.ref 0 0), (52, AV.int IntKind.i64 l), (53, AV.int IntKind.i64 (IntKind.wrap IntKind.i64 (i + 1)))],
            blks := [(0, Blk.cells 44 [AV.int IntKind.i64 b, AV.str n, AV.int IntKind.i64 d, AV.str m])], next := 1 }
      else
        bif (↑(UInt8.toNat (List.getD m (Int.toNat i) 0)) : Int) == 63 then
          bif (↑(UInt8.toNat (List.getD m (Int.toNat i) 0)) : Int) == 63 then
            bif i == 0 then
              bif b != 5 then Rs.ok (Out.ret (AV.bool false), [])
              else
                bif inI i (List.length m) then
                  bif (↑(UInt8.toNat (List.getD m (Int.toNat i) 0)) : Int) == 111 then
                    bif decide (i < d) then Rs.ok (Out.ret (AV.bool false), [])
                    else
                      J 0
                        { tmps := [(1, AV.ref 0 0), (52, AV.int IntKind.i64 l), (53, AV.int IntKind.i64 (IntKind.wrap IntKind.i64 (i + 1)))],
                          blks := [(0, Blk.cells 44 [AV.int IntKind.i64 b, AV.str n, AV.int IntKind.i64 d, AV.str m])], next := 1 }
                  else
                    J 0
                      { tmps := [(1, AV.ref 0 0), (52, AV.int IntKind.i64 l), (53, AV.int IntKind.i64 (IntKind.wrap IntKind.i64 (i + 1)))],
                        blks := [(0, Blk.cells 44 [AV.int IntKind.i64 b, AV.str n, AV.int IntKind.i64 d, AV.str m])], next := 1 }
                else Rs.err 1111
            else
              bif inI i (List.length m) then
                bif (↑(UInt8.toNat (List.getD m (Int.toNat i) 0)) : Int) == 111 then
                  bif decide (i < d) then Rs.ok (Out.ret (AV.bool false), [])
                  else
                    J 0
                      { tmps := [(1, AV.ref 0 0), (52, AV.int IntKind.i64 l), (53, AV.int IntKind.i64 (IntKind.wrap IntKind.i64 (i + 1)))],
                        blks := [(0, Blk.cells 44 [AV.int IntKind.i64 b, AV.str n, AV.int IntKind.i64 d, AV.str m])], next := 1 }
                else
                  J 0
                    { tmps := [(1, AV.ref 0 0), (52, AV.int IntKind.i64 l), (53, AV.int IntKind.i64 (IntKind.wrap IntKind.i64 (i + 1)))],
                      blks := [(0, Blk.cells 44 [AV.int IntKind.i64 b, AV.str n, AV.int IntKind.i64 d, AV.str m])], next := 1 }
              else Rs.err 1111
          else Rs.ok (Out.ret (AV.bool false), [])
        else
          bif (↑(UInt8.toNat (List.getD m (Int.toNat i) 0)) : Int) == 111 then
            bif i == 0 then
              bif b != 5 then Rs.ok (Out.ret (AV.bool false), [])
              else
                bif inI i (List.length m) then
                  bif (↑(UInt8.toNat (List.getD m (Int.toNat i) 0)) : Int) == 111 then
                    bif decide (i < d) then Rs.ok (Out.ret (AV.bool false), [])
                    else
                      J 0
                        { tmps := [(1, AV.ref 0 0), (52, AV.int IntKind.i64 l), (53, AV.int IntKind.i64 (IntKind.wrap IntKind.i64 (i + 1)))],
                          blks := [(0, Blk.cells 44 [AV.int IntKind.i64 b, AV.str n, AV.int IntKind.i64 d, AV.str m])], next := 1 }
                  else
                    J 0
                      { tmps := [(1, AV.ref 0 0), (52, AV.int IntKind.i64 l), (53, AV.int IntKind.i64 (IntKind.wrap IntKind.i64 (i + 1)))],
                        blks := [(0, Blk.cells 44 [AV.int IntKind.i64 b, AV.str n, AV.int IntKind.i64 d, AV.str m])], next := 1 }
                else Rs.err 1111
            else
              bif inI i (List.length m) then
                bif (↑(UInt8.toNat (List.getD m (Int.toNat i) 0)) : Int) == 111 then
                  bif decide (i < d) then Rs.ok (Out.ret (AV.bool false), [])
                  else
                    J 0
                      { tmps := [(1, AV.ref 0 0), (52, AV.int IntKind.i64 l), (53, AV.int IntKind.i64 (IntKind.wrap IntKind.i64 (i + 1)))],
                        blks := [(0, Blk.cells 44 [AV.int IntKind.i64 b, AV.str n, AV.int IntKind.i64 d, AV.str m])], next := 1 }
                else
                  J 0
                    { tmps := [(1, AV.ref 0 0), (52, AV.int IntKind.i64 l), (53, AV.int IntKind.i64 (IntKind.wrap IntKind.i64 (i + 1)))],
                      blks := [(0, Blk.cells 44 [AV.int IntKind.i64 b, AV.str n, AV.int IntKind.i64 d, AV.str m])], next := 1 }
              else Rs.err 1111
          else Rs.ok (Out.ret (AV.bool false), [])
    else Rs.err 603
  else Rs.ok (Out.ret (AV.bool true), []) := by kernel_rfl
theorem start24 (J : Jump R0) (b : Int) (n : List UInt8) (d : Int) (m : List UInt8) : start E (tabI lib1) fi24 cut24 J [.agg (tyC b n d m)] [] .ok =
    bif decide (d < 0) then Rs.ok (Out.ret (AV.bool false), [])
  else
    bif decide (d > 4) then Rs.ok (Out.ret (AV.bool false), [])
    else
      bif IntKind.wrap IntKind.i64 ((↑(List.length m) : Int) - 1) != d then Rs.ok (Out.ret (AV.bool false), [])
      else
        bif decide (b < 1) then Rs.ok (Out.ret (AV.bool false), [])
        else
          bif decide (b > 6) then Rs.ok (Out.ret (AV.bool false), [])
          else
            bif b == 5 then
              bif n == ([] : List UInt8) then Rs.ok (Out.ret (AV.bool false), [])
              else
                bif b != 5 then
                  bif !n == ([] : List UInt8) then Rs.ok (Out.ret (AV.bool false), [])
                  else
                    bif b == 6 then
                      bif decide (d > 0) then Rs.ok (Out.ret (AV.bool false), [])
                      else
                        J 0
                          { tmps := [(1, AV.ref 0 0), (3, AV.int IntKind.i64 0)],
                            blks := [(0, Blk.cells 44 [AV.int IntKind.i64 b, AV.str n, AV.int IntKind.i64 d, AV.str m])], next := 1 }
                    else
                      J 0
                        { tmps := [(1, AV.ref 0 0), (3, AV.int IntKind.i64 0)],
                          blks := [(0, Blk.cells 44 [AV.int IntKind.i64 b, AV.str n, AV.int IntKind.i64 d, AV.str m])], next := 1 }
                else
                  bif b == 6 then
                    bif decide (d > 0) then Rs.ok (Out.ret (AV.bool false), [])
                    else
                      J 0
                        { tmps := [(1, AV.ref 0 0), (3, AV.int IntKind.i64 0)],
                          blks := [(0, Blk.cells 44 [AV.int IntKind.i64 b, AV.str n, AV.int IntKind.i64 d, AV.str m])], next := 1 }
                  else
                    J 0
                      { tmps := [(1, AV.ref 0 0), (3, AV.int IntKind.i64 0)],
                        blks := [(0, Blk.cells 44 [AV.int IntKind.i64 b, AV.str n, AV.int IntKind.i64 d, AV.str m])], next := 1 }
            else
              bif b != 5 then
                bif !n == ([] : List UInt8) then Rs.ok (Out.ret (AV.bool false), [])
                else
                  bif b == 6 then
                    bif decide (d > 0) then Rs.ok (Out.ret (AV.bool false), [])
                    else
                      J 0
                        { tmps := [(1, AV.ref 0 0), (3, AV.int IntKind.i64 0)],
                          blks := [(0, Blk.cells 44 [AV.int IntKind.i64 b, AV.str n, AV.int IntKind.i64 d, AV.str m])], next := 1 }
                  else
                    J 0
                      { tmps := [(1, AV.ref 0 0), (3, AV.int IntKind.i64 0)],
                        blks := [(0, Blk.cells 44 [AV.int IntKind.i64 b, AV.str n, AV.int IntKind.i64 d, AV.str m])], next := 1 }
              else
                bif b == 6 then
                  bif decide (d > 0) then Rs.ok (Out.ret (AV.bool false), [])
                  else
                    J 0
                      { tmps := [(1, AV.ref 0 0), (3, AV.int IntKind.i64 0)],
                        blks := [(0, Blk.cells 44 [AV.int IntKind.i64 b, AV.str n, AV.int IntKind.i64 d, AV.str m])], next := 1 }
                else
                  J 0
                    { tmps := [(1, AV.ref 0 0), (3, AV.int IntKind.i64 0)], blks := [(0, Blk.cells 44 [AV.int IntKind.i64 b, AV.str n, AV.int IntKind.i64 d, AV.str m])],
                      next := 1 } := by kernel_rfl
theorem loop24 (J : Jump R0) (b : Int) (n : List UInt8) (d : Int) (m : List UInt8) (i : Int) : resume E (tabI lib1) (cutsOf 0 cut24 0) J [true, true, true, false, true, false, false] fi24.code 1 (mk24 b n d m i) (finK E 0 fi24.results .ok) =
    bif decide (i < (↑(List.length m) : Int)) then
    bif inI i (List.length m) then
      bif (↑(UInt8.toNat (List.getD m (Int.toNat i) 0)) : Int) != 32 then
        bif (↑(UInt8.toNat (List.getD m (Int.toNat i) 0)) : Int) != 63 then
          bif (↑(UInt8.toNat (List.getD m (Int.toNat i) 0)) : Int) != 111 then Rs.ok (Out.ret (AV.bool false), [])
          else
            bif (↑(UInt8.toNat (List.getD m (Int.toNat i) 0)) : Int) != 32 then
              bif i == 0 then
                bif b != 5 then Rs.ok (Out.ret (AV.bool false), [])
                else
                  bif (↑(UInt8.toNat (List.getD m (Int.toNat i) 0)) : Int) == 111 then
                    bif decide (i < d) then Rs.ok (Out.ret (AV.bool false), [])
                    else
                      J 0
                        { tmps := [(1, AV.ref 0 0), (3, AV.int IntKind.i64 (IntKind.wrap IntKind.i64 (i + 1)))],
                          blks := [(0, Blk.cells 44 [AV.int IntKind.i64 b, AV.str n, AV.int IntKind.i64 d, AV.str m])], next := 1 }
                  else
                    J 0
                      { tmps := [(1, AV.ref 0 0), (3, AV.int IntKind.i64 (IntKind.wrap IntKind.i64 (i + 1)))],
                        blks := [(0, Blk.cells 44 [AV.int IntKind.i64 b, AV.str n, AV.int IntKind.i64 d, AV.str m])], next := 1 }
              else
                bif (↑(UInt8.toNat (List.getD m (Int.toNat i) 0)) : Int) == 111 then
                  bif decide (i < d) then Rs.ok (Out.ret (AV.bool false), [])
                  else
                    J 0
                      { tmps := [(1, AV.ref 0 0), (3, AV.int IntKind.i64 (IntKind.wrap IntKind.i64 (i + 1)))],
                        blks := [(0, Blk.cells 44 [AV.int IntKind.i64 b, AV.str n, AV.int IntKind.i64 d, AV.str m])], next := 1 }
                else
                  J 0
                    { tmps := [(1, AV.ref 0 0), (3, AV.int IntKind.i64 (IntKind.wrap IntKind.i64 (i + 1)))],
                      blks := [(0, Blk.cells 44 [AV.int IntKind.i64 b, AV.str n, AV.int IntKind.i64 d, AV.str m])], next := 1 }
            else
              bif (↑(UInt8.toNat (List.getD m (Int.toNat i) 0)) : Int) == 111 then
                bif decide (i < d) then Rs.ok (Out.ret (AV.bool false), [])
                else
                  J 0
                    { tmps := [(1, AV.ref 0 0), (3, AV.int IntKind.i64 (IntKind.wrap IntKind.i64 (i + 1)))],
                      blks := [(0, Blk.cells 44 [AV.int IntKind.i64 b, AV.str n, AV.int IntKind.i64 d, AV.str m])], next := 1 }
              else
                J 0
                  { tmps := [(1, AV.ref 0 0), (3, AV.int IntKind.i64 (IntKind.wrap IntKind.i64 (i + 1)))],
                    blks := [(0, Blk.cells 44 [AV.int IntKind.i64 b, AV.str n, AV.int IntKind.i64 d, AV.str m])], next := 1 }
        else
          bif (↑(UInt8.toNat (List.getD m (Int.toNat i) 0)) : Int) != 32 then
            bif i == 0 then
              bif b != 5 then Rs.ok (Out.ret (AV.bool false), [])
              else
                bif (↑(UInt8.toNat (List.getD m (Int.toNat i) 0)) : Int) == 111 then
                  bif decide (i < d) then Rs.ok (Out.ret (AV.bool false), [])
                  else
                    J 0
                      { tmps := [(1, AV.ref 0 0), (3, AV.int IntKind.i64 (IntKind.wrap IntKind.i64 (i + 1)))],
                        blks := [(0, Blk.cells 44 [AV.int IntKind.i64 b, AV.str n, AV.int IntKind.i64 d, AV.str m])], next := 1 }
                else
                  J 0
                    { tmps := [(1, AV.ref 0 0), (3, AV.int IntKind.i64 (IntKind.wrap IntKind.i64 (i + 1)))],
                      blks := [(0, Blk.cells 44 [AV.int IntKind.i64 b, AV.str n, AV.int IntKind.i64 d, AV.str m])], next := 1 }
            else
              bif (↑(UInt8.toNat (List.getD m (Int.toNat i) 0)) : Int) == 111 then
                bif decide (i < d) then Rs.ok (Out.ret (AV.bool false), [])
                else
                  J 0
                    { tmps := [(1, AV.ref 0 0), (3, AV.int IntKind.i64 (IntKind.wrap IntKind.i64 (i + 1)))],
                      blks := [(0, Blk.cells 44 [AV.int IntKind.i64 b, AV.str n, AV.int IntKind.i64 d, AV.str m])], next := 1 }
              else
                J 0
                  { tmps := [(1, AV.ref 0 0), (3, AV.int IntKind.i64 (IntKind.wrap IntKind.i64 (i + 1)))],
                    blks := [(0, Blk.cells 44 [AV.int IntKind.i64 b, AV.str n, AV.int IntKind.i64 d, AV.str m])], next := 1 }
          else
            bif (↑(UInt8.toNat (List.getD m (Int.toNat i) 0)) : Int) == 111 then
              bif decide (i < d) then Rs.ok (Out.ret (AV.bool false), [])
              else
                J 0
                  { tmps := [(1, AV.ref 0 0), (3, AV.int IntKind.i64 (IntKind.wrap IntKind.i64 (i + 1)))],
                    blks := [(0, Blk.cells 44 [AV.int IntKind.i64 b, AV.str n, AV.int IntKind.i64 d, AV.str m])], next := 1 }
            else
              J 0
                { tmps := [(1, AV.ref 0 0), (3, AV.int IntKind.i64 (IntKind.wrap IntKind.i64 (i + 1)))],
                  blks := [(0, Blk.cells 44 [AV.int IntKind.i64 b, AV.str n, AV.int IntKind.i64 d, AV.str m])], next := 1 }
      else
        bif (↑(UInt8.toNat (List.getD m (Int.toNat i) 0)) : Int) != 32 then
          bif i == 0 then
            bif b != 5 then Rs.ok (Out.ret (AV.bool false), [])
            else
              bif (↑(UInt8.toNat (List.getD m (Int.toNat i) 0)) : Int) == 111 then
                bif decide (i < d) then Rs.ok (Out.ret (AV.bool false), [])
                else
                  J 0
                    { tmps := [(1, AV.ref 0 0), (3, AV.int IntKind.i64 (IntKind.wrap IntKind.i64 (i + 1)))],
                      blks := [(0, Blk.cells 44 [AV.int IntKind.i64 b, AV.str n, AV.int IntKind.i64 d, AV.str m])], next := 1 }
              else
                J 0
                  { tmps := [(1, AV.ref 0 0), (3, AV.int IntKind.i64 (IntKind.wrap IntKind.i64 (i + 1)))],
                    blks := [(0, Blk.cells 44 [AV.int IntKind.i64 b, AV.str n, AV.int IntKind.i64 d, AV.str m])], next := 1 }
          else
            bif (↑(UInt8.toNat (List.getD m (Int.toNat i) 0)) : Int) == 111 then
              bif decide (i < d) then Rs.ok (Out.ret (AV.bool false), [])
              else
                J 0
                  { tmps := [(1, AV.ref 0 0), (3, AV.int IntKind.i64 (IntKind.wrap IntKind.i64 (i + 1)))],
                    blks := [(0, Blk.cells 44 [AV.int IntKind.i64 b, AV.str n, AV.int IntKind.i64 d, AV.str m])], next := 1 }
            else
              J 0
                { tmps := [(1, AV.ref 0 0), (3, AV.int IntKind.i64 (IntKind.wrap IntKind.i64 (i + 1)))],
                  blks := [(0, Blk.cells 44 [AV.int IntKind.i64 b, AV.str n, AV.int IntKind.i64 d, AV.str m])], next := 1 }
        else
          bif (↑(UInt8.toNat (List.getD m (Int.toNat i) 0)) : Int) == 111 then
            bif decide (i < d) then Rs.ok (Out.ret (AV.bool false), [])
            else
              J 0
                { tmps := [(1, AV.ref 0 0), (3, AV.int IntKind.i64 (IntKind.wrap IntKind.i64 (i + 1)))],
                  blks := [(0, Blk.cells 44 [AV.int IntKind.i64 b, AV.str n, AV.int IntKind.i64 d, AV.str m])], next := 1 }
          else
            J 0
              { tmps := [(1, AV.ref 0 0), (3, AV.int IntKind.i64 (IntKind.wrap IntKind.i64 (i + 1)))],
                blks := [(0, Blk.cells 44 [AV.int IntKind.i64 b, AV.str n, AV.int IntKind.i64 d, AV.str m])], next := 1 }
    else Rs.err 803
  else Rs.ok (Out.ret (AV.bool true), []) := by kernel_rfl
theorem start25 (J : Jump R0) (b : Int) (n : List UInt8) (d : Int) (m : List UInt8) : start E (tabI lib1) fi25 cut25 J [.agg (tyC b n d m)] [] .ok =
    bif b != 5 then
    bif
        inI b
          (List.length
            [([] : List UInt8), ([105, 110, 116] : List UInt8),
              ([98, 111, 111, 108] : List UInt8), ([100, 111, 117, 98, 108, 101] : List UInt8),
              ([115, 116, 114] : List UInt8), ([] : List UInt8),
              ([118, 111, 105, 100] : List UInt8)]) then
      J 0
        {
          tmps :=
            [(1, AV.ref 0 0),
              (3,
                AV.str
                  (List.getD
                    [([] : List UInt8), ([105, 110, 116] : List UInt8),
                      ([98, 111, 111, 108] : List UInt8), ([100, 111, 117, 98, 108, 101] : List UInt8),
                      ([115, 116, 114] : List UInt8), ([] : List UInt8),
                      ([118, 111, 105, 100] : List UInt8)]
                    (Int.toNat b) (Ty.dflt Ty.str))),
              (4, AV.int IntKind.i64 0)],
          blks := [(0, Blk.cells 44 [AV.int IntKind.i64 b, AV.str n, AV.int IntKind.i64 d, AV.str m])], next := 1 }
    else Rs.err 303
  else
    J 0
      { tmps := [(1, AV.ref 0 0), (3, AV.str n), (4, AV.int IntKind.i64 0)], blks := [(0, Blk.cells 44 [AV.int IntKind.i64 b, AV.str n, AV.int IntKind.i64 d, AV.str m])],
        next := 1 } := by kernel_rfl
theorem loop25 (J : Jump R0) (b : Int) (n : List UInt8) (d : Int) (m : List UInt8) (s : List UInt8) (i : Int) : resume E (tabI lib1) (cutsOf 0 cut25 0) J [true, true, true, false, true, false, false] fi25.code 1 (mk25 b n d m s i) (finK E 0 fi25.results .ok) =
    bif decide (i ≤ d) then
    bif decide (i > 0) then
      bif decide (List.length s + List.length (([91, 93] : List UInt8)) < 2 ^ 62) then
        bif inI i (List.length m) then
          bif (↑(UInt8.toNat (List.getD m (Int.toNat i) 0)) : Int) == 63 then
            bif decide (List.length (s ++ ([91, 93] : List UInt8)) + List.length (([63] : List UInt8)) < 2 ^ 62) then
              bif inI i (List.length m) then
                bif (↑(UInt8.toNat (List.getD m (Int.toNat i) 0)) : Int) == 111 then
                  bif
                      decide
                        (List.length (([79, 112, 116, 105, 111, 110, 60] : List UInt8)) +
                            List.length (s ++ ([91, 93] : List UInt8) ++ ([63] : List UInt8)) <
                          2 ^ 62) then
                    bif
                        decide
                          (List.length
                                (([79, 112, 116, 105, 111, 110, 60] : List UInt8) ++
                                  (s ++ ([91, 93] : List UInt8) ++ ([63] : List UInt8))) +
                              List.length (([62] : List UInt8)) <
                            2 ^ 62) then
                      J 0
                        {
                          tmps :=
                            [(1, AV.ref 0 0),
                              (3,
                                AV.str
                                  (([79, 112, 116, 105, 111, 110, 60] : List UInt8) ++
                                      (s ++ ([91, 93] : List UInt8) ++ ([63] : List UInt8)) ++
                                    ([62] : List UInt8))),
                              (4, AV.int IntKind.i64 (IntKind.wrap IntKind.i64 (i + 1)))],
                          blks := [(0, Blk.cells 44 [AV.int IntKind.i64 b, AV.str n, AV.int IntKind.i64 d, AV.str m])], next := 1 }
                    else Rs.err 1202
                  else Rs.err 1201
                else
                  J 0
                    {
                      tmps :=
                        [(1, AV.ref 0 0), (3, AV.str (s ++ ([91, 93] : List UInt8) ++ ([63] : List UInt8))),
                          (4, AV.int IntKind.i64 (IntKind.wrap IntKind.i64 (i + 1)))],
                      blks := [(0, Blk.cells 44 [AV.int IntKind.i64 b, AV.str n, AV.int IntKind.i64 d, AV.str m])], next := 1 }
              else Rs.err 1103
            else Rs.err 1001
          else
            bif inI i (List.length m) then
              bif (↑(UInt8.toNat (List.getD m (Int.toNat i) 0)) : Int) == 111 then
                bif
                    decide
                      (List.length (([79, 112, 116, 105, 111, 110, 60] : List UInt8)) +
                          List.length (s ++ ([91, 93] : List UInt8)) <
                        2 ^ 62) then
                  bif
                      decide
                        (List.length (([79, 112, 116, 105, 111, 110, 60] : List UInt8) ++ (s ++ ([91, 93] : List UInt8))) +
                            List.length (([62] : List UInt8)) <
                          2 ^ 62) then
                    J 0
                      {
                        tmps :=
                          [(1, AV.ref 0 0),
                            (3,
                              AV.str
                                (([79, 112, 116, 105, 111, 110, 60] : List UInt8) ++ (s ++ ([91, 93] : List UInt8)) ++
                                  ([62] : List UInt8))),
                            (4, AV.int IntKind.i64 (IntKind.wrap IntKind.i64 (i + 1)))],
                        blks := [(0, Blk.cells 44 [AV.int IntKind.i64 b, AV.str n, AV.int IntKind.i64 d, AV.str m])], next := 1 }
                  else Rs.err 1202
                else Rs.err 1201
              else
                J 0
                  { tmps := [(1, AV.ref 0 0), (3, AV.str (s ++ ([91, 93] : List UInt8))), (4, AV.int IntKind.i64 (IntKind.wrap IntKind.i64 (i + 1)))],
                    blks := [(0, Blk.cells 44 [AV.int IntKind.i64 b, AV.str n, AV.int IntKind.i64 d, AV.str m])], next := 1 }
            else Rs.err 1103
        else Rs.err 903
      else Rs.err 801
    else
      bif inI i (List.length m) then
        bif (↑(UInt8.toNat (List.getD m (Int.toNat i) 0)) : Int) == 63 then
          bif decide (List.length s + List.length (([63] : List UInt8)) < 2 ^ 62) then
            bif inI i (List.length m) then
              bif (↑(UInt8.toNat (List.getD m (Int.toNat i) 0)) : Int) == 111 then
                bif
                    decide
                      (List.length (([79, 112, 116, 105, 111, 110, 60] : List UInt8)) +
                          List.length (s ++ ([63] : List UInt8)) <
                        2 ^ 62) then
                  bif
                      decide
                        (List.length (([79, 112, 116, 105, 111, 110, 60] : List UInt8) ++ (s ++ ([63] : List UInt8))) +
                            List.length (([62] : List UInt8)) <
                          2 ^ 62) then
                    J 0
                      {
                        tmps :=
                          [(1, AV.ref 0 0),
                            (3,
                              AV.str
                                (([79, 112, 116, 105, 111, 110, 60] : List UInt8) ++ (s ++ ([63] : List UInt8)) ++
                                  ([62] : List UInt8))),
                            (4, AV.int IntKind.i64 (IntKind.wrap IntKind.i64 (i + 1)))],
                        blks := [(0, Blk.cells 44 [AV.int IntKind.i64 b, AV.str n, AV.int IntKind.i64 d, AV.str m])], next := 1 }
                  else Rs.err 1202
                else Rs.err 1201
              else
                J 0
                  { tmps := [(1, AV.ref 0 0), (3, AV.str (s ++ ([63] : List UInt8))), (4, AV.int IntKind.i64 (IntKind.wrap IntKind.i64 (i + 1)))],
                    blks := [(0, Blk.cells 44 [AV.int IntKind.i64 b, AV.str n, AV.int IntKind.i64 d, AV.str m])], next := 1 }
            else Rs.err 1103
          else Rs.err 1001
        else
          bif inI i (List.length m) then
            bif (↑(UInt8.toNat (List.getD m (Int.toNat i) 0)) : Int) == 111 then
              bif decide (List.length (([79, 112, 116, 105, 111, 110, 60] : List UInt8)) + List.length s < 2 ^ 62) then
                bif
                    decide
                      (List.length (([79, 112, 116, 105, 111, 110, 60] : List UInt8) ++ s) +
                          List.length (([62] : List UInt8)) <
                        2 ^ 62) then
                  J 0
                    {
                      tmps :=
                        [(1, AV.ref 0 0),
                          (3, AV.str (([79, 112, 116, 105, 111, 110, 60] : List UInt8) ++ s ++ ([62] : List UInt8))),
                          (4, AV.int IntKind.i64 (IntKind.wrap IntKind.i64 (i + 1)))],
                      blks := [(0, Blk.cells 44 [AV.int IntKind.i64 b, AV.str n, AV.int IntKind.i64 d, AV.str m])], next := 1 }
                else Rs.err 1202
              else Rs.err 1201
            else
              J 0
                { tmps := [(1, AV.ref 0 0), (3, AV.str s), (4, AV.int IntKind.i64 (IntKind.wrap IntKind.i64 (i + 1)))],
                  blks := [(0, Blk.cells 44 [AV.int IntKind.i64 b, AV.str n, AV.int IntKind.i64 d, AV.str m])], next := 1 }
          else Rs.err 1103
      else Rs.err 903
  else Rs.ok (Out.ret (AV.str s), []) := by kernel_rfl
theorem start23 (J : Jump R0) (b : Int) (n : List UInt8) (d : Int) (m : List UInt8) : start E (tabI libT) fi23 cut23 J [.agg (tyC b n d m)] [] .ok =
    bif !Prod.fst (rightX ((b, n, d, m, ()), ())) then Rs.ok (Out.ret (AV.str []), [])
  else
    bif b == 1 then
      J 0
        { tmps := [(1, AV.ref 0 0), (3, AV.str [105, 110, 116]), (24, AV.int IntKind.i64 (↑(List.length m) : Int)), (25, AV.int IntKind.i64 0)],
          blks := [(0, Blk.cells 44 [AV.int IntKind.i64 b, AV.str n, AV.int IntKind.i64 d, AV.str m])], next := 1 }
    else
      bif b == 2 then
        J 0
          { tmps := [(1, AV.ref 0 0), (3, AV.str [98, 111, 111, 108]), (24, AV.int IntKind.i64 (↑(List.length m) : Int)), (25, AV.int IntKind.i64 0)],
            blks := [(0, Blk.cells 44 [AV.int IntKind.i64 b, AV.str n, AV.int IntKind.i64 d, AV.str m])], next := 1 }
      else
        bif b == 3 then
          J 0
            { tmps := [(1, AV.ref 0 0), (3, AV.str [100, 111, 117, 98, 108, 101]), (24, AV.int IntKind.i64 (↑(List.length m) : Int)), (25, AV.int IntKind.i64 0)],
              blks := [(0, Blk.cells 44 [AV.int IntKind.i64 b, AV.str n, AV.int IntKind.i64 d, AV.str m])], next := 1 }
        else
          bif b == 4 then
            J 0
              { tmps := [(1, AV.ref 0 0), (3, AV.str [115, 116, 114]), (24, AV.int IntKind.i64 (↑(List.length m) : Int)), (25, AV.int IntKind.i64 0)],
                blks := [(0, Blk.cells 44 [AV.int IntKind.i64 b, AV.str n, AV.int IntKind.i64 d, AV.str m])], next := 1 }
          else
            bif b == 6 then
              J 0
                { tmps := [(1, AV.ref 0 0), (3, AV.str [118, 111, 105, 100]), (24, AV.int IntKind.i64 (↑(List.length m) : Int)), (25, AV.int IntKind.i64 0)],
                  blks := [(0, Blk.cells 44 [AV.int IntKind.i64 b, AV.str n, AV.int IntKind.i64 d, AV.str m])], next := 1 }
            else
              J 0
                { tmps := [(1, AV.ref 0 0), (3, AV.str n), (24, AV.int IntKind.i64 (↑(List.length m) : Int)), (25, AV.int IntKind.i64 0)],
                  blks := [(0, Blk.cells 44 [AV.int IntKind.i64 b, AV.str n, AV.int IntKind.i64 d, AV.str m])], next := 1 } := by kernel_rfl
theorem loop23 (J : Jump R0) (b : Int) (n : List UInt8) (d : Int) (m : List UInt8) (s : List UInt8) (l i : Int) : resume E (tabI libT) (cutsOf 0 cut23 0) J [true, true, true, true, false, true, false, false] fi23.code 1 (mk23 b n d m s l i) (finK E 0 fi23.results .ok) =
    bif decide (i < l) then
    bif decide (i > 0) then
      bif decide (List.length s + List.length (([91, 93] : List UInt8)) < 2 ^ 62) then
        bif inI i (List.length m) then
          bif (↑(UInt8.toNat (List.getD m (Int.toNat i) 0)) : Int) == 63 then
            bif decide (List.length (s ++ ([91, 93] : List UInt8)) + List.length (([63] : List UInt8)) < 2 ^ 62) then
              J 0
                {
                  tmps :=
                    [(1, AV.ref 0 0), (3, AV.str (s ++ ([91, 93] : List UInt8) ++ ([63] : List UInt8))),
                      (24, AV.int IntKind.i64 l), (25, AV.int IntKind.i64 (IntKind.wrap IntKind.i64 (i + 1)))],
                  blks := [(0, Blk.cells 44 [AV.int IntKind.i64 b, AV.str n, AV.int IntKind.i64 d, AV.str m])], next := 1 }
            else Rs.err 2201
          else
            bif (↑(UInt8.toNat (List.getD m (Int.toNat i) 0)) : Int) == 111 then
              bif
                  decide
                    (List.length (([79, 112, 116, 105, 111, 110, 60] : List UInt8)) +
                        List.length (s ++ ([91, 93] : List UInt8)) <
                      2 ^ 62) then
                bif
                    decide
                      (List.length (([79, 112, 116, 105, 111, 110, 60] : List UInt8) ++ (s ++ ([91, 93] : List UInt8))) +
                          List.length (([62] : List UInt8)) <
                        2 ^ 62) then
                  J 0
                    {
                      tmps :=
                        [(1, AV.ref 0 0),
                          (3,
                            AV.str
                              (([79, 112, 116, 105, 111, 110, 60] : List UInt8) ++ (s ++ ([91, 93] : List UInt8)) ++
                                ([62] : List UInt8))),
                          (24, AV.int IntKind.i64 l), (25, AV.int IntKind.i64 (IntKind.wrap IntKind.i64 (i + 1)))],
                      blks := [(0, Blk.cells 44 [AV.int IntKind.i64 b, AV.str n, AV.int IntKind.i64 d, AV.str m])], next := 1 }
                else Rs.err 2402
              else Rs.err 2401
            else
              J 0
                {
                  tmps :=
                    [(1, AV.ref 0 0), (3, AV.str (s ++ ([91, 93] : List UInt8))), (24, AV.int IntKind.i64 l),
                      (25, AV.int IntKind.i64 (IntKind.wrap IntKind.i64 (i + 1)))],
                  blks := [(0, Blk.cells 44 [AV.int IntKind.i64 b, AV.str n, AV.int IntKind.i64 d, AV.str m])], next := 1 }
        else Rs.err 2003
      else Rs.err 1901
    else
      bif inI i (List.length m) then
        bif (↑(UInt8.toNat (List.getD m (Int.toNat i) 0)) : Int) == 63 then
          bif decide (List.length s + List.length (([63] : List UInt8)) < 2 ^ 62) then
            J 0
              {
                tmps :=
                  [(1, AV.ref 0 0), (3, AV.str (s ++ ([63] : List UInt8))), (24, AV.int IntKind.i64 l),
                    (25, AV.int IntKind.i64 (IntKind.wrap IntKind.i64 (i + 1)))],
                blks := [(0, Blk.cells 44 [AV.int IntKind.i64 b, AV.str n, AV.int IntKind.i64 d, AV.str m])], next := 1 }
          else Rs.err 2201
        else
          bif (↑(UInt8.toNat (List.getD m (Int.toNat i) 0)) : Int) == 111 then
            bif decide (List.length (([79, 112, 116, 105, 111, 110, 60] : List UInt8)) + List.length s < 2 ^ 62) then
              bif
                  decide
                    (List.length (([79, 112, 116, 105, 111, 110, 60] : List UInt8) ++ s) + List.length (([62] : List UInt8)) <
                      2 ^ 62) then
                J 0
                  {
                    tmps :=
                      [(1, AV.ref 0 0),
                        (3, AV.str (([79, 112, 116, 105, 111, 110, 60] : List UInt8) ++ s ++ ([62] : List UInt8))),
                        (24, AV.int IntKind.i64 l), (25, AV.int IntKind.i64 (IntKind.wrap IntKind.i64 (i + 1)))],
                    blks := [(0, Blk.cells 44 [AV.int IntKind.i64 b, AV.str n, AV.int IntKind.i64 d, AV.str m])], next := 1 }
              else Rs.err 2402
            else Rs.err 2401
          else
            J 0
              { tmps := [(1, AV.ref 0 0), (3, AV.str s), (24, AV.int IntKind.i64 l), (25, AV.int IntKind.i64 (IntKind.wrap IntKind.i64 (i + 1)))],
                blks := [(0, Blk.cells 44 [AV.int IntKind.i64 b, AV.str n, AV.int IntKind.i64 d, AV.str m])], next := 1 }
      else Rs.err 2003
  else Rs.ok (Out.ret (AV.str s), []) := by kernel_rfl
theorem body26 (b : Int) (n : List UInt8) (d : Int) (m : List UInt8) : body (R := R0) E (tabI lib1) fi26 [.agg (tyC b n d m)] [] .ok =
    bif decide (UInt8.toNat 32 < 128) && Nat.ble (List.length m) 9223372036854775807 then
    Rs.ok (Out.ret (AV.bool (Lib.trimB m 32 == ([] : List UInt8))), [])
  else Rs.err 1000048 := by kernel_rfl
theorem body27 (b : Int) (n : List UInt8) (d : Int) (m : List UInt8) : body (R := R0) E (tabI lib1) fi27 [.agg (tyC b n d m)] [] .ok =
    bif inB 0 (↑(List.length m) : Int) (List.length (([32, 32, 32, 32, 32] : List UInt8))) then
    Rs.ok
      (Out.ret
          (AV.agg
            [AV.int IntKind.i64 b, AV.str n, AV.int IntKind.i64 d,
              AV.str (List.drop (Int.toNat 0) (List.take (Int.toNat (↑(List.length m) : Int)) (([32, 32, 32, 32, 32] : List UInt8))))]),
        [])
  else Rs.err 103 := by kernel_rfl
end Go.Sx.Tryd
namespace Go.Sx.Tryd
open Go Go.Sx
set_option maxRecDepth 100000

theorem wrap64 {n : Int} (h0 : -9223372036854775808 ≤ n) (h1 : n ≤ 9223372036854775807) : IntKind.wrap .i64 n = n := by
  unfold IntKind.wrap
  have hb : IntKind.bits .i64 = 64 := rfl
  have hs : IntKind.signed .i64 = true := rfl
  simp only [hb, hs, Bool.true_and]
  split
  · rename_i h; simp only [decide_eq_true_eq] at h; omega
  · rename_i h; simp only [decide_eq_true_eq] at h; omega

theorem getD_app (pre : List UInt8) (c : UInt8) (r : List UInt8) : List.getD (pre ++ c :: r) pre.length 0 = c := by simp [List.getD]
theorem inI_app (pre : List UInt8) (c : UInt8) (r : List UInt8) : inI (pre.length : Int) (pre ++ c :: r).length = true := by
  simp only [inI, List.length_append, List.length_cons, Bool.and_eq_true, decide_eq_true_eq]
  omega

theorem typed_loop (b : Int) (n : List UInt8) (d : Int) (m : List UInt8) (hm : m.length ≤ 1000) : ∀ (r pre : List UInt8) (fuel : Nat), m = pre ++ r → r.length < fuel →
    pieces (R := R0) E (tabI lib1) fi42 cut42 0 .ok fuel 0 (mk42 b n d m m.length pre.length) = .ok (.ret (.bool (marksOk b d pre.length r)), [])
  | r, pre, 0, _, hf => by omega
  | [], pre, fuel + 1, hr, _ => by
    refine (loop42 (pieces (R := R0) E (tabI lib1) fi42 cut42 0 .ok fuel) b n d m m.length pre.length).trans ?_
    rw [List.append_nil] at hr
    subst hr
    simp [marksOk]
  | c :: r, pre, fuel + 1, hr, hf => by
    have ih := typed_loop b n d m hm r (pre ++ [c]) fuel (by simp [hr]) (by simpa using hf)
    refine (loop42 (pieces (R := R0) E (tabI lib1) fi42 cut42 0 .ok fuel) b n d m m.length pre.length).trans ?_
    have hlen : pre.length + 1 + r.length = m.length := by rw [hr]; simp; omega
    have h1 : ((pre.length : Int) < (m.length : Int)) := by omega
    have h2 : inI (pre.length : Int) m.length = true := by rw [hr]; exact inI_app _ _ _
    have h3 : List.getD m (Int.toNat (pre.length : Int)) 0 = c := by rw [hr, Int.toNat_natCast]; exact getD_app _ _ _
    have h4 : IntKind.wrap .i64 ((pre.length : Int) + 1) = (pre.length : Int) + 1 := wrap64 (by omega) (by omega)
    have h5 : (((pre ++ [c]).length : Nat) : Int) = (pre.length : Int) + 1 := by simp
    rw [h5] at ih
    simp only [mk42, tyC] at ih
    rw [h2, h3, h4]
    unfold marksOk okM
    simp only [h1, decide_true, cond_true]
    cases e1 : ((c.toNat : Int) == 32)
    · cases e2 : ((c.toNat : Int) == 63)
      · cases e3 : ((c.toNat : Int) == 111)
        · simp
        · cases e4 : ((pre.length : Int) == 0)
          · cases e5 : decide ((pre.length : Int) < d) <;> simp [ih]
          · cases e6 : (b == 5)
            · simp [bne, e6]
            · cases e5 : decide ((pre.length : Int) < d) <;> simp [bne, e6, ih]
      · have e3 : ((c.toNat : Int) == 111) = false := by
          simp only [beq_iff_eq] at e2
          simp only [beq_eq_false_iff_ne]
          omega
        cases e4 : ((pre.length : Int) == 0)
        · simp [e3, ih]
        · cases e6 : (b == 5)
          · simp [bne, e6]
          · simp [bne, e6, e3, ih]
    · simp [ih]
end Go.Sx.Tryd
namespace Go.Sx.Tryd
open Go Go.Sx Go.Proofs
set_option maxRecDepth 100000

theorem nil_bne (n : List UInt8) : (!n == []) = (n != []) := rfl

theorem typed_start (b : Int) (n : List UInt8) (d : Int) (m : List UInt8) : start (R := R0) E (tabI lib1) fi42 cut42 (pieces (R := R0) E (tabI lib1) fi42 cut42 0 .ok 2000) [.agg (tyC b n d m)] [] .ok = .ok (.ret (.bool (rightS b n d m)), []) := by
  rw [start42]
  unfold rightS
  by_cases hd0 : d < 0
  · simp [hd0]
  by_cases hd4 : d > 4
  · simp [hd0, hd4]
  rw [wrap64 (by omega) (by omega)]
  by_cases hl : (m.length : Int) = d + 1
  · have hloop := typed_loop b n d m (by omega) m [] 2000 rfl (by omega)
    simp only [mk42, tyC, List.length_nil, Int.natCast_zero] at hloop
    have hlb : ((m.length : Int) == d + 1) = true := by simp [hl]
    simp only [hd0, hd4, decide_false, cond_false, bne, hlb, Bool.not_true, Bool.not_false, Bool.true_and]
    cases e1 : decide (b < 1)
    · cases e2 : decide (b > 6)
      · cases e3 : (b == 5) <;> cases e4 : (n == []) <;> cases e5 : (b == 6) <;> cases e6 : decide (d > 0) <;> simp [hloop]
      · simp
    · simp
  · have hlb : ((m.length : Int) == d + 1) = false := by simp [hl]
    simp [hd0, hd4, bne, hlb]

/-- what is known of the library, in some world -/
theorem lib1_K {w0 : World} (t : TabsAt w0) : KOK Tryd.prog (GW w0) (tabI lib1) := tabI_ok (lib1_ok t)
theorem gen0_nil : Gen0 [] := fun _ _ _ _ _ h => by cases h

theorem typed_SA {w0 : World} (t : TabsAt w0) (x : Dens sigT) : SAD Tryd.prog (GW w0) 42 sigT sigB x (rightX x) := by
  obtain ⟨⟨b, n, d, m, ⟨⟩⟩, ⟨⟩⟩ := x
  exact start_ok (envOK []) (lib1_K t) fc42 (.inl gen0_nil) (typed_start b n d m)
theorem libT_ok {w0 : World} (t : TabsAt w0) : IChk Tryd.prog (GW w0) libT := .cons (specI_ok fun x _ => typed_SA t x) (lib1_ok t)
end Go.Sx.Tryd
namespace Go.Sx.Tryd
open Go Go.Sx Go.Proofs
set_option maxRecDepth 100000

theorem right_loop (b : Int) (n : List UInt8) (d : Int) (m : List UInt8) (hm : m.length ≤ 1000) : ∀ (r pre : List UInt8) (fuel : Nat), m = pre ++ r → r.length < fuel →
    pieces (R := R0) E (tabI lib1) fi24 cut24 0 .ok fuel 0 (mk24 b n d m pre.length) = .ok (.ret (.bool (marksOk b d pre.length r)), [])
  | r, pre, 0, _, hf => by omega
  | [], pre, fuel + 1, hr, _ => by
    refine (loop24 (pieces (R := R0) E (tabI lib1) fi24 cut24 0 .ok fuel) b n d m pre.length).trans ?_
    rw [List.append_nil] at hr
    subst hr
    simp [marksOk]
  | c :: r, pre, fuel + 1, hr, hf => by
    have ih := right_loop b n d m hm r (pre ++ [c]) fuel (by simp [hr]) (by simpa using hf)
    refine (loop24 (pieces (R := R0) E (tabI lib1) fi24 cut24 0 .ok fuel) b n d m pre.length).trans ?_
    have hlen : pre.length + 1 + r.length = m.length := by rw [hr]; simp; omega
    have h1 : ((pre.length : Int) < (m.length : Int)) := by omega
    have h2 : inI (pre.length : Int) m.length = true := by rw [hr]; exact inI_app _ _ _
    have h3 : List.getD m (Int.toNat (pre.length : Int)) 0 = c := by rw [hr, Int.toNat_natCast]; exact getD_app _ _ _
    have h4 : IntKind.wrap .i64 ((pre.length : Int) + 1) = (pre.length : Int) + 1 := wrap64 (by omega) (by omega)
    have h5 : (((pre ++ [c]).length : Nat) : Int) = (pre.length : Int) + 1 := by simp
    rw [h5] at ih
    simp only [mk24, tyC] at ih
    rw [h2, h3, h4]
    unfold marksOk okM
    simp only [h1, decide_true, cond_true]
    cases e1 : ((c.toNat : Int) == 32)
    · cases e2 : ((c.toNat : Int) == 63)
      · cases e3 : ((c.toNat : Int) == 111)
        · simp [bne, e1, e2, e3]
        · cases e4 : ((pre.length : Int) == 0)
          · cases e5 : decide ((pre.length : Int) < d) <;> simp [bne, e1, e2, e3, ih]
          · cases e6 : (b == 5)
            · simp [bne, e1, e2, e3, e6]
            · cases e5 : decide ((pre.length : Int) < d) <;> simp [bne, e1, e2, e3, e6, ih]
      · have e3 : ((c.toNat : Int) == 111) = false := by
          simp only [beq_iff_eq] at e2
          simp only [beq_eq_false_iff_ne]
          omega
        cases e4 : ((pre.length : Int) == 0)
        · simp [bne, e1, e2, e3, ih]
        · cases e6 : (b == 5)
          · simp [bne, e1, e2, e6]
          · simp [bne, e1, e2, e6, e3, ih]
    · have e3 : ((c.toNat : Int) == 111) = false := by
        simp only [beq_iff_eq] at e1
        simp only [beq_eq_false_iff_ne]
        omega
      simp [bne, e1, e3, ih]

theorem right_start (b : Int) (n : List UInt8) (d : Int) (m : List UInt8) (hm : m.length ≤ 1000) : start (R := R0) E (tabI lib1) fi24 cut24 (pieces (R := R0) E (tabI lib1) fi24 cut24 0 .ok 2000) [.agg (tyC b n d m)] [] .ok = .ok (.ret (.bool (rightS b n d m)), []) := by
  rw [start24]
  unfold rightS
  by_cases hd0 : d < 0
  · simp [hd0]
  by_cases hd4 : d > 4
  · simp [hd0, hd4]
  rw [wrap64 (by omega) (by omega)]
  by_cases hl : (m.length : Int) = d + 1
  · have hloop := right_loop b n d m (by omega) m [] 2000 rfl (by omega)
    simp only [mk24, tyC, List.length_nil, Int.natCast_zero] at hloop
    have hlb : ((m.length : Int) == d + 1) = true := by simp [hl]
    have hlc : ((m.length : Int) - 1 == d) = true := by simp [hl]
    simp only [hd0, hd4, decide_false, cond_false, bne, hlb, hlc, Bool.not_true, Bool.not_false, Bool.true_and]
    cases e1 : decide (b < 1)
    · cases e2 : decide (b > 6)
      · cases e3 : (b == 5) <;> cases e4 : (n == []) <;> cases e5 : (b == 6) <;> cases e6 : decide (d > 0) <;> simp [hloop]
      · simp
    · simp
  · have hlb : ((m.length : Int) == d + 1) = false := by simp [hl]
    have hlc : ((m.length : Int) - 1 == d) = false := by simp; omega
    simp [hd0, hd4, bne, hlb, hlc]

theorem right_SA {w0 : World} (t : TabsAt w0) (x : Dens sigT) (h : decide (x.1.2.2.2.1.length ≤ 1000) = true) : SAD Tryd.prog (GW w0) 24 sigT sigB x (rightX x) := by
  obtain ⟨⟨b, n, d, m, ⟨⟩⟩, ⟨⟩⟩ := x
  exact start_ok (envOK []) (lib1_K t) fc24 (.inl gen0_nil) (right_start b n d m (of_decide_eq_true h))
end Go.Sx.Tryd
namespace Go.Sx.Tryd
open Go Go.Sx Go.Proofs
set_option maxRecDepth 100000

theorem stepT_len (s : List UInt8) (i : Int) (c : UInt8) : (stepT s i c).length ≤ s.length + 10 := by
  unfold stepT
  cases decide (i > 0) <;> cases ((c.toNat : Int) == 63) <;> cases ((c.toNat : Int) == 111) <;> simp <;> omega

theorem type_loop (b : Int) (n : List UInt8) (d : Int) (m : List UInt8) (hm : m.length ≤ 1000) (hd : (m.length : Int) = d + 1) : ∀ (r pre s : List UInt8) (fuel : Nat), m = pre ++ r → r.length < fuel → s.length ≤ 1000 + 10 * pre.length →
    pieces (R := R0) E (tabI lib1) fi25 cut25 0 .ok fuel 0 (mk25 b n d m s pre.length) = .ok (.ret (.str (textL s pre.length r)), [])
  | r, pre, s, 0, _, hf, _ => by omega
  | [], pre, s, fuel + 1, hr, _, _ => by
    refine (loop25 (pieces (R := R0) E (tabI lib1) fi25 cut25 0 .ok fuel) b n d m s pre.length).trans ?_
    rw [List.append_nil] at hr
    subst hr
    have h1 : ¬ ((m.length : Int) ≤ d) := by omega
    simp only [h1, decide_false, cond_false, textL]
  | c :: r, pre, s, fuel + 1, hr, hf, hs => by
    have ih := type_loop b n d m hm hd r (pre ++ [c]) (stepT s pre.length c) fuel (by simp [hr]) (by simpa using hf) (by have := stepT_len s pre.length c; simp; omega)
    refine (loop25 (pieces (R := R0) E (tabI lib1) fi25 cut25 0 .ok fuel) b n d m s pre.length).trans ?_
    have hlen : pre.length + 1 + r.length = m.length := by rw [hr]; simp; omega
    have h1 : ((pre.length : Int) ≤ d) := by omega
    have h2 : inI (pre.length : Int) m.length = true := by rw [hr]; exact inI_app _ _ _
    have h3 : List.getD m (Int.toNat (pre.length : Int)) 0 = c := by rw [hr, Int.toNat_natCast]; exact getD_app _ _ _
    have h4 : IntKind.wrap .i64 ((pre.length : Int) + 1) = (pre.length : Int) + 1 := wrap64 (by omega) (by omega)
    have h5 : (((pre ++ [c]).length : Nat) : Int) = (pre.length : Int) + 1 := by simp
    rw [h5] at ih
    simp only [mk25, tyC] at ih
    rw [h2, h3, h4]
    unfold textL
    simp only [h1, decide_true, cond_true]
    have k1 : s.length + 2 < 2 ^ 62 := by omega
    have k2 : s.length + 2 + 1 < 2 ^ 62 := by omega
    have k3 : s.length + 1 < 2 ^ 62 := by omega
    have k4 : 7 + (s.length + 2) < 2 ^ 62 := by omega
    have k5 : 7 + (s.length + 2) + 1 < 2 ^ 62 := by omega
    have k6 : 7 + s.length < 2 ^ 62 := by omega
    have k7 : 7 + s.length + 1 < 2 ^ 62 := by omega
    unfold stepT at ih ⊢
    have e8 : ((c.toNat : Int) == 63) = true → ((c.toNat : Int) == 111) = false := fun e => by
      simp only [beq_iff_eq] at e
      simp only [beq_eq_false_iff_ne]
      omega
    cases e0 : decide ((pre.length : Int) > 0) <;> cases e2 : ((c.toNat : Int) == 63) <;> cases e3 : ((c.toNat : Int) == 111)
    all_goals first | (rw [e8 e2] at e3; cases e3; done) | skip
    all_goals simp only [e0, e2, e3, cond_true, cond_false, List.length_append, List.length_cons, List.length_nil, Nat.zero_add, Nat.reduceAdd, k1, k2, k3, k4, k5, k6, k7, decide_true] at ih ⊢
    all_goals exact ih
end Go.Sx.Tryd
namespace Go.Sx.Tryd
open Go Go.Sx Go.Proofs
set_option maxRecDepth 100000

theorem right_facts {b : Int} {n : List UInt8} {d : Int} {m : List UInt8} (h : rightS b n d m = true) : 0 ≤ d ∧ d ≤ 4 ∧ (m.length : Int) = d + 1 ∧ 1 ≤ b ∧ b ≤ 6 ∧ ((b == 5) = (n != [])) ∧ marksOk b d 0 m = true := by
  unfold rightS at h
  simp only [Bool.and_eq_true, Bool.not_eq_true', decide_eq_false_iff_not, beq_iff_eq, Int.not_lt] at h
  obtain ⟨h1, h2, h3, h4, h5, h6, _, h8⟩ := h
  exact ⟨h1, by omega, h3, by omega, by omega, h6, h8⟩

theorem base_cases {b : Int} (h1 : 1 ≤ b) (h2 : b ≤ 6) : b = 1 ∨ b = 2 ∨ b = 3 ∨ b = 4 ∨ b = 5 ∨ b = 6 := by omega

theorem baseS_len {b : Int} {n : List UInt8} (hn : n.length ≤ 1000) : (baseS b n).length ≤ 1000 := by
  unfold baseS
  cases (b == 1) <;> cases (b == 2) <;> cases (b == 3) <;> cases (b == 4) <;> cases (b == 6) <;> simp <;> exact hn

theorem type_start (b : Int) (n : List UInt8) (d : Int) (m : List UInt8) (hn : n.length ≤ 1000) (hr : rightS b n d m = true) : start (R := R0) E (tabI lib1) fi25 cut25 (pieces (R := R0) E (tabI lib1) fi25 cut25 0 .ok 2000) [.agg (tyC b n d m)] [] .ok = .ok (.ret (.str (textS b n d m)), []) := by
  obtain ⟨h1, h2, h3, h4, h5, _, _⟩ := right_facts hr
  have hloop := type_loop b n d m (by omega) h3 m [] (baseS b n) 2000 rfl (by omega) (by have := baseS_len (b := b) hn; simp; omega)
  simp only [mk25, tyC, List.length_nil, Int.natCast_zero] at hloop
  rw [start25]
  unfold textS
  rcases base_cases h4 h5 with rfl | rfl | rfl | rfl | rfl | rfl
  all_goals exact hloop

theorem text_loop (b : Int) (n : List UInt8) (d : Int) (m : List UInt8) (hm : m.length ≤ 1000) : ∀ (r pre s : List UInt8) (fuel : Nat), m = pre ++ r → r.length < fuel → s.length ≤ 1000 + 10 * pre.length →
    pieces (R := R0) E (tabI libT) fi23 cut23 0 .ok fuel 0 (mk23 b n d m s m.length pre.length) = .ok (.ret (.str (textL s pre.length r)), [])
  | r, pre, s, 0, _, hf, _ => by omega
  | [], pre, s, fuel + 1, hr, _, _ => by
    refine (loop23 (pieces (R := R0) E (tabI libT) fi23 cut23 0 .ok fuel) b n d m s m.length pre.length).trans ?_
    rw [List.append_nil] at hr
    subst hr
    have h1 : ¬ ((m.length : Int) < m.length) := by omega
    simp only [h1, decide_false, cond_false, textL]
  | c :: r, pre, s, fuel + 1, hr, hf, hs => by
    have ih := text_loop b n d m hm r (pre ++ [c]) (stepT s pre.length c) fuel (by simp [hr]) (by simpa using hf) (by have := stepT_len s pre.length c; simp; omega)
    refine (loop23 (pieces (R := R0) E (tabI libT) fi23 cut23 0 .ok fuel) b n d m s m.length pre.length).trans ?_
    have hlen : pre.length + 1 + r.length = m.length := by rw [hr]; simp; omega
    have h1 : ((pre.length : Int) < m.length) := by omega
    have h2 : inI (pre.length : Int) m.length = true := by rw [hr]; exact inI_app _ _ _
    have h3 : List.getD m (Int.toNat (pre.length : Int)) 0 = c := by rw [hr, Int.toNat_natCast]; exact getD_app _ _ _
    have h4 : IntKind.wrap .i64 ((pre.length : Int) + 1) = (pre.length : Int) + 1 := wrap64 (by omega) (by omega)
    have h5 : (((pre ++ [c]).length : Nat) : Int) = (pre.length : Int) + 1 := by simp
    rw [h5] at ih
    simp only [mk23, tyC] at ih
    rw [h2, h3, h4]
    unfold textL
    simp only [h1, decide_true, cond_true]
    have k1 : s.length + 2 < 2 ^ 62 := by omega
    have k2 : s.length + 2 + 1 < 2 ^ 62 := by omega
    have k3 : s.length + 1 < 2 ^ 62 := by omega
    have k4 : 7 + (s.length + 2) < 2 ^ 62 := by omega
    have k5 : 7 + (s.length + 2) + 1 < 2 ^ 62 := by omega
    have k6 : 7 + s.length < 2 ^ 62 := by omega
    have k7 : 7 + s.length + 1 < 2 ^ 62 := by omega
    unfold stepT at ih ⊢
    cases e0 : decide ((pre.length : Int) > 0) <;> cases e2 : ((c.toNat : Int) == 63) <;> cases e3 : ((c.toNat : Int) == 111)
    all_goals simp only [e0, e2, e3, cond_true, cond_false, List.length_append, List.length_cons, List.length_nil, Nat.zero_add, Nat.reduceAdd, k1, k2, k3, k4, k5, k6, k7, decide_true] at ih ⊢
    all_goals exact ih

theorem text_start (b : Int) (n : List UInt8) (d : Int) (m : List UInt8) (hn : n.length ≤ 1000) (hm : m.length ≤ 1000) : start (R := R0) E (tabI libT) fi23 cut23 (pieces (R := R0) E (tabI libT) fi23 cut23 0 .ok 2000) [.agg (tyC b n d m)] [] .ok = .ok (.ret (.str (bif rightS b n d m then textS b n d m else [])), []) := by
  rw [start23]
  have hloop := text_loop b n d m hm m [] (baseS b n) 2000 rfl (by omega) (by have := baseS_len (b := b) hn; simp; omega)
  simp only [mk23, tyC, List.length_nil, Int.natCast_zero] at hloop
  have e : Prod.fst (rightX ((b, n, d, m, ()), ())) = rightS b n d m := rfl
  rw [e]
  cases hr : rightS b n d m
  · rfl
  · simp only [Bool.not_true, cond_false, cond_true]
    unfold textS
    rw [← hloop]
    unfold baseS
    cases (b == 1) <;> cases (b == 2) <;> cases (b == 3) <;> cases (b == 4) <;> cases (b == 6) <;> rfl

def smallX (x : Dens sigT) : Bool := decide (x.1.2.1.length ≤ 1000) && decide (x.1.2.2.2.1.length ≤ 1000)
def textX (x : Dens sigT) : Dens sigS := (bif rightS x.1.1 x.1.2.1 x.1.2.2.1 x.1.2.2.2.1 then textS x.1.1 x.1.2.1 x.1.2.2.1 x.1.2.2.2.1 else [], ())
def typeX (x : Dens sigT) : Dens sigS := (textS x.1.1 x.1.2.1 x.1.2.2.1 x.1.2.2.2.1, ())
def goodX (x : Dens sigT) : Bool := rightS x.1.1 x.1.2.1 x.1.2.2.1 x.1.2.2.2.1
def blanks : List UInt8 := [32, 32, 32, 32, 32]
def bareX (x : Dens sigT) : Dens sigT := ((x.1.1, x.1.2.1, x.1.2.2.1, blanks.take x.1.2.2.2.1.length, ()), ())
def plainX (x : Dens sigT) : Dens sigB := (Lib.trimB x.1.2.2.2.1 32 == [], ())

theorem bare_body (b : Int) (n : List UInt8) (d : Int) (m : List UInt8) (h : m.length ≤ 5) : body (R := R0) E (tabI lib1) fi27 [.agg (tyC b n d m)] [] .ok = .ok (.ret (.agg (tyC b n d (blanks.take m.length))), []) := by
  rw [body27]
  have h1 : inB 0 (m.length : Int) (List.length ([32, 32, 32, 32, 32] : List UInt8)) = true := by
    simp only [inB, Bool.and_eq_true, decide_eq_true_eq, List.length_cons, List.length_nil]
    omega
  rw [h1]
  rfl

theorem libT_K {w0 : World} (t : TabsAt w0) : KOK Tryd.prog (GW w0) (tabI libT) := tabI_ok (libT_ok t)
theorem text_SA {w0 : World} (t : TabsAt w0) (x : Dens sigT) (h : smallX x = true) : SAD Tryd.prog (GW w0) 23 sigT sigS x (textX x) := by
  obtain ⟨⟨b, n, d, m, ⟨⟩⟩, ⟨⟩⟩ := x
  simp only [smallX, Bool.and_eq_true, decide_eq_true_eq] at h
  exact start_ok (envOK []) (libT_K t) fc23 (.inl gen0_nil) (text_start b n d m h.1 h.2)
theorem type_SA {w0 : World} (t : TabsAt w0) (x : Dens sigT) (h : (goodX x && smallX x) = true) : SAD Tryd.prog (GW w0) 25 sigT sigS x (typeX x) := by
  obtain ⟨⟨b, n, d, m, ⟨⟩⟩, ⟨⟩⟩ := x
  simp only [smallX, goodX, Bool.and_eq_true, decide_eq_true_eq] at h
  exact start_ok (envOK []) (lib1_K t) fc25 (.inl gen0_nil) (type_start b n d m h.2.1 h.1)
theorem plain_SA {w0 : World} (t : TabsAt w0) (x : Dens sigT) (h : smallX x = true) : SAD Tryd.prog (GW w0) 26 sigT sigB x (plainX x) := by
  obtain ⟨⟨b, n, d, m, ⟨⟩⟩, ⟨⟩⟩ := x
  simp only [smallX, Bool.and_eq_true, decide_eq_true_eq] at h
  refine body_ok (envOK []) (lib1_K t) fc26 ((body26 b n d m).trans ?_)
  have h1 : Nat.ble (List.length m) 9223372036854775807 = true := Nat.ble_eq_true_of_le (by omega)
  have h2 : decide (UInt8.toNat 32 < 128) = true := rfl
  rw [h1, h2]
  rfl
theorem bare_SA {w0 : World} (t : TabsAt w0) (x : Dens sigT) (h : decide (x.1.2.2.2.1.length ≤ 5) = true) : SAD Tryd.prog (GW w0) 27 sigT sigT x (bareX x) := by
  obtain ⟨⟨b, n, d, m, ⟨⟩⟩, ⟨⟩⟩ := x
  simp only [decide_eq_true_eq] at h
  exact body_ok (envOK []) (lib1_K t) fc27 (bare_body b n d m h)

/-- what is known of the callees, of the law -/
noncomputable def libL : List (Nat × Intr) :=
  (10, oneI 10 (fun l => l.isEmpty) (.ret (.bool true), [])) :: (23, specI 23 sigT sigS smallX textX) :: (24, specI 24 sigT sigB (fun x => decide (x.1.2.2.2.1.length ≤ 1000)) rightX) ::
  (25, specI 25 sigT sigS (fun x => goodX x && smallX x) typeX) :: (26, specI 26 sigT sigB smallX plainX) :: (27, specI 27 sigT sigT (fun x => decide (x.1.2.2.2.1.length ≤ 5)) bareX) :: lib1
end Go.Sx.Tryd
