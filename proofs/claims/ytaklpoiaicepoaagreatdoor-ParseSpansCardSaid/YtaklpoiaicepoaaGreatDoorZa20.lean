/- A part of the proof: see the row's text. -/
import Derived.Test.YtaklpoiaicepoaaGreatDoorZa16
import Derived.Test.YtaklpoiaicepoaaGreatDoorZa17
import Derived.Test.YtaklpoiaicepoaaGreatDoorZa18
import Derived.Test.YtaklpoiaicepoaaGreatDoorZa19
import Derived.Test.YtaklpoiaicepoaaGreatDoorZa15
set_option linter.unusedVariables false
set_option linter.unusedSimpArgs false
noncomputable section
namespace Go.Sx.Tryz
open Go Go.Sx Go.Proofs
set_option maxRecDepth 100000
theorem body116 (p : Fns) (T : List UInt8) (K : List Tok) (a d : Int) (A : List Nd) (x1 : Int) : body (R := R0) E (tabI (libP p)) fi116 [.ref 0 0, .int .i64 x1] (bsP T K a d A) .ok = PR.bindR (Fns.value p T K a d A ()) (fun y7 a7 d7 A7 => PR.bindR (Fns.next p T K a7 d7 A7 ()) (fun y11 a11 d11 A11 => bif inI y7.1 (List.length A11) then bif Nat.ble (List.length (nKids (getN A11 (Int.toNat y7.1)))) 17592186044416 then bif Nat.ble (List.length (nEnds (getN A11 (Int.toNat y7.1)))) 17592186044416 then PR.bindR (Fns.take p T K a11 d11 A11 ([61], ())) (fun y15 a15 d15 A15 => bif y15.1 then bif nKind (getN A11 (Int.toNat y7.1)) != 25 then bif nKind (getN A11 (Int.toNat y7.1)) != 26 then bif nKind (getN A11 (Int.toNat y7.1)) != 27 then fl0 ((132 : Int)) (tFrom y11.1) else PR.bindR (Fns.value p T K a15 d15 A15 ()) (fun y19 a19 d19 A19 => PR.bindR (Fns.want p T K a19 d19 A19 ([59], ())) (fun y23 a23 d23 A23 => PR.bindR (Fns.add p T K a23 d23 A23 ((mkN 10 0 0 ([y7.1, y19.1]) [] 0 [] 0 [] 0 0 0 []), x1, ())) (fun y27 a27 d27 A27 => Rs.ok (Out.ret (Iz y27.1), bsG 6 T K a27 d27 A27)) fl0) fl0) fl0 else PR.bindR (Fns.value p T K a15 d15 A15 ()) (fun y19 a19 d19 A19 => PR.bindR (Fns.want p T K a19 d19 A19 ([59], ())) (fun y23 a23 d23 A23 => PR.bindR (Fns.add p T K a23 d23 A23 ((mkN 10 0 0 ([y7.1, y19.1]) [] 0 [] 0 [] 0 0 0 []), x1, ())) (fun y27 a27 d27 A27 => Rs.ok (Out.ret (Iz y27.1), bsG 6 T K a27 d27 A27)) fl0) fl0) fl0 else PR.bindR (Fns.value p T K a15 d15 A15 ()) (fun y19 a19 d19 A19 => PR.bindR (Fns.want p T K a19 d19 A19 ([59], ())) (fun y23 a23 d23 A23 => PR.bindR (Fns.add p T K a23 d23 A23 ((mkN 10 0 0 ([y7.1, y19.1]) [] 0 [] 0 [] 0 0 0 []), x1, ())) (fun y27 a27 d27 A27 => Rs.ok (Out.ret (Iz y27.1), bsG 6 T K a27 d27 A27)) fl0) fl0) fl0 else bif nKind (getN A11 (Int.toNat y7.1)) != 29 then bif nKind (getN A11 (Int.toNat y7.1)) != 30 then fl0 ((132 : Int)) x1 else PR.bindR (Fns.want p T K a15 d15 A15 ([59], ())) (fun y19 a19 d19 A19 => PR.bindR (Fns.add p T K a19 d19 A19 ((mkN 18 0 0 ([y7.1]) [] 0 [] 0 [] 0 0 0 []), x1, ())) (fun y23 a23 d23 A23 => Rs.ok (Out.ret (Iz y23.1), bsG 5 T K a23 d23 A23)) fl0) fl0 else PR.bindR (Fns.want p T K a15 d15 A15 ([59], ())) (fun y19 a19 d19 A19 => PR.bindR (Fns.add p T K a19 d19 A19 ((mkN 18 0 0 ([y7.1]) [] 0 [] 0 [] 0 0 0 []), x1, ())) (fun y23 a23 d23 A23 => Rs.ok (Out.ret (Iz y23.1), bsG 5 T K a23 d23 A23)) fl0) fl0) fl0 else Rs.err 1000078 else Rs.err 1000078 else Rs.err 106) fl0) fl0 := by kernel_rfl
def sp116 (p : Fns) (T : List UInt8) (K : List Tok) (a d : Int) (A : List Nd) (x1 : Int) : PR (Dens [tI]) := PR.bind (Fns.value p T K a d A ()) fun y7 a7 d7 A7 => PR.bind (Fns.next p T K a7 d7 A7 ()) fun y11 a11 d11 A11 => bif inI y7.1 (List.length A11) then bif Nat.ble (List.length (nKids (getN A11 (Int.toNat y7.1)))) 17592186044416 then bif Nat.ble (List.length (nEnds (getN A11 (Int.toNat y7.1)))) 17592186044416 then PR.bind (Fns.take p T K a11 d11 A11 ([61], ())) fun y15 a15 d15 A15 => bif y15.1 then bif nKind (getN A11 (Int.toNat y7.1)) != 25 then bif nKind (getN A11 (Int.toNat y7.1)) != 26 then bif nKind (getN A11 (Int.toNat y7.1)) != 27 then PR.fault ((132 : Int)) (tFrom y11.1) else PR.bind (Fns.value p T K a15 d15 A15 ()) fun y19 a19 d19 A19 => PR.bind (Fns.want p T K a19 d19 A19 ([59], ())) fun y23 a23 d23 A23 => PR.bind (Fns.add p T K a23 d23 A23 ((mkN 10 0 0 ([y7.1, y19.1]) [] 0 [] 0 [] 0 0 0 []), x1, ())) fun y27 a27 d27 A27 => PR.ok (y27.1, ()) a27 d27 A27 else PR.bind (Fns.value p T K a15 d15 A15 ()) fun y19 a19 d19 A19 => PR.bind (Fns.want p T K a19 d19 A19 ([59], ())) fun y23 a23 d23 A23 => PR.bind (Fns.add p T K a23 d23 A23 ((mkN 10 0 0 ([y7.1, y19.1]) [] 0 [] 0 [] 0 0 0 []), x1, ())) fun y27 a27 d27 A27 => PR.ok (y27.1, ()) a27 d27 A27 else PR.bind (Fns.value p T K a15 d15 A15 ()) fun y19 a19 d19 A19 => PR.bind (Fns.want p T K a19 d19 A19 ([59], ())) fun y23 a23 d23 A23 => PR.bind (Fns.add p T K a23 d23 A23 ((mkN 10 0 0 ([y7.1, y19.1]) [] 0 [] 0 [] 0 0 0 []), x1, ())) fun y27 a27 d27 A27 => PR.ok (y27.1, ()) a27 d27 A27 else bif nKind (getN A11 (Int.toNat y7.1)) != 29 then bif nKind (getN A11 (Int.toNat y7.1)) != 30 then PR.fault ((132 : Int)) x1 else PR.bind (Fns.want p T K a15 d15 A15 ([59], ())) fun y19 a19 d19 A19 => PR.bind (Fns.add p T K a19 d19 A19 ((mkN 18 0 0 ([y7.1]) [] 0 [] 0 [] 0 0 0 []), x1, ())) fun y23 a23 d23 A23 => PR.ok (y23.1, ()) a23 d23 A23 else PR.bind (Fns.want p T K a15 d15 A15 ([59], ())) fun y19 a19 d19 A19 => PR.bind (Fns.add p T K a19 d19 A19 ((mkN 18 0 0 ([y7.1]) [] 0 [] 0 [] 0 0 0 []), x1, ())) fun y23 a23 d23 A23 => PR.ok (y23.1, ()) a23 d23 A23 else PR.bad else PR.bad else PR.bad
theorem ans116 (p : Fns) (T : List UInt8) (K : List Tok) (a d : Int) (A : List Nd) (x1 : Int) : Ans [tI] T K (body (R := R0) E (tabI (libP p)) fi116 [.ref 0 0, .int .i64 x1] (bsP T K a d A) .ok) (sp116 p T K a d A x1) := by
 rw [body116]
 unfold sp116
 repeat (first | exact Ans.bad | exact Ans.flt | exact ⟨_, _, [], [], rfl, rfl, rfl⟩ | exact ⟨_, _, _, _, rfl, rfl, rfl⟩ | refine Ans.bif (fun _ => ?_) (fun _ => ?_) | refine Ans.bind (fun _ _ _ _ _ => ?_) (fun _ _ => Ans.flt))
theorem st106 (p : Fns) (T : List UInt8) (K : List Tok) (J : Jump R0) (a d : Int) (A : List Nd) : start (R := R0) E (tabI (libP p)) fi106 cut106 J [.ref 0 0] (bsP T K a d A) .ok = PR.bindR (Fns.base p T K a d A ()) (fun y7 a7 d7 A7 => J 0 { tmps := [(0, AV.ref 0 0), (2, AV.ref 2 0), (3, AV.ref 3 0)], blks := [(0, pC T K a7 d7), (1, pL A7), (2, Blk.cells 37 [Iz 0, Iz 0, Iz 0, AV.nils, AV.str [], Iz 0, AV.str [], Iz 0, AV.str [], Iz 0, Iz 0, Iz 0, AV.nils]), (3, Blk.cells 37 [Iz (nKind y7.1), Iz (nAt y7.1), Iz (nTo y7.1), AV.nils, AV.str (nText y7.1), Iz (nBase y7.1), AV.str (nName y7.1), Iz (nDims y7.1), AV.str (nMarks y7.1), Iz (nN y7.1), Iz (nW1 y7.1), Iz (nW2 y7.1), AV.own 4 0]), (4, Blk.list 3 (Ty.int IntKind.i64) 0 false (nEnds y7.1))], next := 5 }) fl0 := by kernel_rfl
def sS106 (p : Fns) (T : List UInt8) (K : List Tok) (L0 : Int → Int → List Nd → Int → Int → Int → List UInt8 → Int → List UInt8 → Int → List UInt8 → Int → Int → Int → List Int → PR (Dens [tN])) (a d : Int) (A : List Nd)  : PR (Dens [tN]) := PR.bind (Fns.base p T K a d A ()) fun y7 a7 d7 A7 => L0 a7 d7 A7 (nKind y7.1) (nAt y7.1) (nTo y7.1) (nText y7.1) (nBase y7.1) (nName y7.1) (nDims y7.1) (nMarks y7.1) (nN y7.1) (nW1 y7.1) (nW2 y7.1) (nEnds y7.1)
theorem asS106 (p : Fns) (T : List UInt8) (K : List Tok) (J : Jump R0) (L0 : Int → Int → List Nd → Int → Int → Int → List UInt8 → Int → List UInt8 → Int → List UInt8 → Int → Int → Int → List Int → PR (Dens [tN])) (h0 : ∀ (a d : Int) (A : List Nd) (k0 a0 t0 : Int) (s0 : List UInt8) (b : Int) (nm : List UInt8) (dm : Int) (mr : List UInt8) (n0 w1 w2 : Int) (L : List Int), Ans [tN] T K (J 0 (mk106 T K a d A k0 a0 t0 s0 b nm dm mr n0 w1 w2 L)) (L0 a d A k0 a0 t0 s0 b nm dm mr n0 w1 w2 L)) (a d : Int) (A : List Nd)  : Ans [tN] T K (start (R := R0) E (tabI (libP p)) fi106 cut106 J [.ref 0 0] (bsP T K a d A) .ok) (sS106 p T K L0 a d A ) := by
 rw [st106]
 unfold sS106
 repeat (first | exact h0 _ _ _ _ _ _ _ _ _ _ _ _ _ _ _ | exact Ans.bad | exact Ans.flt | exact ⟨_, _, [], [], rfl, rfl, rfl⟩ | exact ⟨_, _, _, _, rfl, rfl, rfl⟩ | refine Ans.bif (fun _ => ?_) (fun _ => ?_) | refine Ans.bind (fun _ _ _ _ _ => ?_) (fun _ _ => Ans.flt))
theorem lp106 (p : Fns) (T : List UInt8) (K : List Tok) (J : Jump R0) (a d : Int) (A : List Nd) (k0 a0 t0 : Int) (s0 : List UInt8) (b : Int) (nm : List UInt8) (dm : Int) (mr : List UInt8) (n0 w1 w2 : Int) (L : List Int) : resume (R := R0) E (tabI (libP p)) (cutsOf 2 cut106 0) J [true, true, false, false, false] fi106.code 1 (mk106 T K a d A k0 a0 t0 s0 b nm dm mr n0 w1 w2 L) (finK E 2 fi106.results .ok) = PR.bindR (Fns.next p T K a d A ()) (fun y19 a19 d19 A19 => PR.bindR (Fns.isS p T K a19 d19 A19 ([63], ())) (fun y23 a23 d23 A23 => bif !y23.1 then PR.bindR (Fns.next p T K a23 d23 A23 ()) (fun y27 a27 d27 A27 => PR.bindR (Fns.ahead p T K a27 d27 A27 (1, ())) (fun y31 a31 d31 A31 => PR.bindR (Fns.isS p T K a31 d31 A31 ([91], ())) (fun y35 a35 d35 A35 => bif !y35.1 then Rs.ok (Out.ret (AV.agg [Iz k0, Iz a0, Iz t0, AV.nils, AV.str s0, Iz b, AV.str nm, Iz dm, AV.str mr, Iz n0, Iz w1, Iz w2, AV.own 2 0]), [Blk.cells 72 [AV.str T, AV.sl tokTy K, Iz a35, Iz d35, AV.own 1 6, Iz 0], Blk.list 37 nodeTy 6 false A35, Blk.list 3 (Ty.int IntKind.i64) 0 false L]) else bif !y31.2.1 == [93] then Rs.ok (Out.ret (AV.agg [Iz k0, Iz a0, Iz t0, AV.nils, AV.str s0, Iz b, AV.str nm, Iz dm, AV.str mr, Iz n0, Iz w1, Iz w2, AV.own 2 0]), [Blk.cells 72 [AV.str T, AV.sl tokTy K, Iz a35, Iz d35, AV.own 1 6, Iz 0], Blk.list 37 nodeTy 6 false A35, Blk.list 3 (Ty.int IntKind.i64) 0 false L]) else bif dm == 4 then fl0 ((2 : Int)) (tFrom y27.1) else PR.bindR (Fns.skip p T K a35 d35 A35 ()) (fun y39 a39 d39 A39 => PR.bindR (Fns.skip p T K a39 d39 A39 ()) (fun y43 a43 d43 A43 => bif decide (List.length mr + List.length [32] < 2 ^ 62) then bif decide (List.length L + List.length [y43.1] < maxRoom) then J 0 { tmps := [(0, AV.ref 0 0), (2, AV.ref 2 0), (3, AV.ref 3 0)], blks := [(0, pC T K a43 d43), (1, pL A43), (2, Blk.cells 37 [Iz 0, Iz 0, Iz 0, AV.nils, AV.str [], Iz 0, AV.str [], Iz 0, AV.str [], Iz 0, Iz 0, Iz 0, AV.nils]), (3, Blk.cells 37 [Iz k0, Iz a0, Iz t0, AV.nils, AV.str s0, Iz b, AV.str nm, Iz (IntKind.wrap IntKind.i64 (dm + 1)), AV.str (mr ++ ([32] : List UInt8)), Iz n0, Iz w1, Iz y43.1, AV.own 4 0]), (4, Blk.list 3 (Ty.int IntKind.i64) 0 false (L ++ ([y43.1] : List Int)))], next := 5 } else Rs.err 1111 else Rs.err 1005) fl0) fl0) fl0) fl0) fl0 else bif b != 5 then bif dm == 0 then fl0 ((81 : Int)) (tFrom y19.1) else bif inI dm (List.length mr) then bif (↑(UInt8.toNat (List.getD mr (Int.toNat dm) 0)) : Int) != 32 then fl0 ((81 : Int)) (tFrom y19.1) else bif inB 0 dm (List.length mr) then bif decide (List.length (List.drop (Int.toNat 0) (List.take (Int.toNat dm) mr)) + List.length [63] < 2 ^ 62) then PR.bindR (Fns.skip p T K a23 d23 A23 ()) (fun y27 a27 d27 A27 => J 0 { tmps := [(0, AV.ref 0 0), (2, AV.ref 2 0), (3, AV.ref 3 0)], blks := [(0, pC T K a27 d27), (1, pL A27), (2, Blk.cells 37 [Iz 0, Iz 0, Iz 0, AV.nils, AV.str [], Iz 0, AV.str [], Iz 0, AV.str [], Iz 0, Iz 0, Iz 0, AV.nils]), (3, Blk.cells 37 [Iz k0, Iz a0, Iz t0, AV.nils, AV.str s0, Iz b, AV.str nm, Iz dm, AV.str (List.drop (Int.toNat 0) (List.take (Int.toNat dm) mr) ++ ([63] : List UInt8)), Iz n0, Iz w1, Iz y27.1, AV.own 4 0]), (4, Blk.list 3 (Ty.int IntKind.i64) 0 false L)], next := 5 }) fl0 else Rs.err 708 else Rs.err 707 else Rs.err 517 else bif inI dm (List.length mr) then bif (↑(UInt8.toNat (List.getD mr (Int.toNat dm) 0)) : Int) != 32 then fl0 ((81 : Int)) (tFrom y19.1) else bif inB 0 dm (List.length mr) then bif decide (List.length (List.drop (Int.toNat 0) (List.take (Int.toNat dm) mr)) + List.length [63] < 2 ^ 62) then PR.bindR (Fns.skip p T K a23 d23 A23 ()) (fun y27 a27 d27 A27 => J 0 { tmps := [(0, AV.ref 0 0), (2, AV.ref 2 0), (3, AV.ref 3 0)], blks := [(0, pC T K a27 d27), (1, pL A27), (2, Blk.cells 37 [Iz 0, Iz 0, Iz 0, AV.nils, AV.str [], Iz 0, AV.str [], Iz 0, AV.str [], Iz 0, Iz 0, Iz 0, AV.nils]), (3, Blk.cells 37 [Iz k0, Iz a0, Iz t0, AV.nils, AV.str s0, Iz b, AV.str nm, Iz dm, AV.str (List.drop (Int.toNat 0) (List.take (Int.toNat dm) mr) ++ ([63] : List UInt8)), Iz n0, Iz w1, Iz y27.1, AV.own 4 0]), (4, Blk.list 3 (Ty.int IntKind.i64) 0 false L)], next := 5 }) fl0 else Rs.err 708 else Rs.err 707 else Rs.err 517) fl0) fl0 := by kernel_rfl
def sL106 (p : Fns) (T : List UInt8) (K : List Tok) (L0 : Int → Int → List Nd → Int → Int → Int → List UInt8 → Int → List UInt8 → Int → List UInt8 → Int → Int → Int → List Int → PR (Dens [tN])) (a d : Int) (A : List Nd) (k0 a0 t0 : Int) (s0 : List UInt8) (b : Int) (nm : List UInt8) (dm : Int) (mr : List UInt8) (n0 w1 w2 : Int) (L : List Int) : PR (Dens [tN]) := PR.bind (Fns.next p T K a d A ()) fun y19 a19 d19 A19 => PR.bind (Fns.isS p T K a19 d19 A19 ([63], ())) fun y23 a23 d23 A23 => bif !y23.1 then PR.bind (Fns.next p T K a23 d23 A23 ()) fun y27 a27 d27 A27 => PR.bind (Fns.ahead p T K a27 d27 A27 (1, ())) fun y31 a31 d31 A31 => PR.bind (Fns.isS p T K a31 d31 A31 ([91], ())) fun y35 a35 d35 A35 => bif !y35.1 then PR.ok ((mkN k0 a0 t0 [] s0 b nm dm mr n0 w1 w2 L), ()) a35 d35 A35 else bif !y31.2.1 == [93] then PR.ok ((mkN k0 a0 t0 [] s0 b nm dm mr n0 w1 w2 L), ()) a35 d35 A35 else bif dm == 4 then PR.fault ((2 : Int)) (tFrom y27.1) else PR.bind (Fns.skip p T K a35 d35 A35 ()) fun y39 a39 d39 A39 => PR.bind (Fns.skip p T K a39 d39 A39 ()) fun y43 a43 d43 A43 => bif decide (List.length mr + List.length [32] < 2 ^ 62) then bif decide (List.length L + List.length [y43.1] < maxRoom) then L0 a43 d43 A43 k0 a0 t0 s0 b nm (IntKind.wrap IntKind.i64 (dm + 1)) (mr ++ ([32] : List UInt8)) n0 w1 y43.1 (L ++ ([y43.1] : List Int)) else PR.bad else PR.bad else bif b != 5 then bif dm == 0 then PR.fault ((81 : Int)) (tFrom y19.1) else bif inI dm (List.length mr) then bif (↑(UInt8.toNat (List.getD mr (Int.toNat dm) 0)) : Int) != 32 then PR.fault ((81 : Int)) (tFrom y19.1) else bif inB 0 dm (List.length mr) then bif decide (List.length (List.drop (Int.toNat 0) (List.take (Int.toNat dm) mr)) + List.length [63] < 2 ^ 62) then PR.bind (Fns.skip p T K a23 d23 A23 ()) fun y27 a27 d27 A27 => L0 a27 d27 A27 k0 a0 t0 s0 b nm dm (List.drop (Int.toNat 0) (List.take (Int.toNat dm) mr) ++ ([63] : List UInt8)) n0 w1 y27.1 L else PR.bad else PR.bad else PR.bad else bif inI dm (List.length mr) then bif (↑(UInt8.toNat (List.getD mr (Int.toNat dm) 0)) : Int) != 32 then PR.fault ((81 : Int)) (tFrom y19.1) else bif inB 0 dm (List.length mr) then bif decide (List.length (List.drop (Int.toNat 0) (List.take (Int.toNat dm) mr)) + List.length [63] < 2 ^ 62) then PR.bind (Fns.skip p T K a23 d23 A23 ()) fun y27 a27 d27 A27 => L0 a27 d27 A27 k0 a0 t0 s0 b nm dm (List.drop (Int.toNat 0) (List.take (Int.toNat dm) mr) ++ ([63] : List UInt8)) n0 w1 y27.1 L else PR.bad else PR.bad else PR.bad
theorem asL106 (p : Fns) (T : List UInt8) (K : List Tok) (J : Jump R0) (L0 : Int → Int → List Nd → Int → Int → Int → List UInt8 → Int → List UInt8 → Int → List UInt8 → Int → Int → Int → List Int → PR (Dens [tN])) (h0 : ∀ (a d : Int) (A : List Nd) (k0 a0 t0 : Int) (s0 : List UInt8) (b : Int) (nm : List UInt8) (dm : Int) (mr : List UInt8) (n0 w1 w2 : Int) (L : List Int), Ans [tN] T K (J 0 (mk106 T K a d A k0 a0 t0 s0 b nm dm mr n0 w1 w2 L)) (L0 a d A k0 a0 t0 s0 b nm dm mr n0 w1 w2 L)) (a d : Int) (A : List Nd) (k0 a0 t0 : Int) (s0 : List UInt8) (b : Int) (nm : List UInt8) (dm : Int) (mr : List UInt8) (n0 w1 w2 : Int) (L : List Int) : Ans [tN] T K (resume (R := R0) E (tabI (libP p)) (cutsOf 2 cut106 0) J [true, true, false, false, false] fi106.code 1 (mk106 T K a d A k0 a0 t0 s0 b nm dm mr n0 w1 w2 L) (finK E 2 fi106.results .ok)) (sL106 p T K L0 a d A k0 a0 t0 s0 b nm dm mr n0 w1 w2 L) := by
 rw [lp106]
 unfold sL106
 repeat (first | exact h0 _ _ _ _ _ _ _ _ _ _ _ _ _ _ _ | exact Ans.bad | exact Ans.flt | exact ⟨_, _, [], [], rfl, rfl, rfl⟩ | exact ⟨_, _, _, _, rfl, rfl, rfl⟩ | refine Ans.bif (fun _ => ?_) (fun _ => ?_) | refine Ans.bind (fun _ _ _ _ _ => ?_) (fun _ _ => Ans.flt))
def lF106 (p : Fns) (T : List UInt8) (K : List Tok) : Nat → Int → Int → List Nd → Int → Int → Int → List UInt8 → Int → List UInt8 → Int → List UInt8 → Int → Int → Int → List Int → PR (Dens [tN])
 | 0 => fun _ _ _ _ _ _ _ _ _ _ _ _ _ _ _ => .bad
 | n + 1 => sL106 p T K (lF106 p T K n)
theorem aF106 (p : Fns) (T : List UInt8) (K : List Tok) : ∀ (n : Nat) (a d : Int) (A : List Nd) (k0 a0 t0 : Int) (s0 : List UInt8) (b : Int) (nm : List UInt8) (dm : Int) (mr : List UInt8) (n0 w1 w2 : Int) (L : List Int), Ans [tN] T K (pieces (R := R0) E (tabI (libP p)) fi106 cut106 2 .ok n 0 (mk106 T K a d A k0 a0 t0 s0 b nm dm mr n0 w1 w2 L)) (lF106 p T K n a d A k0 a0 t0 s0 b nm dm mr n0 w1 w2 L)
 | 0, _, _, _, _, _, _, _, _, _, _, _, _, _, _, _ => Ans.bad
 | n + 1, a, d, A, k0, a0, t0, s0, b, nm, dm, mr, n0, w1, w2, L => by
  rw [pieces_at rfl]
  exact asL106 p T K _ _ (aF106 p T K n) a d A k0 a0 t0 s0 b nm dm mr n0 w1 w2 L
def sp106 (p : Fns) (T : List UInt8) (K : List Tok) (a d : Int) (A : List Nd)  : PR (Dens [tN]) := sS106 p T K (lF106 p T K (K.length + 2)) a d A
theorem body148 (p : Fns) (T : List UInt8) (K : List Tok) (a d : Int) (A : List Nd) : body (R := R0) E (tabI (libP p)) fi148 [.ref 0 0] (bsP T K a d A) .ok = PR.bindR (Fns.inner p T K a d A ()) (fun y6 a6 d6 A6 => PR.bindR (Fns.isS p T K a6 d6 A6 ([40], ())) (fun y10 a10 d10 A10 => bif y10.1 then bif nBase y6.1 != 5 then fl0 ((5 : Int)) (nW1 y6.1) else bif decide (nDims y6.1 > 0) then fl0 ((5 : Int)) (nW1 y6.1) else bif decide (UInt8.toNat 32 < 128) && Nat.ble (List.length (nMarks y6.1)) 9223372036854775807 then bif !Lib.trimB (nMarks y6.1) 32 == [] then fl0 ((5 : Int)) (nW1 y6.1) else PR.bindR (Fns.args p T K a10 d10 A10 ()) (fun y14 a14 d14 A14 => Rs.ok (Out.ret (AV.agg [Iz ((30 : Int)), Iz (nAt y6.1), Iz (nTo y6.1), AV.own 2 0, AV.str (nText y6.1), Iz (nBase y6.1), AV.str (nName y6.1), Iz (nDims y6.1), AV.str (nMarks y6.1), Iz (nN y6.1), Iz (nW1 y6.1), Iz (nW2 y6.1), AV.sl (Ty.int IntKind.i64) (nEnds y6.1)]), [Blk.cells 72 [AV.str T, AV.sl tokTy K, Iz a14, Iz d14, AV.own 1 3, Iz 0], Blk.list 37 nodeTy 3 false A14, Blk.list 3 (Ty.int IntKind.i64) 0 false y14.1])) fl0 else Rs.err 1000161 else PR.bindR (Fns.want p T K a10 d10 A10 ([91], ())) (fun y14 a14 d14 A14 => PR.bindR (Fns.value p T K a14 d14 A14 ()) (fun y18 a18 d18 A18 => PR.bindR (Fns.want p T K a18 d18 A18 ([93], ())) (fun y22 a22 d22 A22 => Rs.ok (Out.ret (AV.agg [Iz ((31 : Int)), Iz (nAt y6.1), Iz (nTo y6.1), AV.own 2 0, AV.str (nText y6.1), Iz (nBase y6.1), AV.str (nName y6.1), Iz (nDims y6.1), AV.str (nMarks y6.1), Iz (nN y6.1), Iz (nW1 y6.1), Iz (nW2 y6.1), AV.sl (Ty.int IntKind.i64) (nEnds y6.1)]), [Blk.cells 72 [AV.str T, AV.sl tokTy K, Iz a22, Iz d22, AV.own 1 5, Iz 0], Blk.list 37 nodeTy 5 false A22, Blk.list 3 (Ty.int IntKind.i64) 0 false [y18.1]])) fl0) fl0) fl0) fl0) fl0 := by kernel_rfl
def sp148 (p : Fns) (T : List UInt8) (K : List Tok) (a d : Int) (A : List Nd)  : PR (Dens [tN]) := PR.bind (Fns.inner p T K a d A ()) fun y6 a6 d6 A6 => PR.bind (Fns.isS p T K a6 d6 A6 ([40], ())) fun y10 a10 d10 A10 => bif y10.1 then bif nBase y6.1 != 5 then PR.fault ((5 : Int)) (nW1 y6.1) else bif decide (nDims y6.1 > 0) then PR.fault ((5 : Int)) (nW1 y6.1) else bif decide (UInt8.toNat 32 < 128) && Nat.ble (List.length (nMarks y6.1)) 9223372036854775807 then bif !Lib.trimB (nMarks y6.1) 32 == [] then PR.fault ((5 : Int)) (nW1 y6.1) else PR.bind (Fns.args p T K a10 d10 A10 ()) fun y14 a14 d14 A14 => PR.ok ((mkN ((30 : Int)) (nAt y6.1) (nTo y6.1) y14.1 (nText y6.1) (nBase y6.1) (nName y6.1) (nDims y6.1) (nMarks y6.1) (nN y6.1) (nW1 y6.1) (nW2 y6.1) (nEnds y6.1)), ()) a14 d14 A14 else PR.bad else PR.bind (Fns.want p T K a10 d10 A10 ([91], ())) fun y14 a14 d14 A14 => PR.bind (Fns.value p T K a14 d14 A14 ()) fun y18 a18 d18 A18 => PR.bind (Fns.want p T K a18 d18 A18 ([93], ())) fun y22 a22 d22 A22 => PR.ok ((mkN ((31 : Int)) (nAt y6.1) (nTo y6.1) ([y18.1]) (nText y6.1) (nBase y6.1) (nName y6.1) (nDims y6.1) (nMarks y6.1) (nN y6.1) (nW1 y6.1) (nW2 y6.1) (nEnds y6.1)), ()) a22 d22 A22
theorem ans148 (p : Fns) (T : List UInt8) (K : List Tok) (a d : Int) (A : List Nd)  : Ans [tN] T K (body (R := R0) E (tabI (libP p)) fi148 [.ref 0 0] (bsP T K a d A) .ok) (sp148 p T K a d A ) := by
 rw [body148]
 unfold sp148
 repeat (first | exact Ans.bad | exact Ans.flt | exact ⟨_, _, [], [], rfl, rfl, rfl⟩ | exact ⟨_, _, _, _, rfl, rfl, rfl⟩ | refine Ans.bif (fun _ => ?_) (fun _ => ?_) | refine Ans.bind (fun _ _ _ _ _ => ?_) (fun _ _ => Ans.flt))
end Go.Sx.Tryz
namespace Go.Sx.Tryz
open Go Go.Sx Go.Proofs
set_option maxRecDepth 100000
variable {G : Nat → Obj → Prop} {p : Fns}
theorem ok45 (hl : IChk Tryz.prog G (libP p)) : PRok G 45 [] [tT, tS] (fun T K a d A x => sp45 p T K a d A ) := pr_body fc45 hl fun T K a d A _ => ans45 p T K a d A 
theorem ok125 (hl : IChk Tryz.prog G (libP p)) : PRok G 125 [tI] [tI, tS] (fun T K a d A x => sp125 p T K a d A x.1) := pr_body fc125 hl fun T K a d A ⟨x1, _⟩ => ans125 p T K a d A x1
theorem ok90 (hl : IChk Tryz.prog G (libP p)) : PRok G 90 [] [tI] (fun T K a d A x => sp90 p T K a d A ) := pr_body fc90 hl fun T K a d A _ => ans90 p T K a d A 
theorem ok75 (hl : IChk Tryz.prog G (libP p)) : PRok G 75 [tS] [tB] (fun T K a d A x => sp75 p T K a d A x.1) := pr_body fc75 hl fun T K a d A ⟨x1, _⟩ => ans75 p T K a d A x1
theorem ok74 (hl : IChk Tryz.prog G (libP p)) : PRok G 74 [tS] [tB] (fun T K a d A x => sp74 p T K a d A x.1) := pr_body fc74 hl fun T K a d A ⟨x1, _⟩ => ans74 p T K a d A x1
theorem ok72 (hl : IChk Tryz.prog G (libP p)) : PRok G 72 [tS] [tI] (fun T K a d A x => sp72 p T K a d A x.1) := pr_body fc72 hl fun T K a d A ⟨x1, _⟩ => ans72 p T K a d A x1
theorem ok73 (hl : IChk Tryz.prog G (libP p)) : PRok G 73 [] [tS] (fun T K a d A x => sp73 p T K a d A ) := pr_body fc73 hl fun T K a d A _ => ans73 p T K a d A 
theorem ok48 (hl : IChk Tryz.prog G (libP p)) : PRok G 48 [tN, tI] [tI] (fun T K a d A x => sp48 p T K a d A x.1 x.2.1) := pr_body fc48 hl fun T K a d A ⟨x1, x2, _⟩ => ans48 p T K a d A x1 x2
theorem ok104 (hl : IChk Tryz.prog G (libP p)) : PRok G 104 [] [] (fun T K a d A x => sp104 p T K a d A ) := pr_body fc104 hl fun T K a d A _ => ans104 p T K a d A 
theorem ok46 (hl : IChk Tryz.prog G (libP p)) : PRok G 46 [tI] [] (fun T K a d A x => sp46 p T K a d A x.1) := pr_body fc46 hl fun T K a d A ⟨x1, _⟩ => ans46 p T K a d A x1
theorem ok47 (hl : IChk Tryz.prog G (libP p)) : PRok G 47 [] [tI] (fun T K a d A x => sp47 p T K a d A ) := pr_start fc47 hl fun T K a d A _ => ⟨_, asS47 p T K _ _ (aF47 p T K _) a d A ⟩
theorem ok76 (hl : IChk Tryz.prog G (libP p)) : PRok G 76 [] [tI] (fun T K a d A x => sp76 p T K a d A ) := pr_body fc76 hl fun T K a d A _ => ans76 p T K a d A 
theorem ok92 (hl : IChk Tryz.prog G (libP p)) : PRokG G 92 [] [tL] (fun T K a d A x => sp92 p T K a d A ) retL moreL := pr_startG gok_L fc92 hl fun T K a d A _ => ⟨_, asS92 p T K _ _ (aF92 p T K _) a d A ⟩
theorem ok94 (hl : IChk Tryz.prog G (libP p)) : PRok G 94 [tB] [tN] (fun T K a d A x => sp94 p T K a d A x.1) := pr_body fc94 hl fun T K a d A ⟨x1, _⟩ => ans94 p T K a d A x1
theorem ok106 (hl : IChk Tryz.prog G (libP p)) : PRok G 106 [] [tN] (fun T K a d A x => sp106 p T K a d A ) := pr_start fc106 hl fun T K a d A _ => ⟨_, asS106 p T K _ _ (aF106 p T K _) a d A ⟩
theorem ok117 (hl : IChk Tryz.prog G (libP p)) : PRokG G 117 [] [tN] (fun T K a d A x => sp117 p T K a d A ) retE moreE := pr_bodyG gok_E fc117 hl fun T K a d A _ => ans117 p T K a d A 
theorem ok93 (hl : IChk Tryz.prog G (libP p)) : PRok G 93 [] [tI] (fun T K a d A x => sp93 p T K a d A ) := pr_start fc93 hl fun T K a d A _ => ⟨_, asS93 p T K _ _ (aF93 p T K _) a d A ⟩
theorem ok113 (hl : IChk Tryz.prog G (libP p)) : PRok G 113 [] [tB] (fun T K a d A x => sp113 p T K a d A ) := pr_body fc113 hl fun T K a d A _ => ans113 p T K a d A 
theorem ok105 (hl : IChk Tryz.prog G (libP p)) : PRok G 105 [] [tI] (fun T K a d A x => sp105 p T K a d A ) := pr_body fc105 hl fun T K a d A _ => ans105 p T K a d A 
theorem ok115 (hl : IChk Tryz.prog G (libP p)) : PRok G 115 [tS] [tN, tB] (fun T K a d A x => sp115 p T K a d A x.1) := pr_body fc115 hl fun T K a d A ⟨x1, _⟩ => ans115 p T K a d A x1
theorem ok116 (hl : IChk Tryz.prog G (libP p)) : PRok G 116 [tI] [tI] (fun T K a d A x => sp116 p T K a d A x.1) := pr_body fc116 hl fun T K a d A ⟨x1, _⟩ => ans116 p T K a d A x1
theorem ok127 (hl : IChk Tryz.prog G (libP p)) : PRok G 127 [] [tI] (fun T K a d A x => sp127 p T K a d A ) := pr_body fc127 hl fun T K a d A _ => ans127 p T K a d A 
theorem ok128 (hl : IChk Tryz.prog G (libP p)) : PRokG G 128 [] [tL] (fun T K a d A x => sp128 p T K a d A ) retL moreL := pr_startG gok_L fc128 hl fun T K a d A _ => ⟨_, asS128 p T K _ _ (aF128 p T K _) a d A ⟩
theorem ok114 (hl : IChk Tryz.prog G (libP p)) : PRok G 114 [] [tI] (fun T K a d A x => sp114 p T K a d A ) := pr_body fc114 hl fun T K a d A _ => ans114 p T K a d A 
theorem ok126 (hl : IChk Tryz.prog G (libP p)) : PRok G 126 [tI] [tI] (fun T K a d A x => sp126 p T K a d A x.1) := pr_start fc126 hl fun T K a d A ⟨x1, _⟩ => ⟨_, asS126 p T K _ _ (aF126 p T K _) a d A x1⟩
theorem ok133 (hl : IChk Tryz.prog G (libP p)) : PRok G 133 [] [tI] (fun T K a d A x => sp133 p T K a d A ) := pr_body fc133 hl fun T K a d A _ => ans133 p T K a d A 
theorem ok135 (hl : IChk Tryz.prog G (libP p)) : PRok G 135 [] [tI] (fun T K a d A x => sp135 p T K a d A ) := pr_start fc135 hl fun T K a d A _ => ⟨_, asS135 p T K _ _ (aF135 p T K _) a d A ⟩
theorem ok136 (hl : IChk Tryz.prog G (libP p)) : PRok G 136 [] [tI] (fun T K a d A x => sp136 p T K a d A ) := pr_body fc136 hl fun T K a d A _ => ans136 p T K a d A 
theorem ok137 (hl : IChk Tryz.prog G (libP p)) : PRok G 137 [tI, tI] [tI] (fun T K a d A x => sp137 p T K a d A x.1 x.2.1) := pr_body fc137 hl fun T K a d A ⟨x1, x2, _⟩ => ans137 p T K a d A x1 x2
theorem ok139 (hl : IChk Tryz.prog G (libP p)) : PRok G 139 [tN, tI] [tI] (fun T K a d A x => sp139 p T K a d A x.1 x.2.1) := pr_body fc139 hl fun T K a d A ⟨x1, x2, _⟩ => ans139 p T K a d A x1 x2
theorem ok142 (hl : IChk Tryz.prog G (libP p)) : PRok G 142 [tT, tS] [tI] (fun T K a d A x => sp142 p T K a d A x.1 x.2.1) := pr_body fc142 hl fun T K a d A ⟨x1, x2, _⟩ => ans142 p T K a d A x1 x2
theorem ok148 (hl : IChk Tryz.prog G (libP p)) : PRok G 148 [] [tN] (fun T K a d A x => sp148 p T K a d A ) := pr_body fc148 hl fun T K a d A _ => ans148 p T K a d A 
theorem ok26 (hl : IChk Tryz.prog G (libP p)) : PRok G 26 [] [] (fun T K a d A x => sp26 p T K a d A ) := pr_start fc26 hl fun T K a d A _ => ⟨_, asS26 p T K _ _ (aF26 p T K _) a d A ⟩
def stepF (p : Fns) : Fns where
 next := fun T K a d A x => sp45 p T K a d A 
 ahead := fun T K a d A x => sp125 p T K a d A x.1
 skip := fun T K a d A x => sp90 p T K a d A 
 isS := fun T K a d A x => sp75 p T K a d A x.1
 take := fun T K a d A x => sp74 p T K a d A x.1
 want := fun T K a d A x => sp72 p T K a d A x.1
 name := fun T K a d A x => sp73 p T K a d A 
 add := fun T K a d A x => sp48 p T K a d A x.1 x.2.1
 goIn := fun T K a d A x => sp104 p T K a d A 
 few := fun T K a d A x => sp46 p T K a d A x.1
 klass := fun T K a d A x => sp47 p T K a d A 
 member := fun T K a d A x => sp76 p T K a d A 
 params := fun T K a d A x => sp92 p T K a d A 
 typed := fun T K a d A x => sp94 p T K a d A x.1
 inner := fun T K a d A x => sp106 p T K a d A 
 base := fun T K a d A x => sp117 p T K a d A 
 block := fun T K a d A x => sp93 p T K a d A 
 declares := fun T K a d A x => sp113 p T K a d A 
 stat := fun T K a d A x => sp105 p T K a d A 
 word := fun T K a d A x => sp115 p T K a d A x.1
 plainS := fun T K a d A x => sp116 p T K a d A x.1
 bracket := fun T K a d A x => sp127 p T K a d A 
 args := fun T K a d A x => sp128 p T K a d A 
 value := fun T K a d A x => sp114 p T K a d A 
 chain := fun T K a d A x => sp126 p T K a d A x.1
 unary := fun T K a d A x => sp133 p T K a d A 
 behind := fun T K a d A x => sp135 p T K a d A 
 primary := fun T K a d A x => sp136 p T K a d A 
 part := fun T K a d A x => sp137 p T K a d A x.1 x.2.1
 literal := fun T K a d A x => sp139 p T K a d A x.1 x.2.1
 kept := fun T K a d A x => sp142 p T K a d A x.1 x.2.1
 made := fun T K a d A x => sp148 p T K a d A 
def fns0 : Fns where
 next := fun _ _ _ _ _ _ => .bad
 ahead := fun _ _ _ _ _ _ => .bad
 skip := fun _ _ _ _ _ _ => .bad
 isS := fun _ _ _ _ _ _ => .bad
 take := fun _ _ _ _ _ _ => .bad
 want := fun _ _ _ _ _ _ => .bad
 name := fun _ _ _ _ _ _ => .bad
 add := fun _ _ _ _ _ _ => .bad
 goIn := fun _ _ _ _ _ _ => .bad
 few := fun _ _ _ _ _ _ => .bad
 klass := fun _ _ _ _ _ _ => .bad
 member := fun _ _ _ _ _ _ => .bad
 params := fun _ _ _ _ _ _ => .bad
 typed := fun _ _ _ _ _ _ => .bad
 inner := fun _ _ _ _ _ _ => .bad
 base := fun _ _ _ _ _ _ => .bad
 block := fun _ _ _ _ _ _ => .bad
 declares := fun _ _ _ _ _ _ => .bad
 stat := fun _ _ _ _ _ _ => .bad
 word := fun _ _ _ _ _ _ => .bad
 plainS := fun _ _ _ _ _ _ => .bad
 bracket := fun _ _ _ _ _ _ => .bad
 args := fun _ _ _ _ _ _ => .bad
 value := fun _ _ _ _ _ _ => .bad
 chain := fun _ _ _ _ _ _ => .bad
 unary := fun _ _ _ _ _ _ => .bad
 behind := fun _ _ _ _ _ _ => .bad
 primary := fun _ _ _ _ _ _ => .bad
 part := fun _ _ _ _ _ _ => .bad
 literal := fun _ _ _ _ _ _ => .bad
 kept := fun _ _ _ _ _ _ => .bad
 made := fun _ _ _ _ _ _ => .bad
def fns : Nat → Fns
 | 0 => fns0
 | n + 1 => stepF (fns n)
structure FnsOK (G : Nat → Obj → Prop) (p : Fns) : Prop where
 o45 : PRok G 45 _ _ p.next
 o125 : PRok G 125 _ _ p.ahead
 o90 : PRok G 90 _ _ p.skip
 o75 : PRok G 75 _ _ p.isS
 o74 : PRok G 74 _ _ p.take
 o72 : PRok G 72 _ _ p.want
 o73 : PRok G 73 _ _ p.name
 o48 : PRok G 48 _ _ p.add
 o104 : PRok G 104 _ _ p.goIn
 o46 : PRok G 46 _ _ p.few
 o47 : PRok G 47 _ _ p.klass
 o76 : PRok G 76 _ _ p.member
 o92 : PRokG G 92 _ _ p.params retL moreL
 o94 : PRok G 94 _ _ p.typed
 o106 : PRok G 106 _ _ p.inner
 o117 : PRokG G 117 _ _ p.base retE moreE
 o93 : PRok G 93 _ _ p.block
 o113 : PRok G 113 _ _ p.declares
 o105 : PRok G 105 _ _ p.stat
 o115 : PRok G 115 _ _ p.word
 o116 : PRok G 116 _ _ p.plainS
 o127 : PRok G 127 _ _ p.bracket
 o128 : PRokG G 128 _ _ p.args retL moreL
 o114 : PRok G 114 _ _ p.value
 o126 : PRok G 126 _ _ p.chain
 o133 : PRok G 133 _ _ p.unary
 o135 : PRok G 135 _ _ p.behind
 o136 : PRok G 136 _ _ p.primary
 o137 : PRok G 137 _ _ p.part
 o139 : PRok G 139 _ _ p.literal
 o142 : PRok G 142 _ _ p.kept
 o148 : PRok G 148 _ _ p.made
theorem fns0_ok : FnsOK G fns0 where
 o45 := fun _ _ _ _ _ _ => trivial
 o125 := fun _ _ _ _ _ _ => trivial
 o90 := fun _ _ _ _ _ _ => trivial
 o75 := fun _ _ _ _ _ _ => trivial
 o74 := fun _ _ _ _ _ _ => trivial
 o72 := fun _ _ _ _ _ _ => trivial
 o73 := fun _ _ _ _ _ _ => trivial
 o48 := fun _ _ _ _ _ _ => trivial
 o104 := fun _ _ _ _ _ _ => trivial
 o46 := fun _ _ _ _ _ _ => trivial
 o47 := fun _ _ _ _ _ _ => trivial
 o76 := fun _ _ _ _ _ _ => trivial
 o92 := fun _ _ _ _ _ _ => trivial
 o94 := fun _ _ _ _ _ _ => trivial
 o106 := fun _ _ _ _ _ _ => trivial
 o117 := fun _ _ _ _ _ _ => trivial
 o93 := fun _ _ _ _ _ _ => trivial
 o113 := fun _ _ _ _ _ _ => trivial
 o105 := fun _ _ _ _ _ _ => trivial
 o115 := fun _ _ _ _ _ _ => trivial
 o116 := fun _ _ _ _ _ _ => trivial
 o127 := fun _ _ _ _ _ _ => trivial
 o128 := fun _ _ _ _ _ _ => trivial
 o114 := fun _ _ _ _ _ _ => trivial
 o126 := fun _ _ _ _ _ _ => trivial
 o133 := fun _ _ _ _ _ _ => trivial
 o135 := fun _ _ _ _ _ _ => trivial
 o136 := fun _ _ _ _ _ _ => trivial
 o137 := fun _ _ _ _ _ _ => trivial
 o139 := fun _ _ _ _ _ _ => trivial
 o142 := fun _ _ _ _ _ _ => trivial
 o148 := fun _ _ _ _ _ _ => trivial
theorem stepF_ok (hl : IChk Tryz.prog G (libP p)) : FnsOK G (stepF p) where
 o45 := ok45 hl
 o125 := ok125 hl
 o90 := ok90 hl
 o75 := ok75 hl
 o74 := ok74 hl
 o72 := ok72 hl
 o73 := ok73 hl
 o48 := ok48 hl
 o104 := ok104 hl
 o46 := ok46 hl
 o47 := ok47 hl
 o76 := ok76 hl
 o92 := ok92 hl
 o94 := ok94 hl
 o106 := ok106 hl
 o117 := ok117 hl
 o93 := ok93 hl
 o113 := ok113 hl
 o105 := ok105 hl
 o115 := ok115 hl
 o116 := ok116 hl
 o127 := ok127 hl
 o128 := ok128 hl
 o114 := ok114 hl
 o126 := ok126 hl
 o133 := ok133 hl
 o135 := ok135 hl
 o136 := ok136 hl
 o137 := ok137 hl
 o139 := ok139 hl
 o142 := ok142 hl
 o148 := ok148 hl
end Go.Sx.Tryz
namespace Go.Sx.Tryz
open Go Go.Sx Go.Proofs
set_option maxRecDepth 100000
variable {G : Nat → Obj → Prop} {p : Fns}
theorem failC_ok : IntrOne Tryz.prog G 71 failC := fun R args bs k r hr => by
 unfold failC at hr
 split at hr
 ·rename_i c q
  have h1 : body (R := R0) E (tabI []) fi71 [.int .i64 c, .int .i64 q] [] .ok = .ok (.panic (.iface 28 (.agg [.int .i64 c, .int .i64 q])), []) := by kernel_rfl
  exact ⟨_, hr, body_ok (envOK []) (tabI_ok .nil) fc71 h1⟩
 ·cases hr
theorem body134 (s : List UInt8) : body (R := R0) E (tabI []) fi134 [.str s] [] .ok = bif s == [124, 124] then Rs.ok (Out.ret (AV.int IntKind.i64 0), []) else bif s == [38, 38] then Rs.ok (Out.ret (AV.int IntKind.i64 ((1 : Int))), []) else bif s == [61, 61] then bif s == [61, 61] then Rs.ok (Out.ret (AV.int IntKind.i64 ((2 : Int))), []) else bif s == [60] then bif s == [60] then Rs.ok (Out.ret (AV.int IntKind.i64 ((3 : Int))), []) else bif s == [43] then bif s == [43] then Rs.ok (Out.ret (AV.int IntKind.i64 ((4 : Int))), []) else bif s == [42] then bif s == [42] then Rs.ok (Out.ret (AV.int IntKind.i64 ((5 : Int))), []) else Rs.ok (Out.ret (AV.int IntKind.i64 ((-1 : Int))), []) else bif s == [47] then bif s == [47] then Rs.ok (Out.ret (AV.int IntKind.i64 ((5 : Int))), []) else Rs.ok (Out.ret (AV.int IntKind.i64 ((-1 : Int))), []) else bif s == [37] then Rs.ok (Out.ret (AV.int IntKind.i64 ((5 : Int))), []) else Rs.ok (Out.ret (AV.int IntKind.i64 ((-1 : Int))), []) else bif s == [45] then Rs.ok (Out.ret (AV.int IntKind.i64 ((4 : Int))), []) else bif s == [42] then bif s == [42] then Rs.ok (Out.ret (AV.int IntKind.i64 ((5 : Int))), []) else Rs.ok (Out.ret (AV.int IntKind.i64 ((-1 : Int))), []) else bif s == [47] then bif s == [47] then Rs.ok (Out.ret (AV.int IntKind.i64 ((5 : Int))), []) else Rs.ok (Out.ret (AV.int IntKind.i64 ((-1 : Int))), []) else bif s == [37] then Rs.ok (Out.ret (AV.int IntKind.i64 ((5 : Int))), []) else Rs.ok (Out.ret (AV.int IntKind.i64 ((-1 : Int))), []) else bif s == [60, 61] then bif s == [60, 61] then Rs.ok (Out.ret (AV.int IntKind.i64 ((3 : Int))), []) else bif s == [43] then bif s == [43] then Rs.ok (Out.ret (AV.int IntKind.i64 ((4 : Int))), []) else bif s == [42] then bif s == [42] then Rs.ok (Out.ret (AV.int IntKind.i64 ((5 : Int))), []) else Rs.ok (Out.ret (AV.int IntKind.i64 ((-1 : Int))), []) else bif s == [47] then bif s == [47] then Rs.ok (Out.ret (AV.int IntKind.i64 ((5 : Int))), []) else Rs.ok (Out.ret (AV.int IntKind.i64 ((-1 : Int))), []) else bif s == [37] then Rs.ok (Out.ret (AV.int IntKind.i64 ((5 : Int))), []) else Rs.ok (Out.ret (AV.int IntKind.i64 ((-1 : Int))), []) else bif s == [45] then Rs.ok (Out.ret (AV.int IntKind.i64 ((4 : Int))), []) else bif s == [42] then bif s == [42] then Rs.ok (Out.ret (AV.int IntKind.i64 ((5 : Int))), []) else Rs.ok (Out.ret (AV.int IntKind.i64 ((-1 : Int))), []) else bif s == [47] then bif s == [47] then Rs.ok (Out.ret (AV.int IntKind.i64 ((5 : Int))), []) else Rs.ok (Out.ret (AV.int IntKind.i64 ((-1 : Int))), []) else bif s == [37] then Rs.ok (Out.ret (AV.int IntKind.i64 ((5 : Int))), []) else Rs.ok (Out.ret (AV.int IntKind.i64 ((-1 : Int))), []) else bif s == [62] then bif s == [62] then Rs.ok (Out.ret (AV.int IntKind.i64 ((3 : Int))), []) else bif s == [43] then bif s == [43] then Rs.ok (Out.ret (AV.int IntKind.i64 ((4 : Int))), []) else bif s == [42] then bif s == [42] then Rs.ok (Out.ret (AV.int IntKind.i64 ((5 : Int))), []) else Rs.ok (Out.ret (AV.int IntKind.i64 ((-1 : Int))), []) else bif s == [47] then bif s == [47] then Rs.ok (Out.ret (AV.int IntKind.i64 ((5 : Int))), []) else Rs.ok (Out.ret (AV.int IntKind.i64 ((-1 : Int))), []) else bif s == [37] then Rs.ok (Out.ret (AV.int IntKind.i64 ((5 : Int))), []) else Rs.ok (Out.ret (AV.int IntKind.i64 ((-1 : Int))), []) else bif s == [45] then Rs.ok (Out.ret (AV.int IntKind.i64 ((4 : Int))), []) else bif s == [42] then bif s == [42] then Rs.ok (Out.ret (AV.int IntKind.i64 ((5 : Int))), []) else Rs.ok (Out.ret (AV.int IntKind.i64 ((-1 : Int))), []) else bif s == [47] then bif s == [47] then Rs.ok (Out.ret (AV.int IntKind.i64 ((5 : Int))), []) else Rs.ok (Out.ret (AV.int IntKind.i64 ((-1 : Int))), []) else bif s == [37] then Rs.ok (Out.ret (AV.int IntKind.i64 ((5 : Int))), []) else Rs.ok (Out.ret (AV.int IntKind.i64 ((-1 : Int))), []) else bif s == [62, 61] then Rs.ok (Out.ret (AV.int IntKind.i64 ((3 : Int))), []) else bif s == [43] then bif s == [43] then Rs.ok (Out.ret (AV.int IntKind.i64 ((4 : Int))), []) else bif s == [42] then bif s == [42] then Rs.ok (Out.ret (AV.int IntKind.i64 ((5 : Int))), []) else Rs.ok (Out.ret (AV.int IntKind.i64 ((-1 : Int))), []) else bif s == [47] then bif s == [47] then Rs.ok (Out.ret (AV.int IntKind.i64 ((5 : Int))), []) else Rs.ok (Out.ret (AV.int IntKind.i64 ((-1 : Int))), []) else bif s == [37] then Rs.ok (Out.ret (AV.int IntKind.i64 ((5 : Int))), []) else Rs.ok (Out.ret (AV.int IntKind.i64 ((-1 : Int))), []) else bif s == [45] then Rs.ok (Out.ret (AV.int IntKind.i64 ((4 : Int))), []) else bif s == [42] then bif s == [42] then Rs.ok (Out.ret (AV.int IntKind.i64 ((5 : Int))), []) else Rs.ok (Out.ret (AV.int IntKind.i64 ((-1 : Int))), []) else bif s == [47] then bif s == [47] then Rs.ok (Out.ret (AV.int IntKind.i64 ((5 : Int))), []) else Rs.ok (Out.ret (AV.int IntKind.i64 ((-1 : Int))), []) else bif s == [37] then Rs.ok (Out.ret (AV.int IntKind.i64 ((5 : Int))), []) else Rs.ok (Out.ret (AV.int IntKind.i64 ((-1 : Int))), []) else bif s == [33, 61] then Rs.ok (Out.ret (AV.int IntKind.i64 ((2 : Int))), []) else bif s == [60] then bif s == [60] then Rs.ok (Out.ret (AV.int IntKind.i64 ((3 : Int))), []) else bif s == [43] then bif s == [43] then Rs.ok (Out.ret (AV.int IntKind.i64 ((4 : Int))), []) else bif s == [42] then bif s == [42] then Rs.ok (Out.ret (AV.int IntKind.i64 ((5 : Int))), []) else Rs.ok (Out.ret (AV.int IntKind.i64 ((-1 : Int))), []) else bif s == [47] then bif s == [47] then Rs.ok (Out.ret (AV.int IntKind.i64 ((5 : Int))), []) else Rs.ok (Out.ret (AV.int IntKind.i64 ((-1 : Int))), []) else bif s == [37] then Rs.ok (Out.ret (AV.int IntKind.i64 ((5 : Int))), []) else Rs.ok (Out.ret (AV.int IntKind.i64 ((-1 : Int))), []) else bif s == [45] then Rs.ok (Out.ret (AV.int IntKind.i64 ((4 : Int))), []) else bif s == [42] then bif s == [42] then Rs.ok (Out.ret (AV.int IntKind.i64 ((5 : Int))), []) else Rs.ok (Out.ret (AV.int IntKind.i64 ((-1 : Int))), []) else bif s == [47] then bif s == [47] then Rs.ok (Out.ret (AV.int IntKind.i64 ((5 : Int))), []) else Rs.ok (Out.ret (AV.int IntKind.i64 ((-1 : Int))), []) else bif s == [37] then Rs.ok (Out.ret (AV.int IntKind.i64 ((5 : Int))), []) else Rs.ok (Out.ret (AV.int IntKind.i64 ((-1 : Int))), []) else bif s == [60, 61] then bif s == [60, 61] then Rs.ok (Out.ret (AV.int IntKind.i64 ((3 : Int))), []) else bif s == [43] then bif s == [43] then Rs.ok (Out.ret (AV.int IntKind.i64 ((4 : Int))), []) else bif s == [42] then bif s == [42] then Rs.ok (Out.ret (AV.int IntKind.i64 ((5 : Int))), []) else Rs.ok (Out.ret (AV.int IntKind.i64 ((-1 : Int))), []) else bif s == [47] then bif s == [47] then Rs.ok (Out.ret (AV.int IntKind.i64 ((5 : Int))), []) else Rs.ok (Out.ret (AV.int IntKind.i64 ((-1 : Int))), []) else bif s == [37] then Rs.ok (Out.ret (AV.int IntKind.i64 ((5 : Int))), []) else Rs.ok (Out.ret (AV.int IntKind.i64 ((-1 : Int))), []) else bif s == [45] then Rs.ok (Out.ret (AV.int IntKind.i64 ((4 : Int))), []) else bif s == [42] then bif s == [42] then Rs.ok (Out.ret (AV.int IntKind.i64 ((5 : Int))), []) else Rs.ok (Out.ret (AV.int IntKind.i64 ((-1 : Int))), []) else bif s == [47] then bif s == [47] then Rs.ok (Out.ret (AV.int IntKind.i64 ((5 : Int))), []) else Rs.ok (Out.ret (AV.int IntKind.i64 ((-1 : Int))), []) else bif s == [37] then Rs.ok (Out.ret (AV.int IntKind.i64 ((5 : Int))), []) else Rs.ok (Out.ret (AV.int IntKind.i64 ((-1 : Int))), []) else bif s == [62] then bif s == [62] then Rs.ok (Out.ret (AV.int IntKind.i64 ((3 : Int))), []) else bif s == [43] then bif s == [43] then Rs.ok (Out.ret (AV.int IntKind.i64 ((4 : Int))), []) else bif s == [42] then bif s == [42] then Rs.ok (Out.ret (AV.int IntKind.i64 ((5 : Int))), []) else Rs.ok (Out.ret (AV.int IntKind.i64 ((-1 : Int))), []) else bif s == [47] then bif s == [47] then Rs.ok (Out.ret (AV.int IntKind.i64 ((5 : Int))), []) else Rs.ok (Out.ret (AV.int IntKind.i64 ((-1 : Int))), []) else bif s == [37] then Rs.ok (Out.ret (AV.int IntKind.i64 ((5 : Int))), []) else Rs.ok (Out.ret (AV.int IntKind.i64 ((-1 : Int))), []) else bif s == [45] then Rs.ok (Out.ret (AV.int IntKind.i64 ((4 : Int))), []) else bif s == [42] then bif s == [42] then Rs.ok (Out.ret (AV.int IntKind.i64 ((5 : Int))), []) else Rs.ok (Out.ret (AV.int IntKind.i64 ((-1 : Int))), []) else bif s == [47] then bif s == [47] then Rs.ok (Out.ret (AV.int IntKind.i64 ((5 : Int))), []) else Rs.ok (Out.ret (AV.int IntKind.i64 ((-1 : Int))), []) else bif s == [37] then Rs.ok (Out.ret (AV.int IntKind.i64 ((5 : Int))), []) else Rs.ok (Out.ret (AV.int IntKind.i64 ((-1 : Int))), []) else bif s == [62, 61] then Rs.ok (Out.ret (AV.int IntKind.i64 ((3 : Int))), []) else bif s == [43] then bif s == [43] then Rs.ok (Out.ret (AV.int IntKind.i64 ((4 : Int))), []) else bif s == [42] then bif s == [42] then Rs.ok (Out.ret (AV.int IntKind.i64 ((5 : Int))), []) else Rs.ok (Out.ret (AV.int IntKind.i64 ((-1 : Int))), []) else bif s == [47] then bif s == [47] then Rs.ok (Out.ret (AV.int IntKind.i64 ((5 : Int))), []) else Rs.ok (Out.ret (AV.int IntKind.i64 ((-1 : Int))), []) else bif s == [37] then Rs.ok (Out.ret (AV.int IntKind.i64 ((5 : Int))), []) else Rs.ok (Out.ret (AV.int IntKind.i64 ((-1 : Int))), []) else bif s == [45] then Rs.ok (Out.ret (AV.int IntKind.i64 ((4 : Int))), []) else bif s == [42] then bif s == [42] then Rs.ok (Out.ret (AV.int IntKind.i64 ((5 : Int))), []) else Rs.ok (Out.ret (AV.int IntKind.i64 ((-1 : Int))), []) else bif s == [47] then bif s == [47] then Rs.ok (Out.ret (AV.int IntKind.i64 ((5 : Int))), []) else Rs.ok (Out.ret (AV.int IntKind.i64 ((-1 : Int))), []) else bif s == [37] then Rs.ok (Out.ret (AV.int IntKind.i64 ((5 : Int))), []) else Rs.ok (Out.ret (AV.int IntKind.i64 ((-1 : Int))), []) := by kernel_rfl
theorem binds_SA (x : Dens sigS) : SAD Tryz.prog G 134 sigS sigI x (bindsX x) := by
 obtain ⟨s, ⟨⟩⟩ := x
 have key : ∀ s : List UInt8, body (R := R0) E (tabI []) fi134 [.str s] [] .ok = .ok (.ret (.int .i64 (bindsS s)), []) := fun s => by
  rw [body134]
  unfold bindsS
  cases (s == ([124, 124] : List UInt8)) with
  | true => rfl
  | false =>
  cases (s == ([38, 38] : List UInt8)) with
  | true => rfl
  | false =>
  cases (s == ([61, 61] : List UInt8)) with
  | true => rfl
  | false =>
  cases (s == ([33, 61] : List UInt8)) with
  | true => rfl
  | false =>
  cases (s == ([60] : List UInt8)) with
  | true => rfl
  | false =>
  cases (s == ([60, 61] : List UInt8)) with
  | true => rfl
  | false =>
  cases (s == ([62] : List UInt8)) with
  | true => rfl
  | false =>
  cases (s == ([62, 61] : List UInt8)) with
  | true => rfl
  | false =>
  cases (s == ([43] : List UInt8)) with
  | true => rfl
  | false =>
  cases (s == ([45] : List UInt8)) with
  | true => rfl
  | false =>
  cases (s == ([42] : List UInt8)) with
  | true => rfl
  | false =>
  cases (s == ([47] : List UInt8)) with
  | true => rfl
  | false =>
  cases (s == ([37] : List UInt8)) with
  | true => rfl
  | false =>
  rfl
 exact body_ok (envOK []) (tabI_ok .nil) fc134 (key s)
theorem fc78 : FIOK Tryz.prog 78 fi78 := ⟨⟨Tryz.f78, Tryz.func78, rfl, rfl, rfl, by kernel_rfl⟩, by kernel_rfl⟩
theorem fc161 : FIOK Tryz.prog 161 fi161 := ⟨⟨Tryz.f161, Tryz.func161, rfl, rfl, rfl, by kernel_rfl⟩, by kernel_rfl⟩
theorem clone_ok : IntrOne Tryz.prog G 78 (ofT 78 (cloneT 3)) := by
 refine ofT_ok ?_ (cloneT_D 3)
 exact cloneD_ok fc78 (fun b off n c zs w hz hbig hc => Any.slices_Clone_int Tryz.laysNm215 b off n c zs w hz hbig hc) (fun n c w => Any.slices_Clone_int_nil Tryz.laysNm215 n c w) (fun a c w => Any.slices_Clone_int_zero Tryz.laysNm215 a c w)
theorem trim_ok : IntrOne Tryz.prog G 161 (ofT 161 trimT) := by
 refine ofT_ok ?_ (trimT_D)
 exact trimD_ok fc161 fun w s c hc hs => Any.strings_Trim_one Tryz.lays160 s c hc w hs
theorem parF_nt {f : Nat} {ts rs : Sig} {F : PF ts rs} : INt (parF f ts rs F) := fun R args bs k r hr => by
 unfold parF at hr
 split at hr
 ·rename_i xs T tK K a d z nT A
  split at hr
  ·rename_i K' A' x hz hK hA ht
   cases e : F T K' a d A' x with
   | ok y a' d' A'' =>
    rw [e] at hr
    refine ⟨_, hr, fun R' k' r' hk => ?_⟩
    unfold parF
    simp only [hz, hK, hA, ht, e]
    exact hk
   | fault c p =>
    rw [e] at hr
    refine ⟨_, hr, fun R' k' r' hk => ?_⟩
    unfold parF
    simp only [hz, hK, hA, ht, e]
    exact hk
   | bad =>
    rw [e] at hr
    cases hr
  ·cases hr
 ·cases hr
theorem parFG_nt {f : Nat} {ts rs : Sig} {F : PF ts rs} {ret : Dens rs → AV} {more : Dens rs → List Blk} : INt (parFG f ts rs F ret more) := fun R args bs k r hr => by
 unfold parFG at hr
 split at hr
 ·rename_i xs T tK K a d z nT A
  split at hr
  ·rename_i K' A' x hz hK hA ht
   cases e : F T K' a d A' x with
   | ok y a' d' A'' =>
    rw [e] at hr
    refine ⟨_, hr, fun R' k' r' hk => ?_⟩
    unfold parFG
    simp only [hz, hK, hA, ht, e]
    exact hk
   | fault c p =>
    rw [e] at hr
    refine ⟨_, hr, fun R' k' r' hk => ?_⟩
    unfold parFG
    simp only [hz, hK, hA, ht, e]
    exact hk
   | bad =>
    rw [e] at hr
    cases hr
  ·cases hr
 ·cases hr
theorem parI_nt {f : Nat} {ts rs : Sig} {F : PF ts rs} : INt (parI f ts rs F) := dataI_nt (subI_nt (shiftP_nt parF_nt))
theorem parIG_nt {f : Nat} {ts rs : Sig} {F : PF ts rs} {ret : Dens rs → AV} {more : Dens rs → List Blk} : INt (parIG f ts rs F ret more) := dataI_nt (subI_nt (shiftP_nt parFG_nt))
theorem failC_nt : INt failC := fun R args bs k r hr => by
 unfold failC at hr ⊢
 split at hr
 ·exact ⟨_, hr, fun _ _ _ h => h⟩
 ·cases hr
def FltOK (G : Nat → Obj → Prop) : Prop := ∀ x : Dens sigS, preU x = true → SAD Tryz.prog G 140 sigS sigFE x (fltX x)
theorem libQ_nt : INtL (libQ p) := by
 unfold libQ
 refine .cons failC_nt (.cons parI_nt (.cons parI_nt (.cons parI_nt (.cons parI_nt (.cons parI_nt (.cons parI_nt (.cons parI_nt (.cons parI_nt (.cons parI_nt (.cons parI_nt ?_))))))))))
 refine .cons parI_nt (.cons parI_nt (.cons parIG_nt (.cons parI_nt (.cons parI_nt (.cons parIG_nt (.cons parI_nt (.cons parI_nt (.cons parI_nt (.cons parI_nt (.cons parI_nt (.cons parI_nt ?_)))))))))))
 refine .cons parIG_nt (.cons parI_nt (.cons parI_nt (.cons parI_nt (.cons parI_nt (.cons parI_nt (.cons parI_nt (.cons parI_nt (.cons parI_nt (.cons parI_nt ?_)))))))))
 exact .cons specI_nt (.cons specI_nt (.cons specI_nt (.cons specI_nt (.cons specI_nt (.cons specI_nt (.cons ofT_nt .nil))))))
theorem lib78_nt : INtL lib78 := .cons ofT_nt .nil
theorem lib161_nt : INtL lib161 := .cons ofT_nt .nil
theorem lib78_ok : IChk Tryz.prog G lib78 := .cons clone_ok .nil
theorem lib161_ok : IChk Tryz.prog G lib161 := .cons trim_ok .nil
theorem libQ_ok (ht : Tabs G) (hf : FltOK G) (h : FnsOK G p) : IChk Tryz.prog G (libQ p) := by
 unfold libQ
 refine .cons failC_ok (.cons (parI_ok h.o45) (.cons (parI_ok h.o125) (.cons (parI_ok h.o90) (.cons (parI_ok h.o75) (.cons (parI_ok h.o74) (.cons (parI_ok h.o72) (.cons (parI_ok h.o73) (.cons (parI_ok h.o48) (.cons (parI_ok h.o104) (.cons (parI_ok h.o46) ?_))))))))))
 refine .cons (parI_ok h.o47) (.cons (parI_ok h.o76) (.cons (parIG_ok h.o92) (.cons (parI_ok h.o94) (.cons (parI_ok h.o106) (.cons (parIG_ok h.o117) (.cons (parI_ok h.o93) (.cons (parI_ok h.o113) (.cons (parI_ok h.o105) (.cons (parI_ok h.o115) (.cons (parI_ok h.o116) (.cons (parI_ok h.o127) ?_)))))))))))
 refine .cons (parIG_ok h.o128) (.cons (parI_ok h.o114) (.cons (parI_ok h.o126) (.cons (parI_ok h.o133) (.cons (parI_ok h.o135) (.cons (parI_ok h.o136) (.cons (parI_ok h.o137) (.cons (parI_ok h.o139) (.cons (parI_ok h.o142) (.cons (parI_ok h.o148) ?_)))))))))
 exact .cons (specI_ok fun x hx => name_SA ht x hx) (.cons (specI_ok fun x hx => con_SA ht x hx) (.cons (specI_ok fun x hx => int_SA ht x hx) (.cons (specI_ok fun x hx => unq_SA ht x hx) (.cons (specI_ok fun x _ => binds_SA x) (.cons (specI_ok hf) (.cons clone_ok .nil))))))
theorem libP_ok (ht : Tabs G) (hf : FltOK G) (h : FnsOK G p) : IChk Tryz.prog G (libP p) :=
 .cons (inlI_ok (envOK []) lib78_nt lib78_ok fc77) (.cons (inlI_ok (envOK []) lib78_nt lib78_ok fc129) (.cons (inlI_ok (envOK []) libQ_nt (libQ_ok ht hf h) fc118) (.cons (inlI_ok (envOK []) libQ_nt (libQ_ok ht hf h) fc119) (.cons (inlI_ok (envOK []) lib161_nt lib161_ok fc154) (libQ_ok ht hf h)))))
theorem fns_ok (ht : Tabs G) (hf : FltOK G) : ∀ n, FnsOK G (fns n)
 | 0 => fns0_ok
 | n + 1 => stepF_ok (libP_ok ht hf (fns_ok ht hf n))
theorem program_ok (ht : Tabs G) (hf : FltOK G) (n : Nat) : PRok G 26 [] [] (fun T K a d A _ => sp26 (fns n) T K a d A) := ok26 (libP_ok ht hf (fns_ok ht hf n))
end Go.Sx.Tryz
namespace Go.Sx.Tryz
open Go Go.Sx Go.Proofs
set_option maxRecDepth 100000
def lowC : Intr := fun R args bs k => match args, bs with
 | [.int .u8 c], [] => (match c == 46 with
  | true => k (.ret (.int .u8 46), [])
  | false => .err 162)
 | _, _ => .err 162
def lib174 : List (Nat × Intr) := [(162, lowC)]
def p174 : List Bool := [true, false, true, true, true, true, true, true, true, true, true, true, true, true, true, false, false, false]
def cut174 : List Cut := [⟨p174, some ⟨[(0, []), (2, []), (3, []), (4, []), (5, []), (6, []), (7, []), (8, []), (9, []), (10, []), (11, []), (12, []), (13, []), (14, []), (15, []), (16, []), (17, [])], []⟩⟩]
def mk174 (s : List UInt8) (mt i : Int) (sd sg : Bool) (nd nm dp : Int) : St := ⟨[(0, .str s), (2, .int .u64 mt), (3, .int .i64 0), (4, .bool false), (5, .bool false), (6, .bool false), (7, .int .i64 i), (8, .bool false), (9, .bool false), (10, .int .u64 10), (11, .int .i64 19), (12, .int .u8 101), (13, .bool sd), (14, .bool sg), (15, .int .i64 nd), (16, .int .i64 nm), (17, .int .i64 dp)], [], 0⟩
end Go.Sx.Tryz
