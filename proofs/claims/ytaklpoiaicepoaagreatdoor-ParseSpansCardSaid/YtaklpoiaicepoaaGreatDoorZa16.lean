/- A part of the proof: see the row's text. -/
import Derived.Test.YtaklpoiaicepoaaGreatDoorZa15
import Derived.Shelf.Strings.Trim
import Derived.Shelf.Slices.Clone
import Derived.Test.YtaklpoiaicepoaaGreatDoorChecked
import Derived.Shelf.Strconv.Quote
import Derived.Shelf.Strconv.Itoa4
import Derived.Shelf.Strings.Repeat
import Derived.Shelf.Strings.Count
import Derived.Lib.LaidPrint
import Derived.Lib.LaidU8T
set_option linter.unusedVariables false
set_option linter.unusedSimpArgs false
noncomputable section
namespace Go.Sx
open Go
theorem gA_dat {get : Get} {q : Nat → Nat} {a : AV} (h : dat a = true) : gA get q a = some a := by
 cases a <;> first | (cases h; done) | rfl
theorem gAs_dat {get : Get} {q : Nat → Nat} : ∀ {xs : List AV}, xs.all dat = true → mapO (gA get q) xs = some xs
 | [], _ => rfl
 | a :: xs, h => by
  simp only [List.all_cons, Bool.and_eq_true] at h
  simp only [mapO, gA_dat h.1, gAs_dat h.2]
theorem gC_can {get : Get} {q : Nat → Nat} {b : Bool} {t : Ty} {x : t.den} : gC get q (canA b t x) = some (canA b t x) ∧ gV get q (canA b t x) = some (canA b t x) := by
 have hd := flat_dat t x
 cases b with
 | true =>
  have : mapO (gA get q) (flat t x) = some (flat t x) := gAs_dat hd
  simp only [canA, gC, gV, this, and_self]
 | false =>
  rcases canA_leaf (t := t) (x := x) with ⟨a, _, e, ha⟩ | e
  ·rw [e]
   cases a <;> first | (cases ha; done) | exact ⟨rfl, rfl⟩
  ·rw [e]
   exact ⟨rfl, rfl⟩
theorem gL_can {get : Get} {q : Nat → Nat} : ∀ {ts : Sig} {x : Dens ts}, mapO (gC get q) (canL ts x) = some (canL ts x)
 | [], _ => rfl
 | (b, t) :: r, x => by simp only [canL, mapO, gC_can.1, gL_can]
theorem gV_ret {get : Get} {q : Nat → Nat} {rs : Sig} {y : Dens rs} : gV get q (retC rs y) = some (retC rs y) := by
 have h := gL_can (get := get) (q := q) (ts := rs) (x := y)
 cases rs with
 | nil => rfl
 | cons p r =>
  obtain ⟨b, t⟩ := p
  cases r with
  | nil => exact gC_can.2
  | cons p2 r2 =>
   obtain ⟨b2, t2⟩ := p2
   show gV get q (.tup (canL ((b, t) :: (b2, t2) :: r2) y)) = _
   simp only [gV, h]
   rfl
theorem SA.pan {P : Program} {G : Nat → Obj → Prop} {f : Nat} {args : List AV} {bs l : List Blk} {v : AV} (h : SA P G f args bs (.panic v, l)) : SA P G f args bs (.panic v, []) := fun D vals hG hm hs hv => by
 refine Answers.mono (h D vals hG hm hs hv) fun e w' hR => ?_
 cases e with
 | returned u => obtain ⟨v, D', e1, _⟩ := hR; cases e1
 | panicked c => exact hR
 | outgrown => exact hR
end Go.Sx
namespace Go.Sx.Tryz
open Go Go.Sx Go.Proofs
set_option maxRecDepth 100000
variable {G : Nat → Obj → Prop}
def tokAt (K : List Tok) (a : Int) : Tok := K.getD a.toNat (Ty.dflt tokTy)
def bsG (g : Nat) (T : List UInt8) (K : List Tok) (a d : Int) (A : List Nd) : List Blk := [.cells 72 [.str T, .sl tokTy K, .int .i64 a, .int .i64 d, .own 1 g, .int .i64 0], .list 37 nodeTy g false A]
def Ans (rs : Sig) (T : List UInt8) (K : List Tok) (b : Rs R0) (r : PR (Dens rs)) : Prop := match r with
 | .ok y a d A => ∃ g v l' m, b = .ok (.ret v, bsG g T K a d A ++ l') ∧ takeR (getB (withIds 0 (bsG g T K a d A ++ l'))) rs v = some (y, m) ∧ m.any (Nat.beq 1) = false
 | .fault c p => ∃ l, b = .ok (.panic (.iface 28 (.agg [.int .i64 c, .int .i64 p])), l)
 | .bad => True
variable {rs : Sig} {T : List UInt8} {K : List Tok}
theorem Ans.bad {b : Rs R0} : Ans rs T K b .bad := trivial
theorem Ans.leaf {y : Dens rs} {a d : Int} {A : List Nd} {g : Nat} {v : AV} {l' : List Blk} {m : List Nat} (h : takeR (getB (withIds 0 (bsG g T K a d A ++ l'))) rs v = some (y, m)) (hm : m.any (Nat.beq 1) = false) : Ans rs T K (.ok (.ret v, bsG g T K a d A ++ l')) (.ok y a d A) := ⟨g, v, l', m, rfl, h, hm⟩
theorem Ans.flt {c p : Int} {l : List Blk} : Ans rs T K (.ok (.panic (.iface 28 (.agg [.int .i64 c, .int .i64 p])), l)) (.fault c p) := ⟨l, rfl⟩
theorem Ans.bif {c : Bool} {b b' : Rs R0} {r r' : PR (Dens rs)} (h : c = true → Ans rs T K b r) (h' : c = false → Ans rs T K b' r') : Ans rs T K (bif c then b else b') (bif c then r else r') := by
 cases c
 ·exact h' rfl
 ·exact h rfl
theorem Ans.bind {α : Type} {r : PR α} {k : α → Int → Int → List Nd → Rs R0} {e : Int → Int → Rs R0} {k' : α → Int → Int → List Nd → PR (Dens rs)} (h : ∀ y a d A, r = .ok y a d A → Ans rs T K (k y a d A) (k' y a d A))
  (he : ∀ c p, Ans rs T K (e c p) (.fault c p)) : Ans rs T K (r.bindR k e) (r.bind k') := by
 cases r with
 | ok y a d A => exact h y a d A rfl
 | fault c p => exact he c p
 | bad => trivial
theorem gen0_P (T : List UInt8) (K : List Tok) (a d : Int) (A : List Nd) : Gen0 (bsP T K a d A) := fun ee tt gg sh l hm => by
 simp only [bsP, List.mem_cons, List.not_mem_nil, or_false, reduceCtorEq, false_or] at hm
 cases hm
 rfl
theorem bumpP {f g : Nat} {args : List AV} {y : Dens rs} {a d a' d' : Int} {A A' : List Nd} (h : SA Tryz.prog G f args (bsP T K a d A) (.ret (retC rs y), bsG g T K a' d' A')) :
  SA Tryz.prog G f args (bsP T K a d A) (.ret (retC rs y), bsP1 T K a' d' A') := by
 refine SA.bump (q := fun _ => 1) h (gen0_P T K a d A) (fun _ _ => Nat.le_refl _) gV_ret ?_ ?_
 ·simp [gBs, gB, mapO, gA, withIds, getB, bsP1, bsG]
 ·rw [retC_spec.2.1]
  rfl
theorem SA.dataP {f : Nat} {args : List AV} {rs : Sig} {v : AV} {T : List UInt8} {K : List Tok} {a d a' d' : Int} {A A' : List Nd} {g : Nat} {l' : List Blk} (h : SA Tryz.prog G f args (bsP T K a d A) (.ret v, bsG g T K a' d' A' ++ l')) {y : Dens rs} {m : List Nat}
  (ht : takeR (getB (withIds 0 (bsG g T K a' d' A' ++ l'))) rs v = some (y, m)) (hm1 : m.any (Nat.beq 1) = false) : SA Tryz.prog G f args (bsP T K a d A) (.ret (retC rs y), bsG g T K a' d' A') := fun D vals hG hm hs hv => by
 refine (h D vals hG hm hs hv).mono fun e w' hR => ?_
 cases e with
 | returned u =>
  obtain ⟨v', D', e1, e2, e3, e4, e5, e6, e7, e8⟩ := hR
  simp only [Out.ret.injEq] at e1
  subst e1
  obtain ⟨C1, s1, s2, s3, s4, s5, s6, s7, s8⟩ := share_ok e4 m
  have e3' : D'.m = getB (withIds 0 (bsG g T K a' d' A' ++ l')) := e3
  rw [← e3'] at ht
  have hv := takeR_rel e4 ht e6 s4 s8 s7
  rw [share_eq e3' m] at s3
  have hsh : shareL m 0 (bsG g T K a' d' A' ++ l') = bsG g T K a' d' A' ++ shareL m 2 l' := by
   show Blk.cells 72 _ :: Blk.list 37 nodeTy g (match m.any (Nat.beq 1) with | true => true | false => false) A' :: shareL m 2 l' = _
   rw [hm1]
   rfl
  rw [hsh] at s3
  have hreach : reach C1.m 200 (List.range (bsP T K a d A).length ++ []) [] = some [0, 1] := by
   rw [s3]
   rfl
  have hget : getAll C1.m [0, 1] = some (bsG g T K a' d' A') := by
   rw [s3]
   rfl
  obtain ⟨s9, eE, hren, _⟩ := collect_ok (bs := bsP T K a d A) (more := []) hm (e5.trans s2) s1 hreach hget rfl
  obtain ⟨r1, r2, r3⟩ := retC_spec (rs := rs) (y := y)
  have := hren.relV (a := retC rs y) (fun b hb => by rw [r1] at hb; cases hb) r2 hv
  rw [r3] at this
  exact ⟨_, Sub C1 [0, 1] C1.fr ((bsG g T K a' d' A').map (renB (posOf [0, 1]))), rfl, s4.trans e2, rfl, s9, eE, this, r2, rfl⟩
 | panicked ch => obtain ⟨v', e1, _⟩ := hR; cases e1
 | outgrown => exact hR
theorem pr_body {f : Nat} {ts rs : Sig} {F : PF ts rs} {fi : FI} {lib : List (Nat × Intr)} (hf : FIOK Tryz.prog f fi) (hl : IChk Tryz.prog G lib)
  (h : ∀ T K a d A x, Ans rs T K (body (R := R0) E (tabI lib) fi (.ref 0 0 :: canL ts x) (bsP T K a d A) .ok) (F T K a d A x)) : PRok G f ts rs F := fun T K a d A x => by
 have h1 := h T K a d A x
 cases e : F T K a d A x with
 | ok y a' d' A' =>
  rw [e] at h1
  obtain ⟨g, v, l', m, h2, ht, hm⟩ := h1
  exact bumpP (SA.dataP (body_ok (envOK []) (tabI_ok hl) hf h2) ht hm)
 | fault c p =>
  rw [e] at h1
  obtain ⟨l, h2⟩ := h1
  exact (body_ok (envOK []) (tabI_ok hl) hf h2).pan
 | bad => trivial
def parFG (f : Nat) (ts rs : Sig) (F : PF ts rs) (ret : Dens rs → AV) (more : Dens rs → List Blk) : Intr := fun R args bs k => match args, bs with
 | .ref 0 0 :: xs, [.cells 72 [.str T, .sl tK K, .int .i64 a, .int .i64 d, .own 1 0, .int .i64 z], .list 37 nT 0 false A] =>
  (match z == 0, castL tK tokTy K, castL nT nodeTy A, takeL (getB (withIds 0 [.cells 72 [.str T, .sl tK K, .int .i64 a, .int .i64 d, .own 1 0, .int .i64 z], .list 37 nT 0 false A])) ts xs with
  | true, some K, some A, some (x, []) => (F T K a d A x).bindR (fun y a d A => k (.ret (ret y), bsP1 T K a d A ++ more y)) (fun c p => k (.panic (.iface 28 (.agg [.int .i64 c, .int .i64 p])), []))
  | _, _, _, _ => .err (5000000 + f))
 | _, _ => .err (5100000 + f)
def PRokG (G : Nat → Obj → Prop) (f : Nat) (ts rs : Sig) (F : PF ts rs) (ret : Dens rs → AV) (more : Dens rs → List Blk) : Prop := ∀ T K a d A x, match F T K a d A x with
 | .ok y a' d' A' => SA Tryz.prog G f (.ref 0 0 :: canL ts x) (bsP T K a d A) (.ret (ret y), bsP1 T K a' d' A' ++ more y)
 | .fault c p => SA Tryz.prog G f (.ref 0 0 :: canL ts x) (bsP T K a d A) (.panic (.iface 28 (.agg [.int .i64 c, .int .i64 p])), [])
 | .bad => True
theorem parFG_ok {f : Nat} {ts rs : Sig} {F : PF ts rs} {ret : Dens rs → AV} {more : Dens rs → List Blk} (h : PRokG G f ts rs F ret more) : IntrOne Tryz.prog G f (parFG f ts rs F ret more) := fun R args bs k r hr => by
 unfold parFG at hr
 split at hr
 ·rename_i xs T tK K a d z nT A
  split at hr
  ·rename_i K' A' x hz hK hA ht
   obtain ⟨e, hK⟩ := castL_ty hK
   subst e
   subst hK
   obtain ⟨e, hA⟩ := castL_ty hA
   subst e
   subst hA
   have hz : z = 0 := by simpa using hz
   subst hz
   have h1 := h T K a d A x
   cases e : F T K a d A x with
   | ok y a' d' A' =>
    rw [e] at h1 hr
    exact ⟨_, hr, sa_take ht h1⟩
   | fault c p =>
    rw [e] at h1 hr
    exact ⟨_, hr, sa_take ht h1⟩
   | bad =>
    rw [e] at hr
    cases hr
  ·cases hr
 ·cases hr
def parIG (f : Nat) (ts rs : Sig) (F : PF ts rs) (ret : Dens rs → AV) (more : Dens rs → List Blk) : Intr := dataI f 1 ts (subI f (shiftP f (parFG f ts rs F ret more)))
theorem parIG_ok {f : Nat} {ts rs : Sig} {F : PF ts rs} {ret : Dens rs → AV} {more : Dens rs → List Blk} (h : PRokG G f ts rs F ret more) : IntrOne Tryz.prog G f (parIG f ts rs F ret more) := dataI_ok (subI_ok (shiftP_ok (parFG_ok h)))
def retL (y : Dens [(false, .slice (.int .i64))]) : AV := .own 2 0
def moreL (y : Dens [(false, .slice (.int .i64))]) : List Blk := [.list 3 (.int .i64) 0 false y.1]
def retE (y : Dens [(true, nodeTy)]) : AV := .agg [.int .i64 (nKind y.1), .int .i64 (nAt y.1), .int .i64 (nTo y.1), .nils, .str (nText y.1), .int .i64 (nBase y.1), .str (nName y.1), .int .i64 (nDims y.1), .str (nMarks y.1), .int .i64 (nN y.1), .int .i64 (nW1 y.1), .int .i64 (nW2 y.1), .own 2 0]
def moreE (y : Dens [(true, nodeTy)]) : List Blk := [.list 3 (.int .i64) 0 false (nEnds y.1)]
end Go.Sx.Tryz
namespace Go.Sx.Tryz
open Go Go.Sx Go.Proofs
set_option maxRecDepth 100000
abbrev tI : Bool × Ty := (false, .int .i64)
abbrev tS : Bool × Ty := (false, .str)
abbrev tB : Bool × Ty := (false, .bool)
abbrev tL : Bool × Ty := (false, .slice (.int .i64))
abbrev tN : Bool × Ty := (true, nodeTy)
abbrev tT : Bool × Ty := (true, tokTy)
structure Fns where
 next : PF [] [tT, tS]
 ahead : PF [tI] [tI, tS]
 skip : PF [] [tI]
 isS : PF [tS] [tB]
 take : PF [tS] [tB]
 want : PF [tS] [tI]
 name : PF [] [tS]
 add : PF [tN, tI] [tI]
 goIn : PF [] []
 few : PF [tI] []
 klass : PF [] [tI]
 member : PF [] [tI]
 params : PF [] [tL]
 typed : PF [tB] [tN]
 inner : PF [] [tN]
 base : PF [] [tN]
 block : PF [] [tI]
 declares : PF [] [tB]
 stat : PF [] [tI]
 word : PF [tS] [tN, tB]
 plainS : PF [tI] [tI]
 bracket : PF [] [tI]
 args : PF [] [tL]
 value : PF [] [tI]
 chain : PF [tI] [tI]
 unary : PF [] [tI]
 behind : PF [] [tI]
 primary : PF [] [tI]
 part : PF [tI, tI] [tI]
 literal : PF [tN, tI] [tI]
 kept : PF [tT, tS] [tI]
 made : PF [] [tN]
def failC : Intr := fun R args bs k => match args, bs with
 | [.int .i64 c, .int .i64 p], [] => k (.panic (.iface 28 (.agg [.int .i64 c, .int .i64 p])), [])
 | _, _ => .err 71
def bindsS (s : List UInt8) : Int := bif s == [124, 124] then 0 else bif s == [38, 38] then 1 else bif s == [61, 61] || s == [33, 61] then 2 else bif s == [60] || (s == [60, 61] || (s == [62] || s == [62, 61])) then 3 else bif s == [43] || s == [45] then 4 else bif s == [42] || (s == [47] || s == [37]) then 5 else -1
def bindsX (x : Dens sigS) : Dens sigI := (bindsS x.1, ())
def fltMant (l : List UInt8) : Nat := l.foldl (fun m c => m * 10 + (c.toNat - 48)) 0
def pow10F : List Nat := [4607182418800017408, 4621819117588971520, 4636737291354636288, 4652007308841189376, 4666723172467343360, 4681608360884174848, 4696837146684686336, 4711630319722168320, 4726483295884279808, 4741671816366391296, 4756540486875873280, 4771362005757984768, 4786511204640096256, 4801453603149578240, 4816244402031689728]
def normF (b : Nat) : Nat := bif Ieee.double.order b b == some .eq then b else 9221120237041090561
def fltVal (a b : List UInt8) : Nat := bif fltMant (a ++ b) == 0 then 0 else match Ieee.double.div (FloatKind.f64.nearest (fltMant (a ++ b) : Int)) (pow10F.getD b.length 0) with
 | some r => normF r
 | none => 0
def fltS (s : List UInt8) : Int × Int :=
 let a := s.takeWhile fun c => c != 46
 let b := s.drop (a.length + 1)
 bif a.length == s.length then (0, 5) else bif !digsS a || !digsS b then (0, 5) else bif decide (a.length > 1) && at8 a 0 == 48 then (0, 5) else bif decide (a.length + b.length > 15) then (0, 2) else ((fltVal a b : Int), 0)
def sigFE : Sig := [(false, .int .u64), (false, .int .i64)]
def fltX (x : Dens sigS) : Dens sigFE := ((fltS x.1).1, (fltS x.1).2, ())
def lib78 : List (Nat × Intr) := [(78, ofT 78 (cloneT 3))]
def lib161 : List (Nat × Intr) := [(161, ofT 161 trimT)]
def libQ (p : Fns) : List (Nat × Intr) := [(71, failC), (45, parI 45 _ _ p.next), (125, parI 125 _ _ p.ahead), (90, parI 90 _ _ p.skip), (75, parI 75 _ _ p.isS), (74, parI 74 _ _ p.take), (72, parI 72 _ _ p.want), (73, parI 73 _ _ p.name), (48, parI 48 _ _ p.add), (104, parI 104 _ _ p.goIn), (46, parI 46 _ _ p.few),
 (47, parI 47 _ _ p.klass), (76, parI 76 _ _ p.member), (92, parIG 92 _ _ p.params retL moreL), (94, parI 94 _ _ p.typed), (106, parI 106 _ _ p.inner), (117, parIG 117 _ _ p.base retE moreE), (93, parI 93 _ _ p.block), (113, parI 113 _ _ p.declares), (105, parI 105 _ _ p.stat), (115, parI 115 _ _ p.word), (116, parI 116 _ _ p.plainS), (127, parI 127 _ _ p.bracket),
 (128, parIG 128 _ _ p.args retL moreL), (114, parI 114 _ _ p.value), (126, parI 126 _ _ p.chain), (133, parI 133 _ _ p.unary), (135, parI 135 _ _ p.behind), (136, parI 136 _ _ p.primary), (137, parI 137 _ _ p.part), (139, parI 139 _ _ p.literal), (142, parI 142 _ _ p.kept), (148, parI 148 _ _ p.made),
 (91, specI 91 sigS sigB preS nameX), (14, specI 14 sigSS sigB conP conX), (138, specI 138 sigS sigII' preU intX), (141, specI 141 sigS sigSI preU unqX), (134, specI 134 sigS sigI (fun _ => true) bindsX), (140, specI 140 sigS sigFE preU fltX), (78, ofT 78 (cloneT 3))]
def libP (p : Fns) : List (Nat × Intr) := (77, inlI E lib78 fi77) :: (129, inlI E lib78 fi129) :: (118, inlI E (libQ p) fi118) :: (119, inlI E (libQ p) fi119) :: (154, inlI E lib161 fi154) :: libQ p
end Go.Sx.Tryz
namespace Go.Sx.Tryz
open Go Go.Sx Go.Proofs
set_option maxRecDepth 100000
instance : BEq (Ty.den .str) := inferInstanceAs (BEq (List UInt8))
instance (k : IntKind) (n : Nat) : OfNat (Ty.den (.int k)) n := inferInstanceAs (OfNat Int n)
instance (k : IntKind) : BEq (Ty.den (.int k)) := inferInstanceAs (BEq Int)
instance : HAppend (List UInt8) (Ty.den .str) (List UInt8) := ⟨fun x y => List.append x y⟩
instance : HAppend (Ty.den .str) (List UInt8) (List UInt8) := ⟨fun x y => List.append x y⟩
instance : HAppend (List Int) (Ty.den (.slice (.int .i64))) (List Int) := ⟨fun x y => List.append x y⟩
instance : HAppend (Ty.den (.slice (.int .i64))) (List Int) (List Int) := ⟨fun x y => List.append x y⟩
end Go.Sx.Tryz
namespace Go.Sx.Tryz
open Go Go.Sx Go.Proofs
set_option maxRecDepth 100000
variable {G : Nat → Obj → Prop}
abbrev shI : Sh := .own 3 (.int .i64)
def cut93 : List Cut := [⟨[true, true, true, true, true, false, false, false], some ⟨[(0, []), (3, []), (5, [shI])], []⟩⟩]
def cut92 : List Cut := [⟨[true, true, true, false, false, false], some ⟨[(0, []), (3, [shI])], []⟩⟩]
def cut128 : List Cut := [⟨[true, true, true, false, false, false], some ⟨[(0, []), (3, [shI])], []⟩⟩]
def cut26 : List Cut := [⟨[true, false, false, false], some ⟨[(0, []), (2, [shI])], []⟩⟩]
def cut126 : List Cut := [⟨[true, true, true, true, false, false], some ⟨[(0, []), (1, []), (5, []), (7, [])], []⟩⟩]
def cut135 : List Cut := [⟨[true, true, true, false, false], some ⟨[(0, []), (3, []), (5, [])], []⟩⟩]
def cut47 : List Cut := [⟨[true, true, true, true, true, true, false, false, false], some ⟨[(0, []), (3, []), (5, [])], [[], [], [], [.keep, .keep, .keep, shI]]⟩⟩]
def cut106 : List Cut := [⟨[true, true, false, false, false], some ⟨[(0, []), (2, []), (3, [])], [[], [], [], [.keep, .keep, .keep, .keep, .keep, .keep, .keep, .keep, .keep, .keep, .keep, .keep, shI]]⟩⟩]
def pB (T : List UInt8) (K : List Tok) (a d : Int) : Nat × Blk := (0, .cells 72 [.str T, .sl tokTy K, .int .i64 a, .int .i64 d, .own 1 1, .int .i64 0])
def nB (A : List Nd) : Nat × Blk := (1, .list 37 nodeTy 1 false A)
def tokB (i : Nat) (k f t : Int) : Nat × Blk := (i, .cells 50 [.int .i64 k, .int .i64 f, .int .i64 t])
def kidB (i : Nat) (L : List Int) : Nat × Blk := (i, .list 3 (.int .i64) 0 false L)
def mk93 (T : List UInt8) (K : List Tok) (a d : Int) (A : List Nd) (k f t : Int) (L : List Int) : St := ⟨[(0, .ref 0 0), (3, .ref 2 0), (5, .own 3 0)], [pB T K a d, nB A, tokB 2 k f t, kidB 3 L], 4⟩
def mk92 (T : List UInt8) (K : List Tok) (a d : Int) (A : List Nd) (L : List Int) : St := ⟨[(0, .ref 0 0), (3, .own 2 0)], [pB T K a d, nB A, kidB 2 L], 3⟩
def mk128 (T : List UInt8) (K : List Tok) (a d : Int) (A : List Nd) (L : List Int) : St := ⟨[(0, .ref 0 0), (3, .own 2 0)], [pB T K a d, nB A, kidB 2 L], 3⟩
def mk26 (T : List UInt8) (K : List Tok) (a d : Int) (A : List Nd) (L : List Int) : St := ⟨[(0, .ref 0 0), (2, .own 2 0)], [pB T K a d, nB A, kidB 2 L], 3⟩
def mk126 (T : List UInt8) (K : List Tok) (a d : Int) (A : List Nd) (l k f t x : Int) : St := ⟨[(0, .ref 0 0), (1, .int .i64 l), (5, .ref 2 0), (7, .int .i64 x)], [pB T K a d, nB A, tokB 2 k f t], 3⟩
def mk135 (T : List UInt8) (K : List Tok) (a d : Int) (A : List Nd) (k f t x : Int) : St := ⟨[(0, .ref 0 0), (3, .ref 2 0), (5, .int .i64 x)], [pB T K a d, nB A, tokB 2 k f t], 3⟩
def mk47 (T : List UInt8) (K : List Tok) (a d : Int) (A : List Nd) (k f t : Int) (s : List UInt8) (L : List Int) : St := ⟨[(0, .ref 0 0), (3, .ref 2 0), (5, .ref 3 0)], [pB T K a d, nB A, tokB 2 k f t,
 (3, .cells 37 [.int .i64 2, .int .i64 0, .int .i64 0, .own 4 0, .str s, .int .i64 0, .str [], .int .i64 0, .str [], .int .i64 0, .int .i64 0, .int .i64 0, .nils]), kidB 4 L], 5⟩
def mk106 (T : List UInt8) (K : List Tok) (a d : Int) (A : List Nd) (k0 a0 t0 : Int) (s0 : List UInt8) (b : Int) (nm : List UInt8) (dm : Int) (mr : List UInt8) (n0 w1 w2 : Int) (L : List Int) : St := ⟨[(0, .ref 0 0), (2, .ref 2 0), (3, .ref 3 0)], [pB T K a d, nB A,
 (2, .cells 37 [.int .i64 0, .int .i64 0, .int .i64 0, .nils, .str [], .int .i64 0, .str [], .int .i64 0, .str [], .int .i64 0, .int .i64 0, .int .i64 0, .nils]),
 (3, .cells 37 [.int .i64 k0, .int .i64 a0, .int .i64 t0, .nils, .str s0, .int .i64 b, .str nm, .int .i64 dm, .str mr, .int .i64 n0, .int .i64 w1, .int .i64 w2, .own 4 0]), kidB 4 L], 5⟩
end Go.Sx.Tryz
namespace Go.Sx.Tryz
open Go Go.Sx Go.Proofs
set_option maxRecDepth 100000
abbrev fl0 (c p : Int) : Rs R0 := .ok (.panic (.iface 28 (.agg [.int .i64 c, .int .i64 p])), [])
abbrev pC (T : List UInt8) (K : List Tok) (a d : Int) : Blk := .cells 72 [.str T, .sl tokTy K, .int .i64 a, .int .i64 d, .own 1 1, .int .i64 0]
abbrev pL (A : List Nd) : Blk := .list 37 nodeTy 1 false A
variable {G : Nat → Obj → Prop} {ts rs : Sig}
theorem pr_start {f : Nat} {F : PF ts rs} {fi : FI} {cs : List Cut} {lib : List (Nat × Intr)} (hf : FIOK Tryz.prog f fi) (hl : IChk Tryz.prog G lib)
  (h : ∀ T K a d A x, ∃ n, Ans rs T K (start (R := R0) E (tabI lib) fi cs (pieces E (tabI lib) fi cs 2 .ok n) (.ref 0 0 :: canL ts x) (bsP T K a d A) .ok) (F T K a d A x)) : PRok G f ts rs F := fun T K a d A x => by
 obtain ⟨n, h1⟩ := h T K a d A x
 cases e : F T K a d A x with
 | ok y a' d' A' =>
  rw [e] at h1
  obtain ⟨g, v, l', m, h2, ht, hm⟩ := h1
  exact bumpP (SA.dataP (start_ok (envOK []) (tabI_ok hl) hf (.inl (gen0_P T K a d A)) h2) ht hm)
 | fault c p =>
  rw [e] at h1
  obtain ⟨l, h2⟩ := h1
  exact (start_ok (envOK []) (tabI_ok hl) hf (.inl (gen0_P T K a d A)) h2).pan
 | bad => trivial
variable {T : List UInt8} {K : List Tok} {ret : Dens rs → AV} {more : Dens rs → List Blk}
def AnsG (rs : Sig) (ret : Dens rs → AV) (more : Dens rs → List Blk) (T : List UInt8) (K : List Tok) (b : Rs R0) (r : PR (Dens rs)) : Prop := match r with
 | .ok y a d A => ∃ g, b = .ok (.ret (ret y), bsG g T K a d A ++ more y)
 | .fault c p => ∃ l, b = .ok (.panic (.iface 28 (.agg [.int .i64 c, .int .i64 p])), l)
 | .bad => True
theorem AnsG.bad {b : Rs R0} : AnsG rs ret more T K b .bad := trivial
theorem AnsG.leaf {b : Rs R0} {y : Dens rs} {a d : Int} {A : List Nd} (g : Nat) (h : b = .ok (.ret (ret y), bsG g T K a d A ++ more y)) : AnsG rs ret more T K b (.ok y a d A) := ⟨g, h⟩
theorem AnsG.flt {c p : Int} {l : List Blk} : AnsG rs ret more T K (.ok (.panic (.iface 28 (.agg [.int .i64 c, .int .i64 p])), l)) (.fault c p) := ⟨l, rfl⟩
theorem AnsG.bif {c : Bool} {b b' : Rs R0} {r r' : PR (Dens rs)} (h : c = true → AnsG rs ret more T K b r) (h' : c = false → AnsG rs ret more T K b' r') : AnsG rs ret more T K (bif c then b else b') (bif c then r else r') := by
 cases c
 ·exact h' rfl
 ·exact h rfl
theorem AnsG.bind {α : Type} {r : PR α} {k : α → Int → Int → List Nd → Rs R0} {e : Int → Int → Rs R0} {k' : α → Int → Int → List Nd → PR (Dens rs)} (h : ∀ y a d A, r = .ok y a d A → AnsG rs ret more T K (k y a d A) (k' y a d A))
  (he : ∀ c p, AnsG rs ret more T K (e c p) (.fault c p)) : AnsG rs ret more T K (r.bindR k e) (r.bind k') := by
 cases r with
 | ok y a d A => exact h y a d A rfl
 | fault c p => exact he c p
 | bad => trivial
def GOK (ret : Dens rs → AV) (more : Dens rs → List Blk) : Prop := ∀ y g T K a d A, gV (getB (withIds 0 (bsG g T K a d A ++ more y))) (fun i => match Nat.blt i 2 with | true => 1 | false => 0) (ret y) = some (ret y) ∧
 gBs (getB (withIds 0 (bsG g T K a d A ++ more y))) (fun i => match Nat.blt i 2 with | true => 1 | false => 0) 0 (bsG g T K a d A ++ more y) = some (bsP1 T K a d A ++ more y) ∧ (plainV (ret y) && (bsP1 T K a d A ++ more y).all okBlk) = true
theorem gok_L : GOK retL moreL := fun y g T K a d A => by
 refine ⟨rfl, ?_, rfl⟩
 simp [gBs, gB, mapO, gA, withIds, getB, bsP1, bsG, moreL]
 exact ⟨rfl, rfl⟩
theorem gok_E : GOK retE moreE := fun y g T K a d A => by
 refine ⟨rfl, ?_, rfl⟩
 simp [gBs, gB, mapO, gA, withIds, getB, bsP1, bsG, moreE]
 exact ⟨rfl, rfl⟩
theorem bumpPG (hG : GOK ret more) {f g : Nat} {args : List AV} {y : Dens rs} {a d a' d' : Int} {A A' : List Nd} (h : SA Tryz.prog G f args (bsP T K a d A) (.ret (ret y), bsG g T K a' d' A' ++ more y)) :
  SA Tryz.prog G f args (bsP T K a d A) (.ret (ret y), bsP1 T K a' d' A' ++ more y) := by
 obtain ⟨h1, h2, h3⟩ := hG y g T K a' d' A'
 exact SA.bump (q := fun i => match Nat.blt i 2 with | true => 1 | false => 0) h (gen0_P T K a d A) (fun i hi => by
  have : i < 2 := hi
  match i, this with
  | 0, _ => exact Nat.le_refl _
  | 1, _ => exact Nat.le_refl _) h1 h2 h3
theorem pr_startG (hG : GOK ret more) {f : Nat} {F : PF ts rs} {fi : FI} {cs : List Cut} {lib : List (Nat × Intr)} (hf : FIOK Tryz.prog f fi) (hl : IChk Tryz.prog G lib)
  (h : ∀ T K a d A x, ∃ n, AnsG rs ret more T K (start (R := R0) E (tabI lib) fi cs (pieces E (tabI lib) fi cs 2 .ok n) (.ref 0 0 :: canL ts x) (bsP T K a d A) .ok) (F T K a d A x)) : PRokG G f ts rs F ret more := fun T K a d A x => by
 obtain ⟨n, h1⟩ := h T K a d A x
 cases e : F T K a d A x with
 | ok y a' d' A' =>
  rw [e] at h1
  obtain ⟨g, h2⟩ := h1
  exact bumpPG hG (start_ok (envOK []) (tabI_ok hl) hf (.inl (gen0_P T K a d A)) h2)
 | fault c p =>
  rw [e] at h1
  obtain ⟨l, h2⟩ := h1
  exact (start_ok (envOK []) (tabI_ok hl) hf (.inl (gen0_P T K a d A)) h2).pan
 | bad => trivial
theorem pr_bodyG (hG : GOK ret more) {f : Nat} {F : PF ts rs} {fi : FI} {lib : List (Nat × Intr)} (hf : FIOK Tryz.prog f fi) (hl : IChk Tryz.prog G lib)
  (h : ∀ T K a d A x, AnsG rs ret more T K (body (R := R0) E (tabI lib) fi (.ref 0 0 :: canL ts x) (bsP T K a d A) .ok) (F T K a d A x)) : PRokG G f ts rs F ret more := fun T K a d A x => by
 have h1 := h T K a d A x
 cases e : F T K a d A x with
 | ok y a' d' A' =>
  rw [e] at h1
  obtain ⟨g, h2⟩ := h1
  exact bumpPG hG (body_ok (envOK []) (tabI_ok hl) hf h2)
 | fault c p =>
  rw [e] at h1
  obtain ⟨l, h2⟩ := h1
  exact (body_ok (envOK []) (tabI_ok hl) hf h2).pan
 | bad => trivial
end Go.Sx.Tryz
namespace Go.Proofs
open Go.Shelf
def Tryz.lays160_ren : Go.Shelf.Ren := ⟨fun | 160 => 161 | 232 => 169 | 231 => 31 | 227 => 32 | 234 => 170 | 233 => 33 | 236 => 171 | 235 => 34 | 228 => 55 | 271 => 186 | 151 => 57 | 197 => 56 | 120 => 199 | 152 => 83 | 260 => 82 | 137 => 88 | 119 => 100 | 224 => 86 | 225 => 85 | 217 => 84 | 266 => 101 | n => n, fun | 9 => 9 | 4 => 4 | 3 => 3 | 5 => 5 | 117 => 80 | 116 => 79 | 0 => 0 | 124 => 83 | 21 => 21 | 105 => 113 | 46 => 94 | 119 => 146 | 139 => 149 | 138 => 148 | n => n, fun | 3 => 1 | 4 => 2 | n => n⟩
theorem Tryz.lays160 : Go.Proofs.Lays.n160 Tryz.prog Tryz.lays160_ren := {
 mixed := by kernel_rfl
 f119 := Tryz.func100.trans (congrArg some (by kernel_rfl))
 f120 := Tryz.func199.trans (congrArg some (by kernel_rfl))
 f137 := Tryz.func88.trans (congrArg some (by kernel_rfl))
 f151 := Tryz.func57.trans (congrArg some (by kernel_rfl))
 f152 := Tryz.func83.trans (congrArg some (by kernel_rfl))
 f160 := Tryz.func161.trans (congrArg some (by kernel_rfl))
 f197 := Tryz.func56.trans (congrArg some (by kernel_rfl))
 f217 := Tryz.func84.trans (congrArg some (by kernel_rfl))
 f224 := Tryz.func86.trans (congrArg some (by kernel_rfl))
 f225 := Tryz.func85.trans (congrArg some (by kernel_rfl))
 f227 := Tryz.func32.trans (congrArg some (by kernel_rfl))
 f228 := Tryz.func55.trans (congrArg some (by kernel_rfl))
 f231 := Tryz.func31.trans (congrArg some (by kernel_rfl))
 f232 := Tryz.func169.trans (congrArg some (by kernel_rfl))
 f233 := Tryz.func33.trans (congrArg some (by kernel_rfl))
 f234 := Tryz.func170.trans (congrArg some (by kernel_rfl))
 f235 := Tryz.func34.trans (congrArg some (by kernel_rfl))
 f236 := Tryz.func171.trans (congrArg some (by kernel_rfl))
 f260 := Tryz.func82.trans (congrArg some (by kernel_rfl))
 f266 := Tryz.func101.trans (congrArg some (by kernel_rfl))
 f271 := Tryz.func186.trans (congrArg some (by kernel_rfl))
 t0 := Tryz.underlying0
 a0 := Tryz.isAgg0
 z0 := Tryz.sizeOf0
 v0 := Tryz.zeroValue0
 t3 := Tryz.underlying3
 a3 := Tryz.isAgg3
 z3 := Tryz.sizeOf3
 v3 := Tryz.zeroValue3
 t4 := Tryz.underlying4
 a4 := Tryz.isAgg4
 z4 := Tryz.sizeOf4
 v4 := Tryz.zeroValue4
 t5 := Tryz.underlying5
 a5 := Tryz.isAgg5
 z5 := Tryz.sizeOf5
 v5 := Tryz.zeroValue5
 t9 := Tryz.underlying9
 a9 := Tryz.isAgg9
 z9 := Tryz.sizeOf9
 v9 := Tryz.zeroValue9
 t21 := Tryz.underlying21
 a21 := Tryz.isAgg21
 z21 := Tryz.sizeOf21
 v21 := Tryz.zeroValue21
 t46 := Tryz.underlying94
 a46 := Tryz.isAgg94
 z46 := Tryz.sizeOf94
 v46 := Tryz.zeroValue94
 t105 := Tryz.underlying113
 a105 := Tryz.isAgg113
 z105 := Tryz.sizeOf113
 v105 := Tryz.zeroValue113
 t116 := Tryz.underlying79
 a116 := Tryz.isAgg79
 z116 := Tryz.sizeOf79
 t117 := Tryz.underlying80
 a117 := Tryz.isAgg80
 z117 := Tryz.sizeOf80
 v117 := Tryz.zeroValue80
 t119 := Tryz.underlying146
 a119 := Tryz.isAgg146
 z119 := Tryz.sizeOf146
 t124 := Tryz.underlying83
 a124 := Tryz.isAgg83
 z124 := Tryz.sizeOf83
 v124 := Tryz.zeroValue83
 t138 := Tryz.underlying148
 a138 := Tryz.isAgg148
 z138 := Tryz.sizeOf148
 v138 := Tryz.zeroValue148
 t139 := Tryz.underlying149
 a139 := Tryz.isAgg149
 z139 := Tryz.sizeOf149
 v139 := Tryz.zeroValue149
 g3 := by kernel_rfl
 g4 := by kernel_rfl }
def Tryz.laysNm215_ren : Go.Shelf.Ren := ⟨fun | 15 => 78 | n => n, fun | 22 => 33 | 3 => 3 | 4 => 4 | n => n, fun | n => n⟩
theorem Tryz.laysNm215 : Go.Proofs.Lays2.n15 Tryz.prog Tryz.laysNm215_ren := {
 mixed := by kernel_rfl
 f15 := Tryz.func78.trans (congrArg some (by kernel_rfl))
 t3 := Tryz.underlying3
 a3 := Tryz.isAgg3
 z3 := Tryz.sizeOf3
 v3 := Tryz.zeroValue3
 t4 := Tryz.underlying4
 a4 := Tryz.isAgg4
 z4 := Tryz.sizeOf4
 v4 := Tryz.zeroValue4
 t22 := Tryz.underlying33
 a22 := Tryz.isAgg33
 z22 := Tryz.sizeOf33
 v22 := Tryz.zeroValue33
 i3 := by kernel_rfl }
end Go.Proofs
namespace Go.Proofs
open Go.Shelf
def Tryz.lays177_ren : Go.Shelf.Ren := ⟨fun | 177 => 52 | 250 => 80 | 289 => 95 | 197 => 56 | 323 => 107 | 260 => 82 | 339 => 120 | 340 => 121 | 242 => 122 | 119 => 100 | 345 => 130 | 346 => 131 | 278 => 132 | n => n, fun | 9 => 9 | 5 => 5 | 4 => 4 | 3 => 3 | 37 => 46 | 21 => 21 | 105 => 113 | 46 => 94 | 119 => 146 | 0 => 0 | 139 => 149 | 138 => 148 | 49 => 167 | 234 => 168 | 131 => 128 | 51 => 121 | 236 => 170 | n => n, fun | 3 => 1 | 4 => 2 | 20 => 4 | 21 => 5 | 22 => 6 | 23 => 7 | 24 => 8 | n => n⟩
theorem Tryz.lays177 : Go.Proofs.Lays.n177 Tryz.prog Tryz.lays177_ren := {
 mixed := by kernel_rfl
 f119 := Tryz.func100.trans (congrArg some (by kernel_rfl))
 f177 := Tryz.func52.trans (congrArg some (by kernel_rfl))
 f197 := Tryz.func56.trans (congrArg some (by kernel_rfl))
 f242 := Tryz.func122.trans (congrArg some (by kernel_rfl))
 f250 := Tryz.func80.trans (congrArg some (by kernel_rfl))
 f260 := Tryz.func82.trans (congrArg some (by kernel_rfl))
 f278 := Tryz.func132.trans (congrArg some (by kernel_rfl))
 f289 := Tryz.func95.trans (congrArg some (by kernel_rfl))
 f323 := Tryz.func107.trans (congrArg some (by kernel_rfl))
 f339 := Tryz.func120.trans (congrArg some (by kernel_rfl))
 f340 := Tryz.func121.trans (congrArg some (by kernel_rfl))
 f345 := Tryz.func130.trans (congrArg some (by kernel_rfl))
 f346 := Tryz.func131.trans (congrArg some (by kernel_rfl))
 t0 := Tryz.underlying0
 a0 := Tryz.isAgg0
 z0 := Tryz.sizeOf0
 v0 := Tryz.zeroValue0
 t3 := Tryz.underlying3
 a3 := Tryz.isAgg3
 z3 := Tryz.sizeOf3
 v3 := Tryz.zeroValue3
 t4 := Tryz.underlying4
 a4 := Tryz.isAgg4
 z4 := Tryz.sizeOf4
 v4 := Tryz.zeroValue4
 t5 := Tryz.underlying5
 a5 := Tryz.isAgg5
 z5 := Tryz.sizeOf5
 v5 := Tryz.zeroValue5
 t9 := Tryz.underlying9
 a9 := Tryz.isAgg9
 z9 := Tryz.sizeOf9
 v9 := Tryz.zeroValue9
 t21 := Tryz.underlying21
 a21 := Tryz.isAgg21
 z21 := Tryz.sizeOf21
 v21 := Tryz.zeroValue21
 t37 := Tryz.underlying46
 a37 := Tryz.isAgg46
 z37 := Tryz.sizeOf46
 v37 := Tryz.zeroValue46
 t46 := Tryz.underlying94
 a46 := Tryz.isAgg94
 z46 := Tryz.sizeOf94
 v46 := Tryz.zeroValue94
 t49 := Tryz.underlying167
 a49 := Tryz.isAgg167
 z49 := Tryz.sizeOf167
 v49 := Tryz.zeroValue167
 t51 := Tryz.underlying121
 a51 := Tryz.isAgg121
 z51 := Tryz.sizeOf121
 v51 := Tryz.zeroValue121
 t105 := Tryz.underlying113
 a105 := Tryz.isAgg113
 z105 := Tryz.sizeOf113
 v105 := Tryz.zeroValue113
 t119 := Tryz.underlying146
 a119 := Tryz.isAgg146
 z119 := Tryz.sizeOf146
 t131 := Tryz.underlying128
 a131 := Tryz.isAgg128
 z131 := Tryz.sizeOf128
 v131 := Tryz.zeroValue128
 t138 := Tryz.underlying148
 a138 := Tryz.isAgg148
 z138 := Tryz.sizeOf148
 v138 := Tryz.zeroValue148
 t139 := Tryz.underlying149
 a139 := Tryz.isAgg149
 z139 := Tryz.sizeOf149
 v139 := Tryz.zeroValue149
 t234 := Tryz.underlying168
 a234 := Tryz.isAgg168
 z234 := Tryz.sizeOf168
 v234 := Tryz.zeroValue168
 t236 := Tryz.underlying170
 a236 := Tryz.isAgg170
 z236 := Tryz.sizeOf170
 v236 := Tryz.zeroValue170
 g3 := by kernel_rfl
 g4 := by kernel_rfl
 g20 := by kernel_rfl
 g21 := by kernel_rfl
 g22 := by kernel_rfl
 g23 := by kernel_rfl
 g24 := by kernel_rfl }
def Tryz.laysM173_ren : Go.Shelf.Ren := ⟨fun | 173 => 54 | 246 => 81 | 283 => 96 | 284 => 97 | 285 => 98 | 286 => 99 | 129 => 109 | 317 => 108 | 318 => 110 | 319 => 111 | 320 => 112 | 337 => 123 | 338 => 124 | n => n, fun | 2 => 2 | 3 => 3 | 9 => 9 | 4 => 4 | 171 => 141 | 0 => 0 | 53 => 124 | 37 => 46 | 5 => 5 | 173 => 144 | 212 => 155 | 51 => 121 | 20 => 20 | 213 => 156 | 46 => 94 | 232 => 172 | 233 => 173 | n => n, fun | 17 => 3 | 18 => 9 | 19 => 10 | n => n⟩
theorem Tryz.laysM173 : Go.Proofs.LaysM.n173 Tryz.prog Tryz.laysM173_ren := {
 mixed := by kernel_rfl
 f129 := Tryz.func109.trans (congrArg some (by kernel_rfl))
 f173 := Tryz.func54.trans (congrArg some (by kernel_rfl))
 f246 := Tryz.func81.trans (congrArg some (by kernel_rfl))
 f283 := Tryz.func96.trans (congrArg some (by kernel_rfl))
 f284 := Tryz.func97.trans (congrArg some (by kernel_rfl))
 f285 := Tryz.func98.trans (congrArg some (by kernel_rfl))
 f286 := Tryz.func99.trans (congrArg some (by kernel_rfl))
 f317 := Tryz.func108.trans (congrArg some (by kernel_rfl))
 f318 := Tryz.func110.trans (congrArg some (by kernel_rfl))
 f319 := Tryz.func111.trans (congrArg some (by kernel_rfl))
 f320 := Tryz.func112.trans (congrArg some (by kernel_rfl))
 f337 := Tryz.func123.trans (congrArg some (by kernel_rfl))
 f338 := Tryz.func124.trans (congrArg some (by kernel_rfl))
 t0 := Tryz.underlying0
 a0 := Tryz.isAgg0
 z0 := Tryz.sizeOf0
 v0 := Tryz.zeroValue0
 t2 := Tryz.underlying2
 a2 := Tryz.isAgg2
 z2 := Tryz.sizeOf2
 v2 := Tryz.zeroValue2
 t3 := Tryz.underlying3
 a3 := Tryz.isAgg3
 z3 := Tryz.sizeOf3
 v3 := Tryz.zeroValue3
 t4 := Tryz.underlying4
 a4 := Tryz.isAgg4
 z4 := Tryz.sizeOf4
 v4 := Tryz.zeroValue4
 t5 := Tryz.underlying5
 a5 := Tryz.isAgg5
 z5 := Tryz.sizeOf5
 v5 := Tryz.zeroValue5
 t9 := Tryz.underlying9
 a9 := Tryz.isAgg9
 z9 := Tryz.sizeOf9
 v9 := Tryz.zeroValue9
 t20 := Tryz.underlying20
 a20 := Tryz.isAgg20
 z20 := Tryz.sizeOf20
 v20 := Tryz.zeroValue20
 t37 := Tryz.underlying46
 a37 := Tryz.isAgg46
 z37 := Tryz.sizeOf46
 v37 := Tryz.zeroValue46
 t46 := Tryz.underlying94
 a46 := Tryz.isAgg94
 z46 := Tryz.sizeOf94
 v46 := Tryz.zeroValue94
 t51 := Tryz.underlying121
 a51 := Tryz.isAgg121
 z51 := Tryz.sizeOf121
 v51 := Tryz.zeroValue121
 t53 := Tryz.underlying124
 a53 := Tryz.isAgg124
 z53 := Tryz.sizeOf124
 v53 := Tryz.zeroValue124
 t171 := Tryz.underlying141
 a171 := Tryz.isAgg141
 z171 := Tryz.sizeOf141
 v171 := Tryz.zeroValue141
 t173 := Tryz.underlying144
 a173 := Tryz.isAgg144
 z173 := Tryz.sizeOf144
 v173 := Tryz.zeroValue144
 t212 := Tryz.underlying155
 a212 := Tryz.isAgg155
 z212 := Tryz.sizeOf155
 v212 := Tryz.zeroValue155
 t213 := Tryz.underlying156
 a213 := Tryz.isAgg156
 z213 := Tryz.sizeOf156
 t232 := Tryz.underlying172
 a232 := Tryz.isAgg172
 z232 := Tryz.sizeOf172
 v232 := Tryz.zeroValue172
 t233 := Tryz.underlying173
 a233 := Tryz.isAgg173
 z233 := Tryz.sizeOf173
 v233 := Tryz.zeroValue173
 g17 := by kernel_rfl
 g18 := by kernel_rfl
 g19 := by kernel_rfl
 i0 := by kernel_rfl
 i2 := by kernel_rfl
 i3 := by kernel_rfl
 i4 := by kernel_rfl
 i5 := by kernel_rfl
 i9 := by kernel_rfl
 i20 := by kernel_rfl
 i37 := by kernel_rfl
 i46 := by kernel_rfl
 i51 := by kernel_rfl
 i53 := by kernel_rfl
 i171 := by kernel_rfl
 i173 := by kernel_rfl
 i212 := by kernel_rfl
 i232 := by kernel_rfl
 i233 := by kernel_rfl
 m17 := by kernel_rfl
 m18 := by kernel_rfl
 m19 := by kernel_rfl }
end Go.Proofs
namespace Go.Sx.Tryz
open Go Go.Sx Go.Proofs
set_option maxRecDepth 100000
theorem body46 (p : Fns) (T : List UInt8) (K : List Tok) (a d : Int) (A : List Nd) (x1 : Int) : body (R := R0) E (tabI (libP p)) fi46 [.ref 0 0, .int .i64 x1] (bsP T K a d A) .ok = bif decide (x1 > 64) then PR.bindR (Fns.next p T K a d A ()) (fun y7 a7 d7 A7 => fl0 ((2 : Int)) (tFrom y7.1)) fl0 else Rs.ok (Out.ret (AV.tup []), bsG 0 T K a d A) := by kernel_rfl
def sp46 (p : Fns) (T : List UInt8) (K : List Tok) (a d : Int) (A : List Nd) (x1 : Int) : PR (Dens []) := bif decide (x1 > 64) then PR.bind (Fns.next p T K a d A ()) fun y7 a7 d7 A7 => PR.fault ((2 : Int)) (tFrom y7.1) else PR.ok () a d A
theorem ans46 (p : Fns) (T : List UInt8) (K : List Tok) (a d : Int) (A : List Nd) (x1 : Int) : Ans [] T K (body (R := R0) E (tabI (libP p)) fi46 [.ref 0 0, .int .i64 x1] (bsP T K a d A) .ok) (sp46 p T K a d A x1) := by
 rw [body46]
 unfold sp46
 repeat (first | exact Ans.bad | exact Ans.flt | exact ⟨_, _, [], [], rfl, rfl, rfl⟩ | exact ⟨_, _, _, _, rfl, rfl, rfl⟩ | refine Ans.bif (fun _ => ?_) (fun _ => ?_) | refine Ans.bind (fun _ _ _ _ _ => ?_) (fun _ _ => Ans.flt))
theorem body75 (p : Fns) (T : List UInt8) (K : List Tok) (a d : Int) (A : List Nd) (x1 : List UInt8) : body (R := R0) E (tabI (libP p)) fi75 [.ref 0 0, .str x1] (bsP T K a d A) .ok = PR.bindR (Fns.next p T K a d A ()) (fun y7 a7 d7 A7 => bif tKind y7.1 == 1 then Rs.ok (Out.ret (AV.bool (y7.2.1 == x1)), [pC T K a7 d7, pL A7]) else bif tKind y7.1 == 5 then Rs.ok (Out.ret (AV.bool (y7.2.1 == x1)), [pC T K a7 d7, pL A7]) else Rs.ok (Out.ret (AV.bool false), [pC T K a7 d7, pL A7])) fl0 := by kernel_rfl
def sp75 (p : Fns) (T : List UInt8) (K : List Tok) (a d : Int) (A : List Nd) (x1 : List UInt8) : PR (Dens [tB]) := PR.bind (Fns.next p T K a d A ()) fun y7 a7 d7 A7 => bif tKind y7.1 == 1 then PR.ok (y7.2.1 == x1, ()) a7 d7 A7 else bif tKind y7.1 == 5 then PR.ok (y7.2.1 == x1, ()) a7 d7 A7 else PR.ok (false, ()) a7 d7 A7
theorem ans75 (p : Fns) (T : List UInt8) (K : List Tok) (a d : Int) (A : List Nd) (x1 : List UInt8) : Ans [tB] T K (body (R := R0) E (tabI (libP p)) fi75 [.ref 0 0, .str x1] (bsP T K a d A) .ok) (sp75 p T K a d A x1) := by
 rw [body75]
 unfold sp75
 repeat (first | exact Ans.bad | exact Ans.flt | exact ⟨_, _, [], [], rfl, rfl, rfl⟩ | exact ⟨_, _, _, _, rfl, rfl, rfl⟩ | refine Ans.bif (fun _ => ?_) (fun _ => ?_) | refine Ans.bind (fun _ _ _ _ _ => ?_) (fun _ _ => Ans.flt))
theorem body74 (p : Fns) (T : List UInt8) (K : List Tok) (a d : Int) (A : List Nd) (x1 : List UInt8) : body (R := R0) E (tabI (libP p)) fi74 [.ref 0 0, .str x1] (bsP T K a d A) .ok = PR.bindR (Fns.isS p T K a d A (x1, ())) (fun y7 a7 d7 A7 => bif !y7.1 then Rs.ok (Out.ret (AV.bool false), [pC T K a7 d7, pL A7]) else PR.bindR (Fns.skip p T K a7 d7 A7 ()) (fun y11 a11 d11 A11 => Rs.ok (Out.ret (AV.bool true), bsG 2 T K a11 d11 A11)) fl0) fl0 := by kernel_rfl
def sp74 (p : Fns) (T : List UInt8) (K : List Tok) (a d : Int) (A : List Nd) (x1 : List UInt8) : PR (Dens [tB]) := PR.bind (Fns.isS p T K a d A (x1, ())) fun y7 a7 d7 A7 => bif !y7.1 then PR.ok (false, ()) a7 d7 A7 else PR.bind (Fns.skip p T K a7 d7 A7 ()) fun y11 a11 d11 A11 => PR.ok (true, ()) a11 d11 A11
theorem ans74 (p : Fns) (T : List UInt8) (K : List Tok) (a d : Int) (A : List Nd) (x1 : List UInt8) : Ans [tB] T K (body (R := R0) E (tabI (libP p)) fi74 [.ref 0 0, .str x1] (bsP T K a d A) .ok) (sp74 p T K a d A x1) := by
 rw [body74]
 unfold sp74
 repeat (first | exact Ans.bad | exact Ans.flt | exact ⟨_, _, [], [], rfl, rfl, rfl⟩ | exact ⟨_, _, _, _, rfl, rfl, rfl⟩ | refine Ans.bif (fun _ => ?_) (fun _ => ?_) | refine Ans.bind (fun _ _ _ _ _ => ?_) (fun _ _ => Ans.flt))
theorem body72 (p : Fns) (T : List UInt8) (K : List Tok) (a d : Int) (A : List Nd) (x1 : List UInt8) : body (R := R0) E (tabI (libP p)) fi72 [.ref 0 0, .str x1] (bsP T K a d A) .ok = PR.bindR (Fns.isS p T K a d A (x1, ())) (fun y7 a7 d7 A7 => bif !y7.1 then PR.bindR (Fns.next p T K a7 d7 A7 ()) (fun y11 a11 d11 A11 => fl0 ((80 : Int)) (tFrom y11.1)) fl0 else PR.bindR (Fns.skip p T K a7 d7 A7 ()) (fun y11 a11 d11 A11 => Rs.ok (Out.ret (Iz y11.1), bsG 2 T K a11 d11 A11)) fl0) fl0 := by kernel_rfl
def sp72 (p : Fns) (T : List UInt8) (K : List Tok) (a d : Int) (A : List Nd) (x1 : List UInt8) : PR (Dens [tI]) := PR.bind (Fns.isS p T K a d A (x1, ())) fun y7 a7 d7 A7 => bif !y7.1 then PR.bind (Fns.next p T K a7 d7 A7 ()) fun y11 a11 d11 A11 => PR.fault ((80 : Int)) (tFrom y11.1) else PR.bind (Fns.skip p T K a7 d7 A7 ()) fun y11 a11 d11 A11 => PR.ok (y11.1, ()) a11 d11 A11
theorem ans72 (p : Fns) (T : List UInt8) (K : List Tok) (a d : Int) (A : List Nd) (x1 : List UInt8) : Ans [tI] T K (body (R := R0) E (tabI (libP p)) fi72 [.ref 0 0, .str x1] (bsP T K a d A) .ok) (sp72 p T K a d A x1) := by
 rw [body72]
 unfold sp72
 repeat (first | exact Ans.bad | exact Ans.flt | exact ⟨_, _, [], [], rfl, rfl, rfl⟩ | exact ⟨_, _, _, _, rfl, rfl, rfl⟩ | refine Ans.bif (fun _ => ?_) (fun _ => ?_) | refine Ans.bind (fun _ _ _ _ _ => ?_) (fun _ _ => Ans.flt))
theorem body73 (p : Fns) (T : List UInt8) (K : List Tok) (a d : Int) (A : List Nd) : body (R := R0) E (tabI (libP p)) fi73 [.ref 0 0] (bsP T K a d A) .ok = PR.bindR (Fns.next p T K a d A ()) (fun y6 a6 d6 A6 => bif tKind y6.1 != 1 then fl0 ((80 : Int)) (tFrom y6.1) else bif preS (y6.2.1, ()) then bif !nameS y6.2.1 then fl0 ((80 : Int)) (tFrom y6.1) else PR.bindR (Fns.skip p T K a6 d6 A6 ()) (fun y10 a10 d10 A10 => Rs.ok (Out.ret (AV.str y6.2.1), bsG 2 T K a10 d10 A10)) fl0 else Rs.err 3000091) fl0 := by kernel_rfl
def sp73 (p : Fns) (T : List UInt8) (K : List Tok) (a d : Int) (A : List Nd)  : PR (Dens [tS]) := PR.bind (Fns.next p T K a d A ()) fun y6 a6 d6 A6 => bif tKind y6.1 != 1 then PR.fault ((80 : Int)) (tFrom y6.1) else bif preS (y6.2.1, ()) then bif !nameS y6.2.1 then PR.fault ((80 : Int)) (tFrom y6.1) else PR.bind (Fns.skip p T K a6 d6 A6 ()) fun y10 a10 d10 A10 => PR.ok (y6.2.1, ()) a10 d10 A10 else PR.bad
theorem ans73 (p : Fns) (T : List UInt8) (K : List Tok) (a d : Int) (A : List Nd)  : Ans [tS] T K (body (R := R0) E (tabI (libP p)) fi73 [.ref 0 0] (bsP T K a d A) .ok) (sp73 p T K a d A ) := by
 rw [body73]
 unfold sp73
 repeat (first | exact Ans.bad | exact Ans.flt | exact ⟨_, _, [], [], rfl, rfl, rfl⟩ | exact ⟨_, _, _, _, rfl, rfl, rfl⟩ | refine Ans.bif (fun _ => ?_) (fun _ => ?_) | refine Ans.bind (fun _ _ _ _ _ => ?_) (fun _ _ => Ans.flt))
theorem body104 (p : Fns) (T : List UInt8) (K : List Tok) (a d : Int) (A : List Nd) : body (R := R0) E (tabI (libP p)) fi104 [.ref 0 0] (bsP T K a d A) .ok = bif decide (IntKind.wrap IntKind.i64 (d + 1) > 60) then PR.bindR (Fns.next p T K a (IntKind.wrap IntKind.i64 (d + 1)) A ()) (fun y6 a6 d6 A6 => fl0 ((6 : Int)) (tFrom y6.1)) fl0 else Rs.ok (Out.ret (AV.tup []), bsG 0 T K a (IntKind.wrap IntKind.i64 (d + 1)) A) := by kernel_rfl
def sp104 (p : Fns) (T : List UInt8) (K : List Tok) (a d : Int) (A : List Nd)  : PR (Dens []) := bif decide (IntKind.wrap IntKind.i64 (d + 1) > 60) then PR.bind (Fns.next p T K a (IntKind.wrap IntKind.i64 (d + 1)) A ()) fun y6 a6 d6 A6 => PR.fault ((6 : Int)) (tFrom y6.1) else PR.ok () a (IntKind.wrap IntKind.i64 (d + 1)) A
theorem ans104 (p : Fns) (T : List UInt8) (K : List Tok) (a d : Int) (A : List Nd)  : Ans [] T K (body (R := R0) E (tabI (libP p)) fi104 [.ref 0 0] (bsP T K a d A) .ok) (sp104 p T K a d A ) := by
 rw [body104]
 unfold sp104
 repeat (first | exact Ans.bad | exact Ans.flt | exact ⟨_, _, [], [], rfl, rfl, rfl⟩ | exact ⟨_, _, _, _, rfl, rfl, rfl⟩ | refine Ans.bif (fun _ => ?_) (fun _ => ?_) | refine Ans.bind (fun _ _ _ _ _ => ?_) (fun _ _ => Ans.flt))
theorem body127 (p : Fns) (T : List UInt8) (K : List Tok) (a d : Int) (A : List Nd) : body (R := R0) E (tabI (libP p)) fi127 [.ref 0 0] (bsP T K a d A) .ok = PR.bindR (Fns.want p T K a d A ([40], ())) (fun y6 a6 d6 A6 => PR.bindR (Fns.value p T K a6 d6 A6 ()) (fun y10 a10 d10 A10 => PR.bindR (Fns.want p T K a10 d10 A10 ([41], ())) (fun y14 a14 d14 A14 => Rs.ok (Out.ret (Iz y10.1), bsG 3 T K a14 d14 A14)) fl0) fl0) fl0 := by kernel_rfl
def sp127 (p : Fns) (T : List UInt8) (K : List Tok) (a d : Int) (A : List Nd)  : PR (Dens [tI]) := PR.bind (Fns.want p T K a d A ([40], ())) fun y6 a6 d6 A6 => PR.bind (Fns.value p T K a6 d6 A6 ()) fun y10 a10 d10 A10 => PR.bind (Fns.want p T K a10 d10 A10 ([41], ())) fun y14 a14 d14 A14 => PR.ok (y10.1, ()) a14 d14 A14
theorem ans127 (p : Fns) (T : List UInt8) (K : List Tok) (a d : Int) (A : List Nd)  : Ans [tI] T K (body (R := R0) E (tabI (libP p)) fi127 [.ref 0 0] (bsP T K a d A) .ok) (sp127 p T K a d A ) := by
 rw [body127]
 unfold sp127
 repeat (first | exact Ans.bad | exact Ans.flt | exact ⟨_, _, [], [], rfl, rfl, rfl⟩ | exact ⟨_, _, _, _, rfl, rfl, rfl⟩ | refine Ans.bif (fun _ => ?_) (fun _ => ?_) | refine Ans.bind (fun _ _ _ _ _ => ?_) (fun _ _ => Ans.flt))
theorem body114 (p : Fns) (T : List UInt8) (K : List Tok) (a d : Int) (A : List Nd) : body (R := R0) E (tabI (libP p)) fi114 [.ref 0 0] (bsP T K a d A) .ok = PR.bindR (Fns.goIn p T K a d A ()) (fun y6 a6 d6 A6 => PR.bindR (Fns.chain p T K a6 d6 A6 (0, ())) (fun y10 a10 d10 A10 => Rs.ok (Out.ret (Iz y10.1), bsG 2 T K a10 (IntKind.wrap IntKind.i64 (d10 - 1)) A10)) fl0) fl0 := by kernel_rfl
def sp114 (p : Fns) (T : List UInt8) (K : List Tok) (a d : Int) (A : List Nd)  : PR (Dens [tI]) := PR.bind (Fns.goIn p T K a d A ()) fun y6 a6 d6 A6 => PR.bind (Fns.chain p T K a6 d6 A6 (0, ())) fun y10 a10 d10 A10 => PR.ok (y10.1, ()) a10 (IntKind.wrap IntKind.i64 (d10 - 1)) A10
theorem ans114 (p : Fns) (T : List UInt8) (K : List Tok) (a d : Int) (A : List Nd)  : Ans [tI] T K (body (R := R0) E (tabI (libP p)) fi114 [.ref 0 0] (bsP T K a d A) .ok) (sp114 p T K a d A ) := by
 rw [body114]
 unfold sp114
 repeat (first | exact Ans.bad | exact Ans.flt | exact ⟨_, _, [], [], rfl, rfl, rfl⟩ | exact ⟨_, _, _, _, rfl, rfl, rfl⟩ | refine Ans.bif (fun _ => ?_) (fun _ => ?_) | refine Ans.bind (fun _ _ _ _ _ => ?_) (fun _ _ => Ans.flt))
theorem body133 (p : Fns) (T : List UInt8) (K : List Tok) (a d : Int) (A : List Nd) : body (R := R0) E (tabI (libP p)) fi133 [.ref 0 0] (bsP T K a d A) .ok = PR.bindR (Fns.next p T K a d A ()) (fun y6 a6 d6 A6 => bif tKind y6.1 != 5 then PR.bindR (Fns.behind p T K a6 d6 A6 ()) (fun y10 a10 d10 A10 => Rs.ok (Out.ret (Iz y10.1), bsG 2 T K a10 d10 A10)) fl0 else bif !y6.2.1 == [33] then bif !y6.2.1 == [45] then PR.bindR (Fns.behind p T K a6 d6 A6 ()) (fun y10 a10 d10 A10 => Rs.ok (Out.ret (Iz y10.1), bsG 2 T K a10 d10 A10)) fl0 else PR.bindR (Fns.goIn p T K a6 d6 A6 ()) (fun y10 a10 d10 A10 => PR.bindR (Fns.skip p T K a10 d10 A10 ()) (fun y14 a14 d14 A14 => PR.bindR (Fns.unary p T K a14 d14 A14 ()) (fun y18 a18 d18 A18 => bif y6.2.1 == [45] then PR.bindR (Fns.add p T K a18 (IntKind.wrap IntKind.i64 (d18 - 1)) A18 ((mkN 32 0 0 ([y18.1]) [] 0 [] 0 [] 0 0 0 []), tFrom y6.1, ())) (fun y22 a22 d22 A22 => Rs.ok (Out.ret (Iz y22.1), bsG 5 T K a22 d22 A22)) fl0 else PR.bindR (Fns.add p T K a18 (IntKind.wrap IntKind.i64 (d18 - 1)) A18 ((mkN 33 0 0 ([y18.1]) [] 0 [] 0 [] 0 0 0 []), tFrom y6.1, ())) (fun y22 a22 d22 A22 => Rs.ok (Out.ret (Iz y22.1), bsG 5 T K a22 d22 A22)) fl0) fl0) fl0) fl0 else PR.bindR (Fns.goIn p T K a6 d6 A6 ()) (fun y10 a10 d10 A10 => PR.bindR (Fns.skip p T K a10 d10 A10 ()) (fun y14 a14 d14 A14 => PR.bindR (Fns.unary p T K a14 d14 A14 ()) (fun y18 a18 d18 A18 => bif y6.2.1 == [45] then PR.bindR (Fns.add p T K a18 (IntKind.wrap IntKind.i64 (d18 - 1)) A18 ((mkN 32 0 0 ([y18.1]) [] 0 [] 0 [] 0 0 0 []), tFrom y6.1, ())) (fun y22 a22 d22 A22 => Rs.ok (Out.ret (Iz y22.1), bsG 5 T K a22 d22 A22)) fl0 else PR.bindR (Fns.add p T K a18 (IntKind.wrap IntKind.i64 (d18 - 1)) A18 ((mkN 33 0 0 ([y18.1]) [] 0 [] 0 [] 0 0 0 []), tFrom y6.1, ())) (fun y22 a22 d22 A22 => Rs.ok (Out.ret (Iz y22.1), bsG 5 T K a22 d22 A22)) fl0) fl0) fl0) fl0) fl0 := by kernel_rfl
def sp133 (p : Fns) (T : List UInt8) (K : List Tok) (a d : Int) (A : List Nd)  : PR (Dens [tI]) := PR.bind (Fns.next p T K a d A ()) fun y6 a6 d6 A6 => bif tKind y6.1 != 5 then PR.bind (Fns.behind p T K a6 d6 A6 ()) fun y10 a10 d10 A10 => PR.ok (y10.1, ()) a10 d10 A10 else bif !y6.2.1 == [33] then bif !y6.2.1 == [45] then PR.bind (Fns.behind p T K a6 d6 A6 ()) fun y10 a10 d10 A10 => PR.ok (y10.1, ()) a10 d10 A10 else PR.bind (Fns.goIn p T K a6 d6 A6 ()) fun y10 a10 d10 A10 => PR.bind (Fns.skip p T K a10 d10 A10 ()) fun y14 a14 d14 A14 => PR.bind (Fns.unary p T K a14 d14 A14 ()) fun y18 a18 d18 A18 => bif y6.2.1 == [45] then PR.bind (Fns.add p T K a18 (IntKind.wrap IntKind.i64 (d18 - 1)) A18 ((mkN 32 0 0 ([y18.1]) [] 0 [] 0 [] 0 0 0 []), tFrom y6.1, ())) fun y22 a22 d22 A22 => PR.ok (y22.1, ()) a22 d22 A22 else PR.bind (Fns.add p T K a18 (IntKind.wrap IntKind.i64 (d18 - 1)) A18 ((mkN 33 0 0 ([y18.1]) [] 0 [] 0 [] 0 0 0 []), tFrom y6.1, ())) fun y22 a22 d22 A22 => PR.ok (y22.1, ()) a22 d22 A22 else PR.bind (Fns.goIn p T K a6 d6 A6 ()) fun y10 a10 d10 A10 => PR.bind (Fns.skip p T K a10 d10 A10 ()) fun y14 a14 d14 A14 => PR.bind (Fns.unary p T K a14 d14 A14 ()) fun y18 a18 d18 A18 => bif y6.2.1 == [45] then PR.bind (Fns.add p T K a18 (IntKind.wrap IntKind.i64 (d18 - 1)) A18 ((mkN 32 0 0 ([y18.1]) [] 0 [] 0 [] 0 0 0 []), tFrom y6.1, ())) fun y22 a22 d22 A22 => PR.ok (y22.1, ()) a22 d22 A22 else PR.bind (Fns.add p T K a18 (IntKind.wrap IntKind.i64 (d18 - 1)) A18 ((mkN 33 0 0 ([y18.1]) [] 0 [] 0 [] 0 0 0 []), tFrom y6.1, ())) fun y22 a22 d22 A22 => PR.ok (y22.1, ()) a22 d22 A22
theorem ans133 (p : Fns) (T : List UInt8) (K : List Tok) (a d : Int) (A : List Nd)  : Ans [tI] T K (body (R := R0) E (tabI (libP p)) fi133 [.ref 0 0] (bsP T K a d A) .ok) (sp133 p T K a d A ) := by
 rw [body133]
 unfold sp133
 repeat (first | exact Ans.bad | exact Ans.flt | exact ⟨_, _, [], [], rfl, rfl, rfl⟩ | exact ⟨_, _, _, _, rfl, rfl, rfl⟩ | refine Ans.bif (fun _ => ?_) (fun _ => ?_) | refine Ans.bind (fun _ _ _ _ _ => ?_) (fun _ _ => Ans.flt))
theorem body45 (p : Fns) (T : List UInt8) (K : List Tok) (a d : Int) (A : List Nd) : body (R := R0) E (tabI (libP p)) fi45 [.ref 0 0] (bsP T K a d A) .ok = bif inI a (List.length K) then bif inB (tFrom (tokAt K a)) (tTo (tokAt K a)) (List.length T) then Rs.ok (Out.ret (AV.tup [AV.agg [Iz (tKind (tokAt K a)), Iz (tFrom (tokAt K a)), Iz (tTo (tokAt K a))], AV.str (List.drop (Int.toNat (tFrom (tokAt K a))) (List.take (Int.toNat (tTo (tokAt K a))) T))]), bsG 0 T K a d A) else Rs.err 211 else Rs.err 108 := by kernel_rfl
def sp45 (p : Fns) (T : List UInt8) (K : List Tok) (a d : Int) (A : List Nd)  : PR (Dens [tT, tS]) := bif inI a (List.length K) then bif inB (tFrom (tokAt K a)) (tTo (tokAt K a)) (List.length T) then PR.ok ((tkn (tKind (tokAt K a)) (tFrom (tokAt K a)) (tTo (tokAt K a))), List.drop (Int.toNat (tFrom (tokAt K a))) (List.take (Int.toNat (tTo (tokAt K a))) T), ()) a d A else PR.bad else PR.bad
theorem ans45 (p : Fns) (T : List UInt8) (K : List Tok) (a d : Int) (A : List Nd)  : Ans [tT, tS] T K (body (R := R0) E (tabI (libP p)) fi45 [.ref 0 0] (bsP T K a d A) .ok) (sp45 p T K a d A ) := by
 rw [body45]
 unfold sp45
 repeat (first | exact Ans.bad | exact Ans.flt | exact ⟨_, _, [], [], rfl, rfl, rfl⟩ | exact ⟨_, _, _, _, rfl, rfl, rfl⟩ | refine Ans.bif (fun _ => ?_) (fun _ => ?_) | refine Ans.bind (fun _ _ _ _ _ => ?_) (fun _ _ => Ans.flt))
theorem body125 (p : Fns) (T : List UInt8) (K : List Tok) (a d : Int) (A : List Nd) (x1 : Int) : body (R := R0) E (tabI (libP p)) fi125 [.ref 0 0, .int .i64 x1] (bsP T K a d A) .ok = bif decide (IntKind.wrap IntKind.i64 (a + x1) ≥ (↑(List.length K) : Int)) then Rs.ok (Out.ret (AV.tup [Iz 0, AV.str []]), bsG 0 T K a d A) else bif inI (IntKind.wrap IntKind.i64 (a + x1)) (List.length K) then bif inB (tFrom (tokAt K (IntKind.wrap IntKind.i64 (a + x1)))) (tTo (tokAt K (IntKind.wrap IntKind.i64 (a + x1)))) (List.length T) then Rs.ok (Out.ret (AV.tup [Iz (tKind (tokAt K (IntKind.wrap IntKind.i64 (a + x1)))), AV.str (List.drop (Int.toNat (tFrom (tokAt K (IntKind.wrap IntKind.i64 (a + x1))))) (List.take (Int.toNat (tTo (tokAt K (IntKind.wrap IntKind.i64 (a + x1))))) T))]), bsG 0 T K a d A) else Rs.err 412 else Rs.err 310 := by kernel_rfl
def sp125 (p : Fns) (T : List UInt8) (K : List Tok) (a d : Int) (A : List Nd) (x1 : Int) : PR (Dens [tI, tS]) := bif decide (IntKind.wrap IntKind.i64 (a + x1) ≥ (↑(List.length K) : Int)) then PR.ok (0, [], ()) a d A else bif inI (IntKind.wrap IntKind.i64 (a + x1)) (List.length K) then bif inB (tFrom (tokAt K (IntKind.wrap IntKind.i64 (a + x1)))) (tTo (tokAt K (IntKind.wrap IntKind.i64 (a + x1)))) (List.length T) then PR.ok (tKind (tokAt K (IntKind.wrap IntKind.i64 (a + x1))), List.drop (Int.toNat (tFrom (tokAt K (IntKind.wrap IntKind.i64 (a + x1))))) (List.take (Int.toNat (tTo (tokAt K (IntKind.wrap IntKind.i64 (a + x1))))) T), ()) a d A else PR.bad else PR.bad
theorem ans125 (p : Fns) (T : List UInt8) (K : List Tok) (a d : Int) (A : List Nd) (x1 : Int) : Ans [tI, tS] T K (body (R := R0) E (tabI (libP p)) fi125 [.ref 0 0, .int .i64 x1] (bsP T K a d A) .ok) (sp125 p T K a d A x1) := by
 rw [body125]
 unfold sp125
 repeat (first | exact Ans.bad | exact Ans.flt | exact ⟨_, _, [], [], rfl, rfl, rfl⟩ | exact ⟨_, _, _, _, rfl, rfl, rfl⟩ | refine Ans.bif (fun _ => ?_) (fun _ => ?_) | refine Ans.bind (fun _ _ _ _ _ => ?_) (fun _ _ => Ans.flt))
theorem body90 (p : Fns) (T : List UInt8) (K : List Tok) (a d : Int) (A : List Nd) : body (R := R0) E (tabI (libP p)) fi90 [.ref 0 0] (bsP T K a d A) .ok = bif inI a (List.length K) then bif tKind (tokAt K a) != 0 then Rs.ok (Out.ret (Iz (tTo (tokAt K a))), bsG 0 T K (IntKind.wrap IntKind.i64 (a + 1)) d A) else Rs.ok (Out.ret (Iz (tTo (tokAt K a))), bsG 0 T K a d A) else Rs.err 108 := by kernel_rfl
def sp90 (p : Fns) (T : List UInt8) (K : List Tok) (a d : Int) (A : List Nd)  : PR (Dens [tI]) := bif inI a (List.length K) then bif tKind (tokAt K a) != 0 then PR.ok (tTo (tokAt K a), ()) (IntKind.wrap IntKind.i64 (a + 1)) d A else PR.ok (tTo (tokAt K a), ()) a d A else PR.bad
theorem ans90 (p : Fns) (T : List UInt8) (K : List Tok) (a d : Int) (A : List Nd)  : Ans [tI] T K (body (R := R0) E (tabI (libP p)) fi90 [.ref 0 0] (bsP T K a d A) .ok) (sp90 p T K a d A ) := by
 rw [body90]
 unfold sp90
 repeat (first | exact Ans.bad | exact Ans.flt | exact ⟨_, _, [], [], rfl, rfl, rfl⟩ | exact ⟨_, _, _, _, rfl, rfl, rfl⟩ | refine Ans.bif (fun _ => ?_) (fun _ => ?_) | refine Ans.bind (fun _ _ _ _ _ => ?_) (fun _ _ => Ans.flt))
theorem body139 (p : Fns) (T : List UInt8) (K : List Tok) (a d : Int) (A : List Nd) (x1 : Nd) (x2 : Int) : body (R := R0) E (tabI (libP p)) fi139 [.ref 0 0, .agg (flat nodeTy x1), .int .i64 x2] (bsP T K a d A) .ok = PR.bindR (Fns.next p T K a d A ()) (fun y8 a8 d8 A8 => bif x2 != 0 then fl0 x2 (tFrom y8.1) else PR.bindR (Fns.skip p T K a8 d8 A8 ()) (fun y12 a12 d12 A12 => PR.bindR (Fns.add p T K a12 d12 A12 ((mkN (nKind x1) (nAt x1) (nTo x1) (nKids x1) (nText x1) (nBase x1) (nName x1) (nDims x1) (nMarks x1) (nN x1) (nW1 x1) (nW2 x1) (nEnds x1)), tFrom y8.1, ())) (fun y16 a16 d16 A16 => Rs.ok (Out.ret (Iz y16.1), bsG 3 T K a16 d16 A16)) fl0) fl0) fl0 := by kernel_rfl
def sp139 (p : Fns) (T : List UInt8) (K : List Tok) (a d : Int) (A : List Nd) (x1 : Nd) (x2 : Int) : PR (Dens [tI]) := PR.bind (Fns.next p T K a d A ()) fun y8 a8 d8 A8 => bif x2 != 0 then PR.fault x2 (tFrom y8.1) else PR.bind (Fns.skip p T K a8 d8 A8 ()) fun y12 a12 d12 A12 => PR.bind (Fns.add p T K a12 d12 A12 ((mkN (nKind x1) (nAt x1) (nTo x1) (nKids x1) (nText x1) (nBase x1) (nName x1) (nDims x1) (nMarks x1) (nN x1) (nW1 x1) (nW2 x1) (nEnds x1)), tFrom y8.1, ())) fun y16 a16 d16 A16 => PR.ok (y16.1, ()) a16 d16 A16
theorem ans139 (p : Fns) (T : List UInt8) (K : List Tok) (a d : Int) (A : List Nd) (x1 : Nd) (x2 : Int) : Ans [tI] T K (body (R := R0) E (tabI (libP p)) fi139 [.ref 0 0, .agg (flat nodeTy x1), .int .i64 x2] (bsP T K a d A) .ok) (sp139 p T K a d A x1 x2) := by
 rw [body139]
 unfold sp139
 repeat (first | exact Ans.bad | exact Ans.flt | exact ⟨_, _, [], [], rfl, rfl, rfl⟩ | exact ⟨_, _, _, _, rfl, rfl, rfl⟩ | refine Ans.bif (fun _ => ?_) (fun _ => ?_) | refine Ans.bind (fun _ _ _ _ _ => ?_) (fun _ _ => Ans.flt))
end Go.Sx.Tryz
