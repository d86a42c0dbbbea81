/- A part of the proof: see the row's text. -/
import Derived.Test.YtaklpoiaicepoaaGreatDoorZa07
set_option linter.unusedVariables false
set_option linter.unusedSimpArgs false
noncomputable section
namespace Go.Sx
open Go
variable {G : Nat → Obj → Prop} {P : Program} {E : Env} {K : Callee} {R : Type}
theorem leave_ok {D C : Ctx} {bs : List Blk} (hm : D.m = getB (withIds 0 bs)) (hE : Ext D C) (hs : SRel C) {v : AV} {u : Value} (hv : VRel C v u) {k : (Out × List Blk) → Rs R} {r : R} (h : leave bs.length C.m v k = .ok r) :
  ∃ o, k o = .ok r ∧ PostOf D o (.returned u) C.w := by
 unfold leave at h
 split at h
 ·cases h
 ·rename_i ids hr
  split at h
  ·cases h
  ·rename_i l hl
   split at h
   ·rename_i hck
    simp only [Bool.and_eq_true] at hck
    obtain ⟨hp, hok⟩ := hck
    obtain ⟨s3, e3, hren, hids, _⟩ := collect_ok hm hE hs hr hl hok
    exact ⟨_, h, _, Sub C ids C.fr (l.map (renB (posOf ids))), rfl, rfl, rfl, s3, e3, hren.relV hids hp hv, plainV_ren _ _ hp, okBlk_ren _ hok⟩
   ·cases h
structure FIOK (P : Program) (f : Nat) (fi : FI) : Prop where
 fn : ∃ fn, P.funcs[f]? = some fn ∧ fn.body = some fi.code ∧ fn.ntmps = fi.ntmps ∧ fn.results.toList = fi.results ∧ (fn.name == "runtime.NumGoroutine") = false
 code : codeOk fi.ntmps fi.code = true
theorem look_args : ∀ (as : List AV) (i j : Nat), look (argTmps i as) j = if i ≤ j then (as[j - i]?).getD .undef else .undef
 | [], i, j => by simp [argTmps, look]
 | a :: as, i, j => by
  simp only [argTmps, look]
  split
  ·rename_i e
   have := beq_eq e
   subst this
   simp
  ·rename_i e
   have hne : i ≠ j := fun hh => by subst hh; simp at e
   rw [look_args as (i + 1) j]
   by_cases hle : i ≤ j
   ·rw [if_pos hle, if_pos (by omega)]
    obtain ⟨d, hd⟩ : ∃ d, j - i = d + 1 := ⟨j - i - 1, by omega⟩
    rw [hd, show j - (i + 1) = d by omega]
    simp
   ·rw [if_neg hle, if_neg (by omega)]
theorem enter_rel {C : Ctx} {args : List AV} {vals : List Value} (hv : VRelL C args vals) (n : Nat) : TRel C (look (argTmps 0 args)) { tmps := vals.toArray ++ Array.replicate n undef, defers := [] } := by
 intro x
 cases x with
 | tmp t =>
  simp only [evalO, Act.eval, look_args, Nat.zero_le, if_true, Nat.sub_zero]
  cases h : args[t]? with
  | none => exact trivial
  | some a =>
   obtain ⟨v, h1, h2⟩ := hv.get h
   have hlt : t < vals.length := (List.getElem?_eq_some_iff.1 h1).1
   have : (vals.toArray ++ Array.replicate n undef).getD t undef = v := by
    simp [Array.getD_eq_getD_getElem?, Array.getElem?_append, hlt]
    have := List.getElem?_eq_getElem hlt
    rw [h1] at this
    exact (Option.some.inj this).symm
   rw [this]
   exact h2
 | const c => exact constAV_rel c
 | global g => exact trivial
 | func f => exact ⟨#[], rfl, rfl⟩
def Ends (P : Program) (fn : Func) (D : Ctx) (k : (Out × List Blk) → Rs R) (r : R) : Post := fun e a w => match e with
 | .normal | .ret => a.defers = [] ∧ ∃ v, (results fn a.tmps).run P w = .ok v w ∧ ∃ o, k o = .ok r ∧ PostOf D o (.returned v) w
 | .panic ch => a.defers = [] ∧ ∃ o, k o = .ok r ∧ PostOf D o (.panicked ch) w
 | _ => False
theorem finK_ok (hE : EnvOK E P) {D : Ctx} {bs : List Blk} (hm : D.m = getB (withIds 0 bs)) {fn : Func} {rs : List ResultVar} (hrs : fn.results.toList = rs) {k : (Out × List Blk) → Rs R} {r : R} {N : Nat} :
  KS D N [] (finK E bs.length rs k) r (Ends P fn D k r) := by
 have fin : ∀ (st : St) (C : Ctx) (a : Act), (match resVs E (look st.tmps) (getB st.blks) rs with
   | some [v] => leave bs.length (getB st.blks) v k
   | some vs => leave bs.length (getB st.blks) (.tup vs) k
   | none => .err 14) = .ok r → StR C a st N [] → Ext D C → a.defers = [] ∧ ∃ v, (results fn a.tmps).run P C.w = .ok v C.w ∧ ∃ o, k o = .ok r ∧ PostOf D o (.returned v) C.w := by
  intro st C a hk hr hX
  refine ⟨hr.defers, ?_⟩
  have hmm := hr.r.m
  rw [← hmm] at hk
  cases hres : resVs E (look st.tmps) C.m rs with
  | none => rw [hres] at hk; cases hk
  | some vs =>
   rw [hres] at hk
   have hres' : resVs E (look st.tmps) C.m fn.results.toList = some vs := by rw [hrs]; exact hres
   obtain ⟨u, hu1, hu2⟩ := results_run hE hr.r.s hr.r.t (fn := fn) hres'
   refine ⟨u, hu1, ?_⟩
   clear hres hres'
   match vs, hk, hu2 with
   | [], hk, hu2 => exact leave_ok hm hX hr.r.s hu2 hk
   | [v], hk, hu2 => exact leave_ok hm hX hr.r.s hu2 hk
   | v :: v' :: vs, hk, hu2 => exact leave_ok hm hX hr.r.s hu2 hk
 exact {
  normal := fun st C a h hr hX => fin st C a h hr hX
  exit := fun id st C a h hr hX => by cases h
  ret := fun st C a h hr hX => fin st C a h hr hX
  panic := fun v st a w ch h hp hd => ⟨hd, _, h, v, rfl, hp⟩ }
theorem answers_of {f : Nat} {fi : FI} (hf : FIOK P f fi) {args : List AV} {bs : List Blk} (hn : Nat.ble args.length fi.ntmps = true) {o : Out × List Blk}
  (h : ∀ (fn : Func), fn.results.toList = fi.results → ∀ (D : Ctx) (vals : List Value) (a : Act), D.gl = G → D.m = getB (withIds 0 bs) → SRel D → VRelL D args vals → StR D a { tmps := argTmps 0 args, blks := withIds 0 bs, next := bs.length } fi.ntmps [] →
   fi.code.wp P (Ends P fn D .ok o) a D.w) : SA P G f args bs o := by
 intro D vals hG hm hs hv
 have hn := Nat.le_of_ble_eq_true hn
 obtain ⟨fn, h1, h2, h3, h4, h5⟩ := hf.fn
 have h5' : ¬ fn.name = "runtime.NumGoroutine" := by simpa using h5
 refine .inl ⟨by simp [callFunc, h1, h2, h5'], calls_of_wp h1 h2 ?_⟩
 have hlen := hv.len
 have hst : StR D { tmps := vals.toArray ++ Array.replicate (fn.ntmps - vals.toArray.size) undef, defers := [] } { tmps := argTmps 0 args, blks := withIds 0 bs, next := bs.length } fi.ntmps [] :=
  ⟨⟨hm, hs, enter_rel hv _⟩, fun k hk => by simp only [withIds_get, Nat.zero_le, if_true, Nat.sub_zero]; exact List.getElem?_eq_none hk, by simp [h3]; omega, rfl⟩
 refine wp_mono (h fn h4 D vals _ hG hm hs hv hst) fun e a w hq => ?_
 have fin : (a.defers = [] ∧ ∃ v, (results fn a.tmps).run P w = .ok v w ∧ ∃ o', Rs.ok o' = Rs.ok o ∧ PostOf D o' (.returned v) w) → a.defers = [] ∧ ∃ v, (results fn a.tmps).run P w = .ok v w ∧ PostOf D o (.returned v) w := by
  rintro ⟨e1, v, e2, o', e3, e4⟩
  cases e3
  exact ⟨e1, v, e2, e4⟩
 cases e with
 | normal => exact fin hq
 | ret => exact fin hq
 | exit id => exact hq.elim
 | panic ch =>
  obtain ⟨e1, o', e2, e3⟩ := hq
  cases e2
  exact ⟨e1, e3⟩
 | goto l => exact hq.elim
 | outgrown => exact hq.elim
theorem noTurns {D : Ctx} {N : Nat} {ds : List Deferred} : TurnsOK D N ds noCuts := fun p j f h => by cases h
theorem body_ok (hE : EnvOK E P) (hK : KOK P G K) {f : Nat} {fi : FI} (hf : FIOK P f fi) {args : List AV} {bs : List Blk} {o : Out × List Blk} (h : body E K fi args bs .ok = .ok o) : SA P G f args bs o := by
 unfold body at h
 split at h
 ·cases h
 ·rename_i hn
  refine answers_of hf hn fun fn hrs D vals a hG hm hs hv hst => ?_
  exact ev_sound hE hK hG noTurns fi.code 1 _ _ _ D a hf.code (CS_of _ _ _ fun d r c' Q' _ j f hh => by cases hh) (finK_ok hE hm hrs) h hst (Ext.refl D)
structure Cut where
 path : List Bool
 tp : Option Tpl
def turn (np : Nat) (tp : Option Tpl) (st : St) : Option St := match tp with
 | none => some st
 | some t => norm np t st
def cutsOf (np : Nat) : List Cut → Nat → Cuts
 | [], _, _ => none
 | c :: r, i, p => match Nat.beq (num c.path 1) p with
  | true => some (i, turn np c.tp)
  | false => cutsOf np r (i + 1) p
def pieces (E : Env) (K : Callee) (fi : FI) (cs : List Cut) (np : Nat) (k : (Out × List Blk) → Rs R) (n : Nat) : Jump R :=
 Nat.rec (motive := fun _ => Jump R) noJump (fun _ J j st => match nth cs j with
  | some c => resume E K (cutsOf np cs 0) J c.path fi.code 1 st (finK E np fi.results k)
  | none => .err 17) n
def start (E : Env) (K : Callee) (fi : FI) (cs : List Cut) (J : Jump R) (args : List AV) (bs : List Blk) (k : (Out × List Blk) → Rs R) : Rs R :=
 match Nat.ble args.length fi.ntmps with
 | false => .err 16
 | true => ev E K (cutsOf bs.length cs 0) J fi.code 1 { tmps := argTmps 0 args, blks := withIds 0 bs, next := bs.length } (finK E bs.length fi.results k)
theorem nth_mem {α : Type} : ∀ {l : List α} {i : Nat} {a : α}, nth l i = some a → a ∈ l
 | [], _, _, h => by cases h
 | a :: l, 0, b, h => by simp only [nth, Option.some.injEq] at h; subst h; simp
 | a :: l, i + 1, b, h => by simp only [nth] at h; simp [nth_mem h]
def Joins (bs : List Blk) (cs : List Cut) : Prop := Gen0 bs ∨ ∀ c ∈ cs, c.tp = none
theorem cutsOf_get {np : Nat} : ∀ {cs : List Cut} {i p j : Nat} {f : St → Option St}, cutsOf np cs i p = some (j, f) → ∃ c, i ≤ j ∧ nth cs (j - i) = some c ∧ num c.path 1 = p ∧ f = turn np c.tp
 | [], _, _, _, _, h => by cases h
 | c :: r, i, p, j, f, h => by
  simp only [cutsOf] at h
  split at h
  ·rename_i e
   simp only [Option.some.injEq, Prod.mk.injEq] at h
   obtain ⟨rfl, rfl⟩ := h
   exact ⟨c, Nat.le_refl _, by simp [nth], beq_eq e, rfl⟩
  ·obtain ⟨c', h1, h2, h3, h4⟩ := cutsOf_get h
   refine ⟨c', by omega, ?_, h3, h4⟩
   rw [show j - i = (j - (i + 1)) + 1 by omega]
   exact h2
theorem turns_ok {D : Ctx} {bs : List Blk} (hm : D.m = getB (withIds 0 bs)) {cs : List Cut} (h0 : Joins bs cs) {N : Nat} {ds : List Deferred} : TurnsOK D N ds (cutsOf bs.length cs 0) := fun p j f h st st' C a hf hr hX => by
 obtain ⟨c, _, hc, _, rfl⟩ := cutsOf_get h
 unfold turn at hf
 split at hf
 ·simp only [Option.some.injEq] at hf
  subst hf
  exact ⟨C, rfl, hr, hX⟩
 ·rename_i t ht
  rcases h0 with h0 | h0
  ·exact norm_ok hm h0 hf hr hX
  ·rw [h0 c (nth_mem hc)] at ht; cases ht
theorem pieces_ok (hE : EnvOK E P) (hK : KOK P G K) {fi : FI} (hcode : codeOk fi.ntmps fi.code = true) {cs : List Cut} {D : Ctx} {bs : List Blk} (hG : D.gl = G) (hm : D.m = getB (withIds 0 bs)) (h0 : Joins bs cs) {k : (Out × List Blk) → Rs R} {r : R} {Q : Post} (hQ : KS D fi.ntmps [] (finK E bs.length fi.results k) r Q) :
  ∀ n, CS P (XJ P D fi.ntmps [] (cutsOf bs.length cs 0) (pieces E K fi cs bs.length k n) r) fi.code 1 Q
 | 0 => CS_of _ _ _ fun d rr c' Q' _ j f _ st C a h => by cases h
 | n + 1 => CS_of _ _ _ fun d rr c' Q' hp j f hf st C a h hr hX => by
  obtain ⟨c, _, h1, h2, _⟩ := cutsOf_get hf
  have h : (match nth cs j with
   | some c => resume E K (cutsOf bs.length cs 0) (pieces E K fi cs bs.length k n) c.path fi.code 1 st (finK E bs.length fi.results k)
   | none => .err 17) = .ok r := h
  rw [Nat.sub_zero] at h1
  rw [h1] at h
  have hpath : c.path = d :: rr := num_inj _ _ _ (Nat.le_refl _) h2
  exact resume_sound hE hK hG (turns_ok hm h0) c.path fi.code 1 Q _ st C a c' Q' hcode (pieces_ok hE hK hcode hG hm h0 hQ n) hQ h hr hX (by rw [hpath]; exact hp)
theorem start_ok (hE : EnvOK E P) (hK : KOK P G K) {f : Nat} {fi : FI} (hf : FIOK P f fi) {cs : List Cut} {args : List AV} {bs : List Blk} (h0 : Joins bs cs) {n : Nat} {o : Out × List Blk} (h : start E K fi cs (pieces E K fi cs bs.length .ok n) args bs .ok = .ok o) : SA P G f args bs o := by
 unfold start at h
 split at h
 ·cases h
 ·rename_i hn
  refine answers_of hf hn fun fn hrs D vals a hG hm hs hv hst => ?_
  have hQ := finK_ok (P := P) (R := Out × List Blk) hE hm hrs (k := .ok) (r := o) (N := fi.ntmps)
  exact ev_sound hE hK hG (turns_ok hm h0) fi.code 1 _ _ _ D a hf.code (pieces_ok hE hK hf.code hG hm h0 hQ n) hQ h hst (Ext.refl D)
end Go.Sx
namespace Go.Sx
open Go
variable {G : Nat → Obj → Prop} {P : Program} {C : Ctx}
abbrev Sig := List (Bool × Ty)
def Dens : Sig → Type
 | [] => Unit
 | (_, t) :: r => t.den × Dens r
def canA (b : Bool) (t : Ty) (x : t.den) : AV := match b with
 | true => .agg (flat t x)
 | false => match flat t x with
  | [a] => a
  | _ => .undef
def canL : (ts : Sig) → Dens ts → List AV
 | [], _ => []
 | (b, t) :: r, x => canA b t x.1 :: canL r x.2
def takeA (get : Get) (b : Bool) (t : Ty) (a : AV) : Option (t.den × List Nat) :=
 match b with
 | true => (match a with
  | .agg cs => (match unflat get t cs with | some (x, [], m) => some (x, m) | _ => none)
  | _ => none)
 | false => (match a with
  | .agg _ => none
  | .tup _ => none
  | a => (match unflat get t [a] with | some (x, [], m) => some (x, m) | _ => none))
def takeL (get : Get) : (ts : Sig) → List AV → Option (Dens ts × List Nat)
 | [], [] => some ((), [])
 | [], _ :: _ => none
 | _ :: _, [] => none
 | (b, t) :: r, a :: as => match takeA get b t a with
  | some (x, m) => (match takeL get r as with
   | some (y, m') => some ((x, y), m ++ m')
   | none => none)
  | none => none
def dat : AV → Bool
 | .undef | .bool _ | .int _ _ | .flt _ _ | .str _ | .nilp | .sl _ _ | .pd _ _ _ => true
 | _ => false
theorem dat_spec {a : AV} (h : dat a = true) : refA a = [] ∧ plainA a = true ∧ ∀ m, renA m a = a := by
 cases a <;> first | (cases h; done) | exact ⟨rfl, rfl, fun _ => rfl⟩
theorem dats_spec : ∀ {as : List AV}, as.all dat = true → refsC as = [] ∧ as.all plainA = true ∧ ∀ m, as.map (renA m) = as
 | [], _ => ⟨rfl, rfl, fun _ => rfl⟩
 | a :: as, h => by
  simp only [List.all_cons, Bool.and_eq_true] at h
  obtain ⟨h1, h2, h3⟩ := dat_spec h.1
  obtain ⟨h4, h5, h6⟩ := dats_spec h.2
  refine ⟨?_, by simp [h2, h5], fun m => by simp [h3 m, h6 m]⟩
  simp only [refsC, List.flatMap_cons, h1, List.nil_append]
  exact h4
theorem flat_dat : ∀ (t : Ty) (x : t.den), (flat t x).all dat = true
 | .unit, _ => rfl
 | .bool, _ => rfl
 | .int _, _ => rfl
 | .flt _, _ => rfl
 | .str, _ => rfl
 | .pair a b, x => by simp [flat, List.all_append, flat_dat a, flat_dat b]
 | .slice _, _ => rfl
 | .ptr _, none => rfl
 | .ptr _, some _ => rfl
theorem canA_leaf {t : Ty} {x : t.den} : (∃ a, flat t x = [a] ∧ canA false t x = a ∧ dat a = true) ∨ canA false t x = .undef := by
 unfold canA
 have := flat_dat t x
 split
 ·rename_i e; cases e
 ·split
  ·rename_i a e; rw [e] at this; exact .inl ⟨a, e, rfl, by simpa using this⟩
  ·exact .inr rfl
theorem canA_spec {b : Bool} {t : Ty} {x : t.den} : refV (canA b t x) = [] ∧ refsC (canA b t x).cells = [] ∧ plainV (canA b t x) = true ∧ (canA b t x).cells.all plainA = true ∧ (∀ m, renV m (canA b t x) = canA b t x) ∧ ∀ m, renC m (canA b t x) = canA b t x := by
 cases b with
 | true =>
  obtain ⟨h1, h2, h3⟩ := dats_spec (flat_dat t x)
  exact ⟨h1, h1, h2, h2, fun m => by simp [canA, renV, renC, h3 m], fun m => by simp [canA, renC, h3 m]⟩
 | false =>
  rcases canA_leaf (t := t) (x := x) with ⟨a, _, e, h⟩ | e
  ·rw [e]
   cases a <;> first | (cases h; done) | exact ⟨rfl, rfl, rfl, rfl, fun _ => rfl, fun _ => rfl⟩
  ·rw [e]; exact ⟨rfl, rfl, rfl, rfl, fun _ => rfl, fun _ => rfl⟩
theorem canL_spec : ∀ {ts : Sig} {x : Dens ts}, (canL ts x).flatMap refV = [] ∧ (canL ts x).flatMap (fun v => refsC v.cells) = [] ∧ (canL ts x).all plainV = true ∧ ((canL ts x).all fun v => v.cells.all plainA) = true ∧ (∀ m, (canL ts x).map (renV m) = canL ts x) ∧ ∀ m, (canL ts x).map (renC m) = canL ts x
 | [], _ => ⟨rfl, rfl, rfl, rfl, fun _ => rfl, fun _ => rfl⟩
 | (b, t) :: r, x => by
  obtain ⟨h1, h2, h3, h4, h5, h6⟩ := canA_spec (b := b) (t := t) (x := x.1)
  obtain ⟨k1, k2, k3, k4, k5, k6⟩ := canL_spec (ts := r) (x := x.2)
  refine ⟨?_, ?_, ?_, ?_, fun m => ?_, fun m => ?_⟩
  ·simp only [canL, List.flatMap_cons, h1, k1, List.append_nil]
  ·simp only [canL, List.flatMap_cons, h2, k2, List.append_nil]
  ·simp only [canL, List.all_cons, h3, k3, Bool.and_self]
  ·simp only [canL, List.all_cons, h4, k4, Bool.and_self]
  ·simp only [canL, List.map_cons, h5, k5]
  ·simp only [canL, List.map_cons, h6, k6]
theorem takeA_rel (hs : SRel C) {b : Bool} {t : Ty} {a : AV} {x : t.den} {m : List Nat} (h : takeA C.m b t a = some (x, m)) {v : Value} (hv : VRel C a v) {C' : Ctx} (hw : C'.w = C.w) (hT : ∀ k o, C'.T k o → C.T k o) (hsh : Shut C m C'.T) : VRel C' (canA b t x) v := by
 unfold takeA at h
 split at h
 ·split at h
  ·rename_i cs
   split at h
   ·rename_i x' m' hu
    simp only [Option.some.injEq, Prod.mk.injEq] at h
    obtain ⟨rfl, rfl⟩ := h
    obtain ⟨vs, rfl, hl⟩ := hv
    obtain ⟨v1, v2, e1, e2, _, _, hR⟩ := unflat_rel hs hu hl
    simp only [VRelL] at e2
    subst e2
    rw [List.append_nil] at e1
    have := hR C'.T hT hsh
    rw [← hw] at this
    exact ⟨vs, rfl, by rw [e1]; exact flat_rel this⟩
   ·cases h
  ·cases h
 ·have key : (match unflat C.m t [a] with | some (x, [], m) => some (x, m) | _ => none) = some (x, m) → VRel C' (canA false t x) v := fun h => by
   split at h
   ·rename_i x' m' hu
    simp only [Option.some.injEq, Prod.mk.injEq] at h
    obtain ⟨hx, hm'⟩ := h
    subst hx hm'
    obtain ⟨v1, v2, e1, e2, e3, e4, hR⟩ := unflat_rel hs hu (vs := [v]) ⟨v, [], rfl, hv, rfl⟩
    simp only [VRelL] at e2
    subst e2
    rw [List.append_nil] at e1
    subst e1
    have := hR C'.T hT hsh
    rw [← hw] at this
    have hf := flat_rel this
    have hlen := flat_len t x'
    simp only [List.length_singleton, List.length_nil] at e4
    obtain ⟨y, hy⟩ := List.length_eq_one_iff.1 (by rw [hlen]; omega : (flat t x').length = 1)
    rw [hy] at hf
    obtain ⟨w, r, e5, h1, h2⟩ := hf
    simp only [List.cons.injEq] at e5
    obtain ⟨rfl, rfl⟩ := e5
    simp only [canA, hy]
    exact h1
   ·cases h
  split at h
  ·cases h
  ·cases h
  ·exact key h
theorem takeL_rel (hs : SRel C) : ∀ {ts : Sig} {as : List AV} {x : Dens ts} {m : List Nat}, takeL C.m ts as = some (x, m) → ∀ {vs : List Value}, VRelL C as vs → ∀ {C' : Ctx}, C'.w = C.w → (∀ k o, C'.T k o → C.T k o) → Shut C m C'.T → VRelL C' (canL ts x) vs
 | [], [], x, m, h, vs, hv, C', hw, hT, hsh => hv
 | [], _ :: _, x, m, h, vs, hv, C', hw, hT, hsh => by simp [takeL] at h
 | _ :: _, [], x, m, h, vs, hv, C', hw, hT, hsh => by simp [takeL] at h
 | (b, t) :: r, a :: as, x, m, h, vs, hv, C', hw, hT, hsh => by
  simp only [takeL] at h
  split at h
  ·rename_i x1 m1 h1
   split at h
   ·rename_i y m2 h2
    simp only [Option.some.injEq, Prod.mk.injEq] at h
    obtain ⟨rfl, rfl⟩ := h
    obtain ⟨v, r', rfl, hv1, hv2⟩ := hv
    exact ⟨v, r', rfl, takeA_rel hs h1 hv1 hw hT hsh.left, takeL_rel hs h2 hv2 hw hT hsh.right⟩
   ·cases h
  ·cases h
def retC (rs : Sig) (y : Dens rs) : AV := match canL rs y with
 | [v] => v
 | vs => .tup vs
def takeR (get : Get) (rs : Sig) (v : AV) : Option (Dens rs × List Nat) := match rs with
 | [(b, t)] => (match takeA get b t v with
  | some (x, m) => some ((x, ()), m)
  | none => none)
 | rs => match v with
  | .tup vs => takeL get rs vs
  | _ => none
theorem retC_spec {rs : Sig} {y : Dens rs} : refV (retC rs y) = [] ∧ plainV (retC rs y) = true ∧ ∀ m, renV m (retC rs y) = retC rs y := by
 obtain ⟨h1, h2, h3, h4, h5, h6⟩ := canL_spec (ts := rs) (x := y)
 unfold retC
 split
 ·rename_i v e
  rw [e] at h1 h3 h5
  exact ⟨by simpa using h1, by simpa using h3, fun m => by simpa using h5 m⟩
 ·exact ⟨h2, h4, fun m => by simp only [renV, h6 m]⟩
theorem takeR_rel (hs : SRel C) {rs : Sig} {v : AV} {y : Dens rs} {m : List Nat} (h : takeR C.m rs v = some (y, m)) {u : Value} (hv : VRel C v u) {C' : Ctx} (hw : C'.w = C.w) (hT : ∀ k o, C'.T k o → C.T k o) (hsh : Shut C m C'.T) : VRel C' (retC rs y) u := by
 unfold takeR at h
 split at h
 ·split at h
  ·rename_i x m' h1
   simp only [Option.some.injEq, Prod.mk.injEq] at h
   obtain ⟨rfl, rfl⟩ := h
   exact takeA_rel hs h1 hv hw hT hsh
  ·cases h
 ·rename_i hne
  split at h
  ·obtain ⟨us, rfl, hl⟩ := hv
   have := takeL_rel hs h hl hw hT hsh
   unfold retC
   split
   ·rename_i w e
    exfalso
    match rs, y, hne, e with
    | [], _, _, e => simp [canL] at e
    | [(b, t)], _, hne, _ => exact hne b t rfl
    | _ :: _ :: _, _, _, e => simp [canL] at e
   ·exact ⟨us, rfl, this⟩
  ·cases h
theorem Answers.mono {f : Nat} {vals : Array Value} {w : World} {R R' : Ending → World → Prop} (hA : Answers P f vals w R) (hi : ∀ e w', R e w' → R' e w') : Answers P f vals w R' := by
 rcases hA with ⟨h1, h2⟩ | ⟨v, w', h1, h2⟩ | ⟨v, w', h1, h2⟩
 ·exact .inl ⟨h1, Calls.mono h2 hi⟩
 ·exact .inr (.inl ⟨v, w', h1, hi _ _ h2⟩)
 ·exact .inr (.inr ⟨v, w', h1, hi _ _ h2⟩)
def SAD (P : Program) (G : Nat → Obj → Prop) (f : Nat) (ts rs : Sig) (x : Dens ts) (y : Dens rs) : Prop := SA P G f (canL ts x) [] (.ret (retC rs y), [])
theorem SA.data {f : Nat} {args : List AV} {rs : Sig} {v : AV} {bs : List Blk} (h : SA P G f args [] (.ret v, bs)) {y : Dens rs} {m : List Nat} (ht : takeR (getB (withIds 0 bs)) rs v = some (y, m)) : SA P G f args [] (.ret (retC rs y), []) := fun D vals hG hm hs hv => by
 refine (h D vals hG hm hs hv).mono fun e w' hR => ?_
 cases e with
 | returned u =>
  obtain ⟨v', D', e1, e2, e3, e4, e5, e6, e7, e8⟩ := hR
  simp only [Out.ret.injEq] at e1
  subst e1
  obtain ⟨C1, s1, s2, s3, s4, s5, s6, s7, s8⟩ := share_ok e4 m
  rw [← e3] at ht
  have hv := takeR_rel e4 ht e6 s4 s8 s7
  obtain ⟨s9, eE, hren, _⟩ := collect_ok (bs := []) (more := []) (ids := []) (l := []) hm (e5.trans s2) s1 rfl rfl rfl
  obtain ⟨r1, r2, r3⟩ := retC_spec (rs := rs) (y := y)
  have := hren.relV (a := retC rs y) (fun b hb => by rw [r1] at hb; cases hb) r2 hv
  rw [r3] at this
  exact ⟨_, Sub C1 [] C1.fr ([].map (renB (posOf []))), rfl, s4.trans e2, rfl, s9, eE, this, r2, rfl⟩
 | panicked ch => obtain ⟨v', e1, _⟩ := hR; cases e1
 | outgrown => exact hR
end Go.Sx
namespace Go.Sx
open Go
variable {G : Nat → Obj → Prop} {P : Program} {C : Ctx}
def shareL (m : List Nat) : Nat → List Blk → List Blk
 | _, [] => []
 | i, b :: r => (match b with
  | .list e t g sh L => .list e t g (match m.any (Nat.beq i) with | true => true | false => sh) L
  | .cells ty cs => .cells ty cs) :: shareL m (i + 1) r
def shareB (m : List Nat) (i : Nat) : Option Blk → Option Blk
 | some (.list e t g sh L) => some (.list e t g (match m.any (Nat.beq i) with | true => true | false => sh) L)
 | b => b
theorem shareL_get {m : List Nat} : ∀ (bs : List Blk) (i j : Nat), getB (withIds i (shareL m i bs)) j = shareB m j (getB (withIds i bs) j)
 | [], i, j => rfl
 | b :: bs, i, j => by
  simp only [shareL, withIds, getB]
  split
  ·rename_i e
   rw [← beq_eq e]
   cases b <;> rfl
  ·exact shareL_get bs (i + 1) j
theorem shareWr_get (get : Get) (j : Nat) : ∀ (ms : List Nat) (m0 : Get), (m0 j = get j ∨ ∃ e t g sh L, get j = some (.list e t g sh L) ∧ m0 j = some (.list e t g true L)) →
  applyM m0 (shareWr get ms) j = if j ∈ ms then (match get j with | some (.list e t g _ L) => some (.list e t g true L) | _ => m0 j) else m0 j
 | [], m0, h => by simp [shareWr, applyM]
 | b :: ms, m0, h => by
  have hcons : shareWr get (b :: ms) = (match get b with | some (.list ee t g _ L) => [(b, Blk.list ee t g true L)] | _ => []) ++ shareWr get ms := by
   simp only [shareWr, List.filterMap_cons]
   cases hb : get b with
   | none => rfl
   | some x => cases x <;> rfl
  rw [hcons, applyM_append]
  by_cases hj : b = j
  ·subst hj
   cases hg : get b with
   | none =>
    simp only [applyM]
    rw [shareWr_get get b ms m0 h, hg]
    simp
   | some x =>
    cases x with
    | cells ty cs =>
     simp only [applyM]
     rw [shareWr_get get b ms m0 h, hg]
     simp
    | list e t g sh L =>
     simp only [applyM]
     rw [shareWr_get get b ms _ (.inr ⟨e, t, g, sh, L, hg, by simp [updM]⟩), hg]
     simp [updM]
  ·have h1 : ∀ x, updM m0 b x j = m0 j := fun x => by simp [updM, Ne.symm hj]
   have hmem : (j ∈ b :: ms) = (j ∈ ms) := by simp [Ne.symm hj]
   simp only [hmem]
   cases hg : get b with
   | none => exact shareWr_get get j ms m0 h
   | some x =>
    cases x with
    | cells ty cs => exact shareWr_get get j ms m0 h
    | list e t g sh L =>
     simp only [applyM]
     rw [shareWr_get get j ms _ (by rw [h1]; exact h), h1]
theorem share_eq {get : Get} {bs : List Blk} (hm : get = getB (withIds 0 bs)) (m : List Nat) : applyM get (shareWr get m) = getB (withIds 0 (shareL m 0 bs)) := by
 funext j
 rw [shareWr_get get j m get (.inl rfl), shareL_get, ← hm]
 cases hg : get j with
 | none => simp [shareB]
 | some x =>
  cases x with
  | cells ty cs => simp [shareB]
  | list e t g sh L =>
   by_cases hj : j ∈ m
   ·rw [if_pos hj]
    simp only [shareB, any_beq.2 hj]
   ·rw [if_neg hj]
    have : m.any (Nat.beq j) = false := by
     cases h : m.any (Nat.beq j) with
     | true => exact (hj (any_beq.1 h)).elim
     | false => rfl
    simp only [shareB, this]
theorem shareL_ok {m : List Nat} : ∀ {bs : List Blk} {i : Nat}, bs.all okBlk = true → (shareL m i bs).all okBlk = true
 | [], _, _ => rfl
 | b :: bs, i, h => by
  simp only [List.all_cons, Bool.and_eq_true] at h
  simp only [shareL, List.all_cons, Bool.and_eq_true]
  exact ⟨by cases b <;> first | exact h.1 | rfl, shareL_ok h.2⟩
def IntrOne (P : Program) (G : Nat → Obj → Prop) (f : Nat) (g : Intr) : Prop :=
 ∀ (R : Type) args bs k (r : R), g R args bs k = .ok r → ∃ o, k o = .ok r ∧ SA P G f args bs o
def shareIf (m : List Nat) (bs : List Blk) : List Blk := match m with
 | [] => bs
 | m => shareL m 0 bs
def specI (f : Nat) (ts rs : Sig) (p : Dens ts → Bool) (out : Dens ts → Dens rs) : Intr := fun R args bs k =>
 match bs.all okBlk with
 | false => .err (1000000 + f)
 | true => match takeL (getB (withIds 0 bs)) ts args with
  | none => .err (2000000 + f)
  | some (x, m) => match p x with
   | false => .err (3000000 + f)
   | true => k (.ret (retC rs (out x)), shareIf m bs)
theorem specI_ok {f : Nat} {ts rs : Sig} {p : Dens ts → Bool} {out : Dens ts → Dens rs} (h : ∀ x, p x = true → SAD P G f ts rs x (out x)) : IntrOne P G f (specI f ts rs p out) := fun R args bs k r hr => by
 unfold specI at hr
 split at hr
 ·cases hr
 rename_i hokb
 split at hr
 ·cases hr
 rename_i x m ht
 split at hr
 ·cases hr
 rename_i hp
 have hnil : shareL [] 0 bs = bs := by
  generalize 0 = i
  clear hr ht hokb
  induction bs generalizing i with
  | nil => rfl
  | cons b bs ih => simp only [shareL, ih]; cases b <;> rfl
 have hsh : shareIf m bs = shareL m 0 bs := by
  cases m with
  | nil => exact hnil.symm
  | cons a m => rfl
 rw [hsh] at hr
 refine ⟨_, hr, fun D vals hG hm hs hv => ?_⟩
 rw [← hm] at ht
 obtain ⟨C1, s1, s2, s3, s4, s5, s6, s7, s8⟩ := share_ok hs m
 have hv1 := takeL_rel hs ht hv s4 s8 s7
 rw [share_eq hm m] at s3
 obtain ⟨c1, c2, c3, c4, c5, c6⟩ := canL_spec (ts := ts) (x := x)
 obtain ⟨r1, r2, r3⟩ := retC_spec (rs := rs) (y := out x)
 have hlen : (shareL m 0 bs).length = bs.length := by
  generalize 0 = i
  clear hr ht hokb hm hsh hnil s3
  induction bs generalizing i with
  | nil => rfl
  | cons b bs ih => simp only [shareL, List.length_cons, ih]
 have hA := doCall_good (G := G) (P := P) (s2.glEq.trans hG) s1 (f := f) hv1 (base := bs.length) (fun j hj _ => by
   rw [s3, withIds_get]
   simp only [Nat.zero_le, if_true, Nat.sub_zero]
   exact List.getElem?_eq_none (by rw [hlen]; exact hj)) (out := .ret (retC rs (out x))) (wr := []) (rd := [])
  ⟨[], by rw [c1]; rfl, rfl, by rw [c3]; rfl, .inl ⟨retC rs (out x), [], by rw [c5]; exact h x hp, rfl, by rw [r3], rfl⟩⟩
 rw [s4] at hA
 refine hA.mono fun e w' hR => ?_
 cases e with
 | returned u =>
  obtain ⟨v, C2, e1, e2, e3, e4, e5, e6⟩ := hR
  simp only [Out.ret.injEq] at e1
  subst e1
  exact ⟨_, C2, rfl, e2, by rw [e3]; exact s3, e4, s2.trans e5, e6, r2, shareL_ok hokb⟩
 | panicked ch => obtain ⟨v, e1, _⟩ := hR; cases e1
 | outgrown => exact hR
end Go.Sx
namespace Go.Sx
open Go
variable {G : Nat → Obj → Prop} {P : Program} {E : Env}
def runD (E : Env) (lib : List (Option Intr)) (cl : List (List Cut)) (N : Nat) (n : Nat) : Callee :=
 Nat.rec (motive := fun _ => Callee) (fun _ f _ _ _ => .err (5000000 + f)) (fun _ ih R f args bs k =>
  match nth lib f with
  | some (some g) => g R args bs k
  | _ => match nth E.fi f, nth cl f with
   | some (some fi), some cs => (match cs.all fun c => c.tp.isNone with
    | true => (match start E ih fi cs (pieces E ih fi cs bs.length .ok N) args bs .ok with
     | .ok o => k o
     | .err e => .err e)
    | false => .err 18)
   | _, _ => .err (4000000 + f)) n
theorem runD_ok (hE : EnvOK E P) {lib : List (Option Intr)} (hI : ∀ f g, nth lib f = some (some g) → IntrOne P G f g) (hF : ∀ f fi, nth E.fi f = some (some fi) → FIOK P f fi) {cl : List (List Cut)} {N : Nat} : ∀ n, KOK P G (runD E lib cl N n)
 | 0 => fun R f args bs k r h => by cases h
 | n + 1 => fun R f args bs k r h => by
  have h : (match nth lib f with
   | some (some g) => g R args bs k
   | _ => match nth E.fi f, nth cl f with
    | some (some fi), some cs => (match cs.all fun c => c.tp.isNone with
     | true => (match start E (runD E lib cl N n) fi cs (pieces E (runD E lib cl N n) fi cs bs.length .ok N) args bs .ok with
      | .ok o => k o
      | .err e => .err e)
     | false => .err 18)
    | _, _ => .err (4000000 + f)) = .ok r := h
  split at h
  ·rename_i g hg
   exact hI f g hg R args bs k r h
  ·split at h
   ·rename_i fi cs hfi hcs
    split at h
    ·rename_i hall
     split at h
     ·rename_i o ho
      exact ⟨o, h, start_ok hE (runD_ok hE hI hF n) (hF f fi hfi) (.inr fun c hc => by
       have := List.all_eq_true.1 hall c hc
       simpa using this) ho⟩
     ·cases h
    ·cases h
   ·cases h
def GW (w0 : World) : Nat → Obj → Prop := fun k o => w0.heap[k]? = some o
def Ctx0 (w : World) : Ctx := ⟨w, getB (withIds 0 []), fun _ => .cells 0, fun _ _ => False, GW w⟩
theorem ctx0_ok (w : World) : SRel (Ctx0 w) where
 ok := fun id b h => by simp [Ctx0, withIds, getB] at h
 apart := fun id b id' b' k h => by simp [Ctx0, withIds, getB] at h
 frApart := fun k o h => h.elim
 frOld := fun k o h => h.elim
 gl := fun k o h => ⟨h, fun ⟨id, b, h1, _⟩ => by simp [Ctx0, withIds, getB] at h1, fun x hx => hx⟩
theorem fi_enter {f : Nat} {fi : FI} (hf : FIOK P f fi) (vals : Array Value) (w : World) : (callFunc f vals).run P w = .ok (.enter f vals) w := by
 obtain ⟨fn, h1, h2, h3, h4, h5⟩ := hf.fn
 have h5' : ¬ fn.name = "runtime.NumGoroutine" := by simpa using h5
 simp [callFunc, h1, h2, h5']
end Go.Sx
