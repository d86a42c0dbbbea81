/- A part of the proof: see the row's text. -/
import Derived.Test.YtaklpoiaicepoaaGreatDoorZa06
import Derived.Scope
set_option linter.unusedVariables false
set_option linter.unusedSimpArgs false
noncomputable section
namespace Go.Sx
open Go
variable {G : Nat → Obj → Prop} {P : Program} {E : Env} {K : Callee} {R : Type}
structure StR (C : Ctx) (a : Act) (st : St) (N : Nat) (ds : List Deferred) : Prop where
 r : SR C a (look st.tmps) (getB st.blks)
 free : ∀ k, st.next ≤ k → getB st.blks k = none
 size : a.tmps.size = N
 defers : a.defers = ds
def dstOk (n : Nat) (ops : List Oper) : Bool := ops.all fun o => match o.dst with | some d => Nat.blt d n | none => true
def codeOk (n : Nat) : Code → Bool
 | .region _ ops true => dstOk n ops.toList && slotsOk ops.toList (befs ops.toList [])
 | .region _ ops false => dstOk n ops.toList
 | .seq a b => codeOk n a && codeOk n b
 | .cond _ a b => codeOk n a && codeOk n b
 | .block _ c => codeOk n c
 | .loop c => codeOk n c
 | .scope c => codeOk n c
 | _ => true
theorem dstOk_spec {n : Nat} {ops : List Oper} (h : dstOk n ops = true) : ∀ o ∈ ops, ∀ t, o.dst = some t → t < n := fun o ho t ht => by
 have := List.all_eq_true.1 h o ho
 simp only [ht] at this
 exact Nat.le_of_ble_eq_true this
theorem below_free {m : Get} {wr : Wr} {n : Nat} (h : below wr n = true) (hm : ∀ k, n ≤ k → m k = none) : ∀ k, n ≤ k → applyM m wr k = none := fun k hk => by
 rw [applyM_none, hm k hk]
 intro p hp
 have := Nat.le_of_ble_eq_true (List.all_eq_true.1 h p hp)
 intro e
 have : p.1 + 1 ≤ n := this
 omega
theorem evOps_wp (hE : EnvOK E P) (hK : KOK P G K) {rid : Nat} {ops : Array Oper} {kn : St → Rs R} {kp : AV → Rs R} {r : R} {Q : Exit → Act → World → Prop} {C0 : Ctx} (hG : C0.gl = G) {N : Nat} {ds : List Deferred} (hdst : ∀ o ∈ ops.toList, ∀ t, o.dst = some t → t < N)
  (hn : ∀ st' C' a', kn st' = .ok r → StR C' a' st' N ds → Ext C0 C' → Q .normal a' C'.w)
  (hp : ∀ v a' w' ch, kp v = .ok r → PanicAt C0 v w' ch → a'.defers = ds → Q (.panic ch) a' w') :
  ∀ (os : List Oper) (i : Nat) (st : St) (C : Ctx) (a : Act), ops.toList.drop i = os → evOps E K rid ops.toList os i st kn kp = .ok r → SR C a (look st.tmps) (getB st.blks) → (∀ k, st.next + 16 * i ≤ k → getB st.blks k = none) →
   a.tmps.size = N → a.defers = ds → Ext C0 C → wpOps P ops Q (List.range' i os.length) a C.w
 | [], i, st, C, a, _, h, hr, hf, hsz, hds, hX => by
  simp only [evOps] at h
  simp only [List.length_nil, List.range'_zero, wpOps]
  exact hn { st with next := st.next + 16 * i } C a h ⟨hr, hf, hsz, hds⟩ hX
 | o :: os, i, st, C, a, ho, h, hr, hf, hsz, hds, hX => by
  have hoi : ops[i]? = some o := by
   have : (ops.toList.drop i)[0]? = some o := by rw [ho]; rfl
   simpa using this
  have hrest : ops.toList.drop (i + 1) = os := by
   have : (ops.toList.drop i).drop 1 = os := by rw [ho]; rfl
   rwa [List.drop_drop] at this
  have hom : o ∈ ops.toList := by
   have : o ∈ ops.toList.drop i := by rw [ho]; simp
   exact List.mem_of_mem_drop this
  have hd : ∀ t, o.dst = some t → t < a.tmps.size := fun t ht => by rw [hsz]; exact hdst o hom t ht
  simp only [evOps] at h
  obtain ⟨st1, h1, h2, h3, h4⟩ := guard_cases (o := o) (all := ops.toList) (pos := 5)
   (go := fun st => execO E K (look st.tmps) (getB st.blks) (st.next + 16 * i) o (rid * 100 + i)
    (fun v wr _ => evOps E K rid ops.toList os (i + 1) { tmps := putT st.tmps o.dst v, blks := applyWr st.blks wr, next := st.next } kn kp) kp)
   (skip := fun st => evOps E K rid ops.toList os (i + 1) { st with tmps := putT st.tmps o.dst (.tup []) } kn kp) h
  have hm := hr.m
  rw [List.length_cons, List.range'_succ]
  simp only [wpOps, hoi]
  rcases h4 with ⟨hw, h4⟩ | ⟨hw, h4⟩
  ·rw [if_pos (wants_rel hr.t hw)]
   refine .inl ?_
   unfold Oper.wp
   rw [h1, h2, h3, ← hm] at h4
   have hid : ∀ j, st.next + 16 * i ≤ j → j < st.next + 16 * i + 16 → C.m j = none := fun j hj _ => by rw [hm]; exact hf j hj
   rcases execO_good hE hK (hX.glEq.trans hG) hr.s hr.t hid h4 with ⟨v, wr, rd, hk, hb, hx⟩ | ⟨v, hk, hx⟩
   ·refine (hx.does hE (hX.glEq.trans hG) hr.s hr.t hid) a _ Q fun u C' e1 e2 e3 e4 => ?_
    refine evOps_wp hE hK hG hdst hn hp os (i + 1) _ C' _ hrest hk ⟨?_, e2, ?_⟩ (fun k hk => ?_) ((put_size _ _ _).trans hsz) ((put_defers' _ _ _).trans hds) (hX.trans e3)
    ·rw [e1, getB_apply, hm]
    ·rw [look_put, h1]; exact (hr.t.mono e3).put hd e4
    ·simp only [getB_apply]
     have hk' : st.next + 16 * i + 16 ≤ k := by simp only [h3] at hk; omega
     exact below_free hb (fun k hk => hf k (by omega)) k hk'
   ·exact hx a _ Q fun w' ch hpa => hp v a w' ch hk (hpa.after hX) hds
  ·rw [if_neg (by rw [wants_rel hr.t hw]; simp)]
   refine evOps_wp hE hK hG hdst hn hp os (i + 1) _ C _ hrest h4 ⟨?_, hr.s, ?_⟩ (fun k hk => ?_) ((put_size _ _ _).trans hsz) ((put_defers' _ _ _).trans hds) hX
   ·rw [hm]; simp only [h2]
   ·rw [look_put, h1]; exact hr.t.put hd undef_rel
   ·simp only [h2]; exact hf k (by simp only [h3] at hk; omega)
def Ctx.draws (C : Ctx) : Ctx := { C with w := { C.w with drawn := C.w.drawn + 1 } }
theorem Ctx.draws_ext (C : Ctx) : Ext C C.draws where
 cells := fun _ _ cs h => ⟨rfl, cs, h⟩
 lists := fun _ _ _ g sh L h => ⟨g, sh, L, h, Nat.le_refl _, fun _ => ⟨rfl, rfl⟩⟩
 keep := fun _ _ _ h k => ⟨h, k⟩
 frEq := rfl
 glEq := rfl
 frKeep := fun _ _ _ h _ => h
 size := Nat.le_refl _
 old := fun _ _ _ => rfl
 held := fun _ h => .inl h
 own := fun _ _ h => .inl h
 os := rfl
 tape := rfl
 output := rfl
theorem Ctx.draws_ok {C : Ctx} (h : SRel C) : SRel C.draws where
 ok := fun id b hm => (h.ok id b hm).mono C.draws_ext fun _ _ => rfl
 apart := h.apart
 frApart := h.frApart
 frOld := h.frOld
 gl := h.gl
abbrev Post := Exit → Act → World → Prop
structure KS (D : Ctx) (N : Nat) (ds : List Deferred) (k : Ex → St → Rs R) (r : R) (Q : Post) : Prop where
 normal : ∀ st C a, k .normal st = .ok r → StR C a st N ds → Ext D C → Q .normal a C.w
 exit : ∀ id st C a, k (.exit id) st = .ok r → StR C a st N ds → Ext D C → Q (.exit id) a C.w
 ret : ∀ st C a, k .ret st = .ok r → StR C a st N ds → Ext D C → Q .ret a C.w
 panic : ∀ v st a w ch, k (.panic v) st = .ok r → PanicAt D v w ch → a.defers = ds → Q (.panic ch) a w
def LoopWp (P : Program) (c : Code) (Q : Exit → Act → World → Prop) (a : Act) (w : World) : Prop :=
 ∀ (b : Frame) (k : List Item) (cs : List Frame), ∃ e a' w', Q e a' w' ∧ Arrives P (lone (b.at a (.code c :: .inLoop c :: k)) cs w) b k cs e a' w'
theorem LoopWp.wp {c : Code} {Q : Exit → Act → World → Prop} {a : Act} {w : World} (h : LoopWp P c Q a w) : (Code.loop c).wp P Q a w := fun b k cs =>
 let ⟨e, a', w', hq, harr⟩ := h b k cs; ⟨e, a', w', hq, .of_steps (.one step_loop) harr⟩
theorem LoopWp.round {c : Code} {Q : Exit → Act → World → Prop} {a : Act} {w : World} (h : c.wp P (Exit.then (LoopWp P c Q) Q) a w) : LoopWp P c Q a w := by
 intro b k cs
 obtain ⟨e, a₁, w₁, hq, harr⟩ := h b (.inLoop c :: k) cs
 cases e with
 | normal =>
  obtain ⟨e₂, a₂, w₂, hq₂, harr₂⟩ := hq b k cs
  exact ⟨e₂, a₂, w₂, hq₂, .of_steps (Steps.trans harr (.one step_inLoop)) harr₂⟩
 | exit id => exact ⟨_, a₁, w₁, hq, .pass (x := .inLoop c) rfl (fun _ _ => .inl (by simp)) harr⟩
 | goto l => exact ⟨_, a₁, w₁, hq, .pass (x := .inLoop c) rfl (fun _ _ => .inl (by simp)) harr⟩
 | ret => exact ⟨_, a₁, w₁, hq, .pass (x := .inLoop c) rfl (fun _ _ => .inl (by simp)) harr⟩
 | panic ch => exact ⟨_, a₁, w₁, hq, .pass (x := .inLoop c) rfl (fun _ _ => .inl (by simp)) harr⟩
 | outgrown => exact ⟨_, a₁, w₁, hq, .pass (x := .inLoop c) rfl (fun _ _ => .inl (by simp)) harr⟩
end Go.Sx
namespace Go.Sx
open Go
variable {G : Nat → Obj → Prop} {P : Program} {E : Env} {K : Callee} {R : Type}
def JS (P : Program) (D : Ctx) (N : Nat) (ds : List Deferred) (J : Jump R) (r : R) (j : Nat) (c : Code) (Q : Post) : Prop :=
 ∀ st C a, J j st = .ok r → StR C a st N ds → Ext D C → c.wp P Q a C.w
def CS (P : Program) (X : Nat → Code → Post → Prop) : Code → Nat → Post → Prop
 | .seq a b, p, Q => X (2 * p) a (Exit.then (b.wp P Q) Q) ∧ CS P X a (2 * p) (Exit.then (b.wp P Q) Q) ∧ X (2 * p + 1) b Q ∧ CS P X b (2 * p + 1) Q
 | .cond _ a b, p, Q => X (2 * p) a Q ∧ CS P X a (2 * p) Q ∧ X (2 * p + 1) b Q ∧ CS P X b (2 * p + 1) Q
 | .block id c, p, Q => X (2 * p) c (Exit.inBlock id Q) ∧ CS P X c (2 * p) (Exit.inBlock id Q)
 | .loop c, p, Q => X (2 * p) c (Exit.then (LoopWp P c Q) Q) ∧ CS P X c (2 * p) (Exit.then (LoopWp P c Q) Q)
 | .scope c, p, Q => X (2 * p) c (Exit.noGoto Q) ∧ CS P X c (2 * p) (Exit.noGoto Q)
 | _, _, _ => True
def TurnsOK (D : Ctx) (N : Nat) (ds : List Deferred) (cuts : Cuts) : Prop :=
 ∀ p j f, cuts p = some (j, f) → ∀ st st' C a, f st = some st' → StR C a st N ds → Ext D C → ∃ C', C'.w = C.w ∧ StR C' a st' N ds ∧ Ext D C'
section
variable {D : Ctx} {N : Nat} {ds : List Deferred} {cuts : Cuts} {J : Jump R} {r : R}
def XJ (P : Program) (D : Ctx) (N : Nat) (ds : List Deferred) (cuts : Cuts) (J : Jump R) (r : R) : Nat → Code → Post → Prop :=
 fun q c Q => ∀ j f, cuts q = some (j, f) → JS P D N ds J r j c Q
theorem jump_sound (hT : TurnsOK D N ds cuts) {q : Nat} {c : Code} {Q : Post} (hX : XJ P D N ds cuts J r q c Q) {cc : Nat × (St → Option St)} (hc : cuts q = some cc) {st : St} (h : jumpTo J cc st = .ok r)
  {C : Ctx} {a : Act} (hr : StR C a st N ds) (hE : Ext D C) : c.wp P Q a C.w := by
 obtain ⟨j, f⟩ := cc
 unfold jumpTo at h
 split at h
 ·rename_i st' hf
  obtain ⟨C', h1, h2, h3⟩ := hT q j f hc st st' C a hf hr hE
  rw [← h1]
  exact hX j f hc st' C' a h h2 h3
 ·cases h
theorem enter_sound (hT : TurnsOK D N ds cuts) {q : Nat} {c : Code} {Q : Post} (hX : XJ P D N ds cuts J r q c Q) {x : Ev R} {k : Ex → St → Rs R}
  (ih : ∀ st C a, x q st k = .ok r → StR C a st N ds → Ext D C → c.wp P Q a C.w) {st : St} (h : enter cuts J x q st k = .ok r)
  {C : Ctx} {a : Act} (hr : StR C a st N ds) (hE : Ext D C) : c.wp P Q a C.w := by
 unfold enter at h
 split at h
 ·rename_i cc hc; exact jump_sound hT hX hc h hr hE
 ·exact ih st C a h hr hE
theorem seqK_sound {b : Ev R} {p : Nat} {k : Ex → St → Rs R} {Q : Post} (hk : KS D N ds k r Q) {next : Act → World → Prop}
  (hb : ∀ st C a, b p st k = .ok r → StR C a st N ds → Ext D C → next a C.w) : KS D N ds (seqK b p k) r (Exit.then next Q) where
 normal := fun st C a h hr hE => hb st C a h hr hE
 exit := fun id st C a h hr hE => hk.exit id st C a h hr hE
 ret := fun st C a h hr hE => hk.ret st C a h hr hE
 panic := fun v st a w ch h hp hd => hk.panic v st a w ch h hp hd
theorem blockK_sound {id : Nat} {k : Ex → St → Rs R} {Q : Post} (hk : KS D N ds k r Q) : KS D N ds (blockK id k) r (Exit.inBlock id Q) where
 normal := fun st C a h hr hE => hk.normal st C a h hr hE
 exit := fun j st C a h hr hE => by
  simp only [blockK] at h
  simp only [Exit.inBlock]
  split at h
  ·rename_i e
   rw [if_pos (beq_eq e)]
   exact hk.normal st C a h hr hE
  ·rename_i e
   rw [if_neg (fun hh => by subst hh; simp at e)]
   exact hk.exit j st C a h hr hE
 ret := fun st C a h hr hE => hk.ret st C a h hr hE
 panic := fun v st a w ch h hp hd => hk.panic v st a w ch h hp hd
theorem noGoto_sound {k : Ex → St → Rs R} {Q : Post} (hk : KS D N ds k r Q) : KS D N ds k r (Exit.noGoto Q) where
 normal := fun st C a h hr hE => hk.normal st C a h hr hE
 exit := fun id st C a h hr hE => hk.exit id st C a h hr hE
 ret := fun st C a h hr hE => hk.ret st C a h hr hE
 panic := fun v st a w ch h hp hd => hk.panic v st a w ch h hp hd
theorem ev_sound (hE : EnvOK E P) (hK : KOK P G K) (hG : D.gl = G) (hT : TurnsOK D N ds cuts) : ∀ (c : Code) (p : Nat) (Q : Post) (k : Ex → St → Rs R) (st : St) (C : Ctx) (a : Act),
  codeOk N c = true → CS P (XJ P D N ds cuts J r) c p Q → KS D N ds k r Q → ev E K cuts J c p st k = .ok r → StR C a st N ds → Ext D C → c.wp P Q a C.w := by
 intro c
 induction c with
 | skip => intro p Q k st C a _ _ hk h hr hX; exact wp_skip (hk.normal st C a h hr hX)
 | ret => intro p Q k st C a _ _ hk h hr hX; exact wp_ret (hk.ret st C a h hr hX)
 | exit id => intro p Q k st C a _ _ hk h hr hX; exact wp_exit (hk.exit id st C a h hr hX)
 | label l => intro p Q k st C a _ _ hk h hr hX; exact wp_label (hk.normal st C a h hr hX)
 | scope c ih =>
  intro p Q k st C a hc hcs hk h hr hX
  obtain ⟨x1, x2⟩ := hcs
  have h : enter cuts J (ev E K cuts J c) (2 * p) st k = .ok r := h
  exact wp_scope_straight (enter_sound hT x1 (fun st C a h hr hX => ih (2 * p) _ _ st C a hc x2 (noGoto_sound hk) h hr hX) h hr hX)
 | seq x y ihx ihy =>
  intro p Q k st C a hc hcs hk h hr hX
  simp only [codeOk, Bool.and_eq_true] at hc
  obtain ⟨x1, x2, y1, y2⟩ := hcs
  have h : enter cuts J (ev E K cuts J x) (2 * p) st (seqK (enter cuts J (ev E K cuts J y)) (2 * p + 1) k) = .ok r := h
  refine wp_seq (enter_sound hT x1 (fun st C a h hr hX => ihx (2 * p) _ _ st C a hc.1 x2 ?_ h hr hX) h hr hX)
  exact seqK_sound hk fun st C a h hr hX => enter_sound hT y1 (fun st C a h hr hX => ihy (2 * p + 1) Q k st C a hc.2 y2 hk h hr hX) h hr hX
 | cond o x y ihx ihy =>
  intro p Q k st C a hc hcs hk h hr hX
  simp only [codeOk, Bool.and_eq_true] at hc
  obtain ⟨x1, x2, y1, y2⟩ := hcs
  have h : (match evalO (look st.tmps) o with
   | .bool t => (match t with
    | true => enter cuts J (ev E K cuts J x) (2 * p) st k
    | false => enter cuts J (ev E K cuts J y) (2 * p + 1) st k)
   | _ => .err (7000000 + p)) = .ok r := h
  have hv := hr.r.t o
  split at h
  ·rename_i t ht
   rw [ht] at hv
   cases t with
   | true => exact wp_cond_true hv (enter_sound hT x1 (fun st C a h hr hX => ihx (2 * p) Q k st C a hc.1 x2 hk h hr hX) h hr hX)
   | false => exact wp_cond_false hv (enter_sound hT y1 (fun st C a h hr hX => ihy (2 * p + 1) Q k st C a hc.2 y2 hk h hr hX) h hr hX)
  ·cases h
 | block id c ih =>
  intro p Q k st C a hc hcs hk h hr hX
  obtain ⟨x1, x2⟩ := hcs
  have h : enter cuts J (ev E K cuts J c) (2 * p) st (blockK id k) = .ok r := h
  exact wp_block (enter_sound hT x1 (fun st C a h hr hX => ih (2 * p) _ _ st C a hc x2 (blockK_sound hk) h hr hX) h hr hX)
 | loop c ih =>
  intro p Q k st C a hc hcs hk h hr hX
  obtain ⟨x1, _⟩ := hcs
  have h : (match cuts (2 * p) with
   | some c => jumpTo J c st
   | none => .err (8000000 + p)) = .ok r := h
  split at h
  ·rename_i cc hcc; exact (LoopWp.round (jump_sound hT x1 hcc h hr hX)).wp
  ·cases h
 | region id ops draw =>
  intro p Q k st C a hc _ hk h hr hX
  cases draw with
  | false =>
   have h : evOps E K id ops.toList ops.toList 0 st (fun st' => k .normal st') (fun v => k (.panic v) st) = .ok r := h
   refine wp_region ?_
   have := evOps_wp hE hK (Q := Q) (C0 := D) hG (dstOk_spec hc) (fun st' C' a' h1 h2 h3 => hk.normal st' C' a' h1 h2 h3) (fun v a' w' ch h1 h2 h3 => hk.panic v st a' w' ch h1 h2 h3)
    ops.toList 0 st C a rfl h hr.r (by simpa using hr.free) hr.size hr.defers hX
   rwa [List.range_eq_range', ← Array.length_toList]
  | true =>
   simp only [codeOk, Bool.and_eq_true] at hc
   have h : evOpsD E K id ops.toList (befs ops.toList []) ops.toList 0 st [] none (fun st' => k .normal st') (fun v => k (.panic v) st) = .ok r := h
   obtain ⟨rs, st', pm', hTr, h1, h2, h3, h4⟩ := evOpsD_ok hK hr.free h
   refine wp_region_any hE.mixed ?_
   have hd0 : ∀ i, (Array.replicate ops.size false).getD i false = false := fun i => by
    simp [Array.getD_eq_getD_getElem?, Array.getElem?_replicate]
    split <;> rfl
   have hsr := hr.r
   have hsr2 : SR C.draws a (lkF (fun i => (Array.replicate ops.size false).getD i false) rs 0 (look st.tmps)) (mF (fun i => (Array.replicate ops.size false).getD i false) rs 0 (getB st.blks)) := by
    have e : (fun i => (Array.replicate ops.size false).getD i false) = fun _ => false := funext hd0
    rw [e, lkF_none _ _ _ (by simp), mF_none _ _ _ (by simp)]
    exact ⟨hsr.m, Ctx.draws_ok hsr.s, hsr.t.mono C.draws_ext⟩
   cases pm' with
   | some q =>
     obtain ⟨p, v⟩ := q
     obtain ⟨h5, j, po, pr, hj, hpo, hpr, hw, hpan⟩ := h4
     have hj : p = j := by omega
     subst hj
     exact drawn_wpP hE hTr (slotsOk_spec hc.2) (C0 := D) hG (n := N) (ds := ds) (dstOk_spec hc.1) hpo hpr hw hpan (fun a' w' ch hpa hds => hk.panic v st a' w' ch h5 hpa hds)
      ops.size _ C.draws a (by simp) (fun i o _ hS => by simp only at hS; rw [hd0] at hS; cases hS) (fun j _ => hd0 j) (by omega) hsr2 (hX.trans C.draws_ext) hr.size hr.defers
   | none =>
     refine drawn_wp hE hTr (slotsOk_spec hc.2) (C0 := D) hG (n := N) (ds := ds) (dstOk_spec hc.1) (fun C' a' e1 e2 e3 e4 => hk.normal st' C' a' h4 ⟨by rw [h1, h2]; exact e1, fun kk hk => ?_, e3, e4⟩ e2)
      ops.size _ C.draws a (by simp) (fun i o _ hS => by simp only at hS; rw [hd0] at hS; cases hS) (by omega) ?_ (hX.trans C.draws_ext) hr.size hr.defers
     ·rw [h2]
      have hw := hTr.whose
      have : mF (fun _ => true) rs 0 (getB st.blks) kk = mF (fun _ => false) rs 0 (getB st.blks) kk := mF_agree rs 0 _ _ (fun i ri hi _ p hp hpk => by
       have hil : i < ops.toList.length := by rw [hTr.tr.len]; exact (List.getElem?_eq_some_iff.1 hi).1
       rcases hw i ri hi p hp with h0 | ⟨i0, _, h5, _, _, h6, h7⟩
       ·omega
       ·omega) rfl
      rw [this, mF_none _ _ _ (by simp)]
      exact hTr.free kk (by omega)
     ·have e : (fun i => (Array.replicate ops.size false).getD i false) = fun _ => false := funext hd0
      rw [e, lkF_none _ _ _ (by simp), mF_none _ _ _ (by simp)]
      exact ⟨hsr.m, Ctx.draws_ok hsr.s, hsr.t.mono C.draws_ext⟩
 | _ => intros; rename_i h _ _; cases h
def place (P : Program) : List Bool → Code → Post → Option (Code × Post)
 | [], c, Q => some (c, Q)
 | d :: r, c, Q => match c with
  | .seq a b => (match d with
   | false => place P r a (Exit.then (b.wp P Q) Q)
   | true => place P r b Q)
  | .cond _ a b => (match d with
   | false => place P r a Q
   | true => place P r b Q)
  | .block id c => (match d with
   | false => place P r c (Exit.inBlock id Q)
   | true => none)
  | .loop c => (match d with
   | false => place P r c (Exit.then (LoopWp P c Q) Q)
   | true => none)
  | .scope c => (match d with
   | false => place P r c (Exit.noGoto Q)
   | true => none)
  | _ => none
def num : List Bool → Nat → Nat
 | [], p => p
 | false :: r, p => num r (2 * p)
 | true :: r, p => num r (2 * p + 1)
theorem CS_of {X : Nat → Code → Post → Prop} : ∀ (c : Code) (p : Nat) (Q : Post), (∀ d r c' Q', place P (d :: r) c Q = some (c', Q') → X (num (d :: r) p) c' Q') → CS P X c p Q := by
 intro c
 induction c with
 | seq a b iha ihb =>
  intro p Q h
  exact ⟨h false [] a _ rfl, iha _ _ fun d r c' Q' hp => h false (d :: r) c' Q' hp, h true [] b _ rfl, ihb _ _ fun d r c' Q' hp => h true (d :: r) c' Q' hp⟩
 | cond o a b iha ihb =>
  intro p Q h
  exact ⟨h false [] a _ rfl, iha _ _ fun d r c' Q' hp => h false (d :: r) c' Q' hp, h true [] b _ rfl, ihb _ _ fun d r c' Q' hp => h true (d :: r) c' Q' hp⟩
 | block id a iha => intro p Q h; exact ⟨h false [] a _ rfl, iha _ _ fun d r c' Q' hp => h false (d :: r) c' Q' hp⟩
 | loop a iha => intro p Q h; exact ⟨h false [] a _ rfl, iha _ _ fun d r c' Q' hp => h false (d :: r) c' Q' hp⟩
 | scope a iha => intro p Q h; exact ⟨h false [] a _ rfl, iha _ _ fun d r c' Q' hp => h false (d :: r) c' Q' hp⟩
 | _ => intros; trivial
theorem resume_sound (hE : EnvOK E P) (hK : KOK P G K) (hG : D.gl = G) (hT : TurnsOK D N ds cuts) : ∀ (path : List Bool) (c : Code) (p : Nat) (Q : Post) (k : Ex → St → Rs R) (st : St) (C : Ctx) (a : Act) (c' : Code) (Q' : Post),
  codeOk N c = true → CS P (XJ P D N ds cuts J r) c p Q → KS D N ds k r Q → resume E K cuts J path c p st k = .ok r → StR C a st N ds → Ext D C → place P path c Q = some (c', Q') → c'.wp P Q' a C.w
 | [], c, p, Q, k, st, C, a, c', Q', hc, hcs, hk, h, hr, hX, hp => by
  simp only [place, Option.some.injEq, Prod.mk.injEq] at hp
  obtain ⟨rfl, rfl⟩ := hp
  exact ev_sound hE hK hG hT c p Q k st C a hc hcs hk h hr hX
 | d :: rr, c, p, Q, k, st, C, a, c', Q', hc, hcs, hk, h, hr, hX, hp => by
  cases c <;> simp only [place] at hp <;> simp only [resume] at h
  all_goals first | (cases hp; done) | skip
  case seq x y =>
   simp only [codeOk, Bool.and_eq_true] at hc
   obtain ⟨x1, x2, y1, y2⟩ := hcs
   cases d with
   | false =>
    exact resume_sound hE hK hG hT rr x _ _ _ st C a c' Q' hc.1 x2 (seqK_sound hk fun st C a h hr hX => enter_sound hT y1 (fun st C a h hr hX => ev_sound hE hK hG hT y _ Q k st C a hc.2 y2 hk h hr hX) h hr hX) h hr hX hp
   | true => exact resume_sound hE hK hG hT rr y _ _ _ st C a c' Q' hc.2 y2 hk h hr hX hp
  case cond o x y =>
   simp only [codeOk, Bool.and_eq_true] at hc
   obtain ⟨x1, x2, y1, y2⟩ := hcs
   cases d with
   | false => exact resume_sound hE hK hG hT rr x _ _ _ st C a c' Q' hc.1 x2 hk h hr hX hp
   | true => exact resume_sound hE hK hG hT rr y _ _ _ st C a c' Q' hc.2 y2 hk h hr hX hp
  case block id x =>
   obtain ⟨x1, x2⟩ := hcs
   cases d with
   | false => exact resume_sound hE hK hG hT rr x _ _ _ st C a c' Q' hc x2 (blockK_sound hk) h hr hX hp
   | true => cases hp
  case loop x =>
   obtain ⟨x1, x2⟩ := hcs
   cases d with
   | false =>
    refine resume_sound hE hK hG hT rr x _ _ _ st C a c' Q' hc x2 (seqK_sound hk fun st C a h hr hX => ?_) h hr hX hp
    exact LoopWp.round (enter_sound hT x1 (fun st C a h hr hX => by simp [noEv] at h) h hr hX)
   | true => cases hp
  case scope x =>
   obtain ⟨x1, x2⟩ := hcs
   cases d with
   | false => exact resume_sound hE hK hG hT rr x _ _ _ st C a c' Q' hc x2 (noGoto_sound hk) h hr hX hp
   | true => cases hp
theorem num_snoc : ∀ (r : List Bool) (d : Bool) (p : Nat), num (r ++ [d]) p = 2 * num r p + d.toNat
 | [], d, p => by cases d <;> simp [num]
 | false :: r, d, p => by simp only [List.cons_append, num]; exact num_snoc r d _
 | true :: r, d, p => by simp only [List.cons_append, num]; exact num_snoc r d _
theorem num_pos : ∀ (r : List Bool) (p : Nat), 1 ≤ p → 1 ≤ num r p
 | [], p, h => h
 | false :: r, p, h => num_pos r _ (by omega)
 | true :: r, p, h => num_pos r _ (by omega)
theorem snoc_cases : ∀ (a : List Bool), a = [] ∨ ∃ r d, a = r ++ [d]
 | [] => .inl rfl
 | x :: a => .inr (by
  rcases snoc_cases a with rfl | ⟨r, d, rfl⟩
  ·exact ⟨[], x, rfl⟩
  ·exact ⟨x :: r, d, rfl⟩)
theorem num_inj : ∀ (n : Nat) (a b : List Bool), a.length ≤ n → num a 1 = num b 1 → a = b
 | n, a, b, hn, h => by
  rcases snoc_cases a with rfl | ⟨r, d, rfl⟩
  ·rcases snoc_cases b with rfl | ⟨s, e, rfl⟩
   ·rfl
   ·rw [num_snoc] at h
    have := num_pos s 1 (Nat.le_refl 1)
    simp only [num] at h
    omega
  ·rcases snoc_cases b with rfl | ⟨s, e, rfl⟩
   ·rw [num_snoc] at h
    have := num_pos r 1 (Nat.le_refl 1)
    simp only [num] at h
    omega
   ·rw [num_snoc, num_snoc] at h
    simp only [List.length_append, List.length_singleton] at hn
    have hd : d = e := by cases d <;> cases e <;> simp at h <;> first | rfl | omega
    subst hd
    have h2 : num r 1 = num s 1 := by omega
    cases n with
    | zero => omega
    | succ n => rw [num_inj n r s (by omega) h2]
end
end Go.Sx
namespace Go.Sx
open Go
variable {G : Nat → Obj → Prop} {P : Program} {E : Env} {K : Callee} {R : Type} {C : Ctx}
def Free (m : Get) (n : Nat) : Prop := ∀ k, n ≤ k → m k = none
theorem applyM_free {m : Get} {n : Nat} : ∀ {wr : Wr}, Free m n → (∀ p ∈ wr, p.1 < n) → Free (applyM m wr) n
 | [], h, _ => h
 | (i, b) :: r, h, hw => applyM_free (wr := r) (fun k hk => by
   simp only [updM]
   have := hw (i, b) (by simp)
   rw [if_neg (by intro e; subst e; simp only at this; omega)]
   exact h k hk) fun p hp => hw p (by simp [hp])
theorem shareWr_lt {m : Get} {n : Nat} (hf : Free m n) {ms : List Nat} : ∀ p ∈ shareWr m ms, p.1 < n := fun p hp => by
 obtain ⟨_, ee, t, g, sh, L, hm⟩ := shareWr_mem hp
 rcases Nat.lt_or_ge p.1 n with h | h
 ·exact h
 ·rw [hf p.1 h] at hm; cases hm
theorem castA_ok (hs : SRel C) {self n : Nat} {s : Sh} {a a' : AV} {wr : Wr} {n' : Nat} (h : castA C.m self n s a = some (a', wr, n')) (hf : Free C.m n) {v : Value} (hv : VRel C a v) :
  ∃ C', C'.w = C.w ∧ C'.m = applyM C.m wr ∧ SRel C' ∧ Ext C C' ∧ VRel C' a' v ∧ Free C'.m n' ∧ n ≤ n' ∧ (a.leaf = true → a'.leaf = true) := by
 cases s with
 | keep =>
  simp only [castA, Option.some.injEq, Prod.mk.injEq] at h
  obtain ⟨rfl, rfl, rfl⟩ := h
  exact ⟨C, rfl, rfl, hs, Ext.refl C, hv, hf, Nat.le_refl _, fun h => h⟩
 | sl t =>
  simp only [castA] at h
  split at h
  ·rename_i L m hu
   simp only [Option.some.injEq, Prod.mk.injEq] at h
   obtain ⟨rfl, rfl, rfl⟩ := h
   obtain ⟨v1, v2, e1, e2, _, _, hR⟩ := unflat_rel hs hu (vs := [v]) ⟨v, [], rfl, hv, rfl⟩
   simp only [VRelL] at e2
   subst e2
   rw [List.append_nil] at e1
   subst e1
   obtain ⟨C1, s1, s2, s3, s4, s5, s6, s7, s8⟩ := share_ok hs m
   refine ⟨C1, s4, s3, s1, s2, ?_, ?_, Nat.le_refl _, fun _ => rfl⟩
   ·have := hR C1.T s8 s7
    rw [← s4] at this
    exact this
   ·rw [s3]; exact applyM_free hf (shareWr_lt hf)
  ·cases h
 | own e t =>
  simp only [castA] at h
  split at h
  ·rename_i hz
   have hz : 1 ≤ t.size := Nat.le_of_ble_eq_true hz
   split at h
   ·simp only [Option.some.injEq, Prod.mk.injEq] at h
    obtain ⟨rfl, rfl, rfl⟩ := h
    simp only [VRel] at hv
    subst hv
    have hid : C.m n = none := hf n (Nat.le_refl _)
    obtain ⟨hEx, hok⟩ := same_ok hs (id := n) (b' := .list e t 0 false []) (g' := .list none 0) (fun k hk => hk.elim) (fun k o' hk => hk.elim)
     (fun _ cs h => by rw [hid] at h; cases h) (fun _ t2 g2 sh2 L2 h => by rw [hid] at h; cases h)
    refine ⟨⟨C.w, updF C.m n (some (.list e t 0 false [])), updF C.φ n (.list none 0), C.fr, C.gl⟩, rfl, rfl, hok ⟨none, 0, rfl, by omega, Nat.le_refl _, rfl⟩, hEx, ⟨e, t, 0, false, [], by simp [updF], Nat.le_refl _, none, 0, 0, rfl, fun _ => ⟨by simp [updF], rfl⟩⟩, ?_, Nat.le_succ _, fun _ => rfl⟩
    intro k hk
    simp only [updF]
    rw [if_neg (by omega)]
    exact hf k (by omega)
   ·rename_i b g
    split at h
    ·split at h
     ·split at h
      ·simp only [Option.some.injEq, Prod.mk.injEq] at h
       obtain ⟨rfl, rfl, rfl⟩ := h
       exact ⟨C, rfl, rfl, hs, Ext.refl C, hv, hf, Nat.le_refl _, fun h => h⟩
      ·cases h
     ·cases h
    ·cases h
   ·cases h
  ·cases h
 | bself =>
  simp only [castA] at h
  split at h
  ·rename_i ty cs hm
   obtain ⟨rb, c, hφ, _⟩ := hs.ok self _ hm
   have done : ∀ {u : Value}, (u = .pointer none ∨ u = .pointer (some ⟨rb, 0, none⟩)) → some (AV.bself self, ([] : Wr), n) = some (a', wr, n') → v = u →
     ∃ C', C'.w = C.w ∧ C'.m = applyM C.m wr ∧ SRel C' ∧ Ext C C' ∧ VRel C' a' v ∧ Free C'.m n' ∧ n ≤ n' ∧ (a.leaf = true → a'.leaf = true) := by
    intro u hu h e
    simp only [Option.some.injEq, Prod.mk.injEq] at h
    obtain ⟨rfl, rfl, rfl⟩ := h
    subst e
    exact ⟨C, rfl, rfl, hs, Ext.refl C, ⟨rb, ty, cs, hm, hφ, hu⟩, hf, Nat.le_refl _, fun _ => rfl⟩
   split at h
   ·simp only [VRel] at hv
    exact done (.inl rfl) h hv
   ·rename_i b o
    split at h
    ·split at h
     ·rename_i hb
      have hb := beq_eq hb
      subst hb
      obtain ⟨rb', ty', cs', h1, h2, h3⟩ := hv
      rw [hφ] at h2
      cases h2
      exact done (.inr rfl) h h3
     ·cases h
    ·cases h
   ·rename_i b
    split at h
    ·rename_i hb
     have hb := beq_eq hb
     subst hb
     obtain ⟨rb', ty', cs', h1, h2, h3⟩ := hv
     rw [hφ] at h2
     cases h2
     rcases h3 with h3 | h3
     ·exact done (.inl rfl) h h3
     ·exact done (.inr rfl) h h3
    ·cases h
   ·cases h
  ·cases h
theorem castC_ok {self : Nat} : ∀ {ss : List Sh} {as as' : List AV} {bs bs' : Blks} {n n' : Nat} {C : Ctx} {vs : List Value}, castC self ss as bs n = some (as', bs', n') → C.m = getB bs → SRel C → Free C.m n → VRelL C as vs →
  ∃ C', C'.w = C.w ∧ C'.m = getB bs' ∧ SRel C' ∧ Ext C C' ∧ VRelL C' as' vs ∧ Free C'.m n' ∧ (as.all AV.leaf = true → as'.all AV.leaf = true)
 | [], as, as', bs, bs', n, n', C, vs, h, hm, hs, hf, hv => by
  simp only [castC, Option.some.injEq, Prod.mk.injEq] at h
  obtain ⟨rfl, rfl, rfl⟩ := h
  exact ⟨C, rfl, hm, hs, Ext.refl C, hv, hf, fun h => h⟩
 | s :: ss, [], as', bs, bs', n, n', C, vs, h, hm, hs, hf, hv => by simp [castC] at h
 | s :: ss, a :: as, as', bs, bs', n, n', C, vs, h, hm, hs, hf, hv => by
  simp only [castC] at h
  split at h
  ·rename_i a1 wr n1 h1
   split at h
   ·rename_i as2 bs2 n2 h2
    simp only [Option.some.injEq, Prod.mk.injEq] at h
    obtain ⟨rfl, rfl, rfl⟩ := h
    obtain ⟨v, r, rfl, hv1, hv2⟩ := hv
    rw [← hm] at h1
    obtain ⟨C1, w1, m1, s1, e1, r1, f1, _, l1⟩ := castA_ok hs h1 hf hv1
    obtain ⟨C2, w2, m2, s2, e2, r2, f2, l2⟩ := castC_ok h2 (by rw [m1, getB_apply, hm]) s1 f1 (VRelL.mono e1 hv2)
    refine ⟨C2, w2.trans w1, m2, s2, e1.trans e2, ⟨v, r, rfl, r1.mono e2, r2⟩, f2, fun hl => ?_⟩
    simp only [List.all_cons, Bool.and_eq_true] at hl ⊢
    exact ⟨l1 hl.1, l2 hl.2⟩
   ·cases h
  ·cases h
theorem castV_ok {ss : List Sh} {a a' : AV} {bs bs' : Blks} {n n' : Nat} {C : Ctx} {v : Value} (h : castV ss a bs n = some (a', bs', n')) (hm : C.m = getB bs) (hs : SRel C) (hf : Free C.m n) (hv : VRel C a v) :
  ∃ C', C'.w = C.w ∧ C'.m = getB bs' ∧ SRel C' ∧ Ext C C' ∧ VRel C' a' v ∧ Free C'.m n' := by
 unfold castV at h
 split at h
 ·simp only [Option.some.injEq, Prod.mk.injEq] at h
  obtain ⟨rfl, rfl, rfl⟩ := h
  exact ⟨C, rfl, hm, hs, Ext.refl C, hv, hf⟩
 ·split at h
  ·rename_i cs
   split at h
   ·rename_i cs' bs1 n1 h1
    simp only [Option.some.injEq, Prod.mk.injEq] at h
    obtain ⟨rfl, rfl, rfl⟩ := h
    obtain ⟨vs, rfl, hl⟩ := hv
    obtain ⟨C1, w1, m1, s1, e1, r1, f1, _⟩ := castC_ok h1 hm hs hf hl
    exact ⟨C1, w1, m1, s1, e1, ⟨vs, rfl, r1⟩, f1⟩
   ·cases h
  ·cases h
  ·split at h
   ·rename_i v' bs1 n1 h1
    simp only [Option.some.injEq, Prod.mk.injEq] at h
    obtain ⟨rfl, rfl, rfl⟩ := h
    obtain ⟨C1, w1, m1, s1, e1, r1, f1, _⟩ := castC_ok h1 hm hs hf (vs := [v]) ⟨v, [], rfl, hv, rfl⟩
    obtain ⟨u, r, e, r2, r3⟩ := r1
    simp only [List.cons.injEq] at e
    obtain ⟨rfl, rfl⟩ := e
    exact ⟨C1, w1, m1, s1, e1, r2, f1⟩
   ·cases h
theorem castSlots_ok {lk : Look} : ∀ {sl : List (Nat × List Sh)} {tm : Tmps} {bs bs' : Blks} {n n' : Nat} {C : Ctx} {ρ : Nat → Value}, castSlots lk sl bs n = some (tm, bs', n') → C.m = getB bs → SRel C → Free C.m n → (∀ i, VRel C (lk i) (ρ i)) →
  ∃ C', C'.w = C.w ∧ C'.m = getB bs' ∧ SRel C' ∧ Ext C C' ∧ (∀ i, VRel C' (look tm i) (ρ i)) ∧ Free C'.m n'
 | [], tm, bs, bs', n, n', C, ρ, h, hm, hs, hf, hv => by
  simp only [castSlots, Option.some.injEq, Prod.mk.injEq] at h
  obtain ⟨rfl, rfl, rfl⟩ := h
  exact ⟨C, rfl, hm, hs, Ext.refl C, fun i => trivial, hf⟩
 | (i, ss) :: r, tm, bs, bs', n, n', C, ρ, h, hm, hs, hf, hv => by
  simp only [castSlots] at h
  split at h
  ·rename_i v bs1 n1 h1
   split at h
   ·rename_i tm2 bs2 n2 h2
    simp only [Option.some.injEq, Prod.mk.injEq] at h
    obtain ⟨rfl, rfl, rfl⟩ := h
    obtain ⟨C1, w1, m1, s1, e1, r1, f1⟩ := castV_ok h1 hm hs hf (hv i)
    obtain ⟨C2, w2, m2, s2, e2, r2, f2⟩ := castSlots_ok h2 m1 s1 f1 (fun j => (hv j).mono e1)
    refine ⟨C2, w2.trans w1, m2, s2, e1.trans e2, fun j => ?_, f2⟩
    simp only [look]
    split
    ·rename_i e; rw [← beq_eq e]; exact r1.mono e2
    ·exact r2 j
   ·cases h
  ·cases h
theorem castBlks_ok : ∀ {bl : List (Nat × List Sh)} {bs bs' : Blks} {n n' : Nat} {C : Ctx}, castBlks bl bs n = some (bs', n') → C.m = getB bs → SRel C → Free C.m n →
  ∃ C', C'.w = C.w ∧ C'.m = getB bs' ∧ SRel C' ∧ Ext C C' ∧ Free C'.m n'
 | [], bs, bs', n, n', C, h, hm, hs, hf => by
  simp only [castBlks, Option.some.injEq, Prod.mk.injEq] at h
  obtain ⟨rfl, rfl⟩ := h
  exact ⟨C, rfl, hm, hs, Ext.refl C, hf⟩
 | (b, []) :: r, bs, bs', n, n', C, h, hm, hs, hf => castBlks_ok (bl := r) (by simpa only [castBlks] using h) hm hs hf
 | (b, s :: ss) :: r, bs, bs', n, n', C, h, hm, hs, hf => by
  simp only [castBlks] at h
  split at h
  ·rename_i ty cs hb
   split at h
   ·rename_i cs1 bs1 n1 h1
    rw [← hm] at hb
    obtain ⟨rb, c, hφ, hh, hrel, hleaf⟩ := hs.ok b _ hb
    obtain ⟨C1, w1, m1, s1, e1, r1, f1, l1⟩ := castC_ok h1 hm hs hf hrel
    obtain ⟨hφ1, cs', hb1⟩ := e1.cells b ty cs hb
    obtain ⟨hE, hok⟩ := same_ok s1 (id := b) (b' := .cells ty cs1) (g' := C1.φ b) (fun k hk => ⟨_, hb1, hk⟩) (fun k o hk => ⟨_, hb1, by rw [hφ1, hφ] at hk ⊢; exact hk⟩)
     (fun ty2 cs2 e => by rw [hb1] at e; cases e; exact ⟨rfl, _, rfl⟩) (fun _ _ _ _ _ e => by rw [hb1] at e; cases e)
    simp only [updF_self] at hE hok
    have s2 := hok ⟨rb, c, hφ1.trans hφ, by rw [w1]; exact hh, r1.mono hE, l1 hleaf⟩
    obtain ⟨C3, w3, m3, s3, e3, f3⟩ := castBlks_ok (C := ⟨C1.w, updF C1.m b (some (.cells ty cs1)), C1.φ, C1.fr, C1.gl⟩) h (by
      funext j
      simp only [updF, getB, m1]
      by_cases hj : j = b
      ·subst hj; simp
      ·rw [if_neg hj]
       split
       ·rename_i e; exact (hj (beq_eq e).symm).elim
       ·rfl) s2 (fun k hk => by
      simp only [updF]
      rw [if_neg (fun e => by subst e; rw [f1 k hk] at hb1; cases hb1)]
      exact f1 k hk)
    exact ⟨C3, w3.trans w1, m3, s3, (e1.trans hE).trans e3, f3⟩
   ·cases h
  ·cases h
end Go.Sx
namespace Go.Sx
open Go
variable {P : Program} {E : Env} {C : Ctx}
theorem plainA_ren (m : Nat → Nat) (a : AV) : plainA (renA m a) = plainA a := by cases a <;> rfl
theorem plainC_ren (m : Nat → Nat) {cs : List AV} (h : cs.all plainA = true) : (cs.map (renA m)).all plainA = true := by
 rw [List.all_map]
 refine List.all_eq_true.2 fun y hy => ?_
 rw [Function.comp_apply, plainA_ren]
 exact List.all_eq_true.1 h y hy
theorem cells_ren (m : Nat → Nat) (a : AV) (h : a.cells.all plainA = true) : (renC m a).cells.all plainA = true := by
 cases a with
 | agg cs => exact plainC_ren m h
 | _ => exact h
theorem plainV_ren (m : Nat → Nat) (a : AV) (h : plainV a = true) : plainV (renV m a) = true := by
 cases a with
 | tup vs =>
  simp only [renV, plainV] at h ⊢
  rw [List.all_map]
  exact List.all_eq_true.2 fun y hy => cells_ren m y (List.all_eq_true.1 h y hy)
 | agg cs => exact plainC_ren m h
 | _ => exact h
theorem okBlk_ren (m : Nat → Nat) {l : List Blk} (h : l.all okBlk = true) : (l.map (renB m)).all okBlk = true := by
 rw [List.all_map]
 refine List.all_eq_true.2 fun y hy => ?_
 have := List.all_eq_true.1 h y hy
 cases y with
 | cells ty cs => exact plainC_ren m this
 | list ee t g sh L => rfl
theorem reach_range {get : Get} {np : Nat} : ∀ (d k n : Nat) (ids rest : List Nat), d + k = np → reach get n (List.range' k d ++ rest) (List.range k) = some ids → ∀ i, i < np → ids[i]? = some i
 | 0, k, n, ids, rest, hk, h, i, hi => by
  have e : k = np := by omega
  subst e
  have hx : ∀ (n : Nat) (todo acc ids : List Nat), reach get n todo acc = some ids → ∃ more, ids = acc ++ more := by
   intro n
   induction n with
   | zero =>
    intro todo acc ids h
    cases todo with
    | nil => simp only [reach, Option.some.injEq] at h; exact ⟨[], by simp [h]⟩
    | cons b todo => simp [reach] at h
   | succ n ih =>
    intro todo acc ids h
    cases todo with
    | nil => simp only [reach, Option.some.injEq] at h; exact ⟨[], by simp [h]⟩
    | cons b todo =>
     simp only [reach] at h
     split at h
     ·exact ih _ _ _ h
     ·obtain ⟨more, hm⟩ := ih _ _ _ h
      exact ⟨b :: more, by rw [hm, List.append_assoc]; rfl⟩
  obtain ⟨more, rfl⟩ := hx _ _ _ _ h
  rw [List.getElem?_append_left (by simpa using hi)]
  simp [hi]
 | d + 1, k, 0, ids, rest, hk, h, i, hi => by simp [reach, List.range'_succ] at h
 | d + 1, k, n + 1, ids, rest, hk, h, i, hi => by
  rw [List.range'_succ, List.cons_append] at h
  simp only [reach] at h
  split at h
  ·rename_i hb
   have := any_beq.1 hb
   simp at this
  ·rw [← List.range_succ, List.append_assoc] at h
   exact reach_range d (k + 1) n ids _ (by omega) h i hi
theorem posOf_at {ids : List Nat} (hd : ids.Nodup) {i b : Nat} (h : ids[i]? = some b) : posOf ids b = i := by
 have hm := List.mem_of_getElem? h
 have h2 := posOf_get hm
 obtain ⟨h3, h4⟩ := List.getElem?_eq_some_iff.1 h
 obtain ⟨h5, h6⟩ := List.getElem?_eq_some_iff.1 h2
 exact (List.getElem_inj (h₀ := h5) (h₁ := h3) hd).1 (h6.trans h4.symm)
theorem collect_ok {D C : Ctx} {bs : List Blk} (hm : D.m = getB (withIds 0 bs)) (hE : Ext D C) (hs : SRel C) {more ids : List Nat} {l : List Blk} (hr : reach C.m 200 (List.range bs.length ++ more) [] = some ids) (hl : getAll C.m ids = some l) (hok : l.all okBlk = true) :
  SRel (Sub C ids C.fr (l.map (renB (posOf ids)))) ∧ Ext D (Sub C ids C.fr (l.map (renB (posOf ids)))) ∧ Ren C (Sub C ids C.fr (l.map (renB (posOf ids)))) (posOf ids) (· ∈ ids) ∧ (∀ b ∈ more, b ∈ ids) ∧
   (∀ i, i < bs.length → ids[i]? = some i) ∧ ids.Nodup ∧ (∀ i < bs.length, i ∈ ids) := by
 obtain ⟨hd, _, hids, hcl⟩ := reach_ok hr (by simp) (by simp)
 have hrange : ∀ i, i < bs.length → ids[i]? = some i := by
  rw [List.range_eq_range'] at hr
  exact reach_range bs.length 0 200 ids more (by omega) (by simpa using hr)
 obtain ⟨hsD, hren, hTD, hheld, hown⟩ := sub_ok hs hd hl hcl hok (fr := C.fr)
  (fun k o b hf hb hk => by
   obtain ⟨_, h2⟩ := getAll_ok hl
   obtain ⟨i, hi, e⟩ := List.getElem_of_mem hb
   obtain ⟨b0, hb0⟩ := Option.isSome_iff_exists.1 (h2 i b (by simp [hi, e])).2
   exact hs.frApart k o hf ⟨b, b0, hb0, hk⟩)
  (fun k o hf => hs.frOld k o hf) (fun k o hf => .inl hf)
 have hlive : ∀ i b, D.m i = some b → i < bs.length := fun i b h => by
  rw [hm, withIds_get] at h
  simp only [Nat.zero_le, if_true, Nat.sub_zero] at h
  exact (List.getElem?_eq_some_iff.1 h).1
 have hat : ∀ i b b', D.m i = some b → C.m i = some b' → (Sub C ids C.fr (l.map (renB (posOf ids)))).m i = some (renB (posOf ids) b') ∧ (Sub C ids C.fr (l.map (renB (posOf ids)))).φ i = C.φ i := fun i b b' h h' => by
  have hi := hrange i (hlive i b h)
  have := sub_at (fr := C.fr) (f := posOf ids) hl (List.mem_of_getElem? hi) h'
  rwa [posOf_at hd hi] at this
 refine ⟨hsD, ?_, hren, fun b hb => hids b (List.mem_append_right _ hb), hrange, hd, fun i hi => List.mem_of_getElem? (hrange i hi)⟩
 exact {
  cells := fun i ty cs hi => by
   obtain ⟨e1, cs', e2⟩ := hE.cells i ty cs hi
   obtain ⟨e3, e4⟩ := hat i _ _ hi e2
   exact ⟨e4.trans e1, _, e3⟩
  lists := fun i ee t g sh L hi => by
   obtain ⟨g', sh', L', e1, e2, e3⟩ := hE.lists i ee t g sh L hi
   obtain ⟨e4, e5⟩ := hat i _ _ hi e1
   exact ⟨g', sh', L', e4, e2, fun e => ⟨e5.trans (e3 e).1, (e3 e).2⟩⟩
  keep := fun k o x h1 h2 => by
   obtain ⟨h3, h4⟩ := hE.keep k o x h1 h2
   exact ⟨h3, fun h5 => h4 (hTD k o h5)⟩
  frEq := hE.frEq
  glEq := hE.glEq
  frKeep := hE.frKeep
  size := hE.size
  old := hE.old
  held := fun k h => by
   obtain ⟨b, blk, _, h2, h3⟩ := hheld k h
   exact hE.held k ⟨b, blk, h2, h3⟩
  own := fun k o h => by
   obtain ⟨b, blk, _, h2, h3⟩ := hown k o h
   exact hE.own k o ⟨b, blk, h2, h3⟩
  os := hE.os
  tape := hE.tape
  output := hE.output }
def Gen (C : Ctx) (l : List Blk) : Ctx := ⟨C.w, getB (withIds 0 l), C.φ, C.fr, C.gl⟩
theorem renA_id (a : AV) : renA (fun i => i) a = a := by cases a <;> rfl
structure GenRel (C C' : Ctx) (q : Nat → Nat) : Prop where
 keep : Keep C.w C.T C'.w C'.T
 cells : ∀ b ty cs, C.m b = some (.cells ty cs) → C'.φ b = C.φ b ∧ ∃ cs', C'.m b = some (.cells ty cs')
 lists : ∀ b ee t g sh L, C.m b = some (.list ee t g sh L) → C'.φ b = C.φ b ∧ C'.m b = some (.list ee t (q b) sh L)
theorem GenRel.relA {C' : Ctx} {q : Nat → Nat} (h : GenRel C C' q) {a a' : AV} (hg : gA C.m q a = some a') (hp : plainA a = true) {v : Value} (hv : VRel C a v) : VRel C' a' v ∧ (a.leaf = true → a'.leaf = true) := by
 have hren : Ren C C' (fun i => i) (fun b => ∃ ty cs, C.m b = some (.cells ty cs)) := {
  keep := h.keep
  cells := fun b ty cs _ hm => h.cells b ty cs hm
  lists := fun b ee t g sh L ⟨_, _, e⟩ hm => by rw [e] at hm; cases hm }
 have other : gA C.m q a = some a → (∀ b ∈ refA a, ∃ ty cs, C.m b = some (.cells ty cs)) → VRel C' a' v ∧ (a.leaf = true → a'.leaf = true) := fun e hS => by
  rw [e] at hg
  cases hg
  have := hren.refA hS hp hv
  rw [renA_id] at this
  exact ⟨this, fun h => h⟩
 cases a with
 | own b g =>
  obtain ⟨ee, t, g', sh, L, h1, h2, a, n, cap, h3, h4⟩ := hv
  simp only [gA, h1] at hg
  split at hg
  ·rename_i e
   have e := beq_eq e
   simp only [Option.some.injEq] at hg
   subst hg
   obtain ⟨e1, e2⟩ := h.lists b _ _ _ _ _ h1
   exact ⟨⟨ee, t, q b, sh, L, e2, Nat.le_refl _, a, n, cap, h3, fun _ => ⟨e1.trans (h4 e).1, (h4 e).2⟩⟩, fun _ => rfl⟩
  ·cases hg
 | el b g i off =>
  obtain ⟨ee, t, g', sh, L, h1, h2, k, o, h3, h4⟩ := hv
  simp only [gA, h1] at hg
  split at hg
  ·rename_i e
   have e := beq_eq e
   simp only [Option.some.injEq] at hg
   subst hg
   obtain ⟨e1, e2⟩ := h.lists b _ _ _ _ _ h1
   obtain ⟨ad, cap, e3, e4⟩ := h4 e
   exact ⟨⟨ee, t, q b, sh, L, e2, Nat.le_refl _, k, o, h3, fun _ => ⟨ad, cap, e1.trans e3, e4⟩⟩, fun _ => rfl⟩
  ·cases hg
 | ref b off => exact other rfl (fun c hc => by
   simp only [Sx.refA, List.mem_singleton] at hc
   subst hc
   obtain ⟨_, ty, cs, h1, _⟩ := hv
   exact ⟨ty, cs, h1⟩)
 | bself b => exact other rfl (fun c hc => by
   simp only [Sx.refA, List.mem_singleton] at hc
   subst hc
   obtain ⟨_, ty, cs, h1, _⟩ := hv
   exact ⟨ty, cs, h1⟩)
 | _ => exact other rfl (fun c hc => by simp [Sx.refA] at hc)
theorem GenRel.relAs {C' : Ctx} {q : Nat → Nat} (h : GenRel C C' q) : ∀ {as as' : List AV} {vs : List Value}, mapO (gA C.m q) as = some as' → as.all plainA = true → VRelL C as vs → VRelL C' as' vs ∧ (as.all AV.leaf = true → as'.all AV.leaf = true)
 | [], as', vs, hg, _, hv => by simp only [mapO, Option.some.injEq] at hg; subst hg; exact ⟨hv, fun h => h⟩
 | a :: as, as', vs, hg, hp, hv => by
  simp only [mapO] at hg
  split at hg
  ·rename_i b r e1 e2
   simp only [Option.some.injEq] at hg
   subst hg
   obtain ⟨v, r, rfl, h1, h2⟩ := hv
   simp only [List.all_cons, Bool.and_eq_true] at hp
   obtain ⟨k1, k2⟩ := h.relA e1 hp.1 h1
   obtain ⟨k3, k4⟩ := h.relAs e2 hp.2 h2
   refine ⟨⟨v, _, rfl, k1, k3⟩, fun hl => ?_⟩
   simp only [List.all_cons, Bool.and_eq_true] at hl ⊢
   exact ⟨k2 hl.1, k4 hl.2⟩
  ·cases hg
theorem GenRel.relC {C' : Ctx} {q : Nat → Nat} (h : GenRel C C' q) {a a' : AV} (hg : gC C.m q a = some a') (hp : a.cells.all plainA = true) {v : Value} (hv : VRel C a v) : VRel C' a' v := by
 cases a with
 | agg cs =>
  simp only [gC] at hg
  split at hg
  ·rename_i cs' e
   simp only [Option.some.injEq] at hg
   subst hg
   obtain ⟨vs, rfl, hl⟩ := hv
   exact ⟨vs, rfl, (h.relAs e hp hl).1⟩
  ·cases hg
 | _ =>
  simp only [gC] at hg
  exact (h.relA hg (by simpa [AV.cells] using hp) hv).1
theorem GenRel.relCs {C' : Ctx} {q : Nat → Nat} (h : GenRel C C' q) : ∀ {as as' : List AV} {vs : List Value}, mapO (gC C.m q) as = some as' → (as.all fun v => v.cells.all plainA) = true → VRelL C as vs → VRelL C' as' vs
 | [], as', vs, hg, _, hv => by simp only [mapO, Option.some.injEq] at hg; subst hg; exact hv
 | a :: as, as', vs, hg, hp, hv => by
  simp only [mapO] at hg
  split at hg
  ·rename_i b r e1 e2
   simp only [Option.some.injEq] at hg
   subst hg
   obtain ⟨v, r, rfl, h1, h2⟩ := hv
   simp only [List.all_cons, Bool.and_eq_true] at hp
   exact ⟨v, _, rfl, h.relC e1 hp.1 h1, h.relCs e2 hp.2 h2⟩
  ·cases hg
theorem GenRel.relV {C' : Ctx} {q : Nat → Nat} (h : GenRel C C' q) {a a' : AV} (hg : gV C.m q a = some a') (hp : plainV a = true) {v : Value} (hv : VRel C a v) : VRel C' a' v := by
 cases a with
 | tup vs =>
  simp only [gV] at hg
  split at hg
  ·rename_i vs' e
   simp only [Option.some.injEq] at hg
   subst hg
   obtain ⟨us, rfl, hl⟩ := hv
   exact ⟨us, rfl, h.relCs e hp hl⟩
  ·cases hg
 | agg cs => exact h.relC (a := .agg cs) (show gC C.m q (.agg cs) = some a' from hg) hp hv
 | _ =>
  rw [gV.eq_2 _ _ _ (by intro _ h; cases h), gC.eq_2 _ _ _ (by intro _ h; cases h)] at hg
  exact (h.relA hg (by simpa only [plainV] using hp) hv).1
theorem gBs_get {get : Get} {q : Nat → Nat} : ∀ {l l' : List Blk} {i : Nat}, gBs get q i l = some l' → l'.length = l.length ∧ ∀ (j : Nat) b, l[j]? = some b → ∃ b', l'[j]? = some b' ∧ gB get q (i + j) b = some b'
 | [], l', i, h => by simp only [gBs, Option.some.injEq] at h; subst h; simp
 | b :: l, l', i, h => by
  simp only [gBs] at h
  split at h
  ·rename_i b' r e1 e2
   simp only [Option.some.injEq] at h
   subst h
   obtain ⟨h1, h2⟩ := gBs_get e2
   refine ⟨by simp [h1], fun j x hj => ?_⟩
   cases j with
   | zero => simp only [List.getElem?_cons_zero, Option.some.injEq] at hj; subst hj; exact ⟨b', rfl, e1⟩
   | succ j =>
    obtain ⟨b2, h3, h4⟩ := h2 j x (by simpa using hj)
    exact ⟨b2, by simpa using h3, by rw [show i + (j + 1) = i + 1 + j by omega]; exact h4⟩
  ·cases h
theorem gen_ok (hs : SRel C) {l l' : List Blk} (hm : C.m = getB (withIds 0 l)) (hok : l.all okBlk = true) {q : Nat → Nat} (hg : gBs C.m q 0 l = some l') :
  SRel (Gen C l') ∧ GenRel C (Gen C l') q ∧ (∀ k o, (Gen C l').own k o ↔ C.own k o) ∧ (∀ k, (Gen C l').held k ↔ C.held k) := by
 obtain ⟨h1, h2⟩ := gBs_get hg
 have get1 : ∀ j, C.m j = l[j]? := fun j => by rw [hm, withIds_get]; simp
 have get2 : ∀ j, (Gen C l').m j = l'[j]? := fun j => by simp [Gen, withIds_get]
 have fwd : ∀ j b, C.m j = some b → ∃ b', (Gen C l').m j = some b' ∧ gB C.m q j b = some b' := fun j b h => by
  rw [get1] at h
  obtain ⟨b', e1, e2⟩ := h2 j b h
  exact ⟨b', by rw [get2]; exact e1, by simpa using e2⟩
 have bwd : ∀ j b', (Gen C l').m j = some b' → ∃ b, C.m j = some b ∧ gB C.m q j b = some b' := fun j b' h => by
  rw [get2] at h
  have hj : j < l.length := by rw [← h1]; exact (List.getElem?_eq_some_iff.1 h).1
  obtain ⟨b2, e1, e2⟩ := h2 j l[j] (by simp [hj])
  rw [h] at e1
  cases e1
  exact ⟨l[j], by rw [get1]; simp [hj], by simpa using e2⟩
 have ownEq : ∀ {j b b'}, gB C.m q j b = some b' → ∀ g k o, ownsB g b' k o ↔ ownsB g b k o := by
  intro j b b' h g k o
  cases b with
  | cells ty cs =>
   simp only [gB] at h
   split at h
   ·simp only [Option.some.injEq] at h; subst h; cases g <;> simp [ownsB]
   ·cases h
  | list e t g0 sh L => simp only [gB, Option.some.injEq] at h; subst h; cases g with | cells rb => simp [ownsB] | list a cap => cases a <;> simp [ownsB]
 have hown : ∀ k o, (Gen C l').own k o ↔ C.own k o := fun k o => by
  constructor
  ·rintro ⟨j, b', e1, e2⟩
   obtain ⟨b, e3, e4⟩ := bwd j b' e1
   exact ⟨j, b, e3, (ownEq e4 _ _ _).1 e2⟩
  ·rintro ⟨j, b, e1, e2⟩
   obtain ⟨b', e3, e4⟩ := fwd j b e1
   exact ⟨j, b', e3, (ownEq e4 _ _ _).2 e2⟩
 have hheld : ∀ k, (Gen C l').held k ↔ C.held k := fun k => by
  constructor
  ·rintro ⟨j, b', e1, e2⟩
   obtain ⟨b, e3, e4⟩ := bwd j b' e1
   exact ⟨j, b, e3, e2⟩
  ·rintro ⟨j, b, e1, e2⟩
   obtain ⟨b', e3, e4⟩ := fwd j b e1
   exact ⟨j, b', e3, e2⟩
 have hT : ∀ k o, (Gen C l').T k o ↔ C.T k o := fun k o => or_congr Iff.rfl (hown k o)
 have hkeep : Keep C.w C.T (Gen C l').w (Gen C l').T := fun k o v e1 e2 => ⟨e1, fun e3 => e2 ((hT k o).1 e3)⟩
 have hgr : GenRel C (Gen C l') q := {
  keep := hkeep
  cells := fun b ty cs hb => by
   obtain ⟨b', e1, e2⟩ := fwd b _ hb
   simp only [gB] at e2
   split at e2
   ·simp only [Option.some.injEq] at e2; subst e2; exact ⟨rfl, _, e1⟩
   ·cases e2
  lists := fun b ee t g sh L hb => by
   obtain ⟨b', e1, e2⟩ := fwd b _ hb
   simp only [gB, Option.some.injEq] at e2
   subst e2
   exact ⟨rfl, e1⟩ }
 refine ⟨{ ok := ?_, apart := ?_, frApart := fun k o hf hh => hs.frApart k o hf ((hheld k).1 hh), frOld := hs.frOld, gl := fun k o h => ⟨(hs.gl k o h).1, fun hh => (hs.gl k o h).2.1 ((hheld k).1 hh), (hs.gl k o h).2.2⟩ }, hgr, hown, hheld⟩
 ·intro j b' hj
  obtain ⟨b, e1, e2⟩ := bwd j b' hj
  have hb := hs.ok j b e1
  have hokb : okBlk b = true := by
   rw [get1] at e1
   exact List.all_eq_true.1 hok _ (List.mem_of_getElem? e1)
  cases b with
  | cells ty cs =>
   obtain ⟨rb, c, e3, e4, e5, e6⟩ := hb
   simp only [gB] at e2
   split at e2
   ·rename_i cs' e7
    simp only [Option.some.injEq] at e2
    subst e2
    obtain ⟨k1, k2⟩ := hgr.relAs e7 hokb e5
    exact ⟨rb, c, e3, e4, k1, k2 e6⟩
   ·cases e2
  | list ee t g sh L =>
   simp only [gB, Option.some.injEq] at e2
   subst e2
   obtain ⟨a, cap, e3, e4, e5, e6⟩ := hb
   refine ⟨a, cap, e3, e4, e5, ?_⟩
   cases a with
   | none => exact e6
   | some ad =>
    obtain ⟨hsp, c, lo, hi, hh, hsz, hfz, hsh, hx⟩ := e6
    exact ⟨hsp, c, lo, hi, hh, hsz, hfz, fun hs o k1 k2 k3 => hsh hs o k1 k2 ((hT _ _).1 k3), fun i x hi => (hx i x hi).mono hkeep⟩
 ·intro i b j b2 k hi hj hne k1 k2
  obtain ⟨b', e1, _⟩ := bwd i b hi
  obtain ⟨b2', e2, _⟩ := bwd j b2 hj
  exact hs.apart i b' j b2' k e1 e2 hne k1 k2
end Go.Sx
namespace Go.Sx
open Go
variable {P : Program} {E : Env}
theorem look_map (f : AV → AV) (hf : f .undef = .undef) : ∀ (tm : Tmps) (i : Nat), look (tm.map fun p => (p.1, f p.2)) i = f (look tm i)
 | [], i => by simp [look, hf]
 | (j, v) :: tm, i => by
  simp only [List.map_cons, look]
  split
  ·rfl
  ·exact look_map f hf tm i
theorem look_mem : ∀ (tm : Tmps) (i : Nat), look tm i = .undef ∨ ∃ p ∈ tm, p.2 = look tm i
 | [], i => .inl rfl
 | (j, v) :: tm, i => by
  simp only [look]
  split
  ·exact .inr ⟨(j, v), by simp, rfl⟩
  ·rcases look_mem tm i with h | ⟨p, h1, h2⟩
   ·exact .inl h
   ·exact .inr ⟨p, by simp [h1], h2⟩
theorem gT_look {get : Get} {q : Nat → Nat} : ∀ {tm tm' : Tmps} (i : Nat), gT get q tm = some tm' → gV get q (look tm i) = some (look tm' i)
 | [], tm', i, h => by simp only [gT, Option.some.injEq] at h; subst h; rfl
 | (j, v) :: tm, tm', i, h => by
  simp only [gT] at h
  split at h
  ·rename_i v' r' e1 e2
   simp only [Option.some.injEq] at h
   subst h
   simp only [look]
   split
   ·exact e1
   ·exact gT_look i e2
  ·cases h
def Gen0 (bs : List Blk) : Prop := ∀ ee t g sh L, Blk.list ee t g sh L ∈ bs → g = 0
theorem norm_ok {D : Ctx} {bs : List Blk} (hm : D.m = getB (withIds 0 bs)) (h0 : Gen0 bs) {tp : Tpl} {st st' : St} (h : norm bs.length tp st = some st') {C : Ctx} {a : Act} {N : Nat} {ds : List Deferred} (hr : StR C a st N ds) (hE : Ext D C) :
  ∃ C', C'.w = C.w ∧ StR C' a st' N ds ∧ Ext D C' := by
 unfold norm at h
 split at h
 ·cases h
 rename_i tm bs1 n h1
 split at h
 ·cases h
 rename_i ids hr1
 split at h
 ·cases h
 rename_i bs2 n2 h2
 split at h
 ·cases h
 rename_i ids2 hr2
 split at h
 ·cases h
 rename_i l hl
 split at h
 ·cases h
 rename_i hck
 simp only [Bool.and_eq_true] at hck
 obtain ⟨hp, hok⟩ := hck
 dsimp only at h
 split at h
 rotate_left
 ·cases h
 rename_i tm3 l3 h3 h4
 simp only [Option.some.injEq] at h
 subst h
 obtain ⟨C1, w1, m1, s1, e1, r1, f1⟩ := castSlots_ok (ρ := fun i => a.eval (.tmp i)) h1 hr.r.m hr.r.s (by rw [hr.r.m]; exact hr.free) (fun i => hr.r.t (.tmp i))
 obtain ⟨C2, w2, m2, s2, e2, f2⟩ := castBlks_ok h2 m1 s1 f1
 rw [← m2] at hr2 hl
 obtain ⟨s3, e3, hren, hids, hrange, _, _⟩ := collect_ok hm ((hE.trans e1).trans e2) s2 hr2 hl hok
 have hok2 := okBlk_ren (posOf ids2) hok
 generalize hD : Sub C2 ids2 C2.fr (l.map (renB (posOf ids2))) = D2 at s3 e3 hren
 have m3 : D2.m = getB (withIds 0 (l.map (renB (posOf ids2)))) := by rw [← hD]; rfl
 have w3 : D2.w = C2.w := by rw [← hD]; rfl
 rw [← m3] at h3 h4
 obtain ⟨s4, hg, hown, hheld⟩ := gen_ok s3 m3 hok2 h4
 refine ⟨Gen D2 l3, (w3.trans w2).trans w1, ⟨⟨rfl, s4, ?_⟩, ?_, hr.size, hr.defers⟩, ?_⟩
 ·intro x
  cases x with
  | tmp i =>
   simp only [evalO]
   have hv := (r1 i).mono e2
   have hplain : plainV (look tm i) = true := by
    rcases look_mem tm i with e | ⟨p, hpm, e⟩
    ·rw [e]; rfl
    ·rw [← e]; exact List.all_eq_true.1 hp p hpm
   have href : ∀ b ∈ refV (look tm i), b ∈ ids2 := fun b hb => hids b (by
    rcases look_mem tm i with e | ⟨p, hpm, e⟩
    ·rw [e] at hb; simp [refV, refA] at hb
    ·rw [← e] at hb
     exact List.mem_flatMap.2 ⟨p, hpm, hb⟩)
   have h5 := hren.relV href hplain hv
   have h6 := gT_look i h3
   rw [look_map (renV (posOf ids2)) rfl] at h6
   exact hg.relV h6 (plainV_ren _ _ hplain) h5
  | const c => exact constAV_rel c
  | global g => exact trivial
  | func f => exact ⟨#[], rfl, rfl⟩
 ·intro k hk
  simp only [withIds_get, Nat.zero_le, if_true, Nat.sub_zero]
  exact List.getElem?_eq_none hk
 ·have hlive : ∀ i b, D.m i = some b → i < bs.length ∧ bs[i]? = some b := fun i b h => by
   rw [hm, withIds_get] at h
   simp only [Nat.zero_le, if_true, Nat.sub_zero] at h
   exact ⟨(List.getElem?_eq_some_iff.1 h).1, h⟩
  have hT : ∀ k o, (Gen D2 l3).T k o → D2.T k o := fun k o h => h.imp id (hown k o).1
  exact {
   cells := fun i ty cs hi => by
    obtain ⟨k1, cs', k2⟩ := e3.cells i ty cs hi
    obtain ⟨k3, k4⟩ := hg.cells i ty cs' k2
    exact ⟨k3.trans k1, k4⟩
   lists := fun i ee t g sh L hi => by
    obtain ⟨g', sh', L', k1, k2, k3⟩ := e3.lists i ee t g sh L hi
    obtain ⟨k4, k5⟩ := hg.lists i _ _ _ _ _ k1
    obtain ⟨k6, k7⟩ := hlive i _ hi
    have hg0 := h0 _ _ _ _ _ (List.mem_of_getElem? k7)
    have hq : Nat.blt i bs.length = true := Nat.ble_eq_true_of_le k6
    simp only [hq] at k5
    exact ⟨1, sh', L', k5, by omega, fun e => by omega⟩
   keep := fun k o x k1 k2 => by
    obtain ⟨k3, k4⟩ := e3.keep k o x k1 k2
    exact ⟨k3, fun k5 => k4 (hT k o k5)⟩
   frEq := e3.frEq
   glEq := e3.glEq
   frKeep := e3.frKeep
   size := e3.size
   old := e3.old
   held := fun k h => e3.held k ((hheld k).1 h)
   own := fun k o h => e3.own k o ((hown k o).1 h)
   os := e3.os
   tape := e3.tape
   output := e3.output }
end Go.Sx
namespace Go.Sx
open Go
variable {P : Program} {E : Env} {K : Callee} {C : Ctx}
def resSem (tmps : Array Value) : ResultVar → Sem Value
 | .tmp t => pure (tmps.getD t undef)
 | .cell a t => do loadVar t (← asAddr (tmps.getD a undef))
theorem resV_rel (hE : EnvOK E P) (hs : SRel C) {a : Act} {lk : Look} (ht : TRel C lk a) {r : ResultVar} {v : AV} (h : resV E lk C.m r = some v) :
  ∃ u, (resSem a.tmps r).run P C.w = .ok u C.w ∧ VRel C v u := by
 cases r with
 | tmp t =>
  simp only [resV, Option.some.injEq] at h
  subst h
  exact ⟨_, rfl, ht (.tmp t)⟩
 | cell ad t =>
  simp only [resV] at h
  split at h
  ·rename_i ti hti
   split at h
   ·rename_i cs rd hc
    split at h
    ·rename_i hn
     obtain ⟨i, d, z, hT⟩ := hE.T hti
     have hv := ht (.tmp ad)
     simp only [evalO] at hv
     obtain ⟨k, off, vs, hp, hr, hcell⟩ := cellsAt_rel hs hv hc
     obtain ⟨u, hu, hrel⟩ := mkVal_rel hr h
     refine ⟨u, ?_, hrel⟩
     have hp' : a.tmps.getD ad undef = .pointer (some ⟨k, off, none⟩) := hp
     simp only [resSem, hp', asAddr, Sem.run_bind, Sem.run_pure, Result.andThen_ok]
     exact run_loadVarS hT (by rw [← hr.len]; exact beq_eq hn) hcell hu
    ·cases h
   ·cases h
  ·cases h
theorem resVs_rel (hE : EnvOK E P) (hs : SRel C) {a : Act} {lk : Look} (ht : TRel C lk a) : ∀ {rs : List ResultVar} {vs : List AV}, resVs E lk C.m rs = some vs →
  ∃ us, (rs.mapM (resSem a.tmps)).run P C.w = .ok us C.w ∧ VRelL C vs us
 | [], vs, h => by
  simp only [resVs, Option.some.injEq] at h
  subst h
  exact ⟨[], by simp, rfl⟩
 | r :: rs, vs, h => by
  simp only [resVs] at h
  split at h
  ·rename_i v vs' h1 h2
   simp only [Option.some.injEq] at h
   subst h
   obtain ⟨u, e1, e2⟩ := resV_rel hE hs ht h1
   obtain ⟨us, e3, e4⟩ := resVs_rel hE hs ht h2
   refine ⟨u :: us, ?_, u, us, rfl, e2, e4⟩
   simp only [List.mapM_cons, Sem.run_bind, e1, Result.andThen_ok, e3, Sem.run_pure]
  ·cases h
def resOf : List AV → AV
 | [v] => v
 | vs => .tup vs
theorem results_run (hE : EnvOK E P) (hs : SRel C) {a : Act} {lk : Look} (ht : TRel C lk a) {fn : Func} {vs : List AV} (h : resVs E lk C.m fn.results.toList = some vs) :
  ∃ u, (results fn a.tmps).run P C.w = .ok u C.w ∧ VRel C (resOf vs) u := by
 obtain ⟨us, h1, h2⟩ := resVs_rel hE hs ht h
 have hdef : results fn a.tmps = (do let vs ← fn.results.mapM (resSem a.tmps); pure (if h : vs.size = 1 then vs[0] else .tuple vs)) := rfl
 have hrun : (results fn a.tmps).run P C.w = .ok (if h : us.toArray.size = 1 then us.toArray[0] else .tuple us.toArray) C.w := by
  rw [hdef, Array.mapM_eq_mapM_toList]
  simp only [map_eq_pure_bind, Sem.run_bind, h1, Result.andThen_ok, Sem.run_pure]
 refine ⟨_, hrun, ?_⟩
 match vs, h2 with
 | [], h2 =>
  simp only [VRelL] at h2
  subst h2
  exact ⟨#[], rfl, rfl⟩
 | [v], h2 =>
  obtain ⟨u, r, rfl, h3, h4⟩ := h2
  simp only [VRelL] at h4
  subst h4
  show VRel C v _
  simpa using h3
 | v :: v' :: vs, h2 =>
  obtain ⟨u, r, rfl, h3, u', r', rfl, h4, h5⟩ := h2
  rw [dif_neg (by simp)]
  exact ⟨_, rfl, u, _, rfl, h3, u', r', rfl, h4, h5⟩
end Go.Sx
