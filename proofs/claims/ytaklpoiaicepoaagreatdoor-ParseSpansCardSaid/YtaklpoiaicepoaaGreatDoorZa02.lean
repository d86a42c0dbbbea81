/- A part of the proof: see the row's text. -/
import Derived.Test.YtaklpoiaicepoaaGreatDoorZa01
set_option linter.unusedVariables false
set_option linter.unusedSimpArgs false
noncomputable section
namespace Go.Sx
open Go
variable {P : Program} {E : Env} {C : Ctx}
section
variable {ρ : Operand → Value} {lk : Look} {o : Oper} {r : OpR} {id : Nat}
theorem eqT_agg (hE : EnvOK E P) {n t : Nat} {xs ys : List AV} {b : Bool} (h : eqT E n t xs ys = some b) :
  ∃ ti, E.T t = some ti ∧ (ti.agg = true ∧ (P.eqGuardType P.depth t = false) ∨ (ti.agg = false ∧ xs.length = 1 ∧ ys.length = 1)) := by
 cases n with
 | zero => simp [eqT] at h
 | succ n =>
  unfold eqT at h
  split at h
  ·cases h
  ·rename_i ti hti
   refine ⟨ti, hti, ?_⟩
   obtain ⟨i, d, z, hT⟩ := hE.T hti
   have htd := hT.td
   have hagg := hT.agg
   split at h
   ·rename_i fs hfs
    split at h
    ·rename_i hok
     left
     have hek := hT.eqOk
     rw [hok] at hek
     rw [hfs] at htd
     cases d <;> simp only [tdOf] at htd <;> try (cases htd; done)
     simp only [eqOkD, Bool.and_eq_true, Bool.not_eq_true'] at hek
     exact ⟨by rw [← hagg]; rfl, hek.2⟩
    ·cases h
   ·rename_i hns
    right
    split at h
    ·split at h
     ·refine ⟨?_, by simp, by simp⟩
      rw [← hagg]
      cases d <;> first
       | rfl
       | (simp only [tdOf] at htd; exact (hns _ htd.symm).elim)
       | (simp only [tdOf] at htd; rw [← htd] at h; simp [eqLeaf] at h)
     ·cases h
    ·cases h
theorem eqGuard_leaf {op : BinOp} {t : TypeId} {x y : Operand} {u v : Value} (hu : ∀ cs, u ≠ .agg cs) (hv : u ≠ .nilIface) (w : World) : (eqGuard op t x y u v).run P w = .ok () w := by
 unfold eqGuard
 cases op <;> simp <;> (cases u <;> simp_all)
theorem eqLeaf_not {td : TD} {x y : AV} {b : Bool} {u : Value} (h : eqLeaf td x y = some b) (hx : VRel C x u) : (∀ cs, u ≠ .agg cs) ∧ u ≠ .nilIface := by
 unfold eqLeaf at h
 split at h <;> (try (cases h; done)) <;> (split at h <;> try (cases h; done))
 all_goals first
  | (simp only [VRel] at hx; subst hx; simp; done)
  | (obtain ⟨_, _, _, _, _, rfl⟩ := hx; simp; done)
  | (obtain ⟨_, _, _, rfl, _⟩ := hx; simp; done)
  | (obtain ⟨_, _, hv, _⟩ := hx; simp only [List.cons.injEq, and_true] at hv; subst hv; simp; done)
theorem eqT_leaf (hE : EnvOK E P) {n t : Nat} {xs ys : List AV} {b : Bool} (h : eqT E n t xs ys = some b) {ti : TI} (hti : E.T t = some ti) (ha : ti.agg = false) :
  ∃ x y td, xs = [x] ∧ ys = [y] ∧ eqLeaf td x y = some b := by
 cases n with
 | zero => simp [eqT] at h
 | succ n =>
  unfold eqT at h
  rw [hti] at h
  simp only at h
  obtain ⟨i, d, z, hT⟩ := hE.T hti
  split at h
  ·rename_i fs hfs
   have htd := hT.td
   have hagg := hT.agg
   rw [hfs] at htd
   rw [ha] at hagg
   cases d <;> simp only [tdOf] at htd <;> first
    | (cases htd; done)
    | (simp [aggD] at hagg; done)
  ·split at h
   ·split at h
    ·exact ⟨_, _, _, rfl, rfl, h⟩
    ·cases h
   ·cases h
theorem cells_rel {x : AV} {v : Value} (h : VRel C x v) : (∃ cs vs, x = .agg cs ∧ v = .agg vs ∧ VRelL C cs vs.toList) ∨ ((∀ cs, x ≠ .agg cs) ∧ x.cells = [x]) := by
 cases x with
 | agg cs =>
  obtain ⟨vs, rfl, hl⟩ := h
  exact .inl ⟨cs, vs, rfl, rfl, hl⟩
 | _ => exact .inr ⟨by simp, rfl⟩
theorem eq_run (hE : EnvOK E P) {t : Nat} {x y : AV} {u v : Value} {b : Bool} (hx : VRel C x u) (hy : VRel C y v) (h : eqA E t x y = some b) :
  (Op.equal t u v).run P C.w = .ok b C.w ∧ ∀ op (p q : Operand), (eqGuard op t p q u v).run P C.w = .ok () C.w := by
 unfold eqA at h
 have h60 : (60 : Nat) ≤ Op.maxDepth := by decide
 split at h
 ·cases h
 ·rename_i ti hti
  split at h
  ·split at h
   ·rename_i cs cs'
    split at h
    ·rename_i ha
     obtain ⟨vs, rfl, hl⟩ := hx
     obtain ⟨vs', rfl, hl'⟩ := hy
     obtain ⟨ti', hti', hag⟩ := eqT_agg hE h
     rw [hti] at hti'
     cases hti'
     rcases hag with ⟨_, hg⟩ | ⟨ha', _⟩
     ·refine ⟨eqT_sound hE 60 h hl hl' hti (.inl ⟨ha, by simp⟩) (.inl ⟨ha, by simp⟩) _ h60, fun op p q => ?_⟩
      exact run_eqGuard_agg C.w op t p q vs vs' hg
     ·rw [ha] at ha'; cases ha'
    ·cases h
   ·cases h
  ·split at h
   ·cases h
   ·split at h
    ·cases h
    ·rename_i ha
     obtain ⟨x', y', td, hx', hy', hl⟩ := eqT_leaf hE h hti ha
     simp only [List.cons.injEq, and_true] at hx' hy'
     subst hx' hy'
     obtain ⟨hn1, hn2⟩ := eqLeaf_not hl hx
     exact ⟨eqT_sound hE 60 h ⟨u, [], rfl, hx, by simp [VRelL]⟩ ⟨v, [], rfl, hy, by simp [VRelL]⟩ hti (.inr ⟨ha, rfl⟩) (.inr ⟨ha, rfl⟩) _ h60,
      fun op p q => eqGuard_leaf hn1 hn2 C.w⟩
theorem binOp_eql {t : TypeId} {u v : Value} {b : Bool} (he : (Op.equal t u v).run P C.w = .ok b C.w) (hb : b = b) (hi : ∀ k a k' c, ¬ (u = .int k a ∧ v = .int k' c)) (hs : ∀ a c, ¬ (u = .string a ∧ v = .string c))
  (hf : ∀ k a k' c, ¬ (u = .float k a ∧ v = .float k' c)) (hc : ∀ k a a2 k' c c2, ¬ (u = .complex k a a2 ∧ v = .complex k' c c2)) :
  (binOp .eql t u v).run P C.w = .ok (.bool b) C.w ∧ (binOp .neq t u v).run P C.w = .ok (.bool (!b)) C.w := by
 constructor <;> cases u <;> cases v <;> first
  | exact (hi _ _ _ _ ⟨rfl, rfl⟩).elim
  | exact (hs _ _ ⟨rfl, rfl⟩).elim
  | exact (hf _ _ _ _ ⟨rfl, rfl⟩).elim
  | exact (hc _ _ _ _ _ _ ⟨rfl, rfl⟩).elim
  | simp [binOp, he]
theorem goodR_binA (hE : EnvOK E P) (hs : SRel C) (hρ : ∀ x, VRel C (evalO lk x) (ρ x)) {op : BinOp} {t t' : TypeId} {x y : Operand} (ho : o.op = .binOp op t x y t')
  (h : (binOpA E t op (evalO lk x) (evalO lk y)).run = some r) : GoodR P C ρ o r := by
 simp only [binOpA] at h
 have hx := hρ x
 have hy := hρ y
 split at h
 ·rename_i k a k' b ha hb
  split at h
  ·rename_i e
   subst e
   rw [ha] at hx; rw [hb] at hy
   simp only [VRel] at hx hy
   exact goodR_binInt hs ho hx hy h
  ·exact (run_fail h).elim
 ·rename_i a b ha hb
  rw [ha] at hx; rw [hb] at hy
  simp only [VRel] at hx hy
  exact goodR_binStr hs ho hx hy h
 ·rename_i hni hns
  have main : ∀ b, eqA E t (evalO lk x) (evalO lk y) = some b →
    (binOp .eql t (ρ x) (ρ y)).run P C.w = .ok (.bool b) C.w ∧ (binOp .neq t (ρ x) (ρ y)).run P C.w = .ok (.bool (!b)) C.w ∧ ∀ op, (eqGuard op t x y (ρ x) (ρ y)).run P C.w = .ok () C.w := by
   intro b he
   obtain ⟨h1, h2⟩ := eq_run hE hx hy he
   have hsh : (∀ k a k' c, ¬ (ρ x = .int k a ∧ ρ y = .int k' c)) ∧ (∀ a c, ¬ (ρ x = .string a ∧ ρ y = .string c)) ∧ (∀ k a k' c, ¬ (ρ x = .float k a ∧ ρ y = .float k' c)) ∧
     (∀ k a a2 k' c c2, ¬ (ρ x = .complex k a a2 ∧ ρ y = .complex k' c c2)) := by
    unfold eqA at he
    split at he
    ·cases he
    ·rename_i ti hti
     split at he
     ·rename_i cs hcs
      rw [hcs] at hx
      obtain ⟨vs, hv, _⟩ := hx
      simp [hv]
     ·split at he
      ·cases he
      ·split at he
       ·cases he
       ·rename_i ha
        obtain ⟨x', y', td, hx', hy', hl⟩ := eqT_leaf hE he hti ha
        simp only [List.cons.injEq, and_true] at hx' hy'
        subst hx' hy'
        unfold eqLeaf at hl
        split at hl <;> (try (cases hl; done)) <;> (split at hl <;> try (cases hl; done))
        all_goals
         rename_i e1 e2
         first
          | (exact (hni _ _ _ _ e1 e2).elim)
          | (exact (hns _ _ e1 e2).elim)
          | (rw [e1] at hx; simp only [VRel] at hx; simp [hx]; done)
          | (rw [e1] at hx; obtain ⟨_, _, _, _, hv⟩ := hx; simp [hv]; done)
          | (rw [e1] at hx; obtain ⟨_, _, _, hv, _⟩ := hx; simp [hv]; done)
          | (rw [e1] at hx; obtain ⟨_, _, hv, _⟩ := hx; simp only [List.cons.injEq, and_true] at hv; simp [hv]; done)
   have := binOp_eql (t := t) h1 rfl hsh.1 hsh.2.1 hsh.2.2.1 hsh.2.2.2
   exact ⟨this.1, this.2, fun op => h2 op x y⟩
  split at h
  ·obtain ⟨u, hu, rfl⟩ := run_ofO h
   simp only [Option.map_eq_some_iff] at hu
   obtain ⟨b, hb, rfl⟩ := hu
   obtain ⟨h1, h2, h3⟩ := main b hb
   exact Good.pure hs (v := .bool b) (by simp [execOp, ho, h1, h3]) (by simp [VRel])
  ·obtain ⟨u, hu, rfl⟩ := run_ofO h
   simp only [Option.map_eq_some_iff] at hu
   obtain ⟨b, hb, rfl⟩ := hu
   obtain ⟨h1, h2, h3⟩ := main b hb
   exact Good.pure hs (v := .bool (!b)) (by simp [execOp, ho, h2, h3]) (by simp [VRel])
  ·exact (run_fail h).elim
theorem isNilC_eq {y : Operand} (h : isNilC y = true) : y = .const .nilIface := by
 unfold isNilC at h
 split at h
 ·rfl
 ·cases h
theorem run_equal_nil2 {t : TypeId} {ms : Array (String × TypeId)} (h : P.underlying t = some (.interface ms)) (w : World) : (Op.equal t .nilIface .nilIface).run P w = .ok true w := by
 show (Op.equalIn (9999 + 1) t .nilIface .nilIface).run P w = _
 rw [Op.equalIn]
 simp [run_underlyingS h]
theorem run_equal_held2 {t : TypeId} {ms : Array (String × TypeId)} (h : P.underlying t = some (.interface ms)) (u : TypeId) (v : Value) (w : World) : (Op.equal t (.iface u v) .nilIface).run P w = .ok false w := by
 show (Op.equalIn (9999 + 1) t (.iface u v) .nilIface).run P w = _
 rw [Op.equalIn]
 simp [run_underlyingS h]
theorem goodR_binNil (hE : EnvOK E P) (hs : SRel C) (hρ : ∀ x, VRel C (evalO lk x) (ρ x)) {op : BinOp} {t t' : TypeId} {x y : Operand} (ho : o.op = .binOp op t x y t') (hn : isNilC y = true)
  (h : (binNil E t op (evalO lk x) (evalO lk y)).run = some r) : GoodR P C ρ o r := by
 have hy := hρ y
 have e := isNilC_eq hn
 subst e
 have hx := hρ x
 simp only [evalO, constAV, VRel] at hy
 unfold binNil at h
 split at h
 ·rename_i ti hti
  obtain ⟨i, d, z, hT⟩ := hE.T hti
  have htd := hT.td
  have hu := hT.und
  split at h
  ·rename_i hif
   rw [hif] at htd
   obtain ⟨ms, hd⟩ : ∃ ms, d = .interface ms := by
    cases d <;> simp only [tdOf] at htd <;> first
     | exact ⟨_, rfl⟩
     | cases htd
   rw [hd] at hu
   split at h
   ·rename_i hv
    rw [hv] at hx
    simp only [VRel] at hx
    rw [run_pureV h]
    exact Good.pure hs (v := .bool true) (by simp [execOp, ho, hx, hy, eqGuard, binOp, run_equal_nil2 hu]) (by simp [VRel])
   ·rename_i hv
    rw [hv] at hx
    simp only [VRel] at hx
    rw [run_pureV h]
    exact Good.pure hs (v := .bool false) (by simp [execOp, ho, hx, hy, eqGuard, binOp, run_equal_nil2 hu]) (by simp [VRel])
   ·rename_i u v hv
    rw [hv] at hx
    obtain ⟨u', hx, _⟩ := hx
    rw [run_pureV h]
    exact Good.pure hs (v := .bool false) (by simp [execOp, ho, hx, hy, eqGuard, binOp, run_equal_held2 hu]) (by simp [VRel])
   ·rename_i u v hv
    rw [hv] at hx
    obtain ⟨u', hx, _⟩ := hx
    rw [run_pureV h]
    exact Good.pure hs (v := .bool true) (by simp [execOp, ho, hx, hy, eqGuard, binOp, run_equal_held2 hu]) (by simp [VRel])
   ·exact (run_fail h).elim
  ·exact goodR_binA hE hs hρ ho h
 ·exact (run_fail h).elim
theorem goodR_binOp (hE : EnvOK E P) (hs : SRel C) (hρ : ∀ x, VRel C (evalO lk x) (ρ x)) {op : BinOp} {t t' : TypeId} {x y : Operand} (ho : o.op = .binOp op t x y t')
  (h : (opA E lk C.m id (.binOp op t x y t')).run = some r) : GoodR P C ρ o r := by
 simp only [opA] at h
 split at h
 ·rename_i hn
  exact goodR_binNil hE hs hρ ho hn h
 ·exact goodR_binA hE hs hρ ho h
theorem goodR_unOp (hs : SRel C) (hρ : ∀ x, VRel C (evalO lk x) (ρ x)) {op : UnOp} {t : TypeId} {x : Operand} (ho : o.op = .unOp op t x)
  (h : (opA E lk C.m id (.unOp op t x)).run = some r) : GoodR P C ρ o r := by
 simp only [opA] at h
 have hx := hρ x
 split at h
 ·rename_i b hb
  rw [hb] at hx
  simp only [VRel] at hx
  rw [run_pureV h]
  exact Good.pure hs (v := .bool (!b)) (by simp [execOp, ho, hx, Op.unary]) (by simp [VRel])
 ·rename_i k n hb
  rw [hb] at hx
  simp only [VRel] at hx
  rw [run_pureV h]
  exact Good.pure hs (v := .int k (k.wrap (0 - n))) (by simp [execOp, ho, hx, Op.unary, Op.intArith]) (by simp [VRel])
 ·exact (run_fail h).elim
theorem td_int {t : TypeId} {ti : TI} {i : TypeInfo} {d : TypeDesc} {z : Value} (hT : TIOK P t ti i d z) {k : IntKind} (h : ti.td = .int k) : d = .int k := by
 have := hT.td
 rw [h] at this
 cases d <;> simp only [tdOf] at this <;> first
  | (cases this; rfl)
  | (cases this; done)
theorem td_str {t : TypeId} {ti : TI} {i : TypeInfo} {d : TypeDesc} {z : Value} (hT : TIOK P t ti i d z) (h : ti.td = .str) : d = .string := by
 have := hT.td
 rw [h] at this
 cases d <;> simp only [tdOf] at this <;> first
  | rfl
  | (cases this; done)
theorem td_slice {t : TypeId} {ti : TI} {i : TypeInfo} {d : TypeDesc} {z : Value} (hT : TIOK P t ti i d z) {e : Nat} (h : ti.td = .slice e) : d = .slice e := by
 have := hT.td
 rw [h] at this
 cases d <;> simp only [tdOf] at this <;> first
  | (cases this; rfl)
  | (cases this; done)
theorem td_array {t : TypeId} {ti : TI} {i : TypeInfo} {d : TypeDesc} {z : Value} (hT : TIOK P t ti i d z) {n e : Nat} (h : ti.td = .array n e) : d = .array n e := by
 have := hT.td
 rw [h] at this
 cases d <;> simp only [tdOf] at this <;> first
  | (cases this; rfl)
  | (cases this; done)
theorem td_struct {t : TypeId} {ti : TI} {i : TypeInfo} {d : TypeDesc} {z : Value} (hT : TIOK P t ti i d z) {fs : List Fld} (h : ti.td = .struct fs) : ∃ fields : Array Field, d = .struct fields ∧ fields.toList.map (fldOf P) = fs := by
 have := hT.td
 rw [h] at this
 cases d <;> simp only [tdOf] at this <;> first
  | (cases this; exact ⟨_, rfl, rfl⟩)
  | (cases this; done)
theorem goodR_convert (hE : EnvOK E P) (hs : SRel C) (hρ : ∀ x, VRel C (evalO lk x) (ρ x)) {s d : TypeId} {x : Operand} (ho : o.op = .convert s d x)
  (h : (opA E lk C.m id (.convert s d x)).run = some r) : GoodR P C ρ o r := by
 simp only [opA] at h
 have hx := hρ x
 split at h
 ·rename_i si ti hsi hti
  obtain ⟨_, _, _, hS⟩ := hE.T hsi
  obtain ⟨_, _, _, hT⟩ := hE.T hti
  split at h
  ·rename_i ks kd k n h1 h2 h3
   rw [h3] at hx
   simp only [VRel] at hx
   rw [run_pureV h]
   have e1 := td_int hS h1
   have e2 := td_int hT h2
   refine Good.pure hs (v := .int kd (kd.wrap n)) ?_ (by simp [VRel])
   simp [execOp, ho, hx, convert, run_underlyingS hS.und, run_underlyingS hT.und, e1, e2, Conv.intToInt]
  ·rename_i a h1 h2 h3
   rw [h3] at hx
   simp only [VRel] at hx
   rw [run_pureV h]
   have e1 := td_str hS h1
   have e2 := td_str hT h2
   refine Good.pure hs (v := .string ⟨⟨a⟩⟩) ?_ (by simp [VRel])
   simp [execOp, ho, hx, convert, run_underlyingS hS.und, run_underlyingS hT.und, e1, e2]
  ·exact (run_fail h).elim
 ·exact (run_fail h).elim
end
end Go.Sx
namespace Go.Sx
open Go
variable {P : Program} {E : Env} {C : Ctx}
section
variable {ρ : Operand → Value} {lk : Look} {o : Oper} {r : OpR} {id : Nat}
theorem goodR_makeInterface (hE : EnvOK E P) (hs : SRel C) (hρ : ∀ x, VRel C (evalO lk x) (ρ x)) {t : TypeId} {x : Operand} (ho : o.op = .makeInterface t x)
  (h : (opA E lk C.m id (.makeInterface t x)).run = some r) : GoodR P C ρ o r := by
 simp only [opA] at h
 split at h
 ·rename_i ti hti
  obtain ⟨i, d, z, hT⟩ := hE.T hti
  split at h
  ·exact (run_fail h).elim
  ·exact (run_fail h).elim
  ·rename_i hne hne2
   rw [run_pureV h]
   refine Good.pure hs (v := .iface t (ρ x)) ?_ ⟨_, rfl, hρ x⟩
   have htd := hT.td
   simp only [execOp, ho, Instr.makeInterface, Sem.run_bind, run_underlyingS hT.und, Result.andThen_ok]
   cases d <;> first
    | (simp only [tdOf] at htd; exact (hne htd.symm).elim)
    | (simp only [tdOf] at htd; exact (hne2 htd.symm).elim)
    | simp
 ·exact (run_fail h).elim
theorem sizeD_pos {t : TypeId} {n : Nat} (h : sizeD P t = n + 1) : ∃ i, P.info? t = some i ∧ i.size = n + 1 := by
 unfold sizeD at h
 split at h
 ·rename_i i hi; exact ⟨i, hi, h⟩
 ·cases h
theorem goodR_fieldAddr (hE : EnvOK E P) (hs : SRel C) (hρ : ∀ x, VRel C (evalO lk x) (ρ x)) {t : TypeId} {a : Operand} {f : Nat} (ho : o.op = .fieldAddr t a f)
  (h : (opA E lk C.m id (.fieldAddr t a f)).run = some r) : GoodR P C ρ o r := by
 simp only [opA] at h
 have ha := hρ a
 split at h
 ·rename_i ti hti
  obtain ⟨i, d, z, hT⟩ := hE.T hti
  split at h
  ·rename_i fs hfs
   obtain ⟨fields, hd, hm⟩ := td_struct hT hfs
   split at h
   ·rename_i fl hfl
    split at h
    ·exact (run_fail h).elim
    ·rename_i n hn
     obtain ⟨av, hav, rfl⟩ := run_ofO h
     rw [nth_eq, ← hm, List.getElem?_map, Option.map_eq_some_iff] at hfl
     obtain ⟨fld, hfld, rfl⟩ := hfl
     obtain ⟨fi, hfi, hsz⟩ := sizeD_pos (P := P) hn
     have hff : fields[f]? = some fld := by rw [← Array.getElem?_toList]; exact hfld
     have key : ∀ k off, ρ a = .pointer (some ⟨k, off, none⟩) → VRel C av (.pointer (some ⟨k, off + fld.offset, none⟩)) → Good P C ρ o av C.m := by
      intro k off hp hv
      refine Good.pure hs (v := .pointer (some ⟨k, off + fld.offset, none⟩)) ?_ hv
      have hne : ¬ (fi.size = 0) := by omega
      simp [execOp, ho, Instr.fieldAt, run_underlyingS hT.und, hd, hff, hp, Instr.sureAddr, fieldPlace, run_sizeOfS hfi, hne, addr_add]
     unfold addOff at hav
     split at hav
     ·rename_i b off n' hb
      simp only [Option.some.injEq] at hav
      subst hav
      rw [hb] at ha
      obtain ⟨rb, ty, cs, hm1, hp, hv⟩ := ha
      exact key _ _ hv ⟨rb, ty, cs, hm1, hp, rfl⟩
     ·rename_i ty y off n' hb
      simp only [Option.some.injEq] at hav
      subst hav
      rw [hb] at ha
      obtain ⟨k, o', cs, hv, hi, hr⟩ := ha
      exact key _ _ hv ⟨k, o', cs, by simp only [fldOf]; congr 3; omega, hi, hr⟩
     ·rename_i b g i' off n' hb
      simp only [Option.some.injEq] at hav
      subst hav
      rw [hb] at ha
      obtain ⟨ee, ty, g', sh, L, hm1, hg, k, o', hv, hq⟩ := ha
      exact key _ _ hv ⟨ee, ty, g', sh, L, hm1, hg, k, o', by simp only [fldOf]; congr 3; omega, hq⟩
     ·cases hav
   ·exact (run_fail h).elim
  ·exact (run_fail h).elim
 ·exact (run_fail h).elim
theorem goodR_load (hE : EnvOK E P) (hs : SRel C) (hρ : ∀ x, VRel C (evalO lk x) (ρ x)) {t : TypeId} {a : Operand} (ho : o.op = .load t a)
  (h : (opA E lk C.m id (.load t a)).run = some r) : GoodR P C ρ o r := by
 simp only [opA] at h
 split at h
 ·rename_i ti hti
  split at h
  ·rename_i cs rd hc
   split at h
   ·rename_i hn
    split at h
    ·rename_i v hv
     rw [run_leaf h]
     exact good_load hE hs hρ ho hti hc (beq_eq hn) hv
    ·exact (run_fail h).elim
   ·exact (run_fail h).elim
  ·exact (run_fail h).elim
 ·exact (run_fail h).elim
theorem goodR_field (hE : EnvOK E P) (hs : SRel C) (hρ : ∀ x, VRel C (evalO lk x) (ρ x)) {t : TypeId} {x : Operand} {f : Nat} (ho : o.op = .field t x f)
  (h : (opA E lk C.m id (.field t x f)).run = some r) : GoodR P C ρ o r := by
 simp only [opA] at h
 have hx := hρ x
 split at h
 ·rename_i ti cs hti hcs
  obtain ⟨i, d, z, hT⟩ := hE.T hti
  rw [hcs] at hx
  obtain ⟨vs, hv, hl⟩ := hx
  split at h
  ·rename_i fs hfs
   obtain ⟨fields, hd, hm⟩ := td_struct hT hfs
   split at h
   ·rename_i fl hfl
    rw [nth_eq, ← hm, List.getElem?_map, Option.map_eq_some_iff] at hfl
    obtain ⟨fld, hfld, rfl⟩ := hfl
    have hff : fields[f]? = some fld := by rw [← Array.getElem?_toList]; exact hfld
    split at h
    ·rename_i te hte
     obtain ⟨i', d', z', hT'⟩ := hE.T hte
     have hT'' : TIOK P fld.type te i' d' z' := hT'
     have hsz : (fldOf P fld).size = te.size := by simp [fldOf, sizeD, hT''.info, hT''.size]
     have hag : (fldOf P fld).agg = te.agg := by simp [fldOf, aggT, hT''.und, hT''.agg]
     obtain ⟨av, hav, rfl⟩ := run_ofO h
     rw [hsz, hag] at hav
     obtain ⟨u, hu, hrel⟩ := mkVal_rel (seg_rel hl (fldOf P fld).off te.size) hav
     refine Good.pure hs (v := u) ?_ hrel
     have hp := part_run hT'' vs.toList fld.offset (v := u) (by rcases hu with ⟨h1, h2⟩ | ⟨h1, h2⟩; exact .inl ⟨h1, h2⟩; exact .inr ⟨h1, h2⟩) C.w
     simp only [Array.toArray_toList] at hp
     simp [execOp, ho, Instr.field, run_underlyingS hT.und, hd, hff, hv, asAgg, hp]
    ·exact (run_fail h).elim
   ·exact (run_fail h).elim
  ·exact (run_fail h).elim
 ·exact (run_fail h).elim
theorem sliceOf_rel (hs : SRel C) {x : AV} {v : Value} {t : Ty} {L : List t.den} {m : List Nat} (hv : VRel C x v) (h : sliceOf C.m x = some (.mk t L m)) :
  ∃ a cap, v = .slice a L.length cap ∧ L.length ≤ cap ∧ ∀ i y, L[i]? = some y → ∃ ad cs, a = some ad ∧ ad.spot = none ∧
   (∀ j u, cs[j]? = some u → C.w.cell? ⟨ad.block, ad.off + i * t.size + j, none⟩ = some u) ∧ Rep C.w C.T t y cs := by
 unfold sliceOf at h
 have imm : ∀ {t : Ty} {L : List t.den}, Rep C.w C.T (.slice t) L [v] → ∃ a cap, v = .slice a L.length cap ∧ L.length ≤ cap ∧ ∀ i y, L[i]? = some y → ∃ ad cs, a = some ad ∧ ad.spot = none ∧
   (∀ j u, cs[j]? = some u → C.w.cell? ⟨ad.block, ad.off + i * t.size + j, none⟩ = some u) ∧ Rep C.w C.T t y cs := by
  intro t L hr
  obtain ⟨a, cap, hv, hl, hx⟩ := hr
  simp only [List.cons.injEq, and_true] at hv
  refine ⟨a, cap, hv, hl, fun i y hy => ?_⟩
  obtain ⟨ad, cs, ha, hsp, hi, hr⟩ := hx i y hy
  exact ⟨ad, cs, ha, hsp, fun j u hu => (hi j u hu).1, hr⟩
 split at h
 ·simp only [Option.some.injEq, SL.mk.injEq] at h
  obtain ⟨rfl, h, rfl⟩ := h
  cases h
  exact imm hv
 ·simp only [Option.some.injEq, SL.mk.injEq] at h
  obtain ⟨rfl, h, rfl⟩ := h
  cases h
  obtain ⟨_, _, hr⟩ := hv
  exact imm hr
 ·rename_i b g
  split at h
  ·rename_i t' g' sh L' hm
   split at h
   ·rename_i hg
    simp only [Option.some.injEq, SL.mk.injEq] at h
    obtain ⟨rfl, h, rfl⟩ := h
    cases h
    obtain ⟨ee2, t2, g2, sh2, L2, hm2, _, a, n, cap, rfl, hq⟩ := hv
    rw [hm] at hm2
    cases hm2
    obtain ⟨hp, rfl⟩ := hq (beq_eq hg)
    obtain ⟨a', cap', hgg, hz, hc, hb⟩ := hs.ok b _ hm
    rw [hp] at hgg
    cases hgg
    refine ⟨a, cap, rfl, hc, fun i y hy => ?_⟩
    cases a with
    | none =>
     simp only at hb
     have := (List.getElem?_eq_some_iff.1 hy).1
     omega
    | some ad =>
     obtain ⟨hsp, c, lo, hi, hh, hsz, _, _, hx⟩ := hb
     refine ⟨ad, _, rfl, hsp, fun j u hu => ?_, hx i y hy⟩
     rw [cell_of hh, ← Array.getElem?_toList]
     rw [seg_get] at hu
     split at hu
     ·rw [← hu]
     ·cases hu
   ·cases h
  ·cases h
 ·cases h
theorem elemSize_ok (hE : EnvOK E P) {t : Nat} {es : Nat} (h : elemSize E t = some es) : ∃ e i, P.underlying t = some (.slice e) ∧ P.info? e = some i ∧ i.size = es ∧ ∃ te, E.T e = some te ∧ te.size = es := by
 unfold elemSize at h
 split at h
 ·rename_i ti hti
  obtain ⟨i, d, z, hT⟩ := hE.T hti
  split at h
  ·rename_i e hd
   split at h
   ·rename_i te hte
    obtain ⟨i', d', z', hT'⟩ := hE.T hte
    simp only [Option.some.injEq] at h
    have := td_slice hT hd
    exact ⟨e, i', by rw [hT.und, this], hT'.info, by rw [hT'.size, h], te, hte, h⟩
   ·cases h
  ·cases h
 ·cases h
theorem getD_of {α : Type} {l : List α} {i : Nat} (h : i < l.length) (d : α) : l[i]? = some (l.getD i d) := by
 simp [List.getD, List.getElem?_eq_getElem h]
theorem inI_ok {n : Int} {k : Nat} (h : inI n k = true) : 0 ≤ n ∧ n < (k : Int) := by
 simpa [inI] using h
theorem goodR_indexAddr (hE : EnvOK E P) (hs : SRel C) (hρ : ∀ x, VRel C (evalO lk x) (ρ x)) {t : TypeId} {x i : Operand} (ho : o.op = .indexAddr t x i)
  (h : (opA E lk C.m id (.indexAddr t x i)).run = some r) : GoodR P C ρ o r := by
 simp only [opA] at h
 have hx := hρ x
 have hi := hρ i
 split at h
 ·rename_i es hes
  obtain ⟨e, ei, hund, hinf, hsz, _⟩ := elemSize_ok hE hes
  unfold indexAddrA at h
  split at h
  ·rename_i k n hin
   rw [hin] at hi
   simp only [VRel] at hi
   have key : ∀ {av : AV} {ad : Addr} {len cap : Nat}, ad.spot = none → ρ x = .slice (some ad) len cap → inI n len = true → VRel C av (.pointer (some ⟨ad.block, ad.off + n.toNat * es, none⟩)) → Good P C ρ o av C.m := by
    intro av ad len cap hsp hv hn hr
    obtain ⟨h0, h1⟩ := inI_ok hn
    refine Good.pure hs (v := .pointer (some ⟨ad.block, ad.off + n.toNat * es, none⟩)) ?_ hr
    obtain ⟨bk, of, sp⟩ := ad
    simp only at hsp
    subst hsp
    simp [execOp, ho, Instr.indexAt, hi, hv, asIntOf, run_underlyingS hund, h0, h1, run_sizeOfS hinf, hsz, addr_add]
   have imm : ∀ {t' : Ty} {L : List t'.den}, Rep C.w C.T (.slice t') L [ρ x] → Nat.beq t'.size es = true → inI n L.length = true → Good P C ρ o (.pd t' (L.getD n.toNat t'.dflt) 0) C.m := by
    intro t' L hr hse hn
    obtain ⟨a, cap, hv, hl, hc⟩ := hr
    simp only [List.cons.injEq, and_true] at hv
    obtain ⟨h0, h1⟩ := inI_ok hn
    have hlt : n.toNat < L.length := by omega
    obtain ⟨ad, cs, rfl, hsp, hi', hr'⟩ := hc n.toNat _ (getD_of hlt t'.dflt)
    exact key hsp hv hn ⟨ad.block, ad.off + n.toNat * es, cs, rfl, (beq_eq hse) ▸ hi', hr'⟩
   split at h
   ·rename_i t' L hl
    split at h
    ·rename_i hse
     obtain ⟨hn, h⟩ := run_brT h
     rw [run_pureV h]
     rw [hl] at hx
     exact imm hx hse hn
    ·exact (run_fail h).elim
   ·rename_i t' L hl
    split at h
    ·rename_i hse
     obtain ⟨hn, h⟩ := run_brT h
     rw [run_pureV h]
     rw [hl] at hx
     obtain ⟨_, _, hr⟩ := hx
     exact imm hr hse hn
    ·exact (run_fail h).elim
   ·rename_i b g hl
    split at h
    ·rename_i ee t' g' sh L hm
     split at h
     ·rename_i hg
      simp only [Bool.and_eq_true] at hg
      obtain ⟨hg, hse⟩ := hg
      obtain ⟨hn, h⟩ := run_brT h
      rw [run_leaf h]
      rw [hl] at hx
      obtain ⟨ee2, t2, g2, sh2, L2, hm2, hle, a, n', cap, hv, hq⟩ := hx
      rw [hm] at hm2
      cases hm2
      obtain ⟨hp, rfl⟩ := hq (beq_eq hg)
      obtain ⟨h0, h1⟩ := inI_ok hn
      obtain ⟨a', cap', hgg, hz, hc, hb⟩ := hs.ok b _ hm
      rw [hp] at hgg
      cases hgg
      cases a with
      | none =>
       simp only at hb
       have h2 : L.length ≤ cap := hc
       omega
      | some ad =>
       exact key hb.1 hv hn ⟨ee, t', g', sh, L, hm, hle, ad.block, ad.off + n.toNat * es, rfl, fun _ => ⟨ad, cap, hp, by omega, rfl, by rw [beq_eq hse]⟩⟩
     ·exact (run_fail h).elim
    ·exact (run_fail h).elim
   ·exact (run_fail h).elim
  ·exact (run_fail h).elim
 ·exact (run_fail h).elim
end
end Go.Sx
namespace Go.Sx
open Go
variable {P : Program} {E : Env} {C : Ctx}
def Shut (C : Ctx) (ms : List Nat) (T' : Nat → Nat → Prop) : Prop :=
 ∀ b ∈ ms, ∀ ee t g sh L, C.m b = some (.list ee t g sh L) → ∀ ad cap, C.φ b = .list (some ad) cap → ∀ o, ad.off ≤ o → o < ad.off + L.length * t.size → ¬ T' ad.block o
theorem castL_some {t t' : Ty} {L : List t.den} {L' : List t'.den} (h : castL t t' L = some L') : ∃ e : t = t', L' = e ▸ L := by
 unfold castL at h
 split at h
 ·rename_i e
  exact ⟨e, (Option.some.inj h).symm⟩
 ·cases h
theorem castTo_some {t t' : Ty} {x : t.den} {x' : t'.den} (h : castTo t t' x = some x') : ∃ e : t = t', x' = e ▸ x := by
 unfold castTo at h
 split at h
 ·rename_i e
  exact ⟨e, (Option.some.inj h).symm⟩
 ·cases h
theorem Rep.monoT {w : World} {T T' : Nat → Nat → Prop} (h : ∀ k o, T' k o → T k o) {t : Ty} {x : t.den} {vs : List Value} (r : Rep w T t x vs) : Rep w T' t x vs :=
 r.mono fun _ _ _ hc hn => ⟨hc, fun hh => hn (h _ _ hh)⟩
theorem Shut.left {ms ms' : List Nat} {T' : Nat → Nat → Prop} (h : Shut C (ms ++ ms') T') : Shut C ms T' := fun b hb => h b (List.mem_append_left _ hb)
theorem Shut.right {ms ms' : List Nat} {T' : Nat → Nat → Prop} (h : Shut C (ms ++ ms') T') : Shut C ms' T' := fun b hb => h b (List.mem_append_right _ hb)
theorem own_rep (hs : SRel C) {b g : Nat} {v : Value} {ee : Nat} {t : Ty} {g' : Nat} {sh : Bool} {L : List t.den} (hv : VRel C (.own b g) v) (hm : C.m b = some (.list ee t g' sh L)) (hg : g = g')
  {T' : Nat → Nat → Prop} (hT : ∀ k o, T' k o → C.T k o) (hsh : Shut C [b] T') : Rep C.w T' (.slice t) L [v] := by
 obtain ⟨ee2, t2, g2, sh2, L2, hm2, _, a, n, cap, rfl, hq⟩ := hv
 rw [hm] at hm2
 cases hm2
 obtain ⟨hp, rfl⟩ := hq hg
 obtain ⟨a', cap', hgg, hz, hc, hb⟩ := hs.ok b _ hm
 rw [hp] at hgg
 cases hgg
 refine ⟨a, cap, rfl, hc, fun i y hy => ?_⟩
 have hil : i < L.length := (List.getElem?_eq_some_iff.1 hy).1
 cases a with
 | none => simp only at hb; omega
 | some ad =>
  obtain ⟨hsp, c, lo, hi, hh, hsz, _, _, hx⟩ := hb
  refine ⟨ad, _, rfl, hsp, fun j u hu => ?_, (hx i y hy).monoT hT⟩
  rw [seg_get] at hu
  split at hu
  ·rename_i hj
   refine ⟨by rw [cell_of hh, ← Array.getElem?_toList, ← hu], ?_⟩
   refine hsh b (by simp) ee t g' sh L hm ad cap hp _ (by omega) ?_
   have : (i + 1) * t.size ≤ L.length * t.size := Nat.mul_le_mul_right _ hil
   rw [Nat.add_mul] at this
   omega
  ·cases hu
theorem unflat_rel (hs : SRel C) : ∀ {t : Ty} {cs : List AV} {vs : List Value} {x : t.den} {rest : List AV} {ms : List Nat}, unflat C.m t cs = some (x, rest, ms) → VRelL C cs vs →
  ∃ v1 v2, vs = v1 ++ v2 ∧ VRelL C rest v2 ∧ v1.length = t.size ∧ cs.length = t.size + rest.length ∧
   ∀ T' : Nat → Nat → Prop, (∀ k o, T' k o → C.T k o) → Shut C ms T' → Rep C.w T' t x v1
 | .unit, cs, vs, x, rest, ms, h, hv => by
  simp only [unflat, Option.some.injEq, Prod.mk.injEq] at h
  obtain ⟨_, rfl, _⟩ := h
  exact ⟨[], vs, rfl, hv, rfl, by simp [Ty.size], fun _ _ _ => by simp [Rep]⟩
 | .pair a b, cs, vs, x, rest, ms, h, hv => by
  simp only [unflat] at h
  split at h
  ·rename_i x1 r1 m1 h1
   split at h
   ·rename_i y1 r2 m2 h2
    simp only [Option.some.injEq, Prod.mk.injEq] at h
    obtain ⟨rfl, rfl, rfl⟩ := h
    obtain ⟨v1, v2, rfl, hr, hl, hc, hR⟩ := unflat_rel hs h1 hv
    obtain ⟨v3, v4, rfl, hr', hl', hc', hR'⟩ := unflat_rel hs h2 hr
    refine ⟨v1 ++ v3, v4, by simp, hr', by simp [Ty.size, hl, hl'], by simp [Ty.size]; omega, fun T' hT hS => ⟨v1, v3, rfl, hR T' hT hS.left, hR' T' hT hS.right⟩⟩
   ·cases h
  ·cases h
 | .bool, cs, vs, x, rest, ms, h, hv => by
  simp only [unflat] at h
  split at h
  ·simp only [Option.some.injEq, Prod.mk.injEq] at h
   obtain ⟨rfl, rfl, rfl⟩ := h
   obtain ⟨v, r, rfl, h1, h2⟩ := hv
   exact ⟨[v], r, rfl, h2, rfl, by simp [Ty.size]; omega, fun _ _ _ => by simp only [VRel] at h1; simp [Rep, h1]⟩
  ·cases h
 | .int k, cs, vs, x, rest, ms, h, hv => by
  simp only [unflat] at h
  split at h
  ·split at h
   ·rename_i e
    subst e
    simp only [Option.some.injEq, Prod.mk.injEq] at h
    obtain ⟨rfl, rfl, rfl⟩ := h
    obtain ⟨v, r, rfl, h1, h2⟩ := hv
    exact ⟨[v], r, rfl, h2, rfl, by simp [Ty.size]; omega, fun _ _ _ => by simp only [VRel] at h1; simp [Rep, h1]⟩
   ·cases h
  ·cases h
 | .flt k, cs, vs, x, rest, ms, h, hv => by
  simp only [unflat] at h
  split at h
  ·split at h
   ·rename_i e
    subst e
    simp only [Option.some.injEq, Prod.mk.injEq] at h
    obtain ⟨rfl, rfl, rfl⟩ := h
    obtain ⟨v, r, rfl, h1, h2⟩ := hv
    exact ⟨[v], r, rfl, h2, rfl, by simp [Ty.size]; omega, fun _ _ _ => by simp only [VRel] at h1; simp [Rep, h1]⟩
   ·cases h
  ·cases h
 | .str, cs, vs, x, rest, ms, h, hv => by
  simp only [unflat] at h
  split at h
  ·simp only [Option.some.injEq, Prod.mk.injEq] at h
   obtain ⟨rfl, rfl, rfl⟩ := h
   obtain ⟨v, r, rfl, h1, h2⟩ := hv
   exact ⟨[v], r, rfl, h2, rfl, by simp [Ty.size]; omega, fun _ _ _ => by simp only [VRel] at h1; simp [Rep, h1]⟩
  ·cases h
 | .slice e, cs, vs, x, rest, ms, h, hv => by
  simp only [unflat] at h
  split at h
  ·split at h
   ·rename_i L' hc
    obtain ⟨rfl, rfl⟩ := castL_some hc
    simp only [Option.some.injEq, Prod.mk.injEq] at h
    obtain ⟨rfl, rfl, rfl⟩ := h
    obtain ⟨v, r, rfl, h1, h2⟩ := hv
    exact ⟨[v], r, rfl, h2, rfl, by simp [Ty.size]; omega, fun T' hT _ => Rep.monoT hT h1⟩
   ·cases h
  ·split at h
   ·rename_i L' hc
    obtain ⟨rfl, rfl⟩ := castL_some hc
    simp only [Option.some.injEq, Prod.mk.injEq] at h
    obtain ⟨rfl, rfl, rfl⟩ := h
    obtain ⟨v, r, rfl, ⟨_, _, h1⟩, h2⟩ := hv
    exact ⟨[v], r, rfl, h2, rfl, by simp [Ty.size]; omega, fun T' hT _ => Rep.monoT hT h1⟩
   ·cases h
  ·split at h
   ·rename_i e' g' sh L hm
    split at h
    ·rename_i hg
     split at h
     ·rename_i L' hc
      obtain ⟨rfl, rfl⟩ := castL_some hc
      simp only [Option.some.injEq, Prod.mk.injEq] at h
      obtain ⟨rfl, rfl, rfl⟩ := h
      obtain ⟨v, r, rfl, h1, h2⟩ := hv
      exact ⟨[v], r, rfl, h2, rfl, by simp [Ty.size]; omega, fun T' hT hS => own_rep hs h1 hm (beq_eq hg) hT hS⟩
     ·cases h
    ·cases h
   ·cases h
  ·simp only [Option.some.injEq, Prod.mk.injEq] at h
   obtain ⟨rfl, rfl, rfl⟩ := h
   obtain ⟨v, r, rfl, h1, h2⟩ := hv
   simp only [VRel] at h1
   subst h1
   exact ⟨[_], r, rfl, h2, rfl, by simp [Ty.size]; omega, fun T' hT _ => ⟨none, 0, rfl, Nat.le_refl _, fun i x hx => by cases hx⟩⟩
  ·cases h
 | .ptr e, cs, vs, x, rest, ms, h, hv => by
  simp only [unflat] at h
  split at h
  ·simp only [Option.some.injEq, Prod.mk.injEq] at h
   obtain ⟨rfl, rfl, rfl⟩ := h
   obtain ⟨v, r, rfl, h1, h2⟩ := hv
   exact ⟨[v], r, rfl, h2, rfl, by simp [Ty.size]; omega, fun T' hT _ => by simp only [VRel] at h1; simp [Rep, h1]⟩
  ·split at h
   ·rename_i x' hc
    obtain ⟨rfl, rfl⟩ := castTo_some hc
    simp only [Option.some.injEq, Prod.mk.injEq] at h
    obtain ⟨rfl, rfl, rfl⟩ := h
    obtain ⟨v, r, rfl, h1, h2⟩ := hv
    refine ⟨[v], r, rfl, h2, rfl, by simp [Ty.size]; omega, fun T' hT _ => ?_⟩
    obtain ⟨k, o, cs', rfl, hi, hr⟩ := h1
    exact ⟨k, o, cs', rfl, fun j u hu => ⟨(hi j u hu).1, fun hh => (hi j u hu).2 (hT _ _ hh)⟩, hr.monoT hT⟩
   ·cases h
  ·cases h
end Go.Sx
namespace Go.Sx
open Go
variable {P : Program} {E : Env} {C : Ctx}
theorem shut_nil (T' : Nat → Nat → Prop) : Shut C [] T' := fun b hb => by cases hb
theorem listOf_rel (hs : SRel C) {t : Ty} : ∀ {n : Nat} {cs : List AV} {vs : List Value} {L : List t.den} {ms : List Nat}, listOfCells C.m t n cs = some (L, ms) → VRelL C cs vs →
  L.length = n ∧ vs.length = n * t.size ∧ ∀ T' : Nat → Nat → Prop, (∀ k o, T' k o → C.T k o) → Shut C ms T' → ∀ i x, L[i]? = some x → Rep C.w T' t x (seg vs (i * t.size) t.size)
 | 0, cs, vs, L, ms, h, hv => by
  cases cs with
  | nil =>
   simp only [listOfCells, Option.some.injEq, Prod.mk.injEq] at h
   obtain ⟨rfl, rfl⟩ := h
   simp only [VRelL] at hv
   subst hv
   exact ⟨rfl, by simp, fun _ _ _ i x hx => by simp at hx⟩
  | cons a as => simp [listOfCells] at h
 | n + 1, cs, vs, L, ms, h, hv => by
  simp only [listOfCells] at h
  split at h
  ·rename_i x r m hu
   split at h
   ·rename_i l m' hl
    simp only [Option.some.injEq, Prod.mk.injEq] at h
    obtain ⟨rfl, rfl⟩ := h
    obtain ⟨v1, v2, rfl, hr, hlen, _, hR⟩ := unflat_rel hs hu hv
    obtain ⟨h1, h2, h3⟩ := listOf_rel hs hl hr
    refine ⟨by simp [h1], by simp [hlen, h2, Nat.add_mul]; omega, fun T' hT hS i y hy => ?_⟩
    cases i with
    | zero =>
     simp only [List.getElem?_cons_zero, Option.some.injEq] at hy
     subst hy
     have : seg (v1 ++ v2) (0 * t.size) t.size = v1 := by simp [seg, ← hlen]
     rw [this]
     exact hR T' hT hS.left
    | succ i =>
     have := h3 T' hT hS.right i y (by simpa using hy)
     have e : seg (v1 ++ v2) ((i + 1) * t.size) t.size = seg v2 (i * t.size) t.size := by
      rw [Nat.add_mul, Nat.one_mul]
      unfold seg
      rw [List.drop_append, List.drop_eq_nil_of_le (by omega)]
      simp only [List.nil_append]
      congr 2
      omega
     rw [e]
     exact this
   ·cases h
  ·cases h
theorem unflat_nil {get : Get} (hg : ∀ b, get b = none) : ∀ {t : Ty} {cs : List AV} {x : t.den} {rest : List AV} {ms : List Nat}, unflat get t cs = some (x, rest, ms) → ms = [] ∧ ∀ get', unflat get' t cs = some (x, rest, [])
 | .unit, cs, x, rest, ms, h => by
  simp only [unflat, Option.some.injEq, Prod.mk.injEq] at h
  obtain ⟨_, rfl, rfl⟩ := h
  exact ⟨rfl, fun _ => rfl⟩
 | .pair a b, cs, x, rest, ms, h => by
  simp only [unflat] at h
  split at h
  ·rename_i x1 r1 m1 h1
   split at h
   ·rename_i y1 r2 m2 h2
    simp only [Option.some.injEq, Prod.mk.injEq] at h
    obtain ⟨rfl, rfl, rfl⟩ := h
    obtain ⟨rfl, e1⟩ := unflat_nil hg h1
    obtain ⟨rfl, e2⟩ := unflat_nil hg h2
    exact ⟨rfl, fun g => by simp [unflat, e1, e2]⟩
   ·cases h
  ·cases h
 | .bool, cs, x, rest, ms, h => by
  simp only [unflat] at h
  split at h
  ·simp only [Option.some.injEq, Prod.mk.injEq] at h
   obtain ⟨rfl, rfl, rfl⟩ := h
   exact ⟨rfl, fun _ => by simp [unflat]⟩
  ·cases h
 | .int k, cs, x, rest, ms, h => by
  simp only [unflat] at h
  split at h
  ·split at h
   ·rename_i e
    subst e
    simp only [Option.some.injEq, Prod.mk.injEq] at h
    obtain ⟨rfl, rfl, rfl⟩ := h
    exact ⟨rfl, fun _ => by simp [unflat]⟩
   ·cases h
  ·cases h
 | .flt k, cs, x, rest, ms, h => by
  simp only [unflat] at h
  split at h
  ·split at h
   ·rename_i e
    subst e
    simp only [Option.some.injEq, Prod.mk.injEq] at h
    obtain ⟨rfl, rfl, rfl⟩ := h
    exact ⟨rfl, fun _ => by simp [unflat]⟩
   ·cases h
  ·cases h
 | .str, cs, x, rest, ms, h => by
  simp only [unflat] at h
  split at h
  ·simp only [Option.some.injEq, Prod.mk.injEq] at h
   obtain ⟨rfl, rfl, rfl⟩ := h
   exact ⟨rfl, fun _ => by simp [unflat]⟩
  ·cases h
 | .slice e, cs, x, rest, ms, h => by
  simp only [unflat] at h
  split at h
  ·split at h
   ·rename_i hc
    simp only [Option.some.injEq, Prod.mk.injEq] at h
    obtain ⟨rfl, rfl, rfl⟩ := h
    exact ⟨rfl, fun _ => by simp [unflat, hc]⟩
   ·cases h
  ·split at h
   ·rename_i hc
    simp only [Option.some.injEq, Prod.mk.injEq] at h
    obtain ⟨rfl, rfl, rfl⟩ := h
    exact ⟨rfl, fun _ => by simp [unflat, hc]⟩
   ·cases h
  ·rw [hg] at h
   simp at h
  ·simp only [Option.some.injEq, Prod.mk.injEq] at h
   obtain ⟨rfl, rfl, rfl⟩ := h
   exact ⟨rfl, fun _ => by simp [unflat]⟩
  ·cases h
 | .ptr e, cs, x, rest, ms, h => by
  simp only [unflat] at h
  split at h
  ·simp only [Option.some.injEq, Prod.mk.injEq] at h
   obtain ⟨rfl, rfl, rfl⟩ := h
   exact ⟨rfl, fun _ => by simp [unflat]⟩
  ·split at h
   ·rename_i hc
    simp only [Option.some.injEq, Prod.mk.injEq] at h
    obtain ⟨rfl, rfl, rfl⟩ := h
    exact ⟨rfl, fun _ => by simp [unflat, hc]⟩
   ·cases h
  ·cases h
theorem listOf_nil {get : Get} (hg : ∀ b, get b = none) {t : Ty} : ∀ {n : Nat} {cs : List AV} {L : List t.den} {ms : List Nat}, listOfCells get t n cs = some (L, ms) → ms = [] ∧ ∀ get', listOfCells get' t n cs = some (L, [])
 | 0, cs, L, ms, h => by
  cases cs with
  | nil =>
   simp only [listOfCells, Option.some.injEq, Prod.mk.injEq] at h
   obtain ⟨rfl, rfl⟩ := h
   exact ⟨rfl, fun _ => rfl⟩
  | cons a as => simp [listOfCells] at h
 | n + 1, cs, L, ms, h => by
  simp only [listOfCells] at h
  split at h
  ·rename_i x r m hu
   split at h
   ·rename_i l m' hl
    simp only [Option.some.injEq, Prod.mk.injEq] at h
    obtain ⟨rfl, rfl⟩ := h
    obtain ⟨rfl, e1⟩ := unflat_nil hg hu
    obtain ⟨rfl, e2⟩ := listOf_nil hg hl
    exact ⟨rfl, fun g => by simp [listOfCells, e1, e2]⟩
   ·cases h
  ·cases h
section
variable {ρ : Operand → Value} {lk : Look} {o : Oper} {r : OpR} {id : Nat}
theorem bytes_get (l : List UInt8) (n : Nat) : (ByteArray.mk ⟨l⟩)[n]? = l[n]? := by
 by_cases h : n < l.length
 ·have h' : n < (ByteArray.mk ⟨l⟩).size := h
  rw [List.getElem?_eq_getElem h, getElem?_pos (ByteArray.mk ⟨l⟩) n h']
  rfl
 ·have h' : ¬ n < (ByteArray.mk ⟨l⟩).size := h
  rw [List.getElem?_eq_none (by omega), getElem?_neg (ByteArray.mk ⟨l⟩) n h']
theorem goodR_index (hE : EnvOK E P) (hs : SRel C) (hρ : ∀ x, VRel C (evalO lk x) (ρ x)) {t : TypeId} {x i : Operand} (ho : o.op = .index t x i)
  (h : (opA E lk C.m id (.index t x i)).run = some r) : GoodR P C ρ o r := by
 simp only [opA, indexA] at h
 have hx := hρ x
 have hi := hρ i
 split at h
 ·rename_i k n hin
  rw [hin] at hi
  simp only [VRel] at hi
  split at h
  ·rename_i s hsx
   rw [hsx] at hx
   simp only [VRel] at hx
   split at h
   ·rename_i ti hti
    obtain ⟨_, _, _, hT⟩ := hE.T hti
    split at h
    ·rename_i htd
     obtain ⟨hn, h⟩ := run_brT h
     rw [run_pureV h]
     obtain ⟨h0, h1⟩ := inI_ok hn
     have hlt : n.toNat < s.length := by omega
     refine Good.pure hs (v := .int .u8 (s.getD n.toNat 0).toNat) ?_ (by simp [VRel])
     have e := td_str hT htd
     simp only [execOp, ho, Instr.index, hi, hx, asIntOf, Sem.run_bind, Sem.run_pure, Result.andThen_ok, run_underlyingS hT.und, e, h0, if_true, bytes_get, getD_of hlt 0]
    ·exact (run_fail h).elim
   ·exact (run_fail h).elim
  ·rename_i cs hcs
   rw [hcs] at hx
   obtain ⟨vs, hv, hl⟩ := hx
   split at h
   ·rename_i ti hti
    obtain ⟨_, _, _, hT⟩ := hE.T hti
    split at h
    ·rename_i len e htd
     split at h
     ·rename_i te hte
      obtain ⟨_, _, _, hT'⟩ := hE.T hte
      split at h
      ·rename_i ty hty
       split at h
       ·rename_i L ms hsz hL
        obtain ⟨hn, h⟩ := run_brT h
        obtain ⟨av, hav, rfl⟩ := run_ofO h
        obtain ⟨h0, h1⟩ := inI_ok hn
        obtain ⟨rfl, hL'⟩ := listOf_nil (fun _ => rfl) hL
        obtain ⟨hlen, hvl, hR⟩ := listOf_rel hs (hL' C.m) hl
        have hlt : n.toNat < L.length := by omega
        have hrep := hR C.T (fun _ _ h => h) (shut_nil _) _ _ (getD_of hlt ty.dflt)
        have hsz := beq_eq hsz
        obtain ⟨u, hu, hrel⟩ := mkVal_rel (flat_rel hrep) hav
        refine Good.pure hs (v := u) ?_ hrel
        have e' := td_array hT htd
        have hp := part_run hT' vs.toList (n.toNat * te.size) (v := u) (by rw [← hsz]; rcases hu with ⟨h1, h2⟩ | ⟨h1, h2⟩; exact .inl ⟨h1, h2⟩; exact .inr ⟨h1, h2⟩) C.w
        simp only [Array.toArray_toList] at hp
        have hc : 0 ≤ n ∧ n < (len : Int) := ⟨h0, h1⟩
        simp only [execOp, ho, Instr.index, hi, hv, asIntOf, Sem.run_bind, Sem.run_pure, Result.andThen_ok, run_underlyingS hT.und, e', hc, and_self, if_true, run_sizeOfS hT'.info, hT'.size, hp]
       ·exact (run_fail h).elim
      ·exact (run_fail h).elim
     ·exact (run_fail h).elim
    ·exact (run_fail h).elim
   ·exact (run_fail h).elim
  ·exact (run_fail h).elim
 ·exact (run_fail h).elim
theorem goodR_len (hE : EnvOK E P) (hs : SRel C) (hρ : ∀ x, VRel C (evalO lk x) (ρ x)) {a : Operand} {t : TypeId} {av : AV} {n : Nat} {as : Array Operand} {ts : Array TypeId}
  (ho : o.op = .call { callee := .builtin .len, args := as, argTypes := ts }) (ha : as.toList = [a]) (ht : ts.toList = [t])
  {ti : TI} (hti : E.T t = some ti) (hc : (ti.td = .str ∧ ∃ s, evalO lk a = .str s ∧ n = s.length) ∨ (∃ e, ti.td = .slice e ∧ ((evalO lk a = .nils ∧ n = 0) ∨ ∃ t L m, sliceOf C.m (evalO lk a) = some (.mk t L m) ∧ n = L.length))) :
  Good P C ρ o (.int .i64 n) C.m := by
 have hx := hρ a
 obtain ⟨i, d, z, hT⟩ := hE.T hti
 have has : as = #[a] := by apply Array.ext'; simpa using ha
 have hts : ts = #[t] := by apply Array.ext'; simpa using ht
 subst has hts
 refine Good.pure hs (v := .int .i64 n) ?_ (by simp [VRel])
 rcases hc with ⟨htd, s, hsv, rfl⟩ | ⟨e, htd, hc⟩
 ·rw [hsv] at hx
  simp only [VRel] at hx
  have e := td_str hT htd
  simp [execOp, ho, resolve, hx, invoke, builtin, Builtin.len_, run_underlyingS hT.und, e, goInt]
  rfl
 ·have e' := td_slice hT htd
  rcases hc with ⟨hn, rfl⟩ | ⟨t', L, m, hL, rfl⟩
  ·rw [hn] at hx
   simp only [VRel] at hx
   simp [execOp, ho, resolve, hx, invoke, builtin, Builtin.len_, run_underlyingS hT.und, e', goInt]
  ·obtain ⟨ad, cap, hv, _⟩ := sliceOf_rel hs hx hL
   simp [execOp, ho, resolve, hv, invoke, builtin, Builtin.len_, run_underlyingS hT.und, e', goInt]
theorem goodR_max (hs : SRel C) (hρ : ∀ x, VRel C (evalO lk x) (ρ x)) {a b : Operand} {as : Array Operand} {ts : Array TypeId}
  (ho : o.op = .call { callee := .builtin .max, args := as, argTypes := ts }) (ha : as.toList = [a, b]) {k : IntKind} {x y : Int} (hx : evalO lk a = .int k x) (hy : evalO lk b = .int k y) :
  Good P C ρ o (.int k (bif decide (x < y) then y else x)) C.m := by
 have h1 := hρ a
 have h2 := hρ b
 rw [hx] at h1
 rw [hy] at h2
 simp only [VRel] at h1 h2
 have has : as = #[a, b] := by apply Array.ext'; simpa using ha
 subst has
 refine Good.pure hs (v := .int k (bif decide (x < y) then y else x)) ?_ (by simp [VRel])
 simp only [execOp, ho, resolve, invoke, builtin, Builtin.max_, Sem.run_bind, Sem.run_pure, Result.andThen_ok]
 simp only [List.map_toArray, List.map_cons, List.map_nil, h1, h2, List.foldlM, Builtin.max2, Sem.run_bind, Sem.run_pure, Result.andThen_ok]
 congr 3
 by_cases hlt : x < y <;> simp [hlt]
end
end Go.Sx
namespace Go.Sx
open Go
variable {P : Program} {E : Env} {C : Ctx}
theorem push_ok (hs : SRel C) {id : Nat} (hid : C.m id = none) {b' : Blk} {g' : G} {o : Obj} {w' : World}
  (hw : w'.heap = C.w.heap.push o) (hlies : ∀ k, liesB g' k → k = C.w.heap.size) (hos : w'.os = C.w.os) (htape : w'.tape = C.w.tape) (hout : w'.output = C.w.output) :
  let C' : Ctx := ⟨w', updF C.m id (some b'), updF C.φ id g', C.fr, C.gl⟩
  Ext C C' ∧ (BlkOK C' g' b' → SRel C') := by
 refine upd_ok hs (by rw [hw]; simp) ?_ ?_ ?_ ?_ ?_ ?_ hos htape hout
 ·intro k hk _
  rw [hw, Array.getElem?_push, if_neg (by omega)]
 ·intro k hk; exact .inr (by rw [hlies k hk]; exact Nat.le_refl _)
 ·intro k o' hk; exact .inr (by rw [hlies k (ownsB_lies hk)]; exact Nat.le_refl _)
 ·intro _ cs h; rw [hid] at h; cases h
 ·intro ee t g sh L h; rw [hid] at h; cases h
 ·intro k o' v hv _
  have hk : k < C.w.heap.size := by
   unfold World.cell? at hv
   split at hv
   ·rename_i hh; exact (Array.getElem?_eq_some_iff.1 hh).1
   ·cases hv
  unfold World.cell? at hv ⊢
  rw [hw, Array.getElem?_push, if_neg (show ¬ k = C.w.heap.size by omega)]
  exact hv
theorem same_ok (hs : SRel C) {id : Nat} {b' : Blk} {g' : G}
  (hlies : ∀ k, liesB g' k → (∃ b, C.m id = some b ∧ liesB (C.φ id) k))
  (hown : ∀ k o, ownsB g' b' k o → (∃ b, C.m id = some b ∧ ownsB (C.φ id) b k o))
  (hkc : ∀ ty cs, C.m id = some (.cells ty cs) → g' = C.φ id ∧ ∃ cs', b' = .cells ty cs')
  (hkl : ∀ ee t g sh L, C.m id = some (.list ee t g sh L) → ∃ g2 sh2 L2, b' = .list ee t g2 sh2 L2 ∧ g ≤ g2 ∧ (g = g2 → g' = C.φ id ∧ L2.length = L.length)) :
  let C' : Ctx := ⟨C.w, updF C.m id (some b'), updF C.φ id g', C.fr, C.gl⟩
  Ext C C' ∧ (BlkOK C' g' b' → SRel C') :=
 upd_ok hs (Nat.le_refl _) (fun _ _ _ => rfl) (fun k hk => .inl (hlies k hk)) (fun k o hk => .inl (hown k o hk)) hkc hkl (fun _ _ _ hv _ => hv) rfl rfl rfl
theorem updM_eq (m : Get) (i : Nat) (b : Blk) : updM m i b = updF m i (some b) := rfl
section
variable {ρ : Operand → Value} {lk : Look} {o : Oper} {r : OpR} {id : Nat}
theorem consts_rel (C : Ctx) : ∀ (vs : List Value), VRelL C (vs.map constAV) vs
 | [] => by simp [VRelL]
 | v :: r => ⟨v, r, rfl, constAV_rel v, consts_rel C r⟩
theorem good_newVar (hs : SRel C) (hid : C.m id = none) {cs : List AV} {vs : Array Value} {t : TypeId} (hrel : VRelL C cs vs.toList) (hleaf : cs.all AV.leaf = true)
  (hrun : (execOp ρ o).run P C.w = .ok (.value (.pointer (some ⟨C.w.heap.size, 0, none⟩))) { C.w with heap := C.w.heap.push (.cells vs t) }) :
  Good P C ρ o (.ref id 0) (applyM C.m [(id, .cells t cs)]) := by
 obtain ⟨hE, hok⟩ := push_ok hs hid (b' := .cells t cs) (g' := .cells C.w.heap.size) (o := .cells vs t) (w' := { C.w with heap := C.w.heap.push (.cells vs t) }) rfl (fun k hk => hk) rfl rfl rfl
 refine ⟨_, _, .inl hrun, rfl, hok ?_, hE, ?_⟩
 ·exact ⟨C.w.heap.size, vs, rfl, by simp, hrel.mono hE, hleaf⟩
 ·exact ⟨C.w.heap.size, t, cs, by simp [updF], by simp [updF], rfl⟩
theorem goodR_alloc (hE : EnvOK E P) (hs : SRel C) (hid : C.m id = none) {t : TypeId} (ho : o.op = .alloc t)
  (h : (opA E lk C.m id (.alloc t)).run = some r) : GoodR P C ρ o r := by
 simp only [opA] at h
 split at h
 ·rename_i ti hti
  obtain ⟨i, d, z, hT⟩ := hE.T hti
  split at h
  ·rename_i hl
   rw [run_leaf h]
   refine good_newVar hs hid (cs := ti.zero) (vs := z.cells) (t := t) (by rw [hT.zeros]; exact consts_rel C _) hl ?_
   simp [execOp, ho, Instr.alloc, run_zeroValueS hT.info hT.zero, newVar, newRow]
  ·exact (run_fail h).elim
 ·exact (run_fail h).elim
theorem leaf_cells {x : AV} {v : Value} (h : VRel C x v) (hl : x.cells.all AV.leaf = true) : VRelL C x.cells v.cells.toList ∧ v.cells.size = x.cells.length := by
 cases x with
 | agg cs =>
  obtain ⟨vs, rfl, hr⟩ := h
  exact ⟨hr, by simpa [AV.cells, Value.cells] using hr.len.symm⟩
 | undef => simp [AV.cells, AV.leaf] at hl
 | tup vs => simp [AV.cells, AV.leaf] at hl
 | _ =>
  have : v.cells = #[v] := by
   simp only [VRel] at h
   first
    | (subst h; rfl)
    | (obtain ⟨_, _, _, _, _, rfl | rfl⟩ := h <;> rfl)
    | (obtain ⟨_, _, _, _, _, rfl⟩ := h; rfl)
    | (obtain ⟨_, _, _, rfl, _⟩ := h; rfl)
    | (obtain ⟨_, rfl, _⟩ := h; rfl)
    | (obtain ⟨_, _, hv, _⟩ := h; simp only [List.cons.injEq, and_true] at hv; subst hv; rfl)
    | (obtain ⟨_, _, _, _, _, _, _, _, _, rfl, _⟩ := h; rfl)
    | (obtain ⟨_, _, _, _, _, _, _, _, _, _, rfl, _⟩ := h; rfl)
  rw [this]
  exact ⟨⟨v, [], rfl, h, by simp [VRelL]⟩, by simp [AV.cells]⟩
end
end Go.Sx
namespace Go.Sx
open Go
variable {P : Program} {E : Env} {C : Ctx}
theorem fold_splice (off : Nat) : ∀ (l : List Value) (j : Nat) (cs : Array Value), off + j + l.length ≤ cs.size →
  ((l.zipIdx j).foldl (fun cs (x : Value × Nat) => cs.setIfInBounds (off + x.2) x.1) cs).toList = cs.toList.take (off + j) ++ l ++ cs.toList.drop (off + j + l.length)
 | [], j, cs, h => by simp
 | v :: l, j, cs, h => by
  simp only [List.length_cons] at h
  simp only [List.zipIdx_cons, List.foldl_cons]
  rw [fold_splice off l (j + 1) _ (by simp; omega)]
  have hlt : off + j < cs.toList.length := by simp; omega
  simp only [Array.toList_setIfInBounds]
  rw [show off + (j + 1) = off + j + 1 by omega]
  rw [List.take_set, List.drop_set_of_lt (by omega)]
  rw [List.take_succ_eq_append_getElem hlt]
  simp only [List.length_cons]
  rw [show off + j + 1 + l.length = off + j + (l.length + 1) by omega]
  have hm : min (off + j) cs.toList.length = off + j := Nat.min_eq_left (Nat.le_of_lt hlt)
  have hs : (cs.toList.take (off + j) ++ [cs.toList[off + j]]).set (off + j) v = cs.toList.take (off + j) ++ [v] := by
   rw [List.set_append, if_neg (by rw [List.length_take, hm]; omega), List.length_take, hm, Nat.sub_self]
   rfl
  rw [hs]
  simp
theorem fill_step {place : Nat → Option (Nat × Nat)} {cells : Array Value} {i off size : Nat} {v : Value} {rest : List (Nat × Value)} (hp : place i = some (off, size)) (hv : v.cells.size = size) (hl : off + size ≤ cells.size) :
  ∃ cells', Instr.fill place cells ((i, v) :: rest) = Instr.fill place cells' rest ∧ cells'.toList = cells.toList.take off ++ v.cells.toList ++ cells.toList.drop (off + size) ∧ cells'.size = cells.size := by
 have hc : (v.cells.size ≠ size || decide (off + v.cells.size > cells.size)) = false := by simp [hv]; omega
 refine ⟨v.cells.zipIdx.foldl (fun cs x => cs.setIfInBounds (off + x.2) x.1) cells, ?_, ?_, ?_⟩
 ·simp only [Instr.fill, hp]
  rw [if_neg (by simpa using hc)]
 ·rw [← Array.foldl_toList, Array.toList_zipIdx]
  rw [fold_splice off v.cells.toList 0 cells (by simp; omega)]
  simp [hv]
 ·have h1 : (v.cells.zipIdx.foldl (fun cs x => cs.setIfInBounds (off + x.2) x.1) cells).toList.length = cells.toList.length := by
   rw [← Array.foldl_toList, Array.toList_zipIdx, fold_splice off v.cells.toList 0 cells (by simp; omega)]
   simp [hv]; omega
  simpa using h1
theorem gather_rel {ρ : Operand → Value} {lk : Look} (hρ : ∀ x, VRel C (evalO lk x) (ρ x)) {place : Nat → Option (Nat × Nat)} : ∀ (fs : List Fld) (i off : Nat) (ps : List (Nat × Operand)) (z r : List AV) (cells : Array Value),
  gather lk i fs ps z = some r → (∀ k f, fs[k]? = some f → place (i + k) = some (f.off, f.size)) → contig off fs cells.size = true → off ≤ cells.size → VRelL C z (cells.toList.drop off) →
  ∃ cells', Instr.fill place cells (ps.map fun p => (p.1, ρ p.2)) = some cells' ∧ cells'.size = cells.size ∧ cells'.toList.take off = cells.toList.take off ∧ VRelL C r (cells'.toList.drop off)
 | [], i, off, ps, z, r, cells, hg, hp, hc, hle, hz => by
  cases ps with
  | cons a as => simp [gather] at hg
  | nil =>
   simp only [gather, Option.some.injEq] at hg
   subst hg
   refine ⟨cells, rfl, rfl, rfl, ?_⟩
   have := beq_eq hc
   rw [List.drop_eq_nil_of_le (by simp; omega)]
   simp [VRelL]
 | f :: fs, i, off, ps, z, r, cells, hg, hp, hc, hle, hz => by
  simp only [contig] at hc
  split at hc
  ·rename_i hoff
   have hoff := beq_eq hoff
   have hp' : ∀ k g, fs[k]? = some g → place (i + 1 + k) = some (g.off, g.size) := fun k g hk => by
    have := hp (k + 1) g (by simpa using hk)
    rwa [show i + (k + 1) = i + 1 + k by omega] at this
   have hle2 : ∀ {a : Nat} {l : List Fld} {n : Nat}, contig a l n = true → a ≤ n := by
    intro a l
    induction l generalizing a with
    | nil => intro n h; exact Nat.le_of_eq (beq_eq h)
    | cons g l ih =>
     intro n h
     simp only [contig] at h
     split at h
     ·have := ih h; omega
     ·cases h
   have hle3 := hle2 hc
   have zd : VRelL C (z.drop f.size) (cells.toList.drop (off + f.size)) := by
    have := hz.drop (n := f.size)
    rwa [List.drop_drop] at this
   have keep : ∀ {ps : List (Nat × Operand)} {r' : List AV}, gather lk (i + 1) fs ps (z.drop f.size) = some r' → r = z.take f.size ++ r' →
     ∃ cells', Instr.fill place cells (ps.map fun p => (p.1, ρ p.2)) = some cells' ∧ cells'.size = cells.size ∧ cells'.toList.take off = cells.toList.take off ∧ VRelL C r (cells'.toList.drop off) := by
    intro ps r' hg' hr
    obtain ⟨cells', h1, h2, h3, h4⟩ := gather_rel hρ fs (i + 1) (off + f.size) ps _ r' cells hg' hp' hc hle3 zd
    refine ⟨cells', h1, h2, ?_, ?_⟩
    ·have := congrArg (List.take off) h3
     simpa [List.take_take] using this
    ·have e : cells'.toList.drop off = (cells.toList.drop off).take f.size ++ cells'.toList.drop (off + f.size) := by
      have h5 : (cells'.toList.drop off).take f.size = (cells.toList.drop off).take f.size := by
       have := congrArg (List.drop off) h3
       rw [List.drop_take, List.drop_take] at this
       simpa using this
      rw [← h5, ← List.drop_drop, List.take_append_drop]
     rw [e, hr]
     exact (hz.take).append h4
   cases ps with
   | nil =>
    simp only [gather] at hg
    split at hg
    ·rename_i r' hr'
     simp only [Option.some.injEq] at hg
     exact keep hr' hg.symm
    ·cases hg
   | cons p ps =>
    obtain ⟨j, x⟩ := p
    simp only [gather] at hg
    split at hg
    ·rename_i hij
     have hij := beq_eq hij
     subst hij
     split at hg
     ·rename_i hvs
      simp only [Bool.and_eq_true] at hvs
      obtain ⟨hlen, hleaf⟩ := hvs
      have hlen := beq_eq hlen
      split at hg
      ·rename_i r' hr'
       simp only [Option.some.injEq] at hg
       obtain ⟨hrel, hsz⟩ := leaf_cells (hρ x) hleaf
       obtain ⟨cells1, e1, e2, e3⟩ := fill_step (rest := ps.map fun p => (p.1, ρ p.2)) (hp 0 f (by simp)) (show (ρ x).cells.size = f.size by rw [hsz, hlen]) (by rw [hoff]; exact hle3)
       rw [hoff] at e2
       have hvl : (ρ x).cells.toList.length = f.size := by simp [hsz, hlen]
       have hofl : (cells.toList.take off).length = off := by simp; omega
       have d1 : cells1.toList.drop (off + f.size) = cells.toList.drop (off + f.size) := by
        rw [e2, List.drop_append, List.drop_eq_nil_of_le (by simp [hofl, hvl])]
        simp only [List.nil_append, List.length_append, hofl, hvl, Nat.sub_self, List.drop_zero]
       obtain ⟨cells', h1, h2, h3, h4⟩ := gather_rel hρ fs (i + 1) (off + f.size) ps _ r' cells1 hr' hp' (by rw [e3]; exact hc) (by rw [e3]; exact hle3) (by rw [d1]; exact zd)
       refine ⟨cells', ?_, by rw [h2, e3], ?_, ?_⟩
       ·simp only [List.map_cons, Nat.add_zero] at e1 ⊢
        rw [e1]
        exact h1
       ·have := congrArg (List.take off) h3
        simp only [List.take_take, Nat.min_eq_left (show off ≤ off + f.size by omega)] at this
        rw [this, e2, List.append_assoc, List.take_append, hofl, Nat.sub_self]
        simp [List.take_take]
       ·have e : cells'.toList.drop off = (ρ x).cells.toList ++ cells'.toList.drop (off + f.size) := by
         have h5 : (cells'.toList.drop off).take f.size = (ρ x).cells.toList := by
          have := congrArg (List.drop off) h3
          rw [List.drop_take, List.drop_take] at this
          simp only [Nat.add_sub_cancel_left] at this
          rw [this, e2, List.append_assoc, List.drop_append, List.drop_eq_nil_of_le (by omega)]
          simp [hofl, ← hvl]
         rw [← h5, ← List.drop_drop, List.take_append_drop]
        rw [e, ← hg]
        exact hrel.append h4
      ·cases hg
     ·cases hg
    ·split at hg
     ·rename_i r' hr'
      simp only [Option.some.injEq] at hg
      exact keep hr' hg.symm
     ·cases hg
  ·cases hc
end Go.Sx
