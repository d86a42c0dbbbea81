/- A part of the proof: see the row's text. -/
import Derived.Test.YtbpfdbbijfpjkaaDoorUxA
set_option linter.unusedVariables false
set_option linter.unusedSimpArgs false
namespace Go.Sx
open Go
variable {P : Program} {E : Env} {C : Ctx}

/-- what is appended: a row of cells, that are data, and may be read -/
structure Source (P : Program) (C : Ctx) (t : Ty) (X : List t.den) (x : Value) (vs : List Value) : Prop where
  len : vs.length = X.length * t.size
  lenOf : (Builtin.lenOf x).run P C.w = .ok X.length C.w
  read : ∀ w : World, (∀ k o v, C.w.cell? ⟨k, o, none⟩ = some v → w.cell? ⟨k, o, none⟩ = some v) → (Builtin.firstCells t.size X.length x).run P w = .ok vs.toArray w
  rep : ∀ i y, X[i]? = some y → Rep C.w C.T t y (seg vs (i * t.size) t.size)

theorem gather_cells {w : World} {T : Nat → Nat → Prop} {t : Ty} {k : Nat} : ∀ (X : List t.den) (o : Nat), (∀ i y, X[i]? = some y → ∃ cs, (∀ j u, cs[j]? = some u → w.cell? ⟨k, o + i * t.size + j, none⟩ = some u) ∧ Rep w T t y cs) →
    ∃ vs : List Value, vs.length = X.length * t.size ∧ (∀ j u, vs[j]? = some u → w.cell? ⟨k, o + j, none⟩ = some u) ∧ ∀ i y, X[i]? = some y → Rep w T t y (seg vs (i * t.size) t.size)
  | [], o, _ => ⟨[], by simp, fun j u h => by simp at h, fun i y h => by simp at h⟩
  | x :: X, o, h => by
    obtain ⟨cs, hc, hr⟩ := h 0 x (by simp)
    have hcl := hr.len
    obtain ⟨vs, h1, h2, h3⟩ := gather_cells X (o + t.size) fun i y hy => by
      obtain ⟨cs', hc', hr'⟩ := h (i + 1) y (by simpa using hy)
      refine ⟨cs', fun j u hu => ?_, hr'⟩
      have := hc' j u hu
      rw [Nat.add_mul, Nat.one_mul] at this
      rwa [show o + (i * t.size + t.size) + j = o + t.size + i * t.size + j by omega] at this
    refine ⟨cs ++ vs, by simp [hcl, h1, Nat.add_mul]; omega, fun j u hu => ?_, fun i y hy => ?_⟩
    · by_cases hj : j < cs.length
      · rw [List.getElem?_append_left hj] at hu
        have := hc j u hu
        simpa using this
      · rw [List.getElem?_append_right (by omega)] at hu
        have := h2 _ u hu
        rwa [show o + t.size + (j - cs.length) = o + j by omega] at this
    · cases i with
      | zero =>
        simp only [List.getElem?_cons_zero, Option.some.injEq] at hy
        subst hy
        have : seg (cs ++ vs) (0 * t.size) t.size = cs := by simp [seg, ← hcl]
        rw [this]
        exact hr
      | succ i =>
        have := h3 i y (by simpa using hy)
        have e : seg (cs ++ vs) ((i + 1) * t.size) t.size = seg vs (i * t.size) t.size := by
          rw [Nat.add_mul, Nat.one_mul]
          unfold seg
          rw [List.drop_append, List.drop_eq_nil_of_le (by omega), List.nil_append]
          congr 2
          omega
        rw [e]
        exact this

theorem run_firstCells_slice {ad : Addr} (hsp : ad.spot = none) {len cap size n : Nat} {vs : List Value} (hl : vs.length = n * size) {w : World} (hc : ∀ j v, vs[j]? = some v → w.cell? ⟨ad.block, ad.off + j, none⟩ = some v) :
    (Builtin.firstCells size n (.slice (some ad) len cap)).run P w = .ok vs.toArray w := by
  obtain ⟨k, o, sp⟩ := ad
  simp only at hsp
  subst hsp
  simp only [Builtin.firstCells]
  rw [← hl]
  exact run_loadCells_list w _ vs fun j v hj => by rw [addr_add]; exact hc j v hj

/-- a slice as a source -/
theorem source_slice (hs : SRel C) {x : AV} {v : Value} {t : Ty} {X : List t.den} {m : List Nat} (hv : VRel C x v) (h : sliceOf C.m x = some (.mk t X m)) : ∃ vs, Source P C t X v vs := by
  obtain ⟨a, cap, rfl, hc, hx⟩ := sliceOf_rel hs hv h
  cases X with
  | nil =>
    refine ⟨[], by simp, by simp [Builtin.lenOf], fun w _ => ?_, fun i y h => by simp at h⟩
    cases a with
    | none => simp [Builtin.firstCells]
    | some ad => simp [Builtin.firstCells, loadCells, loadCellsFrom]
  | cons y X =>
    obtain ⟨ad, _, rfl, hsp, _⟩ := hx 0 y (by simp)
    obtain ⟨vs, h1, h2, h3⟩ := gather_cells (w := C.w) (T := C.T) (k := ad.block) (y :: X) ad.off fun i z hz => by
      obtain ⟨ad', cs, e, _, hc, hr⟩ := hx i z hz
      cases e
      exact ⟨cs, hc, hr⟩
    exact ⟨vs, h1, by simp [Builtin.lenOf], fun w hw => run_firstCells_slice hsp h1 fun j v hj => hw _ _ _ (h2 j v hj), h3⟩

theorem source_str {s : List UInt8} {v : Value} (hv : VRel C (.str s) v) : Source P C (.int .u8) (s.map fun b => (b.toNat : Int)) v (s.map fun b => .int .u8 b.toNat) := by
  simp only [VRel] at hv
  subst hv
  have hsz : (ByteArray.mk ⟨s⟩).size = s.length := rfl
  obtain ⟨X, hX⟩ : ∃ X : List Int, X = s.map fun b => (b.toNat : Int) := ⟨_, rfl⟩
  have hl : X.length = s.length := by rw [hX]; simp
  have hg : ∀ (i : Nat) (y : Int), X[i]? = some y → ∃ b : UInt8, s[i]? = some b ∧ y = (b.toNat : Int) := by
    intro i y h
    rw [hX, List.getElem?_map, Option.map_eq_some_iff] at h
    obtain ⟨b, hb, rfl⟩ := h
    exact ⟨b, hb, rfl⟩
  have main : ∀ (X' : List (Ty.int .u8).den), X'.length = s.length → (∀ (i : Nat) (y : (Ty.int .u8).den), X'[i]? = some y → ∃ b : UInt8, s[i]? = some b ∧ y = (b.toNat : Int)) →
      Source P C (.int .u8) X' (.string ⟨⟨s⟩⟩) (s.map fun b => .int .u8 b.toNat) := by
    intro X' hl hg
    refine ⟨by simp [Ty.size, hl], by simp [Builtin.lenOf, hsz, hl], fun w _ => ?_, fun i y h => ?_⟩
    · simp only [Builtin.firstCells, Sem.run_pure, hl]
      congr 2
      have : (ByteArray.mk ⟨s⟩).extract 0 s.length = ⟨⟨s⟩⟩ := by
        apply WideShapes.bytes_inj
        simp [ByteArray.data_extract]
      rw [this]
      simp
    · simp only [Ty.size, Nat.mul_one]
      obtain ⟨b, hb, e⟩ := hg i y h
      have : seg (s.map fun b => Value.int .u8 b.toNat) i 1 = [.int .u8 b.toNat] := by
        apply List.ext_getElem?
        intro j
        rw [seg_get]
        cases j with
        | zero => simp [hb]
        | succ j => simp
      rw [this]
      show [Value.int .u8 b.toNat] = [Value.int .u8 y]
      rw [e]
  subst hX
  exact main _ hl hg

theorem Source.one {t : Ty} {X : List t.den} {x : Value} {vs : List Value} (h : Source P C t X x vs) (hz : 0 < t.size) : ∀ v ∈ vs, v.oneCell' = true := by
  intro v hv
  obtain ⟨j, hj, rfl⟩ := List.getElem_of_mem hv
  have hlen := h.len
  have hi : j / t.size < X.length := (Nat.div_lt_iff_lt_mul hz).2 (by omega)
  have hr := h.rep (j / t.size) X[j / t.size] (by simp [hi])
  refine leafs_one (flat_rel hr) (flat_leaf _ _) _ ?_
  have hm := Nat.div_add_mod j t.size
  have hml := Nat.mod_lt j hz
  have : (seg vs (j / t.size * t.size) t.size)[j % t.size]? = some vs[j] := by
    rw [seg_get, if_pos hml, Nat.mul_comm, hm]
    simp [hj]
  exact List.mem_of_getElem? this

end Go.Sx
namespace Go.Sx
open Go
variable {P : Program} {E : Env} {C : Ctx}

/-- the types of an append -/
structure AppTy (P : Program) (t t' e : TypeId) (ei : TypeInfo) (z : Value) (es : Nat) : Prop where
  st : P.underlying t = some (.slice e)
  xt : ∃ d, P.underlying t' = some d ∧ ∀ k, d ≠ .int k
  inf : P.info? e = some ei
  ez : ei.zero = some z
  size : ei.size = es
  zsize : z.cells.size = es
  bytes : ei.bytes ≤ 1024

theorem matches_int {d : TypeDesc} (h : ∀ k, d ≠ .int k) : (match d with | .int _ => true | _ => false) = false := by
  cases d <;> first
    | rfl
    | exact (h _ rfl).elim

theorem growBy_le (n : Nat) : ∀ (r c : Nat), c < n → Builtin.growBy n r c ≤ 2 * n + 192
  | 0, c, h => by simp [Builtin.growBy]; omega
  | r + 1, c, h => by
    simp only [Builtin.growBy]
    split
    · omega
    · by_cases h2 : c + (c + 768) / 4 < n
      · exact growBy_le n r _ h2
      · cases r with
        | zero => simp only [Builtin.growBy]; omega
        | succ r =>
          simp only [Builtin.growBy]
          rw [if_pos (by omega)]
          omega

theorem nextcap_le {n c : Nat} (h : c < n) : Builtin.nextslicecap n c ≤ 2 * n + 192 := by
  unfold Builtin.nextslicecap
  split
  · omega
  · split
    · omega
    · exact growBy_le n 4 c h

theorem zeroCells_size (z : Array Value) (n : Nat) : (Builtin.zeroCells z n).size = n * z.size := by simp [Builtin.zeroCells]

/-- there is room -/
theorem run_append_fit {t t' e ty : TypeId} {ei : TypeInfo} {z : Value} {es : Nat} (hT : AppTy P t t' e ei z es) {w w' : World} {base : Option Addr} {sLen sCap n : Nat} {x : Value} {vs : List Value}
    (hl : (Builtin.lenOf x).run P w = .ok n w) (hr : (Builtin.firstCells es n x).run P w = .ok vs.toArray w) (hfit : sLen + n ≤ sCap)
    (hst : match base with | some a => (storeCells (a.add (sLen * es)) vs).run P w = .ok () w' | none => w' = w) :
    (Builtin.append_ #[t, t'] ty #[.slice base sLen sCap, x]).run P w = .ok (.slice base (sLen + n) sCap) w' := by
  obtain ⟨d, hd, hk⟩ := hT.xt
  have hm := matches_int hk
  cases base with
  | none =>
    simp only at hst
    subst hst
    simp [Builtin.append_, run_underlyingS hT.st, run_underlyingS hd, run_sizeOfS hT.inf, hT.size, hl, hr, hfit]
  | some a =>
    simp only at hst
    simp [Builtin.append_, run_underlyingS hT.st, run_underlyingS hd, run_sizeOfS hT.inf, hT.size, hl, hr, hfit, hst]

/-- there is none: a new row -/
theorem run_append_grow {t t' e ty : TypeId} {ei : TypeInfo} {z : Value} {es : Nat} (hT : AppTy P t t' e ei z es) {w : World} {base : Option Addr} {sLen sCap n : Nat} {x : Value} {os vs : List Value}
    (hl : (Builtin.lenOf x).run P w = .ok n w) (ho : (Builtin.firstCells es sLen (.slice base sLen sCap)).run P { w with drawn := w.drawn + 1 } = .ok os.toArray { w with drawn := w.drawn + 1 })
    (hr : (Builtin.firstCells es n x).run P { w with drawn := w.drawn + 1 } = .ok vs.toArray { w with drawn := w.drawn + 1 }) (hno : sCap < sLen + n) (hbig : sLen + n < maxRoom)
    (hol : os.length = sLen * es) (hvl : vs.length = n * es) :
    ∃ newCap rest, (Builtin.append_ #[t, t'] ty #[.slice base sLen sCap, x]).run P w =
        .ok (.slice (some ⟨w.heap.size, 0, none⟩) (sLen + n) newCap) { w with heap := w.heap.push (.cells (os ++ (vs ++ rest)).toArray e), drawn := w.drawn + 1 } ∧
      sLen + n ≤ newCap ∧ (os ++ (vs ++ rest)).length = newCap * es := by
  obtain ⟨d, hd, hk⟩ := hT.xt
  have hm := matches_int hk
  have hmr : maxRoom = 68719476736 := by decide
  have hcap := nextcap_le hno
  have hfit : ¬ (sLen + n ≤ sCap) := by omega
  have h1 : ¬ (Builtin.nextslicecap (sLen + n) sCap * ei.bytes > 2 ^ 48) := by
    have e48 : (2 : Nat) ^ 48 = 281474976710656 := by decide
    have hb := hT.bytes
    have := Nat.mul_le_mul hcap hb
    omega
  have h2 : ¬ (((sLen + n : Nat) : Int) > IntKind.i64.max ∧ ((false = true) ∨ ei.bytes = 0)) := by
    intro h
    have : IntKind.i64.max = 9223372036854775807 := by decide
    rw [this] at h
    omega
  obtain ⟨tp, htp⟩ : ∃ tp, tp = (Question.appendCap (sLen + n) sCap e).cut (w.tape w.drawn (.appendCap (sLen + n) sCap e)) := ⟨_, rfl⟩
  have hge : sLen + n ≤ tp := by rw [htp]; simp [Question.cut]
  refine ⟨tp, (Builtin.zeroCells z.cells (tp - (sLen + n))).toList, ?_, hge, ?_⟩
  · have h2' : ¬ (IntKind.i64.max < (sLen : Int) + (n : Int) ∧ ei.bytes = 0) := fun h => h2 ⟨by simpa using h.1, .inr h.2⟩
    have hmax : IntKind.i64.max = 9223372036854775807 := by decide
    simp [Builtin.append_, run_underlyingS hT.st, run_underlyingS hd, run_sizeOfS hT.inf, hT.size, hl, hr, ho, hfit, run_typeInfoS hT.inf, h1, Question.forced, ← htp, run_zeroValueS hT.inf hT.ez, newRow]
    rw [if_neg (by omega)]
    have ho' : (Builtin.firstCells es sLen (.slice base sLen sCap)).run P w.drew = .ok os.toArray w.drew := ho
    have hr' : (Builtin.firstCells es n x).run P w.drew = .ok vs.toArray w.drew := hr
    rw [ho']
    simp only [Result.andThen_ok]
    rw [hr']
    simp only [Result.andThen_ok]
    have e : os.toArray ++ (vs.toArray ++ Builtin.zeroCells z.cells (tp - (sLen + n))) = (os ++ (vs ++ (Builtin.zeroCells z.cells (tp - (sLen + n))).toList)).toArray := by
      apply Array.ext'
      simp
    rw [e]
    rfl
  · simp only [List.length_append, hol, hvl, Array.length_toList, zeroCells_size, hT.zsize]
    rw [← Nat.add_assoc, ← Nat.add_mul, ← Nat.add_mul]
    congr 1
    omega

end Go.Sx
namespace Go.Sx
open Go
variable {P : Program} {E : Env} {C : Ctx}
section
variable {ρ : Operand → Value} {lk : Look} {o : Oper} {r : OpR} {id : Nat}

theorem exec_append {as : Array Operand} {ts : Array TypeId} (ho : o.op = .call { callee := .builtin .append, args := as, argTypes := ts }) {a b : Operand} (ha : as.toList = [a, b]) {t t' : TypeId} (ht : ts.toList = [t, t'])
    {v : Value} {w w' : World} (h : (Builtin.append_ #[t, t'] o.type #[ρ a, ρ b]).run P w = .ok v w') : (execOp ρ o).run P w = .ok (.value v) w' := by
  have has : as = #[a, b] := by apply Array.ext'; simpa using ha
  have hts : ts = #[t, t'] := by apply Array.ext'; simpa using ht
  subst has hts
  simp [execOp, ho, resolve, invoke, builtin, h]

theorem seg_left {α : Type} (a b : List α) (i n : Nat) (h : i + n ≤ a.length) : seg (a ++ b) i n = seg a i n := by
  apply List.ext_getElem?
  intro j
  rw [seg_get, seg_get]
  by_cases hj : j < n
  · rw [if_pos hj, if_pos hj, List.getElem?_append_left (by omega)]
  · rw [if_neg hj, if_neg hj]
theorem seg_right {α : Type} (a b : List α) (i n : Nat) : seg (a ++ b) (a.length + i) n = seg b i n := by
  apply List.ext_getElem?
  intro j
  rw [seg_get, seg_get]
  by_cases hj : j < n
  · rw [if_pos hj, if_pos hj, List.getElem?_append_right (by omega)]
    congr 1
    omega
  · rw [if_neg hj, if_neg hj]

/-- two rows, one behind the other, and what there is behind -/
theorem rows_rep {w : World} {T : Nat → Nat → Prop} {t : Ty} {L X : List t.den} {os vs rest : List Value} (ho : os.length = L.length * t.size) (hv : vs.length = X.length * t.size)
    (h1 : ∀ i y, L[i]? = some y → Rep w T t y (seg os (i * t.size) t.size)) (h2 : ∀ i y, X[i]? = some y → Rep w T t y (seg vs (i * t.size) t.size)) :
    ∀ i y, (L ++ X)[i]? = some y → Rep w T t y (seg (os ++ (vs ++ rest)) (i * t.size) t.size) := by
  intro i y hy
  by_cases hi : i < L.length
  · rw [List.getElem?_append_left hi] at hy
    have hb : (i + 1) * t.size ≤ L.length * t.size := Nat.mul_le_mul_right _ hi
    rw [Nat.add_mul, Nat.one_mul] at hb
    rw [seg_left _ _ _ _ (by omega)]
    exact h1 i y hy
  · rw [List.getElem?_append_right (by omega)] at hy
    have hb2 : i - L.length < X.length := (List.getElem?_eq_some_iff.1 hy).1
    have hb : (i - L.length + 1) * t.size ≤ X.length * t.size := Nat.mul_le_mul_right _ hb2
    rw [Nat.add_mul, Nat.one_mul] at hb
    have e : i * t.size = os.length + (i - L.length) * t.size := by rw [ho, ← Nat.add_mul]; congr 1; omega
    rw [e, seg_right, seg_left _ _ _ _ (by omega)]
    exact h2 _ y hy

/-- an own list grows -/
theorem good_append_own (hs : SRel C) {as : Array Operand} {ts : Array TypeId} (ho : o.op = .call { callee := .builtin .append, args := as, argTypes := ts }) {a b : Operand} (ha : as.toList = [a, b]) {t t' : TypeId} (ht : ts.toList = [t, t'])
    {e : TypeId} {ei : TypeInfo} {z : Value} {ty : Ty} (hT : AppTy P t t' e ei z ty.size) {b0 g : Nat} (hv : VRel C (.own b0 g) (ρ a)) {sh : Bool} {L X : List ty.den} (hm : C.m b0 = some (.list e ty g sh L)) {vs : List Value} (hS : Source P C ty X (ρ b) vs)
    (hbig : L.length + X.length < maxRoom) : Good P C ρ o (.own b0 (g + 1)) (updF C.m b0 (some (.list e ty (g + 1) sh (L ++ X)))) := by
  obtain ⟨ba, cap, hp, hva, hc, hz⟩ := own_info hs hv hm
  obtain ⟨ba', cap', hgg, _, _, hbk⟩ := hs.ok b0 _ hm
  rw [hp] at hgg
  cases hgg
  have hvl := hS.len
  by_cases hfit : L.length + X.length ≤ cap
  · -- in place
    cases ba with
    | none =>
      have hc0 : cap = 0 := hbk
      have hX : X = [] := List.length_eq_zero_iff.1 (by omega)
      have hL : L = [] := List.length_eq_zero_iff.1 (by omega)
      subst hX hL hc0
      have hrun := exec_append (P := P) (ρ := ρ) ho ha ht (by rw [hva]; exact run_append_fit hT (w' := C.w) hS.lenOf (hS.read C.w fun _ _ _ h => h) hfit rfl)
      have key := same_ok hs (id := b0) (b' := .list e ty (g + 1) sh []) (g' := C.φ b0) (fun k hk => ⟨_, hm, hk⟩) (fun k o' hk => by rw [hp] at hk; exact hk.elim)
        (fun _ cs h => by rw [hm] at h; cases h) (fun _ t2 g2 sh2 L2 h => by rw [hm] at h; cases h; exact ⟨g + 1, sh, [], rfl, by omega, fun e => by omega⟩)
      simp only [updF_self] at key
      obtain ⟨hEx, hok⟩ := key
      exact ⟨_, ⟨C.w, updF C.m b0 (some (.list e ty (g + 1) sh [])), C.φ, C.fr, C.gl⟩, .inl hrun, rfl, hok ⟨none, 0, hp, hz, Nat.le_refl _, rfl⟩, hEx, e, ty, g + 1, sh, [], by simp [updF], Nat.le_refl _, none, 0, 0, rfl, fun _ => ⟨hp, rfl⟩⟩
    | some ad =>
      obtain ⟨hsp, c, lo, hi, hh, hcs, hfz, hsh, hx⟩ := hbk
      obtain ⟨k0, o0, sp⟩ := ad
      simp only at hsp hh hcs hfz hsh hx
      subst hsp
      have hLX : (L.length + X.length) * ty.size ≤ cap * ty.size := Nat.mul_le_mul_right _ hfit
      rw [Nat.add_mul] at hLX
      have hst := run_storeCells_atF P k0 (o0 + L.length * ty.size) e (lo, hi) vs 0 c C.w hh (by
        simp only [Nat.add_zero]
        refine Nat.le_trans hfz ?_
        split <;> omega) (by rw [hvl]; omega) (hS.one hz)
      simp only [Nat.add_zero] at hst
      obtain ⟨c', hc'⟩ : ∃ c' : Array Value, c' = (c.toList.take (o0 + L.length * ty.size) ++ vs ++ c.toList.drop (o0 + L.length * ty.size + vs.length)).toArray := ⟨_, rfl⟩
      rw [← hc'] at hst
      have hcl : c.toList.length = c.size := by simp
      have hcl' : c'.toList = c.toList.take (o0 + L.length * ty.size) ++ vs ++ c.toList.drop (o0 + L.length * ty.size + vs.length) := by rw [hc']
      have hrun := exec_append (P := P) (ρ := ρ) ho ha ht (by rw [hva]; exact run_append_fit hT (w' := C.w.setRow k0 c') hS.lenOf (hS.read C.w fun _ _ _ h => h) hfit (by simp only [addr_add]; exact hst))
      have hlen : (L ++ X).length * ty.size = L.length * ty.size + X.length * ty.size := by rw [List.length_append, Nat.add_mul]
      obtain ⟨hEx, hok⟩ := row_ok hs (b' := .list e ty (g + 1) sh (L ++ X)) (c' := c') hm hh (by rw [hp]; rfl) (fun k o' hk => by
          rw [hp] at hk ⊢
          simp only [ownsB] at hk ⊢
          refine ⟨hk.1, ?_, hk.2.2⟩
          have h2 := hk.2.1
          cases sh with
          | true => simp only [if_true] at h2 ⊢; omega
          | false => simpa using h2)
        (fun _ _ h => by cases h) (fun _ t2 g2 sh2 L2 h => by cases h; exact ⟨g + 1, sh, L ++ X, rfl, by omega, fun e => by omega⟩)
        (fun j hn => by
          rw [hp] at hn
          simp only [ownsB, true_and] at hn
          have hn' : ¬ (o0 + L.length * ty.size ≤ j ∧ j < o0 + L.length * ty.size + vs.length) := by
            intro hh2
            refine hn ⟨?_, by rw [hvl] at hh2; omega⟩
            split <;> omega
          have := seg_out c.toList vs (o0 + L.length * ty.size) j 1 (by rw [hvl]; omega) (by omega)
          rw [← hcl'] at this
          have := congrArg (·[0]?) this
          simpa [seg_get] using this)
      refine ⟨_, ⟨C.w.setRow k0 c', updF C.m b0 (some (.list e ty (g + 1) sh (L ++ X))), C.φ, C.fr, C.gl⟩, .inl hrun, rfl, hok ⟨some ⟨k0, o0, none⟩, cap, hp, hz, by rw [List.length_append]; exact hfit, rfl, c', lo, hi, setRow_heap C.w k0 c _ e (lo, hi) hh, ?_, ?_, ?_, ?_⟩, hEx,
        e, ty, g + 1, sh, L ++ X, by simp [updF], Nat.le_refl _, _, _, _, rfl, fun _ => ⟨hp, by simp⟩⟩
      · have : c'.toList.length = c.size := by
          rw [hcl']
          simp only [List.length_append, List.length_take, List.length_drop, hcl, hvl]
          omega
        have : c'.size = c.size := by simpa using this
        rw [this]
        exact hcs
      · refine Nat.le_trans hfz ?_
        simp only
        split <;> omega
      · intro hsh' o' h1 h2 hT'
        simp only at h1 h2
        rcases hT' with hf | ⟨j, bj, hj, hoj⟩
        · exact hs.frApart _ _ hf ⟨b0, _, hm, by rw [hp]; rfl⟩
        · by_cases ej : j = b0
          · subst ej
            simp only [updF, if_true, Option.some.injEq] at hj
            subst hj
            subst hsh'
            simp only [hp, ownsB, if_true] at hoj
            omega
          · simp only [updF, if_neg ej] at hj
            exact hs.apart j bj b0 _ _ hj hm ej (ownsB_lies hoj) (by rw [hp]; rfl)
      · intro i y hy
        simp only
        rw [hcl']
        by_cases hi2 : i < L.length
        · rw [List.getElem?_append_left hi2] at hy
          have hb2 : (i + 1) * ty.size ≤ L.length * ty.size := Nat.mul_le_mul_right _ hi2
          rw [Nat.add_mul, Nat.one_mul] at hb2
          rw [seg_out c.toList vs (o0 + L.length * ty.size) (o0 + i * ty.size) ty.size (by rw [hvl]; omega) (by left; omega)]
          exact (hx i y hy).mono hEx.keep
        · rw [List.getElem?_append_right (by omega)] at hy
          have hb2 : i - L.length < X.length := (List.getElem?_eq_some_iff.1 hy).1
          have hb3 : (i - L.length + 1) * ty.size ≤ X.length * ty.size := Nat.mul_le_mul_right _ hb2
          rw [Nat.add_mul, Nat.one_mul] at hb3
          have ei : i * ty.size = L.length * ty.size + (i - L.length) * ty.size := by rw [← Nat.add_mul]; congr 1; omega
          have : seg (c.toList.take (o0 + L.length * ty.size) ++ vs ++ c.toList.drop (o0 + L.length * ty.size + vs.length)) (o0 + i * ty.size) ty.size = seg vs ((i - L.length) * ty.size) ty.size := by
            apply List.ext_getElem?
            intro j
            rw [seg_get, seg_get]
            by_cases hj : j < ty.size
            · rw [if_pos hj, if_pos hj]
              have l1 : (c.toList.take (o0 + L.length * ty.size)).length = o0 + L.length * ty.size := by simp; omega
              rw [List.append_assoc, List.getElem?_append_right (by omega), l1, List.getElem?_append_left (by rw [hvl]; omega)]
              congr 1
              omega
            · rw [if_neg hj, if_neg hj]
          rw [this]
          exact (hS.rep _ y hy).mono hEx.keep
  · -- in new memory
    obtain ⟨os, hO⟩ := source_slice (P := P) hs hv (t := ty) (X := L) (m := [b0]) (by simp [sliceOf, hm])
    obtain ⟨newCap, rest, hrun0, hge, hlen⟩ := run_append_grow (ty := o.type) hT (w := C.w) (base := ba) (sLen := L.length) (sCap := cap) (x := ρ b) (os := os) (vs := vs) hS.lenOf
      (by rw [← hva]; exact hO.read _ fun _ _ _ h => h) (hS.read _ fun _ _ _ h => h) (by omega) hbig hO.len hvl
    have hrun := exec_append (P := P) (ρ := ρ) ho ha ht (by rw [hva]; exact hrun0)
    obtain ⟨hEx, hok⟩ := upd_ok hs (id := b0) (b' := .list e ty (g + 1) sh (L ++ X)) (g' := .list (some ⟨C.w.heap.size, 0, none⟩) newCap)
      (w' := { C.w with heap := C.w.heap.push (.cells (os ++ (vs ++ rest)).toArray e), drawn := C.w.drawn + 1 }) (by simp)
      (fun k hk _ => by simp only [Array.getElem?_push]; rw [if_neg (by omega)]) (fun k hk => .inr (by rw [show k = C.w.heap.size from hk]; exact Nat.le_refl _)) (fun k o' hk => .inr (by rw [show k = C.w.heap.size from ownsB_lies hk]; exact Nat.le_refl _))
      (fun _ cs h => by rw [hm] at h; cases h) (fun _ t2 g2 sh2 L2 h => by rw [hm] at h; cases h; exact ⟨g + 1, sh, L ++ X, rfl, by omega, fun e => by omega⟩)
      (fun k o' v hv' _ => by
        have hk : k < C.w.heap.size := by
          unfold World.cell? at hv'
          split at hv'
          · rename_i hh; exact (Array.getElem?_eq_some_iff.1 hh).1
          · cases hv'
        unfold World.cell? at hv' ⊢
        simp only [Array.getElem?_push]
        rw [if_neg (show ¬ k = C.w.heap.size by omega)]
        exact hv') rfl rfl rfl
    refine ⟨_, _, .inl hrun, rfl, hok ⟨some ⟨C.w.heap.size, 0, none⟩, newCap, rfl, hz, by rw [List.length_append]; exact hge, rfl, _, 0, 0, by simp; rfl, ?_, by simp, ?_, ?_⟩, hEx,
      e, ty, g + 1, sh, L ++ X, by simp [updF], Nat.le_refl _, _, _, _, rfl, fun _ => ⟨by simp [updF], by simp⟩⟩
    · simp only [Nat.zero_add, List.size_toArray]
      rw [hlen]
      exact Nat.le_refl _
    · intro hsh' o' h1 h2 hT'
      simp only at h1 h2 hT'
      rcases hT' with hf | ⟨j, bj, hj, hoj⟩
      · have := hs.frOld _ _ hf; omega
      · by_cases ej : j = b0
        · subst ej
          simp only [updF, if_true, Option.some.injEq] at hj
          subst hj
          subst hsh'
          simp only [updF, if_true, ownsB] at hoj
          omega
        · simp only [updF, if_neg ej] at hj hoj
          have := (hs.ok j bj hj).lt (ownsB_lies hoj)
          omega
    · intro i y hy
      simp only [Nat.zero_add]
      have := rows_rep (w := C.w) (T := C.T) (rest := rest) hO.len hvl hO.rep hS.rep i y hy
      exact this.mono hEx.keep

theorem good_append_new (hs : SRel C) (hid : C.m id = none) {as : Array Operand} {ts : Array TypeId} (ho : o.op = .call { callee := .builtin .append, args := as, argTypes := ts }) {a b : Operand} (ha : as.toList = [a, b]) {t t' : TypeId} (ht : ts.toList = [t, t'])
    {e : TypeId} {ei : TypeInfo} {z : Value} {ty : Ty} (hT : AppTy P t t' e ei z ty.size) (hz : 0 < ty.size) {base : Option Addr} {cap : Nat} {L X : List ty.den} (hva : ρ a = .slice base L.length cap) {os vs : List Value} (hO : Source P C ty L (ρ a) os) (hS : Source P C ty X (ρ b) vs)
    (hbig : L.length + X.length < maxRoom) (hno : cap < L.length + X.length) : Good P C ρ o (.own id 0) (updF C.m id (some (.list e ty 0 false (L ++ X)))) := by
  obtain ⟨newCap, rest, hrun0, hge, hlen⟩ := run_append_grow (ty := o.type) hT (w := C.w) (base := base) (sLen := L.length) (sCap := cap) (x := ρ b) (os := os) (vs := vs) hS.lenOf
    (by rw [← hva]; exact hO.read _ fun _ _ _ h => h) (hS.read _ fun _ _ _ h => h) hno hbig hO.len hS.len
  have hrun := exec_append (P := P) (ρ := ρ) ho ha ht (by rw [hva]; exact hrun0)
  have key := good_newList (P := P) (ρ := ρ) (o := o) hs hid (ms := []) (t := ty) (L := L ++ X) (cells := (os ++ (vs ++ rest)).toArray) (e := e) (cap := newCap)
    (w' := { C.w with heap := C.w.heap.push (.cells (os ++ (vs ++ rest)).toArray e), drawn := C.w.drawn + 1 }) rfl rfl rfl rfl hz (by rw [List.length_append]; exact hge) (by simp only [List.size_toArray]; rw [hlen]; exact Nat.le_refl _)
    (fun T' hT' _ i y hy => (rows_rep (w := C.w) (T := C.T) (rest := rest) hO.len hS.len hO.rep hS.rep i y hy).monoT hT') (by rw [List.length_append]; exact hrun)
  exact key

end
end Go.Sx
namespace Go.Sx
open Go
variable {P : Program} {E : Env} {C : Ctx}
section
variable {ρ : Operand → Value} {lk : Look} {o : Oper} {r : OpR} {id : Nat}

theorem good_append_nil (hs : SRel C) (hid : C.m id = none) {as : Array Operand} {ts : Array TypeId} (ho : o.op = .call { callee := .builtin .append, args := as, argTypes := ts }) {a b : Operand} (ha : as.toList = [a, b]) {t t' : TypeId} (ht : ts.toList = [t, t'])
    {e : TypeId} {ei : TypeInfo} {z : Value} {ty : Ty} (hT : AppTy P t t' e ei z ty.size) (hz : 0 < ty.size) {X : List ty.den} (hva : ρ a = .slice none 0 0) {vs : List Value} (hS : Source P C ty X (ρ b) vs)
    (hbig : X.length < maxRoom) : Good P C ρ o (.own id 0) (updF C.m id (some (.list e ty 0 false X))) := by
  cases X with
  | nil =>
    have hrun := exec_append (P := P) (ρ := ρ) ho ha ht (by rw [hva]; exact run_append_fit hT (w' := C.w) hS.lenOf (hS.read C.w fun _ _ _ h => h) (Nat.le_refl _) rfl)
    obtain ⟨hEx, hok⟩ := same_ok hs (id := id) (b' := .list e ty 0 false []) (g' := .list none 0) (fun k hk => hk.elim) (fun k o' hk => hk.elim)
      (fun _ cs h => by rw [hid] at h; cases h) (fun _ t2 g2 sh2 L2 h => by rw [hid] at h; cases h)
    exact ⟨_, ⟨C.w, updF C.m id (some (.list e ty 0 false [])), updF C.φ id (.list none 0), C.fr, C.gl⟩, .inl hrun, rfl, hok ⟨none, 0, rfl, hz, Nat.le_refl _, rfl⟩, hEx, e, ty, 0, false, [], by simp [updF], Nat.le_refl _, none, 0, 0, rfl, fun _ => ⟨by simp [updF], rfl⟩⟩
  | cons x X =>
    have hO : Source P C ty [] (ρ a) [] := ⟨by simp, by rw [hva]; simp [Builtin.lenOf], fun w _ => by rw [hva]; simp [Builtin.firstCells], fun i y h => by simp at h⟩
    have := good_append_new hs hid ho ha ht hT hz (L := []) (X := x :: X) (by rw [hva]; rfl) hO hS (by simpa using hbig) (by simp)
    simpa using this

theorem goodR_append (hE : EnvOK E P) (hs : SRel C) (hρ : ∀ x, VRel C (evalO lk x) (ρ x)) (hid : C.m id = none) {as : Array Operand} {ts : Array TypeId} (ho : o.op = .call { callee := .builtin .append, args := as, argTypes := ts })
    (h : (opA E lk C.m id (.call { callee := .builtin .append, args := as, argTypes := ts })).run = some r) : GoodR P C ρ o r := by
  simp only [opA] at h
  split at h
  · rename_i a b ha
    split at h
    · rename_i t t' ht
      split at h
      · rename_i ti ti' hti hti'
        obtain ⟨i1, d1, z1, hT1⟩ := hE.T hti
        obtain ⟨i2, d2, z2, hT2⟩ := hE.T hti'
        split at h
        · exact (run_fail h).elim
        · rename_i hnint
          split at h
          · rename_i e htd
            have hd := td_slice hT1 htd
            split at h
            · rename_i te hte
              obtain ⟨i3, d3, z3, hT3⟩ := hE.T hte
              split at h
              · rename_i hzl
                have hzl := beq_eq hzl
                have mk : ∀ {ty : Ty}, (Nat.beq ty.size te.size && (Nat.ble 1 te.size && Nat.ble te.bytes 1024)) = true → AppTy P t t' e i3 z3 ty.size ∧ 0 < ty.size := by
                  intro ty hck
                  simp only [Bool.and_eq_true] at hck
                  obtain ⟨c1, c2, c3⟩ := hck
                  have c1 := beq_eq c1
                  have c2 : 1 ≤ te.size := Nat.le_of_ble_eq_true c2
                  have c3 : te.bytes ≤ 1024 := Nat.le_of_ble_eq_true c3
                  refine ⟨⟨by rw [hT1.und, hd], ⟨d2, hT2.und, fun k hk => ?_⟩, hT3.info, hT3.zero, by rw [hT3.size, c1], ?_, by rw [hT3.bytes]; exact c3⟩, by omega⟩
                  · have := hT2.td
                    rw [hk] at this
                    exact hnint k this.symm
                  · rw [c1, ← hzl, hT3.zeros]; simp
                have main : ∀ {ty : Ty} {X : List ty.den} {m : List Nat} {vs : List Value}, Source P C ty X (ρ b) vs → (appendTo C.m id e te.size te.bytes (evalO lk a) ty X m).run = some r → GoodR P C ρ o r := by
                  intro ty X m vs hS h
                  unfold appendTo at h
                  split at h
                  · exact (run_fail h).elim
                  · rename_i hck
                    obtain ⟨hT, hz⟩ := mk hck
                    have hva := hρ a
                    split at h
                    · rename_i hn
                      rw [hn] at hva
                      simp only [VRel] at hva
                      obtain ⟨hb, h⟩ := run_brT h
                      simp only [decide_eq_true_eq] at hb
                      rw [run_leaf h]
                      exact good_append_nil hs hid ho ha ht hT hz hva hS hb
                    · rename_i b0 g hown
                      rw [hown] at hva
                      split at h
                      · rename_i ee ty' g' sh L hm
                        split at h
                        · rename_i hg
                          simp only [Bool.and_eq_true] at hg
                          obtain ⟨hg, hee⟩ := hg
                          have hg := beq_eq hg
                          have hee := beq_eq hee
                          subst hg
                          subst ee
                          split at h
                          · rename_i X' hc
                            obtain ⟨rfl, rfl⟩ := castL_some hc
                            obtain ⟨hb, h⟩ := run_brT h
                            simp only [decide_eq_true_eq] at hb
                            rw [run_leaf h]
                            exact good_append_own hs ho ha ht hT hva hm hS hb
                          · exact (run_fail h).elim
                        · exact (run_fail h).elim
                      · exact (run_fail h).elim
                    · rename_i ty' L hsx
                      split at h
                      · rename_i X' hc
                        obtain ⟨rfl, rfl⟩ := castL_some hc
                        obtain ⟨hb, h⟩ := run_brT h
                        simp only [Bool.and_eq_true, decide_eq_true_eq] at hb
                        rw [run_leaf h]
                        obtain ⟨os, hO⟩ := source_slice (P := P) hs (hρ a) (t := ty) (X := L) (m := []) (by rw [hsx]; rfl)
                        rw [hsx] at hva
                        obtain ⟨ba, hv, _⟩ := hva
                        exact good_append_new hs hid ho ha ht hT hz hv hO hS hb.2 (by omega)
                      · exact (run_fail h).elim
                    · exact (run_fail h).elim
                unfold appendA at h
                split at h
                · rename_i hxn
                  split at h
                  · rename_i hsn
                    rw [run_pureV h]
                    have hva := hρ a
                    have hvb := hρ b
                    rw [hsn] at hva
                    rw [hxn] at hvb
                    simp only [VRel] at hva hvb
                    refine Good.pure hs (v := .slice none 0 0) ?_ (by simp [VRel])
                    have hm : AppTy P t t' e i3 z3 te.size ∨ True := .inr trivial
                    refine exec_append (P := P) (ρ := ρ) ho ha ht ?_
                    rw [hva, hvb]
                    have hnk : ∀ k, d2 ≠ .int k := fun k hk => by
                      have := hT2.td
                      rw [hk] at this
                      exact hnint k this.symm
                    have hmi := matches_int hnk
                    simp [Builtin.append_, run_underlyingS hT1.und, hd, run_underlyingS hT2.und, run_sizeOfS hT3.info, Builtin.lenOf, Builtin.firstCells]
                  · exact (run_fail h).elim
                · rename_i c hxc
                  have hvb := hρ b
                  rw [hxc] at hvb
                  exact main (source_str hvb) h
                · split at h
                  · rename_i ty X m hso
                    obtain ⟨vs, hS⟩ := source_slice (P := P) hs (hρ b) hso
                    exact main hS h
                  · exact (run_fail h).elim
              · exact (run_fail h).elim
            · exact (run_fail h).elim
          · exact (run_fail h).elim
      · exact (run_fail h).elim
    · exact (run_fail h).elim
  · exact (run_fail h).elim

theorem goodR_len' (hE : EnvOK E P) (hs : SRel C) (hρ : ∀ x, VRel C (evalO lk x) (ρ x)) {as : Array Operand} {ts : Array TypeId} (ho : o.op = .call { callee := .builtin .len, args := as, argTypes := ts })
    (h : (opA E lk C.m id (.call { callee := .builtin .len, args := as, argTypes := ts })).run = some r) : GoodR P C ρ o r := by
  simp only [opA] at h
  split at h
  · rename_i a ha
    split at h
    · rename_i t ht
      split at h
      · rename_i ti hti
        split at h
        · rename_i htd
          split at h
          · rename_i s hs'
            rw [run_pureV h]
            exact goodR_len (av := .undef) hE hs hρ ho ha ht hti (.inl ⟨htd, s, hs', rfl⟩)
          · exact (run_fail h).elim
        · rename_i e htd
          split at h
          · rename_i hn
            rw [run_pureV h]
            exact goodR_len (av := .undef) (n := 0) hE hs hρ ho ha ht hti (.inr ⟨e, htd, .inl ⟨hn, rfl⟩⟩)
          · split at h
            · rename_i ty L m hso
              rw [run_leaf h]
              exact goodR_len (av := .undef) hE hs hρ ho ha ht hti (.inr ⟨e, htd, .inr ⟨ty, L, m, hso, rfl⟩⟩)
            · exact (run_fail h).elim
        · exact (run_fail h).elim
      · exact (run_fail h).elim
    · exact (run_fail h).elim
  · exact (run_fail h).elim

theorem goodR_max' (hs : SRel C) (hρ : ∀ x, VRel C (evalO lk x) (ρ x)) {as : Array Operand} {ts : Array TypeId} (ho : o.op = .call { callee := .builtin .max, args := as, argTypes := ts })
    (h : (opA E lk C.m id (.call { callee := .builtin .max, args := as, argTypes := ts })).run = some r) : GoodR P C ρ o r := by
  simp only [opA] at h
  split at h
  · rename_i a b ha
    split at h
    · rename_i k x k' y hx hy
      split at h
      · rename_i e
        subst e
        rw [run_pureV h]
        exact goodR_max hs hρ ho ha hx hy
      · exact (run_fail h).elim
    · exact (run_fail h).elim
  · exact (run_fail h).elim

/-- EVERY OPERATION OF THE MACHINE'S IS THE MODEL'S -/
theorem opA_good (hE : EnvOK E P) (hs : SRel C) (hρ : ∀ x, VRel C (evalO lk x) (ρ x)) (hid : C.m id = none) {op : Op} (ho : o.op = op) (h : (opA E lk C.m id op).run = some r) : GoodR P C ρ o r := by
  cases op with
  | move x => exact goodR_move hs hρ ho h
  | assign x => exact goodR_assign hs hρ ho h
  | pick c a b => exact goodR_pick hs hρ ho h
  | alloc t => exact goodR_alloc hE hs hid ho h
  | box t x => exact goodR_box hs hρ hid ho h
  | build t ps => exact goodR_build hE hs hρ ho h
  | buildSlice t n ps => exact goodR_buildSlice hE hs hρ hid ho h
  | load t a => exact goodR_load hE hs hρ ho h
  | store t a x => exact goodR_store hE hs hρ ho h
  | nilCheck x => exact goodR_nilCheck hs hρ ho h
  | binOp op t x y t' => exact goodR_binOp hE hs hρ ho h
  | unOp op t x => exact goodR_unOp hs hρ ho h
  | convert s d x => exact goodR_convert hE hs hρ ho h
  | makeInterface t x => exact goodR_makeInterface hE hs hρ ho h
  | makeSlice t l c => exact goodR_makeSlice hE hs hρ hid ho h
  | slice t x lo hi mx => exact goodR_slice hE hs hρ ho h
  | fieldAddr t a f => exact goodR_fieldAddr hE hs hρ ho h
  | field t x f => exact goodR_field hE hs hρ ho h
  | indexAddr t x i => exact goodR_indexAddr hE hs hρ ho h
  | index t x i => exact goodR_index hE hs hρ ho h
  | extract x i => exact goodR_extract hs hρ ho h
  | call c =>
    obtain ⟨callee, as, ts⟩ := c
    cases callee with
    | value f => exact (run_fail h).elim
    | invoke x m => exact (run_fail h).elim
    | builtin b =>
      cases b <;> first
        | exact goodR_len' hE hs hρ ho h
        | exact goodR_append hE hs hρ hid ho h
        | exact goodR_max' hs hρ ho h
        | exact (run_fail h).elim
  | _ => exact (run_fail h).elim

end
end Go.Sx
namespace Go.Sx
open Go
variable {P : Program} {E : Env}

/-- some blocks of one state are, under other numbers, blocks of another one -/
structure Ren (C D : Ctx) (m : Nat → Nat) (S : Nat → Prop) : Prop where
  keep : Keep C.w C.T D.w D.T
  cells : ∀ b ty cs, S b → C.m b = some (.cells ty cs) → D.φ (m b) = C.φ b ∧ ∃ cs', D.m (m b) = some (.cells ty cs')
  lists : ∀ b ee t g sh L, S b → C.m b = some (.list ee t g sh L) → D.φ (m b) = C.φ b ∧ D.m (m b) = some (.list ee t g sh L)

theorem Ren.refA {C D : Ctx} {m : Nat → Nat} {S : Nat → Prop} (h : Ren C D m S) {a : AV} {v : Value} (hS : ∀ b ∈ refA a, S b) (hp : plainA a = true) (hv : VRel C a v) : VRel D (renA m a) v := by
  cases a with
  | undef => trivial
  | bool b => exact hv
  | int k n => exact hv
  | flt k n => exact hv
  | str s => exact hv
  | nilp => exact hv
  | nils => exact hv
  | ref b off =>
    obtain ⟨rb, ty, cs, h1, h2, h3⟩ := hv
    obtain ⟨e, cs', h4⟩ := h.cells b ty cs (hS b (by simp [Sx.refA])) h1
    exact ⟨rb, ty, cs', h4, e.trans h2, h3⟩
  | bself b =>
    obtain ⟨rb, ty, cs, h1, h2, h3⟩ := hv
    obtain ⟨e, cs', h4⟩ := h.cells b ty cs (hS b (by simp [Sx.refA])) h1
    exact ⟨rb, ty, cs', h4, e.trans h2, h3⟩
  | pd t x off =>
    obtain ⟨k, o, cs, h1, h2, h3⟩ := hv
    exact ⟨k, o, cs, h1, h2.mono h.keep, h3.mono h.keep⟩
  | sl t L => exact Rep.mono h.keep hv
  | sx t L =>
    obtain ⟨a, h1, h2⟩ := hv
    exact ⟨a, h1, Rep.mono h.keep h2⟩
  | own b g =>
    obtain ⟨ee, t, g', sh, L, h1, h2, a, n, cap, h3, h4⟩ := hv
    obtain ⟨e, h5⟩ := h.lists b ee t g' sh L (hS b (by simp [Sx.refA])) h1
    exact ⟨ee, t, g', sh, L, h5, h2, a, n, cap, h3, fun hg => ⟨e.trans (h4 hg).1, (h4 hg).2⟩⟩
  | el b g i off =>
    obtain ⟨ee, t, g', sh, L, h1, h2, k, o, h3, h4⟩ := hv
    obtain ⟨e, h5⟩ := h.lists b ee t g' sh L (hS b (by simp [Sx.refA])) h1
    refine ⟨ee, t, g', sh, L, h5, h2, k, o, h3, fun hg => ?_⟩
    obtain ⟨a, cap, h6, h7⟩ := h4 hg
    exact ⟨a, cap, e.trans h6, h7⟩
  | fn f cap =>
    obtain ⟨vs, h1, h2⟩ := hv
    have : cap = [] := by simpa [plainA] using hp
    subst this
    exact ⟨vs, h1, h2⟩
  | nilf => exact hv
  | iface t x =>
    obtain ⟨u, h1, h2⟩ := hv
    refine ⟨u, h1, ?_⟩
    simp only [plainA] at hp
    have key : ∀ {y : AV} {w : Value}, plainI y = true → VRel C y w → VRel D y w := by
      intro y w hq hy
      cases y <;> first
        | (cases hq; done)
        | exact hy
        | exact Rep.mono h.keep hy
        | (obtain ⟨k, o, cs, e1, e2, e3⟩ := hy; exact ⟨k, o, cs, e1, e2.mono h.keep, e3.mono h.keep⟩)
        | (obtain ⟨a, e1, e2⟩ := hy; exact ⟨a, e1, Rep.mono h.keep e2⟩)
    have keyL : ∀ {ys : List AV} {ws : List Value}, ys.all plainI = true → VRelL C ys ws → VRelL D ys ws := by
      intro ys
      induction ys with
      | nil => intro ws _ hy; exact hy
      | cons y ys ih =>
        intro ws hq hy
        obtain ⟨w, r, rfl, e1, e2⟩ := hy
        simp only [List.all_cons, Bool.and_eq_true] at hq
        exact ⟨w, r, rfl, key hq.1 e1, ih hq.2 e2⟩
    cases x with
    | agg cs =>
      obtain ⟨vs, e1, e2⟩ := h2
      exact ⟨vs, e1, keyL hp e2⟩
    | _ =>
      simp only [AV.cells, List.all_cons, List.all_nil, Bool.and_true] at hp
      exact key hp h2
  | nili => exact hv
  | agg cs => simp [plainA] at hp
  | tup cs => simp [plainA] at hp

theorem Ren.cellsL {C D : Ctx} {m : Nat → Nat} {S : Nat → Prop} (h : Ren C D m S) : ∀ {as : List AV} {vs : List Value}, (∀ b ∈ refsC as, S b) → as.all plainA = true → VRelL C as vs → VRelL D (as.map (renA m)) vs
  | [], _, _, _, hv => hv
  | a :: as, _, hS, hp, hv => by
    obtain ⟨v, r, rfl, h1, h2⟩ := hv
    simp only [refsC, List.flatMap_cons, List.mem_append] at hS
    simp only [List.all_cons, Bool.and_eq_true] at hp
    exact ⟨v, _, rfl, h.refA (fun b hb => hS b (.inl hb)) hp.1 h1, h.cellsL (fun b hb => hS b (.inr hb)) hp.2 h2⟩

theorem Ren.relC {C D : Ctx} {m : Nat → Nat} {S : Nat → Prop} (h : Ren C D m S) {a : AV} {v : Value} (hS : ∀ b ∈ refsC a.cells, S b) (hp : a.cells.all plainA = true) (hv : VRel C a v) : VRel D (renC m a) v := by
  cases a with
  | agg cs =>
    obtain ⟨vs, h1, h2⟩ := hv
    exact ⟨vs, h1, h.cellsL hS hp h2⟩
  | _ =>
    simp only [AV.cells, refsC, List.flatMap_cons, List.flatMap_nil, List.append_nil, List.all_cons, List.all_nil, Bool.and_true] at hS hp
    exact h.refA hS hp hv

theorem Ren.relV {C D : Ctx} {m : Nat → Nat} {S : Nat → Prop} (h : Ren C D m S) {a : AV} {v : Value} (hS : ∀ b ∈ refV a, S b) (hp : plainV a = true) (hv : VRel C a v) : VRel D (renV m a) v := by
  cases a with
  | tup vs =>
    obtain ⟨us, h1, h2⟩ := hv
    refine ⟨us, h1, ?_⟩
    simp only [refV, plainV] at hS hp
    revert h2 hS hp
    generalize us.toList = ws
    clear h1
    induction vs generalizing ws with
    | nil => intro _ _ h2; exact h2
    | cons x xs ih =>
      intro hS hp h2
      obtain ⟨w, r, rfl, e1, e2⟩ := h2
      simp only [List.flatMap_cons, List.mem_append] at hS
      simp only [List.all_cons, Bool.and_eq_true] at hp
      exact ⟨w, _, rfl, h.relC (fun b hb => hS b (.inl hb)) hp.1 e1, ih _ (fun b hb => hS b (.inr hb)) hp.2 e2⟩
  | agg cs => exact h.relC (a := .agg cs) hS hp hv
  | _ => exact h.refA (by simpa only [refV] using hS) (by simpa only [plainV] using hp) hv

theorem Ren.args {C D : Ctx} {m : Nat → Nat} {S : Nat → Prop} (h : Ren C D m S) : ∀ {as : List AV} {vs : List Value}, (∀ b ∈ as.flatMap refV, S b) → as.all plainV = true → VRelL C as vs → VRelL D (as.map (renV m)) vs
  | [], _, _, _, hv => hv
  | a :: as, _, hS, hp, hv => by
    obtain ⟨v, r, rfl, h1, h2⟩ := hv
    simp only [List.flatMap_cons, List.mem_append] at hS
    simp only [List.all_cons, Bool.and_eq_true] at hp
    exact ⟨v, _, rfl, h.relV (fun b hb => hS b (.inl hb)) hp.1 h1, h.args (fun b hb => hS b (.inr hb)) hp.2 h2⟩

/-! what is reached -/
theorem any_beq {l : List Nat} {b : Nat} : l.any (Nat.beq b) = true ↔ b ∈ l := by
  rw [List.any_eq_true]
  constructor
  · rintro ⟨x, hx, h⟩; rw [beq_eq h]; exact hx
  · intro h; exact ⟨b, h, by simp⟩

theorem reach_ok {get : Get} : ∀ {n : Nat} {todo acc ids : List Nat}, reach get n todo acc = some ids → acc.Nodup → (∀ b ∈ acc, ∀ c ∈ blkRefs (get b), c ∈ acc ∨ c ∈ todo) →
    ids.Nodup ∧ (∃ more, ids = acc ++ more) ∧ (∀ b ∈ todo, b ∈ ids) ∧ (∀ b ∈ ids, ∀ c ∈ blkRefs (get b), c ∈ ids)
  | n, [], acc, ids, h, hd, hc => by
    have : ids = acc := by cases n <;> simpa [reach, eq_comm] using h
    subst this
    exact ⟨hd, ⟨[], by simp⟩, by simp, fun b hb c hcc => (hc b hb c hcc).resolve_right (by simp)⟩
  | 0, _ :: _, _, _, h, _, _ => by simp [reach] at h
  | n + 1, b :: todo, acc, ids, h, hd, hc => by
    simp only [reach] at h
    split at h
    · rename_i hb
      have hb := any_beq.1 hb
      obtain ⟨h1, ⟨more, h2⟩, h3, h4⟩ := reach_ok h hd (fun x hx c hcx => (hc x hx c hcx).elim .inl fun hh => by
        rcases List.mem_cons.1 hh with e | e
        · exact .inl (e ▸ hb)
        · exact .inr e)
      exact ⟨h1, ⟨more, h2⟩, fun x hx => by
        rcases List.mem_cons.1 hx with e | e
        · rw [e, h2]; exact List.mem_append_left _ hb
        · exact h3 x e, h4⟩
    · rename_i hb
      have hb : b ∉ acc := fun hh => by rw [any_beq.2 hh] at hb; cases hb
      obtain ⟨h1, ⟨more, h2⟩, h3, h4⟩ := reach_ok h (by
          rw [List.nodup_append]
          exact ⟨hd, by simp, by intro x hx y hy; simp at hy; subst hy; intro e; subst e; exact hb hx⟩) (fun x hx c hcx => by
        rcases List.mem_append.1 hx with e | e
        · rcases hc x e c hcx with e2 | e2
          · exact .inl (List.mem_append_left _ e2)
          · rcases List.mem_cons.1 e2 with e3 | e3
            · exact .inl (by simp [e3])
            · exact .inr (List.mem_append_left _ e3)
        · simp at e; subst e; exact .inr (List.mem_append_right _ hcx))
      refine ⟨h1, ⟨b :: more, by rw [h2]; simp⟩, fun x hx => ?_, h4⟩
      rcases List.mem_cons.1 hx with e | e
      · rw [e, h2]; simp
      · exact h3 x (List.mem_append_left _ e)

theorem posOf_get : ∀ {l : List Nat} {b : Nat}, b ∈ l → l[posOf l b]? = some b
  | [], b, h => by cases h
  | a :: l, b, h => by
    simp only [posOf]
    split
    · rename_i e; simp [beq_eq e]
    · rename_i e
      have hne : a ≠ b := fun hh => by subst hh; simp at e
      simpa using posOf_get ((List.mem_cons.1 h).resolve_left (Ne.symm hne))

theorem getAll_ok {get : Get} : ∀ {ids : List Nat} {l : List Blk}, getAll get ids = some l → l.length = ids.length ∧ ∀ (i b : Nat), ids[i]? = some b → l[i]? = get b ∧ (get b).isSome = true
  | [], l, h => by simp [getAll] at h; subst h; simp
  | a :: ids, l, h => by
    simp only [getAll] at h
    split at h
    · rename_i x l' hx hl
      simp only [Option.some.injEq] at h
      subst h
      obtain ⟨h1, h2⟩ := getAll_ok hl
      refine ⟨by simp [h1], fun i b hi => ?_⟩
      cases i with
      | zero =>
        simp only [List.getElem?_cons_zero, Option.some.injEq] at hi
        subst hi
        simp [hx]
      | succ i => simpa using h2 i b (by simpa using hi)
    · cases h

theorem withIds_get : ∀ (l : List Blk) (i j : Nat), getB (withIds i l) j = if i ≤ j then l[j - i]? else none
  | [], i, j => by simp [withIds, getB]
  | b :: l, i, j => by
    simp only [withIds, getB]
    split
    · rename_i e
      have := beq_eq e
      subst this
      simp
    · rename_i e
      have hne : i ≠ j := fun hh => by subst hh; simp at e
      rw [withIds_get l (i + 1) j]
      by_cases hle : i ≤ j
      · rw [if_pos hle, if_pos (by omega)]
        obtain ⟨d, hd⟩ : ∃ d, j - i = d + 1 := ⟨j - i - 1, by omega⟩
        rw [hd, show j - (i + 1) = d by omega]
        simp
      · rw [if_neg hle, if_neg (by omega)]

end Go.Sx
namespace Go.Sx
open Go
variable {P : Program} {E : Env} {C : Ctx}

theorem renA_leaf (m : Nat → Nat) (y : AV) : (renA m y).leaf = y.leaf := by cases y <;> rfl
theorem renA_leaves {m : Nat → Nat} {cs : List AV} (h : cs.all AV.leaf = true) : (cs.map (renA m)).all AV.leaf = true := by
  rw [List.all_map]
  refine List.all_eq_true.2 fun y hy => ?_
  rw [Function.comp_apply, renA_leaf]
  exact List.all_eq_true.1 h y hy

theorem refA_live {a : AV} {v : Value} (h : VRel C a v) : ∀ b ∈ refA a, (C.m b).isSome = true := by
  intro b hb
  cases a <;> simp [refA] at hb
  case ref b' off => subst hb; obtain ⟨_, _, cs, h1, _⟩ := h; simp [h1]
  case bself b' => subst hb; obtain ⟨_, _, cs, h1, _⟩ := h; simp [h1]
  case own b' g => subst hb; obtain ⟨_, _, _, _, _, h1, _⟩ := h; simp [h1]
  case el b' g i off => subst hb; obtain ⟨_, _, _, _, _, h1, _⟩ := h; simp [h1]

theorem refsC_live : ∀ {as : List AV} {vs : List Value}, VRelL C as vs → ∀ b ∈ refsC as, (C.m b).isSome = true
  | [], _, _ => by simp [refsC]
  | a :: as, _, h => by
    obtain ⟨v, r, rfl, h1, h2⟩ := h
    intro b hb
    simp only [refsC, List.flatMap_cons, List.mem_append] at hb
    rcases hb with hb | hb
    · exact refA_live h1 b hb
    · exact refsC_live h2 b hb

theorem refV_live {a : AV} {v : Value} (h : VRel C a v) : ∀ b ∈ refV a, (C.m b).isSome = true := by
  cases a with
  | agg cs => obtain ⟨vs, _, h2⟩ := h; exact refsC_live h2
  | tup vs =>
    obtain ⟨us, _, h2⟩ := h
    intro b hb
    simp only [refV, List.mem_flatMap] at hb
    obtain ⟨x, hx, hb⟩ := hb
    obtain ⟨i, hi, rfl⟩ := List.getElem_of_mem hx
    obtain ⟨u, _, hu⟩ := h2.get (i := i) (a := vs[i]) (by simp [hi])
    rcases cells_rel hu with ⟨cs, ws, e, _, hl⟩ | ⟨_, e⟩
    · rw [e] at hb; exact refsC_live hl b hb
    · rw [e] at hb
      simp only [refsC, List.flatMap_cons, List.flatMap_nil, List.append_nil] at hb
      exact refA_live hu b hb
  | _ => intro b hb; exact refA_live h b (by simpa only [refV] using hb)

theorem ownsB_ren {g : G} {b : Blk} {m : Nat → Nat} {k o : Nat} : ownsB g (renB m b) k o ↔ ownsB g b k o := by
  cases b <;> cases g <;> simp [renB, ownsB]

/-- some blocks of a state, numbered anew, with other owners around them -/
def Sub (C : Ctx) (ids : List Nat) (fr : Nat → Nat → Prop) (bs : List Blk) : Ctx :=
  ⟨C.w, getB (withIds 0 bs), fun i => C.φ ((ids[i]?).getD 0), fr, C.gl⟩

theorem sub_get {ids : List Nat} {fr : Nat → Nat → Prop} {l : List Blk} (hl : getAll C.m ids = some l) {f : Nat → Nat} {i : Nat} {b : Blk} (h : (Sub C ids fr (l.map (renB f))).m i = some b) :
    ∃ id b0, ids[i]? = some id ∧ C.m id = some b0 ∧ b = renB f b0 ∧ (Sub C ids fr (l.map (renB f))).φ i = C.φ id := by
  obtain ⟨h1, h2⟩ := getAll_ok hl
  simp only [Sub, withIds_get, Nat.zero_le, if_true, Nat.sub_zero, List.getElem?_map, Option.map_eq_some_iff] at h
  obtain ⟨b0, hb, rfl⟩ := h
  have hi : i < ids.length := by rw [← h1]; exact (List.getElem?_eq_some_iff.1 hb).1
  obtain ⟨h3, _⟩ := h2 i ids[i] (by simp [hi])
  exact ⟨ids[i], b0, by simp [hi], by rw [← h3, hb], rfl, by simp [Sub, hi]⟩

theorem sub_at {ids : List Nat} {fr : Nat → Nat → Prop} {l : List Blk} (hl : getAll C.m ids = some l) {f : Nat → Nat} {b : Nat} (hb : b ∈ ids) {b0 : Blk} (h : C.m b = some b0) :
    (Sub C ids fr (l.map (renB f))).m (posOf ids b) = some (renB f b0) ∧ (Sub C ids fr (l.map (renB f))).φ (posOf ids b) = C.φ b := by
  have hp := posOf_get hb
  obtain ⟨h1, h2⟩ := getAll_ok hl
  obtain ⟨h3, _⟩ := h2 _ _ hp
  refine ⟨?_, by simp [Sub, hp]⟩
  simp [Sub, withIds_get, h3, h]

theorem sub_ok (hs : SRel C) {ids : List Nat} (hd : ids.Nodup) {l : List Blk} (hl : getAll C.m ids = some l) (hcl : ∀ b ∈ ids, ∀ c ∈ blkRefs (C.m b), c ∈ ids) (hok : l.all okBlk = true) {fr : Nat → Nat → Prop}
    (hf1 : ∀ k o b, fr k o → b ∈ ids → liesB (C.φ b) k → False) (hf2 : ∀ k o, fr k o → k < C.w.heap.size) (hf3 : ∀ k o, fr k o → C.T k o) :
    let D := Sub C ids fr (l.map (renB (posOf ids)))
    SRel D ∧ Ren C D (posOf ids) (· ∈ ids) ∧ (∀ k o, D.T k o → C.T k o) ∧ (∀ k, D.held k → ∃ b blk, b ∈ ids ∧ C.m b = some blk ∧ liesB (C.φ b) k) ∧ (∀ k o, D.own k o → ∃ b blk, b ∈ ids ∧ C.m b = some blk ∧ ownsB (C.φ b) blk k o) := by
  intro D
  have hown : ∀ k o, D.own k o → ∃ b blk, b ∈ ids ∧ C.m b = some blk ∧ ownsB (C.φ b) blk k o := by
    rintro k o ⟨i, b, h1, h2⟩
    obtain ⟨id, b0, e1, e2, e3, e4⟩ := sub_get hl h1
    rw [e4, e3, ownsB_ren] at h2
    exact ⟨id, b0, List.mem_of_getElem? e1, e2, h2⟩
  have hheld : ∀ k, D.held k → ∃ b blk, b ∈ ids ∧ C.m b = some blk ∧ liesB (C.φ b) k := by
    rintro k ⟨i, b, h1, h2⟩
    obtain ⟨id, b0, e1, e2, e3, e4⟩ := sub_get hl h1
    rw [e4] at h2
    exact ⟨id, b0, List.mem_of_getElem? e1, e2, h2⟩
  have hT : ∀ k o, D.T k o → C.T k o := by
    rintro k o (h | h)
    · exact hf3 k o h
    · obtain ⟨b, blk, _, h1, h2⟩ := hown k o h
      exact .inr ⟨b, blk, h1, h2⟩
  have hren : Ren C D (posOf ids) (· ∈ ids) := {
    keep := fun k o v h1 h2 => ⟨h1, fun h3 => h2 (hT k o h3)⟩
    cells := fun b ty cs hb hm => by
      obtain ⟨h1, h2⟩ := sub_at (fr := fr) (f := posOf ids) hl hb hm
      exact ⟨h2, _, h1⟩
    lists := fun b ee t g sh L hb hm => by
      obtain ⟨h1, h2⟩ := sub_at (fr := fr) (f := posOf ids) hl hb hm
      exact ⟨h2, h1⟩ }
  refine ⟨{ ok := ?_, apart := ?_, frApart := ?_, frOld := hf2, gl := fun k o h => ⟨(hs.gl k o h).1, fun hh => by { obtain ⟨b, blk, _, h2, h3⟩ := hheld k hh; exact (hs.gl k o h).2.1 ⟨b, blk, h2, h3⟩ }, fun x hx => (hf3 k x hx).elim ((hs.gl k o h).2.2 x) (fun ⟨b, blk, h2, h3⟩ => (hs.gl k o h).2.1 ⟨b, blk, h2, ownsB_lies h3⟩)⟩ }, hren, hT, hheld, hown⟩
  · intro i b hi
    obtain ⟨id, b0, e1, e2, e3, e4⟩ := sub_get hl hi
    rw [e4, e3]
    have hmem := List.mem_of_getElem? e1
    have hb := hs.ok id b0 e2
    have hokb : okBlk b0 = true := by
      obtain ⟨h1, h2⟩ := getAll_ok hl
      have h3 := (h2 i id e1).1
      rw [e2] at h3
      exact List.all_eq_true.1 hok _ (List.mem_of_getElem? h3)
    cases b0 with
    | cells ty cs =>
      obtain ⟨rb, c, hg, hh, hr, hlf⟩ := hb
      exact ⟨rb, c, hg, hh, hren.cellsL (fun b hb => hcl id hmem b (by rw [e2]; exact hb)) hokb hr, renA_leaves hlf⟩
    | list ee t g sh L =>
      obtain ⟨a, cap, hg, hz, hc, hbk⟩ := hb
      refine ⟨a, cap, hg, hz, hc, ?_⟩
      cases a with
      | none => exact hbk
      | some ad =>
        obtain ⟨hsp, c, lo, hi', hh, hsz, hfz, hsh, hx⟩ := hbk
        exact ⟨hsp, c, lo, hi', hh, hsz, hfz, fun h o h1 h2 h3 => hsh h o h1 h2 (hT _ _ h3), fun i x hi => (hx i x hi).mono hren.keep⟩
  · intro i b j b2 k hi hj hne h1 h2
    obtain ⟨id, b0, e1, e2, e3, e4⟩ := sub_get hl hi
    obtain ⟨id', b0', e1', e2', e3', e4'⟩ := sub_get hl hj
    rw [e4] at h1
    rw [e4'] at h2
    have hii : i < ids.length := (List.getElem?_eq_some_iff.1 e1).1
    have hjj : j < ids.length := (List.getElem?_eq_some_iff.1 e1').1
    have : id ≠ id' := fun e => by
      subst e
      have := (List.getElem_inj (h₀ := hii) (h₁ := hjj) hd).1 (by rw [(List.getElem?_eq_some_iff.1 e1).2, (List.getElem?_eq_some_iff.1 e1').2])
      exact hne this
    exact hs.apart id b0 id' b0' k e2 e2' this h1 h2
  · intro k o hf hh
    obtain ⟨b, blk, h1, _, h3⟩ := hheld k hh
    exact hf1 k o b hf h1 h3

end Go.Sx
namespace Go.Sx
open Go
variable {P : Program} {E : Env} {C : Ctx}

theorem numbered_get {f : Nat → Nat} : ∀ (bs : List Blk) (k : Nat) (m : Get) (j : Nat), (∀ a b, k ≤ a → a < k + bs.length → k ≤ b → b < k + bs.length → f a = f b → a = b) →
    (∀ i, i < bs.length → f (k + i) = j → applyM m (numbered f k bs) j = (bs[i]?).map (renB f)) ∧ ((∀ i, i < bs.length → f (k + i) ≠ j) → applyM m (numbered f k bs) j = m j)
  | [], k, m, j, _ => ⟨fun i hi => by simp at hi, fun _ => rfl⟩
  | b :: bs, k, m, j, hinj => by
    have hinj' : ∀ x y, k + 1 ≤ x → x < k + 1 + bs.length → k + 1 ≤ y → y < k + 1 + bs.length → f x = f y → x = y := fun x y h1 h2 h3 h4 h5 => hinj x y (by omega) (by simp; omega) (by omega) (by simp; omega) h5
    obtain ⟨h1, h2⟩ := numbered_get bs (k + 1) (updM m (f k) (renB f b)) j hinj'
    refine ⟨fun i hi hf => ?_, fun hn => ?_⟩
    · simp only [numbered, applyM]
      cases i with
      | zero =>
        rw [h2]
        · have : j = f k := by simpa using hf.symm
          simp [updM, this]
        · intro i' hi' e
          have := hinj (k + 1 + i') k (by omega) (by simp; omega) (by omega) (by simp) (by rw [e, ← hf]; simp)
          omega
      | succ i =>
        have := h1 i (by simpa using hi) (by rw [← hf]; congr 1; omega)
        simpa using this
    · simp only [numbered, applyM]
      rw [h2]
      · have := hn 0 (by simp)
        simp only [updM]
        rw [if_neg]
        intro e
        exact this (by simp [e])
      · intro i hi e
        exact hn (i + 1) (by simpa using hi) (by rw [← e]; congr 1; omega)

theorem back_inj {ids : List Nat} (hd : ids.Nodup) {base n : Nat} (hn : n ≤ ids.length + 16) (hf : ∀ j, base ≤ j → j < base + 16 → j ∉ ids) : ∀ a b, 0 ≤ a → a < 0 + n → 0 ≤ b → b < 0 + n → backMap ids base a = backMap ids base b → a = b := by
  intro a b _ h1 _ h2 h
  simp only [backMap, nth_eq] at h
  by_cases ha : a < ids.length
  · by_cases hb : b < ids.length
    · simp only [List.getElem?_eq_getElem ha, List.getElem?_eq_getElem hb, Option.getD_some] at h
      exact (List.getElem_inj (h₀ := ha) (h₁ := hb) hd).1 h
    · simp only [List.getElem?_eq_getElem ha, List.getElem?_eq_none (Nat.le_of_not_lt hb), Option.getD_some, Option.getD_none] at h
      exact (hf _ (Nat.le_add_right base _) (by omega) (h ▸ List.getElem_mem ha)).elim
  · by_cases hb : b < ids.length
    · simp only [List.getElem?_eq_getElem hb, List.getElem?_eq_none (Nat.le_of_not_lt ha), Option.getD_some, Option.getD_none] at h
      exact (hf _ (Nat.le_add_right base _) (by omega) (h ▸ List.getElem_mem hb)).elim
    · simp only [List.getElem?_eq_none (Nat.le_of_not_lt hb), List.getElem?_eq_none (Nat.le_of_not_lt ha), Option.getD_none] at h
      omega

set_option maxHeartbeats 2000000 in
theorem back_ok (hs : SRel C) {ids : List Nat} (hd : ids.Nodup) {l : List Blk} (hl : getAll C.m ids = some l) {f : Nat → Nat} {fr : Nat → Nat → Prop}
    (hfr : ∀ k o, fr k o ↔ (C.fr k o ∨ ∃ j b, j ∉ ids ∧ C.m j = some b ∧ ownsB (C.φ j) b k o))
    (hTD : ∀ k o, (Sub C ids fr (l.map (renB f))).T k o → C.T k o) (hheld : ∀ k, (Sub C ids fr (l.map (renB f))).held k → ∃ b blk, b ∈ ids ∧ C.m b = some blk ∧ liesB (C.φ b) k)
    (hown : ∀ k o, (Sub C ids fr (l.map (renB f))).own k o → ∃ b blk, b ∈ ids ∧ C.m b = some blk ∧ ownsB (C.φ b) blk k o)
    {D' : Ctx} (hs' : SRel D') (hE : Ext (Sub C ids fr (l.map (renB f))) D') {bs' : List Blk} (hm' : D'.m = getB (withIds 0 bs')) (hok' : bs'.all okBlk = true) {base : Nat} (hlen : bs'.length ≤ ids.length + 16)
    (hbase : ∀ j, base ≤ j → j < base + 16 → C.m j = none) :
    ∃ C' : Ctx, C'.w = D'.w ∧ C'.m = applyM C.m (numbered (backMap ids base) 0 bs') ∧ C'.fr = C.fr ∧ SRel C' ∧ Ext C C' ∧ Ren D' C' (backMap ids base) (· < bs'.length) := by
  have hbase2 : ∀ j, base ≤ j → j < base + 16 → j ∉ ids := fun j h1 h2 h3 => by
    obtain ⟨i, hi, e⟩ := List.getElem_of_mem h3
    obtain ⟨_, h4⟩ := (getAll_ok hl).2 i j (by simp [hi, e])
    rw [hbase j h1 h2] at h4
    cases h4
  obtain ⟨back, hback⟩ : ∃ back, back = backMap ids base := ⟨_, rfl⟩
  have hinj : ∀ a b, a < bs'.length → b < bs'.length → back a = back b → a = b := fun a b h1 h2 h3 => by
    rw [hback] at h3
    exact back_inj (n := bs'.length) hd hlen hbase2 a b (Nat.zero_le _) (by omega) (Nat.zero_le _) (by omega) h3
  have hm'i : ∀ i, D'.m i = bs'[i]? := fun i => by rw [hm', withIds_get]; simp
  have hlive : ∀ i b, D'.m i = some b → i < bs'.length := fun i b h => by rw [hm'i] at h; exact (List.getElem?_eq_some_iff.1 h).1
  -- what comes back
  have hnum : ∀ j, (∀ i, i < bs'.length → back i = j → applyM C.m (numbered back 0 bs') j = (bs'[i]?).map (renB back)) ∧ ((∀ i, i < bs'.length → back i ≠ j) → applyM C.m (numbered back 0 bs') j = C.m j) := fun j => by
    have := numbered_get (f := back) bs' 0 C.m j (fun a b _ h2 _ h4 h5 => hinj a b (by omega) (by omega) h5)
    simpa using this
  classical
  obtain ⟨φ', hφ1, hφ2⟩ : ∃ φ' : Nat → G, (∀ i, i < bs'.length → φ' (back i) = D'.φ i) ∧ (∀ j, (∀ i, i < bs'.length → back i ≠ j) → φ' j = C.φ j) := by
    refine ⟨fun j => if h : ∃ i, i < bs'.length ∧ back i = j then D'.φ h.choose else C.φ j, fun i hi => ?_, fun j hj => ?_⟩
    · have h : ∃ i', i' < bs'.length ∧ back i' = back i := ⟨i, hi, rfl⟩
      simp only [dif_pos h]
      rw [hinj _ _ h.choose_spec.1 hi h.choose_spec.2]
    · exact dif_neg fun ⟨i, h1, h2⟩ => hj i h1 h2
  -- which of the caller's blocks is which
  have hpassed : ∀ i id, ids[i]? = some id → back i = id ∧ i < bs'.length := fun i id hi => by
    have hb : back i = id := by rw [hback]; simp [backMap, nth_eq, hi]
    refine ⟨hb, ?_⟩
    obtain ⟨h1, h2⟩ := getAll_ok hl
    obtain ⟨h3, h4⟩ := h2 i id hi
    obtain ⟨b0, hb0⟩ := Option.isSome_iff_exists.1 h4
    have hD : (Sub C ids fr (l.map (renB f))).m i = some (renB f b0) := by simp [Sub, withIds_get, h3, hb0]
    cases b0 with
    | cells ty cs => obtain ⟨_, cs', h⟩ := hE.cells i _ _ hD; exact hlive i _ h
    | list ee t g sh L => obtain ⟨_, _, _, h, _⟩ := hE.lists i ee t g sh L hD; exact hlive i _ h
  have hback2 : ∀ i, i < bs'.length → (∃ id, ids[i]? = some id ∧ back i = id) ∨ (ids.length ≤ i ∧ C.m (back i) = none) := fun i hi => by
    by_cases h : i < ids.length
    · exact .inl ⟨ids[i], by simp [h], (hpassed i _ (by simp [h])).1⟩
    · refine .inr ⟨by omega, ?_⟩
      rw [hback]
      simp only [backMap, nth_eq, List.getElem?_eq_none (Nat.le_of_not_lt h), Option.getD_none]
      exact hbase _ (Nat.le_add_right _ _) (by omega)
  have hother : ∀ j b, C.m j = some b → j ∉ ids → ∀ i, i < bs'.length → back i ≠ j := fun j b hj hn i hi e => by
    rcases hback2 i hi with ⟨id, h1, h2⟩ | ⟨_, h2⟩
    · exact hn (by rw [← e, h2]; exact List.mem_of_getElem? h1)
    · rw [e, hj] at h2; cases h2
  let C' : Ctx := ⟨D'.w, applyM C.m (numbered back 0 bs'), φ', C.fr, C.gl⟩
  have hC'1 : ∀ i, i < bs'.length → C'.m (back i) = (bs'[i]?).map (renB back) ∧ C'.φ (back i) = D'.φ i := fun i hi => ⟨(hnum _).1 i hi rfl, hφ1 i hi⟩
  have hC'2 : ∀ j, (∀ i, i < bs'.length → back i ≠ j) → C'.m j = C.m j ∧ C'.φ j = C.φ j := fun j hj => ⟨(hnum j).2 hj, hφ2 j hj⟩
  -- a block of C' is one that came back, or one that stayed
  have hcase : ∀ j b, C'.m j = some b → (∃ i b0, i < bs'.length ∧ back i = j ∧ D'.m i = some b0 ∧ b = renB back b0 ∧ C'.φ j = D'.φ i) ∨ (C.m j = some b ∧ C'.φ j = C.φ j ∧ j ∉ ids) := by
    intro j b hj
    by_cases h : ∃ i, i < bs'.length ∧ back i = j
    · obtain ⟨i, hi, rfl⟩ := h
      obtain ⟨h1, h2⟩ := hC'1 i hi
      rw [h1, List.getElem?_eq_getElem hi, Option.map_some, Option.some.injEq] at hj
      exact .inl ⟨i, bs'[i], hi, rfl, by rw [hm'i]; simp [hi], hj.symm, h2⟩
    · have h' : ∀ i, i < bs'.length → back i ≠ j := fun i hi e => h ⟨i, hi, e⟩
      obtain ⟨h1, h2⟩ := hC'2 j h'
      refine .inr ⟨h1 ▸ hj, h2, fun hmem => ?_⟩
      obtain ⟨i, hi, e⟩ := List.getElem_of_mem hmem
      obtain ⟨h3, h4⟩ := hpassed i j (by simp [hi, e])
      exact h' i h4 h3
  have hDheld : ∀ k, (Sub C ids fr (l.map (renB f))).held k → C.held k := fun k h => by
    obtain ⟨b, blk, _, h2, h3⟩ := hheld k h
    exact ⟨b, blk, h2, h3⟩
  have hfrD' : ∀ k o, C.fr k o → D'.fr k o := fun k o h => by rw [hE.frEq]; exact (hfr k o).2 (.inl h)
  have hown' : ∀ k o, C'.own k o → D'.own k o ∨ ∃ j b, j ∉ ids ∧ C.m j = some b ∧ ownsB (C.φ j) b k o := by
    rintro k o ⟨j, b, hj, hb⟩
    rcases hcase j b hj with ⟨i, b0, h1, h2, h3, h4, h5⟩ | ⟨h1, h2, h3⟩
    · rw [h5, h4, ownsB_ren] at hb
      exact .inl ⟨i, b0, h3, hb⟩
    · rw [h2] at hb
      exact .inr ⟨j, b, h3, h1, hb⟩
  have hT' : ∀ k o, C'.T k o → D'.T k o := by
    rintro k o (h | h)
    · exact .inl (hfrD' k o h)
    · rcases hown' k o h with h | h
      · exact .inr h
      · exact .inl (by rw [hE.frEq]; exact (hfr k o).2 (.inr h))
  have hheld' : ∀ k, C'.held k → D'.held k ∨ ∃ j b, j ∉ ids ∧ C.m j = some b ∧ liesB (C.φ j) k := by
    rintro k ⟨j, b, hj, hb⟩
    rcases hcase j b hj with ⟨i, b0, h1, h2, h3, h4, h5⟩ | ⟨h1, h2, h3⟩
    · rw [h5] at hb
      exact .inl ⟨i, b0, h3, hb⟩
    · rw [h2] at hb
      exact .inr ⟨j, b, h3, h1, hb⟩
  have hren : Ren D' C' back (· < bs'.length) := {
    keep := fun k o v h1 h2 => ⟨h1, fun h3 => h2 (hT' k o h3)⟩
    cells := fun b ty cs hb hmb => by
      obtain ⟨h1, h2⟩ := hC'1 b hb
      refine ⟨h2, cs.map (renA back), ?_⟩
      rw [h1, ← hm'i, hmb]
      rfl
    lists := fun b ee t g sh L hb hmb => by
      obtain ⟨h1, h2⟩ := hC'1 b hb
      refine ⟨h2, ?_⟩
      rw [h1, ← hm'i, hmb]
      rfl }
  have hEx : Ext C C' := {
    cells := fun j ty cs hj => by
      by_cases hmem : j ∈ ids
      · obtain ⟨i, hi, e⟩ := List.getElem_of_mem hmem
        have hi' : ids[i]? = some j := by simp [hi, e]
        obtain ⟨h3, h4⟩ := hpassed i j hi'
        obtain ⟨h1, h2⟩ := getAll_ok hl
        have hD : (Sub C ids fr (l.map (renB f))).m i = some (.cells ty (cs.map (renA f))) := by simp [Sub, withIds_get, (h2 i j hi').1, hj, renB]
        obtain ⟨e1, cs', e2⟩ := hE.cells i _ _ hD
        obtain ⟨k1, k2⟩ := hC'1 i h4
        rw [h3] at k1 k2
        refine ⟨by rw [k2, e1]; simp [Sub, hi'], cs'.map (renA back), ?_⟩
        rw [k1, ← hm'i, e2]
        rfl
      · obtain ⟨k1, k2⟩ := hC'2 j (hother j _ hj hmem)
        exact ⟨k2, cs, by rw [k1]; exact hj⟩
    lists := fun j ee t g sh L hj => by
      by_cases hmem : j ∈ ids
      · obtain ⟨i, hi, e⟩ := List.getElem_of_mem hmem
        have hi' : ids[i]? = some j := by simp [hi, e]
        obtain ⟨h3, h4⟩ := hpassed i j hi'
        obtain ⟨h1, h2⟩ := getAll_ok hl
        have hD : (Sub C ids fr (l.map (renB f))).m i = some (.list ee t g sh L) := by simp [Sub, withIds_get, (h2 i j hi').1, hj, renB]
        obtain ⟨g2, sh2, L2, e1, e2, e3⟩ := hE.lists i ee t g sh L hD
        obtain ⟨k1, k2⟩ := hC'1 i h4
        rw [h3] at k1 k2
        refine ⟨g2, sh2, L2, ?_, e2, fun eg => ?_⟩
        · rw [k1, ← hm'i, e1]; rfl
        · obtain ⟨q1, q2⟩ := e3 eg
          exact ⟨by rw [k2, q1]; simp [Sub, hi'], q2⟩
      · obtain ⟨k1, k2⟩ := hC'2 j (hother j _ hj hmem)
        exact ⟨g, sh, L, by rw [k1]; exact hj, Nat.le_refl _, fun _ => ⟨k2, rfl⟩⟩
    keep := fun k o v h1 h2 => by
      obtain ⟨h3, h4⟩ := hE.keep k o v h1 fun h => h2 (hTD k o h)
      exact ⟨h3, fun h => h4 (hT' k o h)⟩
    frEq := rfl
    glEq := rfl
    frKeep := fun k o v h1 h2 => hE.frKeep k o v h1 ((hfr k o).2 (.inl h2))
    size := hE.size
    old := fun k hk hn => hE.old k hk fun h => hn (hDheld k h)
    held := fun k h => by
      rcases hheld' k h with h | ⟨j, b, _, h1, h2⟩
      · rcases hE.held k h with h | h
        · exact .inl (hDheld k h)
        · exact .inr h
      · exact .inl ⟨j, b, h1, h2⟩
    own := fun k o h => by
      rcases hown' k o h with h | ⟨j, b, _, h1, h2⟩
      · rcases hE.own k o h with h | h
        · obtain ⟨b, blk, _, h1, h2⟩ := hown k o h
          exact .inl ⟨b, blk, h1, h2⟩
        · exact .inr h
      · exact .inl ⟨j, b, h1, h2⟩
    os := hE.os
    tape := hE.tape
    output := hE.output }
  -- whoever stayed lies apart from what came back
  have hfar : ∀ j b k, C.m j = some b → j ∉ ids → liesB (C.φ j) k → ¬ D'.held k := fun j b k hj hn hk hh => by
    rcases hE.held k hh with h | h
    · obtain ⟨b2, blk, h1, h2, h3⟩ := hheld k h
      exact hs.apart j b b2 blk k hj h2 (fun e => hn (e ▸ h1)) hk h3
    · have := (hs.ok j b hj).lt hk
      have : C.w.heap.size ≤ k := h
      omega
  have hS' : SRel C' := {
    ok := fun j b hj => by
      rcases hcase j b hj with ⟨i, b0, h1, h2, h3, h4, h5⟩ | ⟨h1, h2, h3⟩
      · have hb := hs'.ok i b0 h3
        rw [h5, h4]
        have hokb : okBlk b0 = true := by
          rw [hm'i] at h3
          exact List.all_eq_true.1 hok' _ (List.mem_of_getElem? h3)
        cases b0 with
        | cells ty cs =>
          obtain ⟨rb, c, hg, hh, hr, hlf⟩ := hb
          refine ⟨rb, c, hg, hh, hren.cellsL (fun b hb => ?_) hokb hr, renA_leaves hlf⟩
          obtain ⟨x, hx⟩ := Option.isSome_iff_exists.1 (refsC_live hr b hb)
          exact hlive b x hx
        | list ee t g sh L =>
          obtain ⟨a, cap, hg, hz, hc, hbk⟩ := hb
          refine ⟨a, cap, hg, hz, hc, ?_⟩
          cases a with
          | none => exact hbk
          | some ad =>
            obtain ⟨hsp, c, lo, hi', hh, hsz, hfz, hsh, hx⟩ := hbk
            exact ⟨hsp, c, lo, hi', hh, hsz, hfz, fun h o h1 h2 h3 => hsh h o h1 h2 (hT' _ _ h3), fun i x hi => (hx i x hi).mono hren.keep⟩
      · rw [h2]
        refine (hs.ok j b h1).mono hEx fun k hk => ?_
        refine hE.old k ((hs.ok j b h1).lt hk) fun hh => ?_
        obtain ⟨b2, blk, e1, e2, e3⟩ := hheld k hh
        exact hs.apart j b b2 blk k h1 e2 (fun e => h3 (e ▸ e1)) hk e3
    apart := fun i b j b2 k hi hj hne h1 h2 => by
      rcases hcase i b hi with ⟨i', b0, q1, q2, q3, q4, q5⟩ | ⟨q1, q2, q3⟩
      · rw [q5] at h1
        rcases hcase j b2 hj with ⟨j', b0', p1, p2, p3, p4, p5⟩ | ⟨p1, p2, p3⟩
        · rw [p5] at h2
          exact hs'.apart i' b0 j' b0' k q3 p3 (fun e => hne (by rw [← q2, ← p2, e])) h1 h2
        · rw [p2] at h2
          exact hfar j b2 k p1 p3 h2 ⟨i', b0, q3, h1⟩
      · rw [q2] at h1
        rcases hcase j b2 hj with ⟨j', b0', p1, p2, p3, p4, p5⟩ | ⟨p1, p2, p3⟩
        · rw [p5] at h2
          exact hfar i b k q1 q3 h1 ⟨j', b0', p3, h2⟩
        · rw [p2] at h2
          exact hs.apart i b j b2 k q1 p1 hne h1 h2
    frApart := fun k o hf hh => by
      rcases hheld' k hh with h | ⟨j, b, _, h1, h2⟩
      · exact hs'.frApart k o (hfrD' k o hf) h
      · exact hs.frApart k o hf ⟨j, b, h1, h2⟩
    frOld := fun k o hf => Nat.lt_of_lt_of_le (hs.frOld k o hf) hE.size
    gl := hEx.gl_ok hs.gl }
  refine ⟨C', rfl, by rw [← hback], rfl, hS', hEx, by rw [← hback]; exact hren⟩

end Go.Sx
namespace Go.Sx
open Go
variable {P : Program} {E : Env} {C : Ctx}

/-- what stays when a panic leaves -/
structure PExt (C : Ctx) (w' : World) (T' : Nat → Nat → Prop) : Prop where
  keep : Keep C.w C.T w' T'
  frKeep : ∀ k o v, C.w.cell? ⟨k, o, none⟩ = some v → C.fr k o → w'.cell? ⟨k, o, none⟩ = some v
  size : C.w.heap.size ≤ w'.heap.size
  old : ∀ k, k < C.w.heap.size → ¬ C.held k → w'.heap[k]? = C.w.heap[k]?
  os : w'.os = C.w.os
  tape : w'.tape = C.w.tape
  output : w'.output = C.w.output

theorem PExt.after {A B : Ctx} {w' : World} {T' : Nat → Nat → Prop} (h : Ext A B) (k : PExt B w' T') : PExt A w' T' where
  keep := fun a o v hv ht => by
    obtain ⟨hv', ht'⟩ := h.keep a o v hv ht
    exact k.keep a o v hv' ht'
  frKeep := fun a o v hv hf => k.frKeep a o v (h.frKeep a o v hv hf) (h.frEq ▸ hf)
  size := Nat.le_trans h.size k.size
  old := fun a ha hn => by
    rw [← h.old a ha hn]
    refine k.old a (Nat.lt_of_lt_of_le ha h.size) fun hh => ?_
    rcases h.held a hh with hh | hh
    · exact hn hh
    · omega
  os := k.os.trans h.os
  tape := k.tape.trans h.tape
  output := k.output.trans h.output

/-- a panic leaves with a value that holds data alone -/
def PanicAt (C : Ctx) (av : AV) (w' : World) (chain : List PanicEntry) : Prop :=
  ∃ u T', chain = [{ v := u, recovered := false }] ∧ VRel ⟨w', fun _ => none, fun _ => .cells 0, T', fun _ _ => False⟩ av u ∧ plainV av = true ∧ PExt C w' T'

theorem PanicAt.after {A B : Ctx} (h : Ext A B) {av : AV} {w' : World} {ch : List PanicEntry} (k : PanicAt B av w' ch) : PanicAt A av w' ch := by
  obtain ⟨u, T', h1, h2, h3, h4⟩ := k
  exact ⟨u, T', h1, h2, h3, PExt.after h h4⟩

/-- how a call ends -/
def PostOf (D : Ctx) (r : Out × List Blk) : Ending → World → Prop
  | .returned u, w' => ∃ v D', r.1 = .ret v ∧ D'.w = w' ∧ D'.m = getB (withIds 0 r.2) ∧ SRel D' ∧ Ext D D' ∧ VRel D' v u ∧ plainV v = true ∧ r.2.all okBlk = true
  | .panicked chain, w' => ∃ v, r.1 = .panic v ∧ PanicAt D v w' chain
  | .outgrown, _ => False

/-- a call, be it of a body, be it of an entry of the model's -/
def Answers (P : Program) (f : FuncId) (vals : Array Value) (w : World) (R : Ending → World → Prop) : Prop :=
  ((callFunc f vals).run P w = .ok (.enter f vals) w ∧ Calls P f vals w R) ∨
  (∃ v w', (callFunc f vals).run P w = .ok (.value v) w' ∧ R (.returned v) w') ∨
  (∃ v w', (callFunc f vals).run P w = .halt (.panic v) w' ∧ R (.panicked [{ v, recovered := false }]) w')

/-- an answer of a call's is so -/
def SA (P : Program) (G : Nat → Obj → Prop) (f : Nat) (args : List AV) (bs : List Blk) (o : Out × List Blk) : Prop :=
  ∀ (D : Ctx) (vals : List Value), D.gl = G → D.m = getB (withIds 0 bs) → SRel D → VRelL D args vals → Answers P f vals.toArray D.w (PostOf D o)

/-- what the machine says of calls is so -/
def KOK (P : Program) (G : Nat → Obj → Prop) (K : Callee) : Prop :=
  ∀ (R : Type) f args bs k (r : R), K R f args bs k = .ok r → ∃ o, k o = .ok r ∧ SA P G f args bs o

/-- a call, as the machine takes it -/
def CallIs (P : Program) (G : Nat → Obj → Prop) (f : Nat) (args : List AV) (get : Get) (base : Nat) (out : Out) (wr : Wr) (rd : List Nat) : Prop :=
  ∃ l, reach get 200 (args.flatMap refV) [] = some rd ∧ getAll get rd = some l ∧ (args.all plainV && l.all okBlk) = true ∧
    ((∃ v l', SA P G f (args.map (renV (posOf rd))) (l.map (renB (posOf rd))) (.ret v, l') ∧ Nat.ble l'.length (rd.length + 16) = true ∧ out = .ret (renV (backMap rd base) v) ∧ wr = numbered (backMap rd base) 0 l') ∨
     (∃ v l', SA P G f (args.map (renV (posOf rd))) (l.map (renB (posOf rd))) (.panic v, l') ∧ out = .panic v ∧ wr = []))

theorem doCall_is {G : Nat → Obj → Prop} {K : Callee} (hK : KOK P G K) {R : Type} {f : Nat} {args : List AV} {get : Get} {base : Nat} {k : Out → Wr → List Nat → Rs R} {r : R} (h : doCall K f args get base k = .ok r) :
    ∃ out wr rd, k out wr rd = .ok r ∧ CallIs P G f args get base out wr rd := by
  unfold doCall at h
  split at h
  · cases h
  · rename_i ids hr
    split at h
    · cases h
    · rename_i l hl
      split at h
      · cases h
      · rename_i hck
        obtain ⟨o, ho, hS⟩ := hK _ _ _ _ _ _ h
        split at ho
        · rename_i v l'
          split at ho
          · rename_i hle
            exact ⟨_, _, _, ho, l, hr, hl, hck, .inl ⟨v, l', hS, hle, rfl, rfl⟩⟩
          · cases ho
        · rename_i v l'
          exact ⟨_, _, _, ho, l, hr, hl, hck, .inr ⟨v, l', hS, rfl, rfl⟩⟩

section
variable {ρ : Operand → Value} {lk : Look} {o : Oper}
/-- an operation gives a value, and writes -/
def OpDoes (P : Program) (C : Ctx) (ρ : Operand → Value) (o : Oper) (av : AV) (wr : Wr) : Prop :=
  ∀ a next Q, (∀ v C', C'.m = applyM C.m wr → SRel C' → Ext C C' → VRel C' av v → next (a.put o.dst v) C'.w) → o.upon P a next Q ((execOp ρ o).run P C.w)
def OpPanics (P : Program) (C : Ctx) (ρ : Operand → Value) (o : Oper) (av : AV) : Prop :=
  ∀ a next Q, (∀ w' chain, PanicAt C av w' chain → Q (.panic chain) a w') → o.upon P a next Q ((execOp ρ o).run P C.w)

theorem Good.does {av : AV} {wr : Wr} (h : Good P C ρ o av (applyM C.m wr)) : OpDoes P C ρ o av wr := by
  intro a next Q hn
  obtain ⟨v, C', hr, hm, hs, hE, hv⟩ := h
  rcases hr with hr | ⟨hr, rfl⟩
  · rw [hr]; exact hn v C' hm hs hE hv
  · rw [hr]; exact hn undef C' hm hs hE hv

theorem bindK_ok {α R : Type} {pos : Nat} {k : α → Rs R} {r : R} : ∀ {d : DT α}, d.bindK pos k = .ok r → ∃ a, d.run = some a ∧ k a = .ok r
  | .leaf a, h => ⟨a, rfl, h⟩
  | .fail, h => by cases h
  | .br true t e, h => bindK_ok (d := t) h
  | .br false t e, h => bindK_ok (d := e) h

/-- the ways of a call: in the model, after its operands -/
theorem upon_answers {f : Operand} {as : Array Operand} {ts : Array TypeId} {f' : FuncId} {caps : Array Value} (ho : o.op = .call { callee := .value f, args := as, argTypes := ts }) (hf : ρ f = .func (.func f') #[] caps)
    {w : World} {R : Ending → World → Prop} (h : Answers P f' (as.map ρ ++ caps) w R) {a : Act} {next : Act → World → Prop} {Q : Exit → Act → World → Prop}
    (h1 : ∀ v w', R (.returned v) w' → next (a.put o.dst v) w') (h2 : ∀ ch w', R (.panicked ch) w' → Q (.panic ch) a w') (h3 : ∀ w', R .outgrown w' → LetsOut Q) :
    o.upon P a next Q ((execOp ρ o).run P w) := by
  have he : (execOp ρ o).run P w = (callFunc f' (as.map ρ ++ caps)).run P w := by
    simp [execOp, ho, resolve, Deferred.ofValue, hf, invoke]
  rw [he]
  rcases h with ⟨hr, hc⟩ | ⟨v, w', hr, hR⟩ | ⟨v, w', hr, hR⟩
  · rw [hr, Oper.upon_enter]
    refine Calls.mono hc fun e w'' hR => ?_
    cases e with
    | returned v => exact h1 v w'' hR
    | panicked ch => exact h2 ch w'' hR
    | outgrown => exact h3 w'' hR
  · rw [hr, Oper.upon_value]; exact h1 v w' hR
  · rw [hr, Oper.upon_panic]; exact h2 _ w' hR
end

end Go.Sx
namespace Go.Sx
open Go
variable {G : Nat → Obj → Prop} {P : Program} {E : Env} {C : Ctx} {K : Callee}

theorem mapRel {ρ : Operand → Value} {lk : Look} (hρ : ∀ x, VRel C (evalO lk x) (ρ x)) : ∀ (l : List Operand), VRelL C (l.map (evalO lk)) (l.map ρ)
  | [] => rfl
  | x :: l => ⟨_, _, rfl, hρ x, mapRel hρ l⟩

/-- plain data goes over by itself -/
theorem args_live : ∀ {as : List AV} {vs : List Value}, VRelL C as vs → ∀ b ∈ as.flatMap refV, (C.m b).isSome = true
  | [], _, _, b, hb => by simp at hb
  | a :: as, _, h, b, hb => by
    obtain ⟨v, r, rfl, h1, h2⟩ := h
    simp only [List.flatMap_cons, List.mem_append] at hb
    rcases hb with hb | hb
    · exact refV_live h1 b hb
    · exact args_live h2 b hb

theorem doCall_good (hG : C.gl = G) (hs : SRel C) {f : Nat} {args : List AV} {vals : List Value} (hv : VRelL C args vals) {base : Nat} (hbase : ∀ j, base ≤ j → j < base + 16 → C.m j = none)
    {out : Out} {wr : Wr} {rd : List Nat} (h : CallIs P G f args C.m base out wr rd) :
    Answers P f vals.toArray C.w fun e w' => match e with
      | .returned u => ∃ v C', out = .ret v ∧ C'.w = w' ∧ C'.m = applyM C.m wr ∧ SRel C' ∧ Ext C C' ∧ VRel C' v u
      | .panicked ch => ∃ v, out = .panic v ∧ PanicAt C v w' ch
      | .outgrown => False := by
  obtain ⟨l, hr, hl, hck, h⟩ := h
  obtain ⟨ids, hids0⟩ : ∃ ids, ids = rd := ⟨_, rfl⟩
  subst hids0
  obtain ⟨hd, ⟨_, _⟩, hids, hcl⟩ := reach_ok hr (by simp) (by simp)
  simp only [Bool.and_eq_true] at hck
  obtain ⟨hp, hok⟩ := hck
  obtain ⟨fr, hfr⟩ : ∃ fr : Nat → Nat → Prop, ∀ k o, fr k o ↔ (C.fr k o ∨ ∃ j b, j ∉ ids ∧ C.m j = some b ∧ ownsB (C.φ j) b k o) := ⟨_, fun _ _ => Iff.rfl⟩
  obtain ⟨hsD, hren, hTD, hheld, hown⟩ := sub_ok hs hd hl hcl hok (fr := fr)
    (fun k o b hf hb hk => by
      obtain ⟨_, h2⟩ := getAll_ok hl
      obtain ⟨i, hi, e⟩ := List.getElem_of_mem hb
      obtain ⟨b0, hb0⟩ := Option.isSome_iff_exists.1 (h2 i b (by simp [hi, e])).2
      rcases (hfr k o).1 hf with hf | ⟨j, b', hj, hm, ho⟩
      · exact hs.frApart k o hf ⟨b, b0, hb0, hk⟩
      · exact hs.apart b b0 j b' k hb0 hm (fun e => hj (e ▸ hb)) hk (ownsB_lies ho))
    (fun k o hf => by
      rcases (hfr k o).1 hf with hf | ⟨j, b', hj, hm, ho⟩
      · exact hs.frOld k o hf
      · exact (hs.ok j b' hm).lt (ownsB_lies ho))
    (fun k o hf => by
      rcases (hfr k o).1 hf with hf | ⟨j, b', hj, hm, ho⟩
      · exact .inl hf
      · exact .inr ⟨j, b', hm, ho⟩)
  have hvD := hren.args hids hp hv
  generalize hD : Sub C ids fr (l.map (renB (posOf ids))) = D at *
  have key : ∀ r, SA P G f (args.map (renV (posOf ids))) (l.map (renB (posOf ids))) r → Answers P f vals.toArray C.w (PostOf D r) := fun r hr => by
    have := hr D vals (by rw [← hD]; exact hG) (by rw [← hD]; rfl) hsD hvD
    rw [← hD] at this ⊢
    exact this
  have mono : ∀ {R R' : Ending → World → Prop}, Answers P f vals.toArray C.w R → (∀ e w', R e w' → R' e w') → Answers P f vals.toArray C.w R' := fun hA hi => by
    rcases hA with ⟨h1, h2⟩ | ⟨v, w', h1, h2⟩ | ⟨v, w', h1, h2⟩
    · exact .inl ⟨h1, Calls.mono h2 hi⟩
    · exact .inr (.inl ⟨v, w', h1, hi _ _ h2⟩)
    · exact .inr (.inr ⟨v, w', h1, hi _ _ h2⟩)
  have pext : ∀ {w' T'}, PExt D w' T' → PExt C w' T' := fun {w' T'} hp => {
    keep := fun k o v h1 h2 => hp.keep k o v (by rw [← hD]; exact h1) fun h => h2 (hTD k o h)
    frKeep := fun k o v h1 h2 => hp.frKeep k o v (by rw [← hD]; exact h1) (by rw [← hD]; exact (hfr k o).2 (.inl h2))
    size := by have := hp.size; rw [← hD] at this; exact this
    old := fun k hk hn => by
      have := hp.old k (by rw [← hD]; exact hk) (fun h => by
        obtain ⟨b, blk, h1, h2, h3⟩ := hheld k h
        exact hn ⟨b, blk, h2, h3⟩)
      rw [this, ← hD]; rfl
    os := by rw [hp.os, ← hD]; rfl
    tape := by rw [hp.tape, ← hD]; rfl
    output := by rw [hp.output, ← hD]; rfl }
  rcases h with ⟨v, l', hk, hlen, rfl, rfl⟩ | ⟨v, l', hk, rfl, rfl⟩
  · refine mono (key _ hk) fun e w' hR => ?_
    cases e with
    | returned u =>
      obtain ⟨v', D', e1, e2, e3, e4, e5, e6, e7, e8⟩ := hR
      simp only [Out.ret.injEq] at e1
      subst e1
      subst hD
      obtain ⟨C', c1, c2, c3, c4, c5, c6⟩ := back_ok hs hd hl hfr hTD hheld hown e4 e5 e3 e8 (Nat.le_of_ble_eq_true hlen) hbase
      refine ⟨_, C', rfl, c1.trans e2, c2, c4, c5, c6.relV (fun b hb => ?_) e7 e6⟩
      obtain ⟨x, hx⟩ := Option.isSome_iff_exists.1 (refV_live e6 b hb)
      rw [e3, withIds_get] at hx
      simp only [Nat.zero_le, if_true, Nat.sub_zero] at hx
      exact (List.getElem?_eq_some_iff.1 hx).1
    | panicked ch => obtain ⟨v', e1, _⟩ := hR; cases e1
    | outgrown => exact hR
  · refine mono (key _ hk) fun e w' hR => ?_
    cases e with
    | returned u => obtain ⟨v', D', e1, _⟩ := hR; cases e1
    | panicked ch =>
      obtain ⟨v', e1, u, T', p1, p2, p3, p4⟩ := hR
      simp only [Out.panic.injEq] at e1
      subst e1
      exact ⟨_, rfl, u, T', p1, p2, p3, pext p4⟩
    | outgrown => exact hR

section
variable {ρ : Operand → Value} {lk : Look} {o : Oper} {R : Type} {r : R}

/-- an operation, as the machine takes it -/
def ExecIs (E : Env) (P : Program) (G : Nat → Obj → Prop) (lk : Look) (get : Get) (id : Nat) (o : Oper) (v : AV) (wr : Wr) (rd : List Nat) : Prop :=
  match o.op with
  | .call { callee := .value f, args := as, .. } => ∃ f' cap, evalO lk f = .fn f' cap ∧ CallIs P G f' (as.toList.map (evalO lk) ++ cap) get id (.ret v) wr rd
  | .panic _ => False
  | op => (opA E lk get id op).run = some ⟨v, wr, rd⟩

theorem ExecIs.does (hE : EnvOK E P) (hG : C.gl = G) (hs : SRel C) (hρ : ∀ x, VRel C (evalO lk x) (ρ x)) {id : Nat} (hid : ∀ j, id ≤ j → j < id + 16 → C.m j = none) {v : AV} {wr : Wr} {rd : List Nat}
    (h : ExecIs E P G lk C.m id o v wr rd) : OpDoes P C ρ o v wr := by
  unfold ExecIs at h
  split at h
  · rename_i f as ts ho
    obtain ⟨f', cap, hf, hdc⟩ := h
    have hfv := hρ f
    rw [hf] at hfv
    obtain ⟨vs, hfv, hcap⟩ := hfv
    have hargs : VRelL C (as.toList.map (evalO lk) ++ cap) (as.toList.map ρ ++ vs.toList) := (mapRel hρ _).append hcap
    have hl : (as.toList.map ρ ++ vs.toList).toArray = as.map ρ ++ vs := by
      apply Array.ext'
      simp
    intro a next Q hn
    have hA := doCall_good hG hs hargs hid hdc
    rw [hl] at hA
    refine upon_answers ho hfv hA (fun u w' hR => ?_) (fun ch w' hR => ?_) (fun w' hR => hR.elim)
    · obtain ⟨v', C', e1, e2, e3, e4, e5, e6⟩ := hR
      simp only [Out.ret.injEq] at e1
      subst e1
      rw [← e2]
      exact hn u C' e3 e4 e5 e6
    · obtain ⟨v', e1, _⟩ := hR; cases e1
  · exact h.elim
  · exact Good.does (opA_good hE hs hρ (hid id (Nat.le_refl _) (by omega)) rfl h)

theorem execO_good (hE : EnvOK E P) (hK : KOK P G K) (hG : C.gl = G) (hs : SRel C) (hρ : ∀ x, VRel C (evalO lk x) (ρ x)) {id : Nat} (hid : ∀ j, id ≤ j → j < id + 16 → C.m j = none) {kn : AV → Wr → List Nat → Rs R} {kp : AV → Rs R}
    {e : Nat} (h : execO E K lk C.m id o e kn kp = .ok r) :
    (∃ v wr rd, kn v wr rd = .ok r ∧ below wr (id + 16) = true ∧ ExecIs E P G lk C.m id o v wr rd) ∨ (∃ v, kp v = .ok r ∧ OpPanics P C ρ o v) := by
  unfold execO at h
  split at h
  · rename_i f as ts ho
    split at h
    · rename_i f' cap hf
      have hfv := hρ f
      rw [hf] at hfv
      obtain ⟨vs, hfv, hcap⟩ := hfv
      have hargs : VRelL C (as.toList.map (evalO lk) ++ cap) (as.toList.map ρ ++ vs.toList) := (mapRel hρ _).append hcap
      have hl : (as.toList.map ρ ++ vs.toList).toArray = as.map ρ ++ vs := by
        apply Array.ext'
        simp
      obtain ⟨out, wr, rd, h, hdc⟩ := doCall_is hK h
      split at h
      · rename_i v
        split at h
        · rename_i hb
          exact .inl ⟨v, wr, rd, h, hb, by unfold ExecIs; rw [ho]; exact ⟨f', cap, hf, hdc⟩⟩
        · cases h
      · rename_i v
        refine .inr ⟨v, h, fun a next Q hn => ?_⟩
        have hA := doCall_good hG hs hargs hid hdc
        rw [hl] at hA
        refine upon_answers ho hfv hA (fun u w' hR => ?_) (fun ch w' hR => ?_) (fun w' hR => hR.elim)
        · obtain ⟨v', C', e1, _⟩ := hR; cases e1
        · obtain ⟨v', e1, e2⟩ := hR
          simp only [Out.panic.injEq] at e1
          subst e1
          exact hn w' ch e2
    · cases h
  · rename_i x ho
    split at h
    · rename_i t v hx
      have hxv := hρ x
      rw [hx] at hxv
      split at h
      · rename_i hp
        refine .inr ⟨_, h, fun a next Q hn => ?_⟩
        obtain ⟨u, hu, hv⟩ := hxv
        have hrun : (execOp ρ o).run P C.w = .halt (.panic (.iface t u)) C.w := by
          simp [execOp, ho, hu, Instr.panic, goPanic]
        rw [hrun, Oper.upon_panic]
        refine hn _ _ ⟨.iface t u, C.T, rfl, ?_, hp, {
          keep := fun _ _ _ h1 h2 => ⟨h1, h2⟩
          frKeep := fun _ _ _ h1 _ => h1
          size := Nat.le_refl _
          old := fun _ _ _ => rfl
          os := rfl
          tape := rfl
          output := rfl }⟩
        have hren : Ren C ⟨C.w, fun _ => none, fun _ => .cells 0, C.T, fun _ _ => False⟩ (fun i => i) (fun _ => False) := {
          keep := fun k o v h1 h2 => ⟨h1, fun h3 => by
            rcases h3 with h3 | ⟨_, _, h4, _⟩
            · exact h2 h3
            · cases h4⟩
          cells := fun _ _ _ h => h.elim
          lists := fun _ _ _ _ _ _ h => h.elim }
        exact hren.relV (a := .iface t v) (by simp [refV, refA]) hp ⟨u, rfl, hv⟩
      · cases h
    · cases h
  · rename_i op h1 h2
    obtain ⟨rr, hrun, hk⟩ := bindK_ok h
    split at hk
    · rename_i hb
      refine .inl ⟨rr.v, rr.wr, rr.rd, hk, hb, ?_⟩
      unfold ExecIs
      split
      · rename_i f as ts ho; exact (h1 _ _ _ ho).elim
      · rename_i x ho; exact (h2 _ ho).elim
      · exact hrun
    · cases hk
end

end Go.Sx
/- an operation depends on what it looks at, and on nothing else -/
namespace Go.Sx
open Go
variable {P : Program} {E : Env} {K : Callee}

section
variable {lk lk' : Look}
theorem gather_congr : ∀ (i : Nat) (fs : List Fld) (ps : List (Nat × Operand)) (z : List AV), (∀ p ∈ ps, evalO lk p.2 = evalO lk' p.2) → gather lk i fs ps z = gather lk' i fs ps z
  | _, [], [], _, _ => by simp [gather]
  | _, [], _ :: _, _, _ => by simp [gather]
  | i, f :: fs, [], z, h => by simp only [gather]; rw [gather_congr (i + 1) fs [] _ h]
  | i, f :: fs, (j, x) :: ps, z, h => by
    simp only [gather]
    rw [h (j, x) (by simp), gather_congr (i + 1) fs ps _ (fun p hp => h p (by simp [hp])), gather_congr (i + 1) fs ((j, x) :: ps) _ h]

theorem fillA_congr (fs : List Fld) : ∀ (ps : List (Nat × Operand)) (z : List AV), (∀ p ∈ ps, evalO lk p.2 = evalO lk' p.2) → fillA lk fs ps z = fillA lk' fs ps z
  | [], _, _ => rfl
  | (j, x) :: ps, z, h => by
    simp only [fillA]
    rw [h (j, x) (by simp)]
    cases nth fs j with
    | none => rfl
    | some f =>
      simp only
      rw [fillA_congr fs ps _ fun p hp => h p (by simp [hp])]

theorem opA_congr {get : Get} {id : Nat} {op : Op} (h : ∀ x ∈ op.operands, evalO lk x = evalO lk' x) : opA E lk get id op = opA E lk' get id op := by
  cases op <;> simp only [Op.operands] at h <;> try rfl
  case build t ps =>
    have hg : ∀ i fs z, gather lk i fs ps.toList z = gather lk' i fs ps.toList z := fun i fs z => gather_congr i fs _ z fun p hp => h p.2 (by simp; exact ⟨p.1, by simpa using hp⟩)
    have hf : ∀ fs z, fillA lk fs ps.toList z = fillA lk' fs ps.toList z := fun fs z => fillA_congr fs _ z fun p hp => h p.2 (by simp; exact ⟨p.1, by simpa using hp⟩)
    simp only [opA, gatherS, hg, hf]
  case buildSlice t n ps =>
    have hg : ∀ i fs z, gather lk i fs ps.toList z = gather lk' i fs ps.toList z := fun i fs z => gather_congr i fs _ z fun p hp => h p.2 (by simp; exact ⟨p.1, by simpa using hp⟩)
    simp only [opA, hg]
  case call c =>
    obtain ⟨callee, args, ts⟩ := c
    cases callee with
    | value f => simp only [opA]
    | invoke r m => simp only [opA]
    | builtin b =>
      have hargs : ∀ x ∈ args, evalO lk x = evalO lk' x := fun x hx => h x (by simp [Call.operands, hx])
      have ha2 : ∀ x ∈ args.toList, evalO lk x = evalO lk' x := fun x hx => hargs x (by simpa using hx)
      cases b <;> simp only [opA] <;> try rfl
      all_goals
        revert ha2
        generalize args.toList = l
        intro ha2
        match l with
        | [] => rfl
        | [a] => simp only [ha2 a (by simp)]
        | [a, b] => simp only [ha2 a (by simp), ha2 b (by simp)]
        | _ :: _ :: _ :: _ => rfl
  case slice t x lo hi mx =>
    have hx : evalO lk x = evalO lk' x := h x (by simp)
    have k1 : ∀ es v, sliceA get lk es v lo hi mx = sliceA get lk' es v lo hi mx := fun es v => by
      have h1 : ∀ a, lo = some a → evalO lk a = evalO lk' a := fun a ha => h a (by simp [ha])
      have h2 : ∀ a, hi = some a → evalO lk a = evalO lk' a := fun a ha => h a (by simp [ha])
      have h3 : ∀ a, mx = some a → evalO lk a = evalO lk' a := fun a ha => h a (by simp [ha])
      have h4 : loOf lk lo = loOf lk' lo := by cases lo <;> simp_all [loOf]
      have h5 : ∀ n, hiOf lk n hi = hiOf lk' n hi := fun n => by cases hi <;> simp_all [hiOf]
      unfold sliceA
      cases mx with
      | none => simp only [h4, h5]
      | some m =>
        cases hi with
        | none => cases v <;> rfl
        | some a => cases v <;> cases lo <;> first | rfl | simp only [h2 a rfl, h3 m rfl]
    simp only [opA]
    rw [hx]
    cases mx with
    | none => generalize evalO lk' x = v; cases v <;> simp only [k1]
    | some m => generalize evalO lk' x = v; cases v <;> simp only [k1]
  all_goals (simp only [opA]; simp_all)
end

/-! the blocks -/
section
variable {get get' : Get}
theorem unflat_frame : ∀ {t : Ty} {cs : List AV} {x : t.den} {r : List AV} {m : List Nat}, unflat get t cs = some (x, r, m) → (∀ b ∈ m, get' b = get b) → unflat get' t cs = some (x, r, m)
  | .unit, _, _, _, _, h, _ => h
  | .bool, _, _, _, _, h, _ => h
  | .int _, _, _, _, _, h, _ => h
  | .flt _, _, _, _, _, h, _ => h
  | .str, _, _, _, _, h, _ => h
  | .pair a b, cs, x, r, m, h, hg => by
    simp only [unflat] at h ⊢
    split at h
    · rename_i x1 r1 m1 h1
      split at h
      · rename_i y1 r2 m2 h2
        simp only [Option.some.injEq, Prod.mk.injEq] at h
        obtain ⟨rfl, rfl, rfl⟩ := h
        rw [unflat_frame h1 fun b hb => hg b (by simp [hb])]
        simp only
        rw [unflat_frame h2 fun b hb => hg b (by simp [hb])]
      · cases h
    · cases h
  | .slice e, cs, x, r, m, h, hg => by
    simp only [unflat] at h ⊢
    split at h
    · exact h
    · exact h
    · rename_i b g r' 
      split at h
      · rename_i e' g' sh L hb
        have hm : m = [b] := by
          split at h
          · split at h
            · exact (congrArg (·.2.2) (Option.some.inj h)).symm
            · cases h
          · cases h
        have := hg b (by simp [hm])
        rw [hb] at this
        simp only [this]
        exact h
      · cases h
    · exact h
    · cases h
  | .ptr e, _, _, _, _, h, _ => h

theorem listOfCells_frame {t : Ty} : ∀ {n : Nat} {cs : List AV} {L : List t.den} {m : List Nat}, listOfCells get t n cs = some (L, m) → (∀ b ∈ m, get' b = get b) → listOfCells get' t n cs = some (L, m)
  | 0, [], _, _, h, _ => h
  | 0, _ :: _, _, _, h, _ => h
  | n + 1, cs, L, m, h, hg => by
    simp only [listOfCells] at h ⊢
    split at h
    · rename_i x r m1 h1
      split at h
      · rename_i l m2 h2
        simp only [Option.some.injEq, Prod.mk.injEq] at h
        obtain ⟨rfl, rfl⟩ := h
        rw [unflat_frame h1 fun b hb => hg b (by simp [hb])]
        simp only
        rw [listOfCells_frame h2 fun b hb => hg b (by simp [hb])]
      · cases h
    · cases h

theorem shareWr_frame : ∀ {m : List Nat}, (∀ b ∈ m, get' b = get b) → shareWr get' m = shareWr get m
  | [], _ => rfl
  | b :: m, h => by
    have h1 := h b (by simp)
    have h2 := shareWr_frame (m := m) fun c hc => h c (by simp [hc])
    simp only [shareWr, List.filterMap_cons, h1] at h2 ⊢
    rw [h2]

theorem sliceOf_frame {a : AV} {t : Ty} {L : List t.den} {m : List Nat} (h : sliceOf get a = some (.mk t L m)) (hg : ∀ b ∈ m, get' b = get b) : sliceOf get' a = some (.mk t L m) := by
  cases a with
  | own b g =>
    simp only [sliceOf] at h ⊢
    split at h
    · rename_i t' g' sh L' hb
      have hm : m = [b] := by
        split at h
        · simp only [Option.some.injEq, SL.mk.injEq] at h; exact h.2.2.symm
        · cases h
      have := hg b (by simp [hm])
      rw [hb] at this
      simp only [this]
      exact h
    · cases h
  | _ => exact h

theorem cellsAt_frame {a : AV} {n : Nat} {cs : List AV} {m : List Nat} (h : cellsAt get n a = some (cs, m)) (hg : ∀ b ∈ m, get' b = get b) : cellsAt get' n a = some (cs, m) := by
  cases a with
  | ref b off =>
    simp only [cellsAt] at h ⊢
    split at h
    · rename_i cs' hb
      have hm : m = [b] := by simp only [Option.some.injEq, Prod.mk.injEq] at h; exact h.2.symm
      have := hg b (by simp [hm])
      rw [hb] at this
      simp only [this]
      exact h
    · cases h
  | el b g i off =>
    simp only [cellsAt] at h ⊢
    split at h
    · rename_i t' g' sh L' hb
      have hm : m = [b] := by
        split at h
        · simp only [Option.some.injEq, Prod.mk.injEq] at h; exact h.2.symm
        · cases h
      have := hg b (by simp [hm])
      rw [hb] at this
      simp only [this]
      exact h
    · cases h
  | _ => exact h
end
end Go.Sx
namespace Go.Sx
open Go
variable {P : Program} {E : Env} {K : Callee} {get get' : Get}

def agree (get get' : Get) (r : OpR) : Prop := (∀ b ∈ r.rd, get' b = get b) ∧ ∀ p ∈ r.wr, get' p.1 = get p.1

theorem run_br_frame {α : Type} {b : Bool} {t t' : DT α} {r : α} (h : (DT.br b t .fail).run = some r) (k : t.run = some r → t'.run = some r) : (DT.br b t' .fail).run = some r := by
  obtain ⟨rfl, h⟩ := run_brT h
  exact k h

theorem leaf_frame {α : Type} {a r : α} (h : (DT.leaf a).run = some r) : r = a := run_leaf h

theorem appendTo_frame {id et es by_ : Nat} {s : AV} {t : Ty} {X : List t.den} {m : List Nat} {r : OpR} (h : (appendTo get id et es by_ s t X m).run = some r) (hg : agree get get' r) : (appendTo get' id et es by_ s t X m).run = some r := by
  unfold appendTo at h ⊢
  split at h
  · exact h
  · rename_i hck
    split at h
    · exact h
    · rename_i b g
      split at h
      · rename_i ee t' g' sh L hb
        split at h
        · rename_i hgg
          split at h
          · rename_i X' hX
            obtain ⟨hc, hl⟩ := run_brT h
            have hl := run_leaf hl
            have hb' := hg.1 b (by rw [hl]; simp)
            rw [hb] at hb'
            simp only [hb', hgg, hX]
            exact h
          · exact (run_fail h).elim
        · exact (run_fail h).elim
      · exact (run_fail h).elim
    · exact h
    · exact (run_fail h).elim

/-- what is taken from a slice is among what was read -/
theorem appendTo_rd {id et es by_ : Nat} {s : AV} {t : Ty} {X : List t.den} {m : List Nat} {r : OpR} (h : (appendTo get id et es by_ s t X m).run = some r) : ∀ b ∈ m, b ∈ r.rd := by
  unfold appendTo at h
  split at h
  · exact (run_fail h).elim
  · split at h
    · rw [run_leaf (run_brT h).2]; exact fun b hb => hb
    · split at h
      · split at h
        · split at h
          · rw [run_leaf (run_brT h).2]; exact fun b hb => List.mem_cons_of_mem _ hb
          · exact (run_fail h).elim
        · exact (run_fail h).elim
      · exact (run_fail h).elim
    · split at h
      · rw [run_leaf (run_brT h).2]; exact fun b hb => hb
      · exact (run_fail h).elim
    · exact (run_fail h).elim

theorem appendA_frame {id et es by_ : Nat} {s x : AV} {r : OpR} (h : (appendA get id et es by_ s x).run = some r) (hg : agree get get' r) : (appendA get' id et es by_ s x).run = some r := by
  unfold appendA at h ⊢
  split at h
  · exact h
  · exact appendTo_frame h hg
  · rename_i x h1 h2
    split at h
    · rename_i t X m hs
      rw [sliceOf_frame hs fun b hb => hg.1 b (appendTo_rd h b hb)]
      exact appendTo_frame h hg
    · exact (run_fail h).elim

theorem sliceA_frame {lk : Look} {es : Nat} {x : AV} {lo hi mx : Option Operand} {r : OpR} (h : (sliceA get lk es x lo hi mx).run = some r) (hg : agree get get' r) : (sliceA get' lk es x lo hi mx).run = some r := by
  unfold sliceA at h ⊢
  split at h
  · rename_i m
    simp only at h ⊢
    split at h
    · rename_i b g a
      split at h
      · rename_i t g' sh L hb
        split at h
        · rename_i hgg
          split at h
          · rename_i h' m' e1 e2
            obtain ⟨hc, hl⟩ := run_brT h
            have hl := run_leaf hl
            have hb' := hg.1 b (by rw [hl]; simp)
            have hsh := shareWr_frame (get := get) (get' := get') (m := [b]) (by simpa using hb')
            rw [hb] at hb'
            simp only [hb', hgg, e1, e2, hsh]
            exact h
          · exact (run_fail h).elim
        · exact (run_fail h).elim
      · exact (run_fail h).elim
    · exact h
    · exact (run_fail h).elim
  · simp only at h ⊢
    split at h
    · exact h
    · rename_i b g
      split at h
      · rename_i t g' sh L hb
        split at h
        · rename_i l h' e1 e2 e3
          split at h
          · obtain ⟨hc, hl⟩ := run_brT h
            have hl := run_leaf hl
            have hb' := hg.1 b (by rw [hl]; simp)
            rw [hb] at hb'
            simp only [hb', e1, e2, e3]
            exact h
          · rename_i hns
            obtain ⟨hc, hl⟩ := run_brT h
            have hl := run_leaf hl
            have hb' := hg.1 b (by rw [hl]; simp)
            have hsh := shareWr_frame (get := get) (get' := get') (m := [b]) (by simpa using hb')
            rw [hb] at hb'
            simp only [hb', e1, e2, e3, hsh]
            exact h
        · exact (run_fail h).elim
      · exact (run_fail h).elim
    · exact h
    · exact h
    · exact (run_fail h).elim

theorem indexAddrA_frame {es : Nat} {x i : AV} {r : OpR} (h : (indexAddrA get es x i).run = some r) (hg : agree get get' r) : (indexAddrA get' es x i).run = some r := by
  unfold indexAddrA at h ⊢
  split at h
  · split at h
    · exact h
    · exact h
    · rename_i b g
      split at h
      · rename_i t g' sh L hb
        split at h
        · rename_i hgg
          have hl := run_leaf (run_brT h).2
          have hb' := hg.1 b (by rw [hl]; simp)
          rw [hb] at hb'
          simp only [hb', hgg]
          exact h
        · exact (run_fail h).elim
      · exact (run_fail h).elim
    · exact (run_fail h).elim
  · exact (run_fail h).elim

theorem storeA_frame {a x : AV} {r : OpR} (h : storeA get a x = some r) (hg : agree get get' r) : storeA get' a x = some r := by
  unfold storeA at h ⊢
  split at h
  · cases h
  · rename_i hlf
    split at h
    · rename_i b off
      split at h
      · rename_i cs hb
        split at h
        · rename_i hck
          have hb' := hg.1 b (by simp only [Option.some.injEq] at h; rw [← h]; simp)
          rw [hb] at hb'
          simp only [hb', hck]
          exact h
        · cases h
      · cases h
    · rename_i b g i off
      split at h
      · rename_i t g' L hb
        split at h
        · rename_i hck
          split at h
          · rename_i y m hu
            split at h
            · cases h
            · rename_i hm
              have h' := h
              simp only [Option.some.injEq] at h'
              have hb' := hg.1 b (by rw [← h']; simp)
              have hmm : ∀ c ∈ m, get' c = get c := fun c hc => hg.1 c (by rw [← h']; simp [hc])
              rw [hb] at hb'
              simp only [hb', hck]
              rw [unflat_frame hu hmm]
              simp only [hm, shareWr_frame hmm]
              exact h
          · cases h
        · cases h
      · cases h
    · cases h
end Go.Sx
namespace Go.Sx
open Go
variable {G : Nat → Obj → Prop} {P : Program} {E : Env} {get get' : Get}

theorem opA_frame {lk : Look} {id : Nat} {op : Op} {r : OpR} (h : (opA E lk get id op).run = some r) (hg : agree get get' r) : (opA E lk get' id op).run = some r := by
  cases op <;> first | exact h | skip
  case buildSlice t n ps =>
    simp only [opA] at h ⊢
    split at h
    · split at h
      · split at h
        · split at h
          · split at h
            · split at h
              · rename_i L m hL
                have hl := run_leaf h
                have hmm : ∀ c ∈ m, get' c = get c := fun c hc => hg.1 c (by rw [hl]; exact hc)
                rw [listOfCells_frame hL hmm]
                simp only [shareWr_frame hmm]
                exact h
              · exact (run_fail h).elim
            · exact (run_fail h).elim
          · exact (run_fail h).elim
        · exact (run_fail h).elim
      · exact (run_fail h).elim
    · exact (run_fail h).elim
  case load t a =>
    simp only [opA] at h ⊢
    split at h
    · split at h
      · rename_i cs rd hc
        have hrd : r.rd = rd := by
          split at h
          · split at h
            · rw [run_leaf h]
            · exact (run_fail h).elim
          · exact (run_fail h).elim
        rw [cellsAt_frame hc fun b hb => hg.1 b (hrd ▸ hb)]
        exact h
      · exact (run_fail h).elim
    · exact (run_fail h).elim
  case store t a x =>
    simp only [opA] at h ⊢
    split at h
    · split at h
      · split at h
        · rename_i r' hr
          have := run_leaf h
          subst this
          rw [storeA_frame hr hg]
          exact h
        · exact (run_fail h).elim
      · exact (run_fail h).elim
    · exact (run_fail h).elim
  case indexAddr t x i =>
    simp only [opA] at h ⊢
    split at h
    · exact indexAddrA_frame h hg
    · exact (run_fail h).elim
  case slice t x lo hi mx =>
    simp only [opA] at h ⊢
    split at h
    · exact h
    · split at h
      · exact sliceA_frame h hg
      · exact (run_fail h).elim
  case call c =>
    obtain ⟨callee, args, ts⟩ := c
    cases callee with
    | value f => exact h
    | invoke _ _ => exact h
    | builtin b =>
      cases b <;> first | exact h | skip
      case len =>
        simp only [opA] at h ⊢
        split at h
        · split at h
          · split at h
            · split at h
              · exact h
              · split at h
                · exact h
                · split at h
                  · rename_i t L m hs
                    have hl := run_leaf h
                    rw [sliceOf_frame hs fun b hb => hg.1 b (by rw [hl]; exact hb)]
                    exact h
                  · exact (run_fail h).elim
              · exact (run_fail h).elim
            · exact (run_fail h).elim
          · exact (run_fail h).elim
        · exact (run_fail h).elim
      case append =>
        simp only [opA] at h ⊢
        split at h
        · split at h
          · split at h
            · split at h
              · exact (run_fail h).elim
              · split at h
                · split at h
                  · split at h
                    · exact appendA_frame h hg
                    · exact (run_fail h).elim
                  · exact (run_fail h).elim
                · exact (run_fail h).elim
            · exact (run_fail h).elim
          · exact (run_fail h).elim
        · exact (run_fail h).elim

theorem reach_acc : ∀ {n : Nat} {todo acc ids : List Nat}, reach get n todo acc = some ids → ∀ b ∈ acc, b ∈ ids
  | n, [], acc, ids, h => by
    have : ids = acc := by cases n <;> simpa [reach, eq_comm] using h
    subst this
    exact fun b hb => hb
  | 0, _ :: _, _, _, h => by simp [reach] at h
  | n + 1, b :: todo, acc, ids, h => by
    simp only [reach] at h
    split at h
    · exact reach_acc h
    · exact fun c hc => reach_acc h c (List.mem_append_left _ hc)

theorem reach_frame : ∀ {n : Nat} {todo acc ids : List Nat}, reach get n todo acc = some ids → (∀ b ∈ ids, get' b = get b) → reach get' n todo acc = some ids
  | n, [], acc, ids, h, _ => by cases n <;> simpa [reach] using h
  | 0, _ :: _, _, _, h, _ => by simp [reach] at h
  | n + 1, b :: todo, acc, ids, h, hg => by
    simp only [reach] at h ⊢
    split at h
    · exact reach_frame h hg
    · rw [hg b (reach_acc h b (by simp))]
      exact reach_frame h hg

theorem getAll_frame : ∀ {ids : List Nat} {l : List Blk}, getAll get ids = some l → (∀ b ∈ ids, get' b = get b) → getAll get' ids = some l
  | [], _, h, _ => h
  | b :: ids, l, h, hg => by
    simp only [getAll] at h ⊢
    split at h
    · rename_i x l' hx hl
      rw [hg b (by simp), hx, getAll_frame hl fun c hc => hg c (by simp [hc])]
      exact h
    · cases h

theorem CallIs.frame {f : Nat} {args : List AV} {base : Nat} {out : Out} {wr : Wr} {rd : List Nat} (h : CallIs P G f args get base out wr rd) (hg : ∀ b ∈ rd, get' b = get b) : CallIs P G f args get' base out wr rd := by
  obtain ⟨l, hr, hl, hck, h⟩ := h
  exact ⟨l, reach_frame hr hg, getAll_frame hl hg, hck, h⟩

theorem ExecIs.frame {lk lk' : Look} {id : Nat} {o : Oper} {v : AV} {wr : Wr} {rd : List Nat} (h : ExecIs E P G lk get id o v wr rd)
    (hl : ∀ x ∈ o.op.operands, evalO lk' x = evalO lk x) (hg : ∀ b ∈ rd, get' b = get b) (hw : ∀ p ∈ wr, get' p.1 = get p.1) : ExecIs E P G lk' get' id o v wr rd := by
  unfold ExecIs at h ⊢
  split at h
  · rename_i f as ts ho
    rw [ho] at hl
    obtain ⟨f', cap, hf, hdc⟩ := h
    have h1 : evalO lk' f = evalO lk f := hl f (by simp [Op.operands, Call.operands])
    have h2 : as.toList.map (evalO lk') = as.toList.map (evalO lk) := List.map_congr_left fun x hx => hl x (by simp [Op.operands, Call.operands]; exact .inr (by simpa using hx))
    refine ⟨f', cap, h1.trans hf, ?_⟩
    rw [h2]
    exact hdc.frame hg
  · exact h.elim
  · rename_i op h1 h2
    have hh : (opA E lk' get' id o.op).run = some ⟨v, wr, rd⟩ := by
      rw [opA_congr hl]
      exact opA_frame h ⟨hg, hw⟩
    exact hh
end Go.Sx
