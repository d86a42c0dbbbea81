/- A part of the proof: see the row's text. -/
import Derived.Test.YtaklpoiaicepoaaGreatDoorZa03
set_option linter.unusedVariables false
set_option linter.unusedSimpArgs false
noncomputable section
namespace Go.Sx
open Go
variable {P : Program} {E : Env} {C : Ctx}
structure Source (P : Program) (C : Ctx) (t : Ty) (X : List t.den) (x : Value) (vs : List Value) : Prop where
 len : vs.length = X.length * t.size
 lenOf : (Builtin.lenOf x).run P C.w = .ok X.length C.w
 read : ∀ w : World, (∀ k o v, C.w.cell? ⟨k, o, none⟩ = some v → w.cell? ⟨k, o, none⟩ = some v) → (Builtin.firstCells t.size X.length x).run P w = .ok vs.toArray w
 rep : ∀ i y, X[i]? = some y → Rep C.w C.T t y (seg vs (i * t.size) t.size)
theorem gather_cells {w : World} {T : Nat → Nat → Prop} {t : Ty} {k : Nat} : ∀ (X : List t.den) (o : Nat), (∀ i y, X[i]? = some y → ∃ cs, (∀ j u, cs[j]? = some u → w.cell? ⟨k, o + i * t.size + j, none⟩ = some u) ∧ Rep w T t y cs) →
  ∃ vs : List Value, vs.length = X.length * t.size ∧ (∀ j u, vs[j]? = some u → w.cell? ⟨k, o + j, none⟩ = some u) ∧ ∀ i y, X[i]? = some y → Rep w T t y (seg vs (i * t.size) t.size)
 | [], o, _ => ⟨[], by simp, fun j u h => by simp at h, fun i y h => by simp at h⟩
 | x :: X, o, h => by
  obtain ⟨cs, hc, hr⟩ := h 0 x (by simp)
  have hcl := hr.len
  obtain ⟨vs, h1, h2, h3⟩ := gather_cells X (o + t.size) fun i y hy => by
   obtain ⟨cs', hc', hr'⟩ := h (i + 1) y (by simpa using hy)
   refine ⟨cs', fun j u hu => ?_, hr'⟩
   have := hc' j u hu
   rw [Nat.add_mul, Nat.one_mul] at this
   rwa [show o + (i * t.size + t.size) + j = o + t.size + i * t.size + j by omega] at this
  refine ⟨cs ++ vs, by simp [hcl, h1, Nat.add_mul]; omega, fun j u hu => ?_, fun i y hy => ?_⟩
  ·by_cases hj : j < cs.length
   ·rw [List.getElem?_append_left hj] at hu
    have := hc j u hu
    simpa using this
   ·rw [List.getElem?_append_right (by omega)] at hu
    have := h2 _ u hu
    rwa [show o + t.size + (j - cs.length) = o + j by omega] at this
  ·cases i with
   | zero =>
    simp only [List.getElem?_cons_zero, Option.some.injEq] at hy
    subst hy
    have : seg (cs ++ vs) (0 * t.size) t.size = cs := by simp [seg, ← hcl]
    rw [this]
    exact hr
   | succ i =>
    have := h3 i y (by simpa using hy)
    have e : seg (cs ++ vs) ((i + 1) * t.size) t.size = seg vs (i * t.size) t.size := by
     rw [Nat.add_mul, Nat.one_mul]
     unfold seg
     rw [List.drop_append, List.drop_eq_nil_of_le (by omega), List.nil_append]
     congr 2
     omega
    rw [e]
    exact this
theorem run_firstCells_slice {ad : Addr} (hsp : ad.spot = none) {len cap size n : Nat} {vs : List Value} (hl : vs.length = n * size) {w : World} (hc : ∀ j v, vs[j]? = some v → w.cell? ⟨ad.block, ad.off + j, none⟩ = some v) :
  (Builtin.firstCells size n (.slice (some ad) len cap)).run P w = .ok vs.toArray w := by
 obtain ⟨k, o, sp⟩ := ad
 simp only at hsp
 subst hsp
 simp only [Builtin.firstCells]
 rw [← hl]
 exact run_loadCells_list w _ vs fun j v hj => by rw [addr_add]; exact hc j v hj
theorem source_slice (hs : SRel C) {x : AV} {v : Value} {t : Ty} {X : List t.den} {m : List Nat} (hv : VRel C x v) (h : sliceOf C.m x = some (.mk t X m)) : ∃ vs, Source P C t X v vs := by
 obtain ⟨a, cap, rfl, hc, hx⟩ := sliceOf_rel hs hv h
 cases X with
 | nil =>
  refine ⟨[], by simp, by simp [Builtin.lenOf], fun w _ => ?_, fun i y h => by simp at h⟩
  cases a with
  | none => simp [Builtin.firstCells]
  | some ad => simp [Builtin.firstCells, loadCells, loadCellsFrom]
 | cons y X =>
  obtain ⟨ad, _, rfl, hsp, _⟩ := hx 0 y (by simp)
  obtain ⟨vs, h1, h2, h3⟩ := gather_cells (w := C.w) (T := C.T) (k := ad.block) (y :: X) ad.off fun i z hz => by
   obtain ⟨ad', cs, e, _, hc, hr⟩ := hx i z hz
   cases e
   exact ⟨cs, hc, hr⟩
  exact ⟨vs, h1, by simp [Builtin.lenOf], fun w hw => run_firstCells_slice hsp h1 fun j v hj => hw _ _ _ (h2 j v hj), h3⟩
theorem source_str {s : List UInt8} {v : Value} (hv : VRel C (.str s) v) : Source P C (.int .u8) (s.map fun b => (b.toNat : Int)) v (s.map fun b => .int .u8 b.toNat) := by
 simp only [VRel] at hv
 subst hv
 have hsz : (ByteArray.mk ⟨s⟩).size = s.length := rfl
 obtain ⟨X, hX⟩ : ∃ X : List Int, X = s.map fun b => (b.toNat : Int) := ⟨_, rfl⟩
 have hl : X.length = s.length := by rw [hX]; simp
 have hg : ∀ (i : Nat) (y : Int), X[i]? = some y → ∃ b : UInt8, s[i]? = some b ∧ y = (b.toNat : Int) := by
  intro i y h
  rw [hX, List.getElem?_map, Option.map_eq_some_iff] at h
  obtain ⟨b, hb, rfl⟩ := h
  exact ⟨b, hb, rfl⟩
 have main : ∀ (X' : List (Ty.int .u8).den), X'.length = s.length → (∀ (i : Nat) (y : (Ty.int .u8).den), X'[i]? = some y → ∃ b : UInt8, s[i]? = some b ∧ y = (b.toNat : Int)) →
   Source P C (.int .u8) X' (.string ⟨⟨s⟩⟩) (s.map fun b => .int .u8 b.toNat) := by
  intro X' hl hg
  refine ⟨by simp [Ty.size, hl], by simp [Builtin.lenOf, hsz, hl], fun w _ => ?_, fun i y h => ?_⟩
  ·simp only [Builtin.firstCells, Sem.run_pure, hl]
   congr 2
   have : (ByteArray.mk ⟨s⟩).extract 0 s.length = ⟨⟨s⟩⟩ := by
    apply WideShapes.bytes_inj
    simp [ByteArray.data_extract]
   rw [this]
   simp
  ·simp only [Ty.size, Nat.mul_one]
   obtain ⟨b, hb, e⟩ := hg i y h
   have : seg (s.map fun b => Value.int .u8 b.toNat) i 1 = [.int .u8 b.toNat] := by
    apply List.ext_getElem?
    intro j
    rw [seg_get]
    cases j with
    | zero => simp [hb]
    | succ j => simp
   rw [this]
   show [Value.int .u8 b.toNat] = [Value.int .u8 y]
   rw [e]
 subst hX
 exact main _ hl hg
theorem Source.one {t : Ty} {X : List t.den} {x : Value} {vs : List Value} (h : Source P C t X x vs) (hz : 0 < t.size) : ∀ v ∈ vs, v.oneCell' = true := by
 intro v hv
 obtain ⟨j, hj, rfl⟩ := List.getElem_of_mem hv
 have hlen := h.len
 have hi : j / t.size < X.length := (Nat.div_lt_iff_lt_mul hz).2 (by omega)
 have hr := h.rep (j / t.size) X[j / t.size] (by simp [hi])
 refine leafs_one (flat_rel hr) (flat_leaf _ _) _ ?_
 have hm := Nat.div_add_mod j t.size
 have hml := Nat.mod_lt j hz
 have : (seg vs (j / t.size * t.size) t.size)[j % t.size]? = some vs[j] := by
  rw [seg_get, if_pos hml, Nat.mul_comm, hm]
  simp [hj]
 exact List.mem_of_getElem? this
end Go.Sx
namespace Go.Sx
open Go
variable {P : Program} {E : Env} {C : Ctx}
structure AppTy (P : Program) (t t' e : TypeId) (ei : TypeInfo) (z : Value) (es : Nat) : Prop where
 st : P.underlying t = some (.slice e)
 xt : ∃ d, P.underlying t' = some d ∧ ∀ k, d ≠ .int k
 inf : P.info? e = some ei
 ez : ei.zero = some z
 size : ei.size = es
 zsize : z.cells.size = es
 bytes : ei.bytes ≤ 1024
theorem matches_int {d : TypeDesc} (h : ∀ k, d ≠ .int k) : (match d with | .int _ => true | _ => false) = false := by
 cases d <;> first
  | rfl
  | exact (h _ rfl).elim
theorem growBy_le (n : Nat) : ∀ (r c : Nat), c < n → Builtin.growBy n r c ≤ 2 * n + 192
 | 0, c, h => by simp [Builtin.growBy]; omega
 | r + 1, c, h => by
  simp only [Builtin.growBy]
  split
  ·omega
  ·by_cases h2 : c + (c + 768) / 4 < n
   ·exact growBy_le n r _ h2
   ·cases r with
    | zero => simp only [Builtin.growBy]; omega
    | succ r =>
     simp only [Builtin.growBy]
     rw [if_pos (by omega)]
     omega
theorem nextcap_le {n c : Nat} (h : c < n) : Builtin.nextslicecap n c ≤ 2 * n + 192 := by
 unfold Builtin.nextslicecap
 split
 ·omega
 ·split
  ·omega
  ·exact growBy_le n 4 c h
theorem zeroCells_size (z : Array Value) (n : Nat) : (Builtin.zeroCells z n).size = n * z.size := by simp [Builtin.zeroCells]
theorem run_append_fit {t t' e ty : TypeId} {ei : TypeInfo} {z : Value} {es : Nat} (hT : AppTy P t t' e ei z es) {w w' : World} {base : Option Addr} {sLen sCap n : Nat} {x : Value} {vs : List Value}
  (hl : (Builtin.lenOf x).run P w = .ok n w) (hr : (Builtin.firstCells es n x).run P w = .ok vs.toArray w) (hfit : sLen + n ≤ sCap)
  (hst : match base with | some a => (storeCells (a.add (sLen * es)) vs).run P w = .ok () w' | none => w' = w) :
  (Builtin.append_ #[t, t'] ty #[.slice base sLen sCap, x]).run P w = .ok (.slice base (sLen + n) sCap) w' := by
 obtain ⟨d, hd, hk⟩ := hT.xt
 have hm := matches_int hk
 cases base with
 | none =>
  simp only at hst
  subst hst
  simp [Builtin.append_, run_underlyingS hT.st, run_underlyingS hd, run_sizeOfS hT.inf, hT.size, hl, hr, hfit]
 | some a =>
  simp only at hst
  simp [Builtin.append_, run_underlyingS hT.st, run_underlyingS hd, run_sizeOfS hT.inf, hT.size, hl, hr, hfit, hst]
theorem run_append_grow {t t' e ty : TypeId} {ei : TypeInfo} {z : Value} {es : Nat} (hT : AppTy P t t' e ei z es) {w : World} {base : Option Addr} {sLen sCap n : Nat} {x : Value} {os vs : List Value}
  (hl : (Builtin.lenOf x).run P w = .ok n w) (ho : (Builtin.firstCells es sLen (.slice base sLen sCap)).run P { w with drawn := w.drawn + 1 } = .ok os.toArray { w with drawn := w.drawn + 1 })
  (hr : (Builtin.firstCells es n x).run P { w with drawn := w.drawn + 1 } = .ok vs.toArray { w with drawn := w.drawn + 1 }) (hno : sCap < sLen + n) (hbig : sLen + n < maxRoom)
  (hol : os.length = sLen * es) (hvl : vs.length = n * es) :
  ∃ newCap rest, (Builtin.append_ #[t, t'] ty #[.slice base sLen sCap, x]).run P w =
    .ok (.slice (some ⟨w.heap.size, 0, none⟩) (sLen + n) newCap) { w with heap := w.heap.push (.cells (os ++ (vs ++ rest)).toArray e), drawn := w.drawn + 1 } ∧
   sLen + n ≤ newCap ∧ (os ++ (vs ++ rest)).length = newCap * es := by
 obtain ⟨d, hd, hk⟩ := hT.xt
 have hm := matches_int hk
 have hmr : maxRoom = 68719476736 := by decide
 have hcap := nextcap_le hno
 have hfit : ¬ (sLen + n ≤ sCap) := by omega
 have h1 : ¬ (Builtin.nextslicecap (sLen + n) sCap * ei.bytes > 2 ^ 48) := by
  have e48 : (2 : Nat) ^ 48 = 281474976710656 := by decide
  have hb := hT.bytes
  have := Nat.mul_le_mul hcap hb
  omega
 have h2 : ¬ (((sLen + n : Nat) : Int) > IntKind.i64.max ∧ ((false = true) ∨ ei.bytes = 0)) := by
  intro h
  have : IntKind.i64.max = 9223372036854775807 := by decide
  rw [this] at h
  omega
 obtain ⟨tp, htp⟩ : ∃ tp, tp = (Question.appendCap (sLen + n) sCap e).cut (w.tape w.drawn (.appendCap (sLen + n) sCap e)) := ⟨_, rfl⟩
 have hge : sLen + n ≤ tp := by rw [htp]; simp [Question.cut]
 refine ⟨tp, (Builtin.zeroCells z.cells (tp - (sLen + n))).toList, ?_, hge, ?_⟩
 ·have h2' : ¬ (IntKind.i64.max < (sLen : Int) + (n : Int) ∧ ei.bytes = 0) := fun h => h2 ⟨by simpa using h.1, .inr h.2⟩
  have hmax : IntKind.i64.max = 9223372036854775807 := by decide
  simp [Builtin.append_, run_underlyingS hT.st, run_underlyingS hd, run_sizeOfS hT.inf, hT.size, hl, hr, ho, hfit, run_typeInfoS hT.inf, h1, Question.forced, ← htp, run_zeroValueS hT.inf hT.ez, newRow]
  rw [if_neg (by omega)]
  have ho' : (Builtin.firstCells es sLen (.slice base sLen sCap)).run P w.drew = .ok os.toArray w.drew := ho
  have hr' : (Builtin.firstCells es n x).run P w.drew = .ok vs.toArray w.drew := hr
  rw [ho']
  simp only [Result.andThen_ok]
  rw [hr']
  simp only [Result.andThen_ok]
  have e : os.toArray ++ (vs.toArray ++ Builtin.zeroCells z.cells (tp - (sLen + n))) = (os ++ (vs ++ (Builtin.zeroCells z.cells (tp - (sLen + n))).toList)).toArray := by
   apply Array.ext'
   simp
  rw [e]
  rfl
 ·simp only [List.length_append, hol, hvl, Array.length_toList, zeroCells_size, hT.zsize]
  rw [← Nat.add_assoc, ← Nat.add_mul, ← Nat.add_mul]
  congr 1
  omega
end Go.Sx
namespace Go.Sx
open Go
variable {P : Program} {E : Env} {C : Ctx}
section
variable {ρ : Operand → Value} {lk : Look} {o : Oper} {r : OpR} {id : Nat}
theorem exec_append {as : Array Operand} {ts : Array TypeId} (ho : o.op = .call { callee := .builtin .append, args := as, argTypes := ts }) {a b : Operand} (ha : as.toList = [a, b]) {t t' : TypeId} (ht : ts.toList = [t, t'])
  {v : Value} {w w' : World} (h : (Builtin.append_ #[t, t'] o.type #[ρ a, ρ b]).run P w = .ok v w') : (execOp ρ o).run P w = .ok (.value v) w' := by
 have has : as = #[a, b] := by apply Array.ext'; simpa using ha
 have hts : ts = #[t, t'] := by apply Array.ext'; simpa using ht
 subst has hts
 simp [execOp, ho, resolve, invoke, builtin, h]
theorem seg_left {α : Type} (a b : List α) (i n : Nat) (h : i + n ≤ a.length) : seg (a ++ b) i n = seg a i n := by
 apply List.ext_getElem?
 intro j
 rw [seg_get, seg_get]
 by_cases hj : j < n
 ·rw [if_pos hj, if_pos hj, List.getElem?_append_left (by omega)]
 ·rw [if_neg hj, if_neg hj]
theorem seg_right {α : Type} (a b : List α) (i n : Nat) : seg (a ++ b) (a.length + i) n = seg b i n := by
 apply List.ext_getElem?
 intro j
 rw [seg_get, seg_get]
 by_cases hj : j < n
 ·rw [if_pos hj, if_pos hj, List.getElem?_append_right (by omega)]
  congr 1
  omega
 ·rw [if_neg hj, if_neg hj]
theorem rows_rep {w : World} {T : Nat → Nat → Prop} {t : Ty} {L X : List t.den} {os vs rest : List Value} (ho : os.length = L.length * t.size) (hv : vs.length = X.length * t.size)
  (h1 : ∀ i y, L[i]? = some y → Rep w T t y (seg os (i * t.size) t.size)) (h2 : ∀ i y, X[i]? = some y → Rep w T t y (seg vs (i * t.size) t.size)) :
  ∀ i y, (L ++ X)[i]? = some y → Rep w T t y (seg (os ++ (vs ++ rest)) (i * t.size) t.size) := by
 intro i y hy
 by_cases hi : i < L.length
 ·rw [List.getElem?_append_left hi] at hy
  have hb : (i + 1) * t.size ≤ L.length * t.size := Nat.mul_le_mul_right _ hi
  rw [Nat.add_mul, Nat.one_mul] at hb
  rw [seg_left _ _ _ _ (by omega)]
  exact h1 i y hy
 ·rw [List.getElem?_append_right (by omega)] at hy
  have hb2 : i - L.length < X.length := (List.getElem?_eq_some_iff.1 hy).1
  have hb : (i - L.length + 1) * t.size ≤ X.length * t.size := Nat.mul_le_mul_right _ hb2
  rw [Nat.add_mul, Nat.one_mul] at hb
  have e : i * t.size = os.length + (i - L.length) * t.size := by rw [ho, ← Nat.add_mul]; congr 1; omega
  rw [e, seg_right, seg_left _ _ _ _ (by omega)]
  exact h2 _ y hy
theorem good_append_own (hs : SRel C) {as : Array Operand} {ts : Array TypeId} (ho : o.op = .call { callee := .builtin .append, args := as, argTypes := ts }) {a b : Operand} (ha : as.toList = [a, b]) {t t' : TypeId} (ht : ts.toList = [t, t'])
  {e : TypeId} {ei : TypeInfo} {z : Value} {ty : Ty} (hT : AppTy P t t' e ei z ty.size) {b0 g : Nat} (hv : VRel C (.own b0 g) (ρ a)) {sh : Bool} {L X : List ty.den} (hm : C.m b0 = some (.list e ty g sh L)) {vs : List Value} (hS : Source P C ty X (ρ b) vs)
  (hbig : L.length + X.length < maxRoom) : Good P C ρ o (.own b0 (g + 1)) (updF C.m b0 (some (.list e ty (g + 1) sh (L ++ X)))) := by
 obtain ⟨ba, cap, hp, hva, hc, hz⟩ := own_info hs hv hm
 obtain ⟨ba', cap', hgg, _, _, hbk⟩ := hs.ok b0 _ hm
 rw [hp] at hgg
 cases hgg
 have hvl := hS.len
 by_cases hfit : L.length + X.length ≤ cap
 ·
  cases ba with
  | none =>
   have hc0 : cap = 0 := hbk
   have hX : X = [] := List.length_eq_zero_iff.1 (by omega)
   have hL : L = [] := List.length_eq_zero_iff.1 (by omega)
   subst hX hL hc0
   have hrun := exec_append (P := P) (ρ := ρ) ho ha ht (by rw [hva]; exact run_append_fit hT (w' := C.w) hS.lenOf (hS.read C.w fun _ _ _ h => h) hfit rfl)
   have key := same_ok hs (id := b0) (b' := .list e ty (g + 1) sh []) (g' := C.φ b0) (fun k hk => ⟨_, hm, hk⟩) (fun k o' hk => by rw [hp] at hk; exact hk.elim)
    (fun _ cs h => by rw [hm] at h; cases h) (fun _ t2 g2 sh2 L2 h => by rw [hm] at h; cases h; exact ⟨g + 1, sh, [], rfl, by omega, fun e => by omega⟩)
   simp only [updF_self] at key
   obtain ⟨hEx, hok⟩ := key
   exact ⟨_, ⟨C.w, updF C.m b0 (some (.list e ty (g + 1) sh [])), C.φ, C.fr, C.gl⟩, .inl hrun, rfl, hok ⟨none, 0, hp, hz, Nat.le_refl _, rfl⟩, hEx, e, ty, g + 1, sh, [], by simp [updF], Nat.le_refl _, none, 0, 0, rfl, fun _ => ⟨hp, rfl⟩⟩
  | some ad =>
   obtain ⟨hsp, c, lo, hi, hh, hcs, hfz, hsh, hx⟩ := hbk
   obtain ⟨k0, o0, sp⟩ := ad
   simp only at hsp hh hcs hfz hsh hx
   subst hsp
   have hLX : (L.length + X.length) * ty.size ≤ cap * ty.size := Nat.mul_le_mul_right _ hfit
   rw [Nat.add_mul] at hLX
   have hst := run_storeCells_atF P k0 (o0 + L.length * ty.size) e (lo, hi) vs 0 c C.w hh (by
    simp only [Nat.add_zero]
    refine Nat.le_trans hfz ?_
    split <;> omega) (by rw [hvl]; omega) (hS.one hz)
   simp only [Nat.add_zero] at hst
   obtain ⟨c', hc'⟩ : ∃ c' : Array Value, c' = (c.toList.take (o0 + L.length * ty.size) ++ vs ++ c.toList.drop (o0 + L.length * ty.size + vs.length)).toArray := ⟨_, rfl⟩
   rw [← hc'] at hst
   have hcl : c.toList.length = c.size := by simp
   have hcl' : c'.toList = c.toList.take (o0 + L.length * ty.size) ++ vs ++ c.toList.drop (o0 + L.length * ty.size + vs.length) := by rw [hc']
   have hrun := exec_append (P := P) (ρ := ρ) ho ha ht (by rw [hva]; exact run_append_fit hT (w' := C.w.setRow k0 c') hS.lenOf (hS.read C.w fun _ _ _ h => h) hfit (by simp only [addr_add]; exact hst))
   have hlen : (L ++ X).length * ty.size = L.length * ty.size + X.length * ty.size := by rw [List.length_append, Nat.add_mul]
   obtain ⟨hEx, hok⟩ := row_ok hs (b' := .list e ty (g + 1) sh (L ++ X)) (c' := c') hm hh (by rw [hp]; rfl) (fun k o' hk => by
     rw [hp] at hk ⊢
     simp only [ownsB] at hk ⊢
     refine ⟨hk.1, ?_, hk.2.2⟩
     have h2 := hk.2.1
     cases sh with
     | true => simp only [if_true] at h2 ⊢; omega
     | false => simpa using h2)
    (fun _ _ h => by cases h) (fun _ t2 g2 sh2 L2 h => by cases h; exact ⟨g + 1, sh, L ++ X, rfl, by omega, fun e => by omega⟩)
    (fun j hn => by
     rw [hp] at hn
     simp only [ownsB, true_and] at hn
     have hn' : ¬ (o0 + L.length * ty.size ≤ j ∧ j < o0 + L.length * ty.size + vs.length) := by
      intro hh2
      refine hn ⟨?_, by rw [hvl] at hh2; omega⟩
      split <;> omega
     have := seg_out c.toList vs (o0 + L.length * ty.size) j 1 (by rw [hvl]; omega) (by omega)
     rw [← hcl'] at this
     have := congrArg (·[0]?) this
     simpa [seg_get] using this)
   refine ⟨_, ⟨C.w.setRow k0 c', updF C.m b0 (some (.list e ty (g + 1) sh (L ++ X))), C.φ, C.fr, C.gl⟩, .inl hrun, rfl, hok ⟨some ⟨k0, o0, none⟩, cap, hp, hz, by rw [List.length_append]; exact hfit, rfl, c', lo, hi, setRow_heap C.w k0 c _ e (lo, hi) hh, ?_, ?_, ?_, ?_⟩, hEx,
    e, ty, g + 1, sh, L ++ X, by simp [updF], Nat.le_refl _, _, _, _, rfl, fun _ => ⟨hp, by simp⟩⟩
   ·have : c'.toList.length = c.size := by
     rw [hcl']
     simp only [List.length_append, List.length_take, List.length_drop, hcl, hvl]
     omega
    have : c'.size = c.size := by simpa using this
    rw [this]
    exact hcs
   ·refine Nat.le_trans hfz ?_
    simp only
    split <;> omega
   ·intro hsh' o' h1 h2 hT'
    simp only at h1 h2
    rcases hT' with hf | ⟨j, bj, hj, hoj⟩
    ·exact hs.frApart _ _ hf ⟨b0, _, hm, by rw [hp]; rfl⟩
    ·by_cases ej : j = b0
     ·subst ej
      simp only [updF, if_true, Option.some.injEq] at hj
      subst hj
      subst hsh'
      simp only [hp, ownsB, if_true] at hoj
      omega
     ·simp only [updF, if_neg ej] at hj
      exact hs.apart j bj b0 _ _ hj hm ej (ownsB_lies hoj) (by rw [hp]; rfl)
   ·intro i y hy
    simp only
    rw [hcl']
    by_cases hi2 : i < L.length
    ·rw [List.getElem?_append_left hi2] at hy
     have hb2 : (i + 1) * ty.size ≤ L.length * ty.size := Nat.mul_le_mul_right _ hi2
     rw [Nat.add_mul, Nat.one_mul] at hb2
     rw [seg_out c.toList vs (o0 + L.length * ty.size) (o0 + i * ty.size) ty.size (by rw [hvl]; omega) (by left; omega)]
     exact (hx i y hy).mono hEx.keep
    ·rw [List.getElem?_append_right (by omega)] at hy
     have hb2 : i - L.length < X.length := (List.getElem?_eq_some_iff.1 hy).1
     have hb3 : (i - L.length + 1) * ty.size ≤ X.length * ty.size := Nat.mul_le_mul_right _ hb2
     rw [Nat.add_mul, Nat.one_mul] at hb3
     have ei : i * ty.size = L.length * ty.size + (i - L.length) * ty.size := by rw [← Nat.add_mul]; congr 1; omega
     have : seg (c.toList.take (o0 + L.length * ty.size) ++ vs ++ c.toList.drop (o0 + L.length * ty.size + vs.length)) (o0 + i * ty.size) ty.size = seg vs ((i - L.length) * ty.size) ty.size := by
      apply List.ext_getElem?
      intro j
      rw [seg_get, seg_get]
      by_cases hj : j < ty.size
      ·rw [if_pos hj, if_pos hj]
       have l1 : (c.toList.take (o0 + L.length * ty.size)).length = o0 + L.length * ty.size := by simp; omega
       rw [List.append_assoc, List.getElem?_append_right (by omega), l1, List.getElem?_append_left (by rw [hvl]; omega)]
       congr 1
       omega
      ·rw [if_neg hj, if_neg hj]
     rw [this]
     exact (hS.rep _ y hy).mono hEx.keep
 ·
  obtain ⟨os, hO⟩ := source_slice (P := P) hs hv (t := ty) (X := L) (m := [b0]) (by simp [sliceOf, hm])
  obtain ⟨newCap, rest, hrun0, hge, hlen⟩ := run_append_grow (ty := o.type) hT (w := C.w) (base := ba) (sLen := L.length) (sCap := cap) (x := ρ b) (os := os) (vs := vs) hS.lenOf
   (by rw [← hva]; exact hO.read _ fun _ _ _ h => h) (hS.read _ fun _ _ _ h => h) (by omega) hbig hO.len hvl
  have hrun := exec_append (P := P) (ρ := ρ) ho ha ht (by rw [hva]; exact hrun0)
  obtain ⟨hEx, hok⟩ := upd_ok hs (id := b0) (b' := .list e ty (g + 1) sh (L ++ X)) (g' := .list (some ⟨C.w.heap.size, 0, none⟩) newCap)
   (w' := { C.w with heap := C.w.heap.push (.cells (os ++ (vs ++ rest)).toArray e), drawn := C.w.drawn + 1 }) (by simp)
   (fun k hk _ => by simp only [Array.getElem?_push]; rw [if_neg (by omega)]) (fun k hk => .inr (by rw [show k = C.w.heap.size from hk]; exact Nat.le_refl _)) (fun k o' hk => .inr (by rw [show k = C.w.heap.size from ownsB_lies hk]; exact Nat.le_refl _))
   (fun _ cs h => by rw [hm] at h; cases h) (fun _ t2 g2 sh2 L2 h => by rw [hm] at h; cases h; exact ⟨g + 1, sh, L ++ X, rfl, by omega, fun e => by omega⟩)
   (fun k o' v hv' _ => by
    have hk : k < C.w.heap.size := by
     unfold World.cell? at hv'
     split at hv'
     ·rename_i hh; exact (Array.getElem?_eq_some_iff.1 hh).1
     ·cases hv'
    unfold World.cell? at hv' ⊢
    simp only [Array.getElem?_push]
    rw [if_neg (show ¬ k = C.w.heap.size by omega)]
    exact hv') rfl rfl rfl
  refine ⟨_, _, .inl hrun, rfl, hok ⟨some ⟨C.w.heap.size, 0, none⟩, newCap, rfl, hz, by rw [List.length_append]; exact hge, rfl, _, 0, 0, by simp; rfl, ?_, by simp, ?_, ?_⟩, hEx,
   e, ty, g + 1, sh, L ++ X, by simp [updF], Nat.le_refl _, _, _, _, rfl, fun _ => ⟨by simp [updF], by simp⟩⟩
  ·simp only [Nat.zero_add, List.size_toArray]
   rw [hlen]
   exact Nat.le_refl _
  ·intro hsh' o' h1 h2 hT'
   simp only at h1 h2 hT'
   rcases hT' with hf | ⟨j, bj, hj, hoj⟩
   ·have := hs.frOld _ _ hf; omega
   ·by_cases ej : j = b0
    ·subst ej
     simp only [updF, if_true, Option.some.injEq] at hj
     subst hj
     subst hsh'
     simp only [updF, if_true, ownsB] at hoj
     omega
    ·simp only [updF, if_neg ej] at hj hoj
     have := (hs.ok j bj hj).lt (ownsB_lies hoj)
     omega
  ·intro i y hy
   simp only [Nat.zero_add]
   have := rows_rep (w := C.w) (T := C.T) (rest := rest) hO.len hvl hO.rep hS.rep i y hy
   exact this.mono hEx.keep
theorem good_append_new (hs : SRel C) (hid : C.m id = none) {as : Array Operand} {ts : Array TypeId} (ho : o.op = .call { callee := .builtin .append, args := as, argTypes := ts }) {a b : Operand} (ha : as.toList = [a, b]) {t t' : TypeId} (ht : ts.toList = [t, t'])
  {e : TypeId} {ei : TypeInfo} {z : Value} {ty : Ty} (hT : AppTy P t t' e ei z ty.size) (hz : 0 < ty.size) {base : Option Addr} {cap : Nat} {L X : List ty.den} (hva : ρ a = .slice base L.length cap) {os vs : List Value} (hO : Source P C ty L (ρ a) os) (hS : Source P C ty X (ρ b) vs)
  (hbig : L.length + X.length < maxRoom) (hno : cap < L.length + X.length) : Good P C ρ o (.own id 0) (updF C.m id (some (.list e ty 0 false (L ++ X)))) := by
 obtain ⟨newCap, rest, hrun0, hge, hlen⟩ := run_append_grow (ty := o.type) hT (w := C.w) (base := base) (sLen := L.length) (sCap := cap) (x := ρ b) (os := os) (vs := vs) hS.lenOf
  (by rw [← hva]; exact hO.read _ fun _ _ _ h => h) (hS.read _ fun _ _ _ h => h) hno hbig hO.len hS.len
 have hrun := exec_append (P := P) (ρ := ρ) ho ha ht (by rw [hva]; exact hrun0)
 have key := good_newList (P := P) (ρ := ρ) (o := o) hs hid (ms := []) (t := ty) (L := L ++ X) (cells := (os ++ (vs ++ rest)).toArray) (e := e) (cap := newCap)
  (w' := { C.w with heap := C.w.heap.push (.cells (os ++ (vs ++ rest)).toArray e), drawn := C.w.drawn + 1 }) rfl rfl rfl rfl hz (by rw [List.length_append]; exact hge) (by simp only [List.size_toArray]; rw [hlen]; exact Nat.le_refl _)
  (fun T' hT' _ i y hy => (rows_rep (w := C.w) (T := C.T) (rest := rest) hO.len hS.len hO.rep hS.rep i y hy).monoT hT') (by rw [List.length_append]; exact hrun)
 exact key
end
end Go.Sx
namespace Go.Sx
open Go
variable {P : Program} {E : Env} {C : Ctx}
section
variable {ρ : Operand → Value} {lk : Look} {o : Oper} {r : OpR} {id : Nat}
theorem good_append_nil (hs : SRel C) (hid : C.m id = none) {as : Array Operand} {ts : Array TypeId} (ho : o.op = .call { callee := .builtin .append, args := as, argTypes := ts }) {a b : Operand} (ha : as.toList = [a, b]) {t t' : TypeId} (ht : ts.toList = [t, t'])
  {e : TypeId} {ei : TypeInfo} {z : Value} {ty : Ty} (hT : AppTy P t t' e ei z ty.size) (hz : 0 < ty.size) {X : List ty.den} (hva : ρ a = .slice none 0 0) {vs : List Value} (hS : Source P C ty X (ρ b) vs)
  (hbig : X.length < maxRoom) : Good P C ρ o (.own id 0) (updF C.m id (some (.list e ty 0 false X))) := by
 cases X with
 | nil =>
  have hrun := exec_append (P := P) (ρ := ρ) ho ha ht (by rw [hva]; exact run_append_fit hT (w' := C.w) hS.lenOf (hS.read C.w fun _ _ _ h => h) (Nat.le_refl _) rfl)
  obtain ⟨hEx, hok⟩ := same_ok hs (id := id) (b' := .list e ty 0 false []) (g' := .list none 0) (fun k hk => hk.elim) (fun k o' hk => hk.elim)
   (fun _ cs h => by rw [hid] at h; cases h) (fun _ t2 g2 sh2 L2 h => by rw [hid] at h; cases h)
  exact ⟨_, ⟨C.w, updF C.m id (some (.list e ty 0 false [])), updF C.φ id (.list none 0), C.fr, C.gl⟩, .inl hrun, rfl, hok ⟨none, 0, rfl, hz, Nat.le_refl _, rfl⟩, hEx, e, ty, 0, false, [], by simp [updF], Nat.le_refl _, none, 0, 0, rfl, fun _ => ⟨by simp [updF], rfl⟩⟩
 | cons x X =>
  have hO : Source P C ty [] (ρ a) [] := ⟨by simp, by rw [hva]; simp [Builtin.lenOf], fun w _ => by rw [hva]; simp [Builtin.firstCells], fun i y h => by simp at h⟩
  have := good_append_new hs hid ho ha ht hT hz (L := []) (X := x :: X) (by rw [hva]; rfl) hO hS (by simpa using hbig) (by simp)
  simpa using this
theorem goodR_append (hE : EnvOK E P) (hs : SRel C) (hρ : ∀ x, VRel C (evalO lk x) (ρ x)) (hid : C.m id = none) {as : Array Operand} {ts : Array TypeId} (ho : o.op = .call { callee := .builtin .append, args := as, argTypes := ts })
  (h : (opA E lk C.m id (.call { callee := .builtin .append, args := as, argTypes := ts })).run = some r) : GoodR P C ρ o r := by
 simp only [opA] at h
 split at h
 ·rename_i a b ha
  split at h
  ·rename_i t t' ht
   split at h
   ·rename_i ti ti' hti hti'
    obtain ⟨i1, d1, z1, hT1⟩ := hE.T hti
    obtain ⟨i2, d2, z2, hT2⟩ := hE.T hti'
    split at h
    ·exact (run_fail h).elim
    ·rename_i hnint
     split at h
     ·rename_i e htd
      have hd := td_slice hT1 htd
      split at h
      ·rename_i te hte
       obtain ⟨i3, d3, z3, hT3⟩ := hE.T hte
       split at h
       ·rename_i hzl
        have hzl := beq_eq hzl
        have mk : ∀ {ty : Ty}, (Nat.beq ty.size te.size && (Nat.ble 1 te.size && Nat.ble te.bytes 1024)) = true → AppTy P t t' e i3 z3 ty.size ∧ 0 < ty.size := by
         intro ty hck
         simp only [Bool.and_eq_true] at hck
         obtain ⟨c1, c2, c3⟩ := hck
         have c1 := beq_eq c1
         have c2 : 1 ≤ te.size := Nat.le_of_ble_eq_true c2
         have c3 : te.bytes ≤ 1024 := Nat.le_of_ble_eq_true c3
         refine ⟨⟨by rw [hT1.und, hd], ⟨d2, hT2.und, fun k hk => ?_⟩, hT3.info, hT3.zero, by rw [hT3.size, c1], ?_, by rw [hT3.bytes]; exact c3⟩, by omega⟩
         ·have := hT2.td
          rw [hk] at this
          exact hnint k this.symm
         ·rw [c1, ← hzl, hT3.zeros]; simp
        have main : ∀ {ty : Ty} {X : List ty.den} {m : List Nat} {vs : List Value}, Source P C ty X (ρ b) vs → (appendTo C.m id e te.size te.bytes (evalO lk a) ty X m).run = some r → GoodR P C ρ o r := by
         intro ty X m vs hS h
         unfold appendTo at h
         split at h
         ·exact (run_fail h).elim
         ·rename_i hck
          obtain ⟨hT, hz⟩ := mk hck
          have hva := hρ a
          split at h
          ·rename_i hn
           rw [hn] at hva
           simp only [VRel] at hva
           obtain ⟨hb, h⟩ := run_brT h
           simp only [decide_eq_true_eq] at hb
           rw [run_leaf h]
           exact good_append_nil hs hid ho ha ht hT hz hva hS hb
          ·rename_i b0 g hown
           rw [hown] at hva
           split at h
           ·rename_i ee ty' g' sh L hm
            split at h
            ·rename_i hg
             simp only [Bool.and_eq_true] at hg
             obtain ⟨hg, hee⟩ := hg
             have hg := beq_eq hg
             have hee := beq_eq hee
             subst hg
             subst ee
             split at h
             ·rename_i X' hc
              obtain ⟨rfl, rfl⟩ := castL_some hc
              obtain ⟨hb, h⟩ := run_brT h
              simp only [decide_eq_true_eq] at hb
              rw [run_leaf h]
              exact good_append_own hs ho ha ht hT hva hm hS hb
             ·exact (run_fail h).elim
            ·exact (run_fail h).elim
           ·exact (run_fail h).elim
          ·rename_i ty' L hsx
           split at h
           ·rename_i X' hc
            obtain ⟨rfl, rfl⟩ := castL_some hc
            obtain ⟨hb, h⟩ := run_brT h
            simp only [Bool.and_eq_true, decide_eq_true_eq] at hb
            rw [run_leaf h]
            obtain ⟨os, hO⟩ := source_slice (P := P) hs (hρ a) (t := ty) (X := L) (m := []) (by rw [hsx]; rfl)
            rw [hsx] at hva
            obtain ⟨ba, hv, _⟩ := hva
            exact good_append_new hs hid ho ha ht hT hz hv hO hS hb.2 (by omega)
           ·exact (run_fail h).elim
          ·exact (run_fail h).elim
        unfold appendA at h
        split at h
        ·rename_i hxn
         split at h
         ·rename_i hsn
          rw [run_pureV h]
          have hva := hρ a
          have hvb := hρ b
          rw [hsn] at hva
          rw [hxn] at hvb
          simp only [VRel] at hva hvb
          refine Good.pure hs (v := .slice none 0 0) ?_ (by simp [VRel])
          have hm : AppTy P t t' e i3 z3 te.size ∨ True := .inr trivial
          refine exec_append (P := P) (ρ := ρ) ho ha ht ?_
          rw [hva, hvb]
          have hnk : ∀ k, d2 ≠ .int k := fun k hk => by
           have := hT2.td
           rw [hk] at this
           exact hnint k this.symm
          have hmi := matches_int hnk
          simp [Builtin.append_, run_underlyingS hT1.und, hd, run_underlyingS hT2.und, run_sizeOfS hT3.info, Builtin.lenOf, Builtin.firstCells]
         ·exact (run_fail h).elim
        ·rename_i c hxc
         have hvb := hρ b
         rw [hxc] at hvb
         exact main (source_str hvb) h
        ·split at h
         ·rename_i ty X m hso
          obtain ⟨vs, hS⟩ := source_slice (P := P) hs (hρ b) hso
          exact main hS h
         ·exact (run_fail h).elim
       ·exact (run_fail h).elim
      ·exact (run_fail h).elim
     ·exact (run_fail h).elim
   ·exact (run_fail h).elim
  ·exact (run_fail h).elim
 ·exact (run_fail h).elim
theorem goodR_len' (hE : EnvOK E P) (hs : SRel C) (hρ : ∀ x, VRel C (evalO lk x) (ρ x)) {as : Array Operand} {ts : Array TypeId} (ho : o.op = .call { callee := .builtin .len, args := as, argTypes := ts })
  (h : (opA E lk C.m id (.call { callee := .builtin .len, args := as, argTypes := ts })).run = some r) : GoodR P C ρ o r := by
 simp only [opA] at h
 split at h
 ·rename_i a ha
  split at h
  ·rename_i t ht
   split at h
   ·rename_i ti hti
    split at h
    ·rename_i htd
     split at h
     ·rename_i s hs'
      rw [run_pureV h]
      exact goodR_len (av := .undef) hE hs hρ ho ha ht hti (.inl ⟨htd, s, hs', rfl⟩)
     ·exact (run_fail h).elim
    ·rename_i e htd
     split at h
     ·rename_i hn
      rw [run_pureV h]
      exact goodR_len (av := .undef) (n := 0) hE hs hρ ho ha ht hti (.inr ⟨e, htd, .inl ⟨hn, rfl⟩⟩)
     ·split at h
      ·rename_i ty L m hso
       rw [run_leaf h]
       exact goodR_len (av := .undef) hE hs hρ ho ha ht hti (.inr ⟨e, htd, .inr ⟨ty, L, m, hso, rfl⟩⟩)
      ·exact (run_fail h).elim
    ·exact (run_fail h).elim
   ·exact (run_fail h).elim
  ·exact (run_fail h).elim
 ·exact (run_fail h).elim
theorem goodR_max' (hs : SRel C) (hρ : ∀ x, VRel C (evalO lk x) (ρ x)) {as : Array Operand} {ts : Array TypeId} (ho : o.op = .call { callee := .builtin .max, args := as, argTypes := ts })
  (h : (opA E lk C.m id (.call { callee := .builtin .max, args := as, argTypes := ts })).run = some r) : GoodR P C ρ o r := by
 simp only [opA] at h
 split at h
 ·rename_i a b ha
  split at h
  ·rename_i k x k' y hx hy
   split at h
   ·rename_i e
    subst e
    rw [run_pureV h]
    exact goodR_max hs hρ ho ha hx hy
   ·exact (run_fail h).elim
  ·exact (run_fail h).elim
 ·exact (run_fail h).elim
theorem opA_good (hE : EnvOK E P) (hs : SRel C) (hρ : ∀ x, VRel C (evalO lk x) (ρ x)) (hid : C.m id = none) {op : Op} (ho : o.op = op) (h : (opA E lk C.m id op).run = some r) : GoodR P C ρ o r := by
 cases op with
 | move x => exact goodR_move hs hρ ho h
 | assign x => exact goodR_assign hs hρ ho h
 | pick c a b => exact goodR_pick hs hρ ho h
 | alloc t => exact goodR_alloc hE hs hid ho h
 | box t x => exact goodR_box hs hρ hid ho h
 | build t ps => exact goodR_build hE hs hρ ho h
 | buildSlice t n ps => exact goodR_buildSlice hE hs hρ hid ho h
 | load t a => exact goodR_load hE hs hρ ho h
 | store t a x => exact goodR_store hE hs hρ ho h
 | nilCheck x => exact goodR_nilCheck hs hρ ho h
 | binOp op t x y t' => exact goodR_binOp hE hs hρ ho h
 | unOp op t x => exact goodR_unOp hs hρ ho h
 | convert s d x => exact goodR_convert hE hs hρ ho h
 | makeInterface t x => exact goodR_makeInterface hE hs hρ ho h
 | makeSlice t l c => exact goodR_makeSlice hE hs hρ hid ho h
 | slice t x lo hi mx => exact goodR_slice hE hs hρ ho h
 | fieldAddr t a f => exact goodR_fieldAddr hE hs hρ ho h
 | field t x f => exact goodR_field hE hs hρ ho h
 | indexAddr t x i => exact goodR_indexAddr hE hs hρ ho h
 | index t x i => exact goodR_index hE hs hρ ho h
 | extract x i => exact goodR_extract hs hρ ho h
 | call c =>
  obtain ⟨callee, as, ts⟩ := c
  cases callee with
  | value f => exact (run_fail h).elim
  | invoke x m => exact (run_fail h).elim
  | builtin b =>
   cases b <;> first
    | exact goodR_len' hE hs hρ ho h
    | exact goodR_append hE hs hρ hid ho h
    | exact goodR_max' hs hρ ho h
    | exact (run_fail h).elim
 | _ => exact (run_fail h).elim
end
end Go.Sx
namespace Go.Sx
open Go
variable {P : Program} {E : Env}
structure Ren (C D : Ctx) (m : Nat → Nat) (S : Nat → Prop) : Prop where
 keep : Keep C.w C.T D.w D.T
 cells : ∀ b ty cs, S b → C.m b = some (.cells ty cs) → D.φ (m b) = C.φ b ∧ ∃ cs', D.m (m b) = some (.cells ty cs')
 lists : ∀ b ee t g sh L, S b → C.m b = some (.list ee t g sh L) → D.φ (m b) = C.φ b ∧ D.m (m b) = some (.list ee t g sh L)
theorem Ren.refA {C D : Ctx} {m : Nat → Nat} {S : Nat → Prop} (h : Ren C D m S) {a : AV} {v : Value} (hS : ∀ b ∈ refA a, S b) (hp : plainA a = true) (hv : VRel C a v) : VRel D (renA m a) v := by
 cases a with
 | undef => trivial
 | bool b => exact hv
 | int k n => exact hv
 | flt k n => exact hv
 | str s => exact hv
 | nilp => exact hv
 | nils => exact hv
 | ref b off =>
  obtain ⟨rb, ty, cs, h1, h2, h3⟩ := hv
  obtain ⟨e, cs', h4⟩ := h.cells b ty cs (hS b (by simp [Sx.refA])) h1
  exact ⟨rb, ty, cs', h4, e.trans h2, h3⟩
 | anyp => exact hv
 | bself b =>
  obtain ⟨rb, ty, cs, h1, h2, h3⟩ := hv
  obtain ⟨e, cs', h4⟩ := h.cells b ty cs (hS b (by simp [Sx.refA])) h1
  exact ⟨rb, ty, cs', h4, e.trans h2, h3⟩
 | pd t x off =>
  obtain ⟨k, o, cs, h1, h2, h3⟩ := hv
  exact ⟨k, o, cs, h1, h2.mono h.keep, h3.mono h.keep⟩
 | sl t L => exact Rep.mono h.keep hv
 | sx t L =>
  obtain ⟨a, h1, h2⟩ := hv
  exact ⟨a, h1, Rep.mono h.keep h2⟩
 | own b g =>
  obtain ⟨ee, t, g', sh, L, h1, h2, a, n, cap, h3, h4⟩ := hv
  obtain ⟨e, h5⟩ := h.lists b ee t g' sh L (hS b (by simp [Sx.refA])) h1
  exact ⟨ee, t, g', sh, L, h5, h2, a, n, cap, h3, fun hg => ⟨e.trans (h4 hg).1, (h4 hg).2⟩⟩
 | el b g i off =>
  obtain ⟨ee, t, g', sh, L, h1, h2, k, o, h3, h4⟩ := hv
  obtain ⟨e, h5⟩ := h.lists b ee t g' sh L (hS b (by simp [Sx.refA])) h1
  refine ⟨ee, t, g', sh, L, h5, h2, k, o, h3, fun hg => ?_⟩
  obtain ⟨a, cap, h6, h7⟩ := h4 hg
  exact ⟨a, cap, e.trans h6, h7⟩
 | fn f cap =>
  obtain ⟨vs, h1, h2⟩ := hv
  have : cap = [] := by simpa [plainA] using hp
  subst this
  exact ⟨vs, h1, h2⟩
 | nilf => exact hv
 | iface t x =>
  obtain ⟨u, h1, h2⟩ := hv
  refine ⟨u, h1, ?_⟩
  simp only [plainA] at hp
  have key : ∀ {y : AV} {w : Value}, plainI y = true → VRel C y w → VRel D y w := by
   intro y w hq hy
   cases y <;> first
    | (cases hq; done)
    | exact hy
    | exact Rep.mono h.keep hy
    | (obtain ⟨k, o, cs, e1, e2, e3⟩ := hy; exact ⟨k, o, cs, e1, e2.mono h.keep, e3.mono h.keep⟩)
    | (obtain ⟨a, e1, e2⟩ := hy; exact ⟨a, e1, Rep.mono h.keep e2⟩)
  have keyL : ∀ {ys : List AV} {ws : List Value}, ys.all plainI = true → VRelL C ys ws → VRelL D ys ws := by
   intro ys
   induction ys with
   | nil => intro ws _ hy; exact hy
   | cons y ys ih =>
    intro ws hq hy
    obtain ⟨w, r, rfl, e1, e2⟩ := hy
    simp only [List.all_cons, Bool.and_eq_true] at hq
    exact ⟨w, r, rfl, key hq.1 e1, ih hq.2 e2⟩
  cases x with
  | agg cs =>
   obtain ⟨vs, e1, e2⟩ := h2
   exact ⟨vs, e1, keyL hp e2⟩
  | _ =>
   simp only [AV.cells, List.all_cons, List.all_nil, Bool.and_true] at hp
   exact key hp h2
 | nili => exact hv
 | agg cs => simp [plainA] at hp
 | tup cs => simp [plainA] at hp
theorem Ren.cellsL {C D : Ctx} {m : Nat → Nat} {S : Nat → Prop} (h : Ren C D m S) : ∀ {as : List AV} {vs : List Value}, (∀ b ∈ refsC as, S b) → as.all plainA = true → VRelL C as vs → VRelL D (as.map (renA m)) vs
 | [], _, _, _, hv => hv
 | a :: as, _, hS, hp, hv => by
  obtain ⟨v, r, rfl, h1, h2⟩ := hv
  simp only [refsC, List.flatMap_cons, List.mem_append] at hS
  simp only [List.all_cons, Bool.and_eq_true] at hp
  exact ⟨v, _, rfl, h.refA (fun b hb => hS b (.inl hb)) hp.1 h1, h.cellsL (fun b hb => hS b (.inr hb)) hp.2 h2⟩
theorem Ren.relC {C D : Ctx} {m : Nat → Nat} {S : Nat → Prop} (h : Ren C D m S) {a : AV} {v : Value} (hS : ∀ b ∈ refsC a.cells, S b) (hp : a.cells.all plainA = true) (hv : VRel C a v) : VRel D (renC m a) v := by
 cases a with
 | agg cs =>
  obtain ⟨vs, h1, h2⟩ := hv
  exact ⟨vs, h1, h.cellsL hS hp h2⟩
 | _ =>
  simp only [AV.cells, refsC, List.flatMap_cons, List.flatMap_nil, List.append_nil, List.all_cons, List.all_nil, Bool.and_true] at hS hp
  exact h.refA hS hp hv
theorem Ren.relV {C D : Ctx} {m : Nat → Nat} {S : Nat → Prop} (h : Ren C D m S) {a : AV} {v : Value} (hS : ∀ b ∈ refV a, S b) (hp : plainV a = true) (hv : VRel C a v) : VRel D (renV m a) v := by
 cases a with
 | tup vs =>
  obtain ⟨us, h1, h2⟩ := hv
  refine ⟨us, h1, ?_⟩
  simp only [refV, plainV] at hS hp
  revert h2 hS hp
  generalize us.toList = ws
  clear h1
  induction vs generalizing ws with
  | nil => intro _ _ h2; exact h2
  | cons x xs ih =>
   intro hS hp h2
   obtain ⟨w, r, rfl, e1, e2⟩ := h2
   simp only [List.flatMap_cons, List.mem_append] at hS
   simp only [List.all_cons, Bool.and_eq_true] at hp
   exact ⟨w, _, rfl, h.relC (fun b hb => hS b (.inl hb)) hp.1 e1, ih _ (fun b hb => hS b (.inr hb)) hp.2 e2⟩
 | agg cs => exact h.relC (a := .agg cs) hS hp hv
 | _ => exact h.refA (by simpa only [refV] using hS) (by simpa only [plainV] using hp) hv
theorem Ren.args {C D : Ctx} {m : Nat → Nat} {S : Nat → Prop} (h : Ren C D m S) : ∀ {as : List AV} {vs : List Value}, (∀ b ∈ as.flatMap refV, S b) → as.all plainV = true → VRelL C as vs → VRelL D (as.map (renV m)) vs
 | [], _, _, _, hv => hv
 | a :: as, _, hS, hp, hv => by
  obtain ⟨v, r, rfl, h1, h2⟩ := hv
  simp only [List.flatMap_cons, List.mem_append] at hS
  simp only [List.all_cons, Bool.and_eq_true] at hp
  exact ⟨v, _, rfl, h.relV (fun b hb => hS b (.inl hb)) hp.1 h1, h.args (fun b hb => hS b (.inr hb)) hp.2 h2⟩
theorem any_beq {l : List Nat} {b : Nat} : l.any (Nat.beq b) = true ↔ b ∈ l := by
 rw [List.any_eq_true]
 constructor
 ·rintro ⟨x, hx, h⟩; rw [beq_eq h]; exact hx
 ·intro h; exact ⟨b, h, by simp⟩
theorem reach_ok {get : Get} : ∀ {n : Nat} {todo acc ids : List Nat}, reach get n todo acc = some ids → acc.Nodup → (∀ b ∈ acc, ∀ c ∈ blkRefs (get b), c ∈ acc ∨ c ∈ todo) →
  ids.Nodup ∧ (∃ more, ids = acc ++ more) ∧ (∀ b ∈ todo, b ∈ ids) ∧ (∀ b ∈ ids, ∀ c ∈ blkRefs (get b), c ∈ ids)
 | n, [], acc, ids, h, hd, hc => by
  have : ids = acc := by cases n <;> simpa [reach, eq_comm] using h
  subst this
  exact ⟨hd, ⟨[], by simp⟩, by simp, fun b hb c hcc => (hc b hb c hcc).resolve_right (by simp)⟩
 | 0, _ :: _, _, _, h, _, _ => by simp [reach] at h
 | n + 1, b :: todo, acc, ids, h, hd, hc => by
  simp only [reach] at h
  split at h
  ·rename_i hb
   have hb := any_beq.1 hb
   obtain ⟨h1, ⟨more, h2⟩, h3, h4⟩ := reach_ok h hd (fun x hx c hcx => (hc x hx c hcx).elim .inl fun hh => by
    rcases List.mem_cons.1 hh with e | e
    ·exact .inl (e ▸ hb)
    ·exact .inr e)
   exact ⟨h1, ⟨more, h2⟩, fun x hx => by
    rcases List.mem_cons.1 hx with e | e
    ·rw [e, h2]; exact List.mem_append_left _ hb
    ·exact h3 x e, h4⟩
  ·rename_i hb
   have hb : b ∉ acc := fun hh => by rw [any_beq.2 hh] at hb; cases hb
   obtain ⟨h1, ⟨more, h2⟩, h3, h4⟩ := reach_ok h (by
     rw [List.nodup_append]
     exact ⟨hd, by simp, by intro x hx y hy; simp at hy; subst hy; intro e; subst e; exact hb hx⟩) (fun x hx c hcx => by
    rcases List.mem_append.1 hx with e | e
    ·rcases hc x e c hcx with e2 | e2
     ·exact .inl (List.mem_append_left _ e2)
     ·rcases List.mem_cons.1 e2 with e3 | e3
      ·exact .inl (by simp [e3])
      ·exact .inr (List.mem_append_left _ e3)
    ·simp at e; subst e; exact .inr (List.mem_append_right _ hcx))
   refine ⟨h1, ⟨b :: more, by rw [h2]; simp⟩, fun x hx => ?_, h4⟩
   rcases List.mem_cons.1 hx with e | e
   ·rw [e, h2]; simp
   ·exact h3 x (List.mem_append_left _ e)
theorem posOf_get : ∀ {l : List Nat} {b : Nat}, b ∈ l → l[posOf l b]? = some b
 | [], b, h => by cases h
 | a :: l, b, h => by
  simp only [posOf]
  split
  ·rename_i e; simp [beq_eq e]
  ·rename_i e
   have hne : a ≠ b := fun hh => by subst hh; simp at e
   simpa using posOf_get ((List.mem_cons.1 h).resolve_left (Ne.symm hne))
theorem getAll_ok {get : Get} : ∀ {ids : List Nat} {l : List Blk}, getAll get ids = some l → l.length = ids.length ∧ ∀ (i b : Nat), ids[i]? = some b → l[i]? = get b ∧ (get b).isSome = true
 | [], l, h => by simp [getAll] at h; subst h; simp
 | a :: ids, l, h => by
  simp only [getAll] at h
  split at h
  ·rename_i x l' hx hl
   simp only [Option.some.injEq] at h
   subst h
   obtain ⟨h1, h2⟩ := getAll_ok hl
   refine ⟨by simp [h1], fun i b hi => ?_⟩
   cases i with
   | zero =>
    simp only [List.getElem?_cons_zero, Option.some.injEq] at hi
    subst hi
    simp [hx]
   | succ i => simpa using h2 i b (by simpa using hi)
  ·cases h
theorem withIds_get : ∀ (l : List Blk) (i j : Nat), getB (withIds i l) j = if i ≤ j then l[j - i]? else none
 | [], i, j => by simp [withIds, getB]
 | b :: l, i, j => by
  simp only [withIds, getB]
  split
  ·rename_i e
   have := beq_eq e
   subst this
   simp
  ·rename_i e
   have hne : i ≠ j := fun hh => by subst hh; simp at e
   rw [withIds_get l (i + 1) j]
   by_cases hle : i ≤ j
   ·rw [if_pos hle, if_pos (by omega)]
    obtain ⟨d, hd⟩ : ∃ d, j - i = d + 1 := ⟨j - i - 1, by omega⟩
    rw [hd, show j - (i + 1) = d by omega]
    simp
   ·rw [if_neg hle, if_neg (by omega)]
end Go.Sx
namespace Go.Sx
open Go
variable {P : Program} {E : Env} {C : Ctx}
theorem renA_leaf (m : Nat → Nat) (y : AV) : (renA m y).leaf = y.leaf := by cases y <;> rfl
theorem renA_leaves {m : Nat → Nat} {cs : List AV} (h : cs.all AV.leaf = true) : (cs.map (renA m)).all AV.leaf = true := by
 rw [List.all_map]
 refine List.all_eq_true.2 fun y hy => ?_
 rw [Function.comp_apply, renA_leaf]
 exact List.all_eq_true.1 h y hy
theorem refA_live {a : AV} {v : Value} (h : VRel C a v) : ∀ b ∈ refA a, (C.m b).isSome = true := by
 intro b hb
 cases a <;> simp [refA] at hb
 case ref b' off => subst hb; obtain ⟨_, _, cs, h1, _⟩ := h; simp [h1]
 case bself b' => subst hb; obtain ⟨_, _, cs, h1, _⟩ := h; simp [h1]
 case own b' g => subst hb; obtain ⟨_, _, _, _, _, h1, _⟩ := h; simp [h1]
 case el b' g i off => subst hb; obtain ⟨_, _, _, _, _, h1, _⟩ := h; simp [h1]
theorem refsC_live : ∀ {as : List AV} {vs : List Value}, VRelL C as vs → ∀ b ∈ refsC as, (C.m b).isSome = true
 | [], _, _ => by simp [refsC]
 | a :: as, _, h => by
  obtain ⟨v, r, rfl, h1, h2⟩ := h
  intro b hb
  simp only [refsC, List.flatMap_cons, List.mem_append] at hb
  rcases hb with hb | hb
  ·exact refA_live h1 b hb
  ·exact refsC_live h2 b hb
theorem refV_live {a : AV} {v : Value} (h : VRel C a v) : ∀ b ∈ refV a, (C.m b).isSome = true := by
 cases a with
 | agg cs => obtain ⟨vs, _, h2⟩ := h; exact refsC_live h2
 | tup vs =>
  obtain ⟨us, _, h2⟩ := h
  intro b hb
  simp only [refV, List.mem_flatMap] at hb
  obtain ⟨x, hx, hb⟩ := hb
  obtain ⟨i, hi, rfl⟩ := List.getElem_of_mem hx
  obtain ⟨u, _, hu⟩ := h2.get (i := i) (a := vs[i]) (by simp [hi])
  rcases cells_rel hu with ⟨cs, ws, e, _, hl⟩ | ⟨_, e⟩
  ·rw [e] at hb; exact refsC_live hl b hb
  ·rw [e] at hb
   simp only [refsC, List.flatMap_cons, List.flatMap_nil, List.append_nil] at hb
   exact refA_live hu b hb
 | _ => intro b hb; exact refA_live h b (by simpa only [refV] using hb)
theorem ownsB_ren {g : G} {b : Blk} {m : Nat → Nat} {k o : Nat} : ownsB g (renB m b) k o ↔ ownsB g b k o := by
 cases b <;> cases g <;> simp [renB, ownsB]
def Sub (C : Ctx) (ids : List Nat) (fr : Nat → Nat → Prop) (bs : List Blk) : Ctx :=
 ⟨C.w, getB (withIds 0 bs), fun i => C.φ ((ids[i]?).getD 0), fr, C.gl⟩
theorem sub_get {ids : List Nat} {fr : Nat → Nat → Prop} {l : List Blk} (hl : getAll C.m ids = some l) {f : Nat → Nat} {i : Nat} {b : Blk} (h : (Sub C ids fr (l.map (renB f))).m i = some b) :
  ∃ id b0, ids[i]? = some id ∧ C.m id = some b0 ∧ b = renB f b0 ∧ (Sub C ids fr (l.map (renB f))).φ i = C.φ id := by
 obtain ⟨h1, h2⟩ := getAll_ok hl
 simp only [Sub, withIds_get, Nat.zero_le, if_true, Nat.sub_zero, List.getElem?_map, Option.map_eq_some_iff] at h
 obtain ⟨b0, hb, rfl⟩ := h
 have hi : i < ids.length := by rw [← h1]; exact (List.getElem?_eq_some_iff.1 hb).1
 obtain ⟨h3, _⟩ := h2 i ids[i] (by simp [hi])
 exact ⟨ids[i], b0, by simp [hi], by rw [← h3, hb], rfl, by simp [Sub, hi]⟩
theorem sub_at {ids : List Nat} {fr : Nat → Nat → Prop} {l : List Blk} (hl : getAll C.m ids = some l) {f : Nat → Nat} {b : Nat} (hb : b ∈ ids) {b0 : Blk} (h : C.m b = some b0) :
  (Sub C ids fr (l.map (renB f))).m (posOf ids b) = some (renB f b0) ∧ (Sub C ids fr (l.map (renB f))).φ (posOf ids b) = C.φ b := by
 have hp := posOf_get hb
 obtain ⟨h1, h2⟩ := getAll_ok hl
 obtain ⟨h3, _⟩ := h2 _ _ hp
 refine ⟨?_, by simp [Sub, hp]⟩
 simp [Sub, withIds_get, h3, h]
theorem sub_ok (hs : SRel C) {ids : List Nat} (hd : ids.Nodup) {l : List Blk} (hl : getAll C.m ids = some l) (hcl : ∀ b ∈ ids, ∀ c ∈ blkRefs (C.m b), c ∈ ids) (hok : l.all okBlk = true) {fr : Nat → Nat → Prop}
  (hf1 : ∀ k o b, fr k o → b ∈ ids → liesB (C.φ b) k → False) (hf2 : ∀ k o, fr k o → k < C.w.heap.size) (hf3 : ∀ k o, fr k o → C.T k o) :
  let D := Sub C ids fr (l.map (renB (posOf ids)))
  SRel D ∧ Ren C D (posOf ids) (· ∈ ids) ∧ (∀ k o, D.T k o → C.T k o) ∧ (∀ k, D.held k → ∃ b blk, b ∈ ids ∧ C.m b = some blk ∧ liesB (C.φ b) k) ∧ (∀ k o, D.own k o → ∃ b blk, b ∈ ids ∧ C.m b = some blk ∧ ownsB (C.φ b) blk k o) := by
 intro D
 have hown : ∀ k o, D.own k o → ∃ b blk, b ∈ ids ∧ C.m b = some blk ∧ ownsB (C.φ b) blk k o := by
  rintro k o ⟨i, b, h1, h2⟩
  obtain ⟨id, b0, e1, e2, e3, e4⟩ := sub_get hl h1
  rw [e4, e3, ownsB_ren] at h2
  exact ⟨id, b0, List.mem_of_getElem? e1, e2, h2⟩
 have hheld : ∀ k, D.held k → ∃ b blk, b ∈ ids ∧ C.m b = some blk ∧ liesB (C.φ b) k := by
  rintro k ⟨i, b, h1, h2⟩
  obtain ⟨id, b0, e1, e2, e3, e4⟩ := sub_get hl h1
  rw [e4] at h2
  exact ⟨id, b0, List.mem_of_getElem? e1, e2, h2⟩
 have hT : ∀ k o, D.T k o → C.T k o := by
  rintro k o (h | h)
  ·exact hf3 k o h
  ·obtain ⟨b, blk, _, h1, h2⟩ := hown k o h
   exact .inr ⟨b, blk, h1, h2⟩
 have hren : Ren C D (posOf ids) (· ∈ ids) := {
  keep := fun k o v h1 h2 => ⟨h1, fun h3 => h2 (hT k o h3)⟩
  cells := fun b ty cs hb hm => by
   obtain ⟨h1, h2⟩ := sub_at (fr := fr) (f := posOf ids) hl hb hm
   exact ⟨h2, _, h1⟩
  lists := fun b ee t g sh L hb hm => by
   obtain ⟨h1, h2⟩ := sub_at (fr := fr) (f := posOf ids) hl hb hm
   exact ⟨h2, h1⟩ }
 refine ⟨{ ok := ?_, apart := ?_, frApart := ?_, frOld := hf2, gl := fun k o h => ⟨(hs.gl k o h).1, fun hh => by { obtain ⟨b, blk, _, h2, h3⟩ := hheld k hh; exact (hs.gl k o h).2.1 ⟨b, blk, h2, h3⟩ }, fun x hx => (hf3 k x hx).elim ((hs.gl k o h).2.2 x) (fun ⟨b, blk, h2, h3⟩ => (hs.gl k o h).2.1 ⟨b, blk, h2, ownsB_lies h3⟩)⟩ }, hren, hT, hheld, hown⟩
 ·intro i b hi
  obtain ⟨id, b0, e1, e2, e3, e4⟩ := sub_get hl hi
  rw [e4, e3]
  have hmem := List.mem_of_getElem? e1
  have hb := hs.ok id b0 e2
  have hokb : okBlk b0 = true := by
   obtain ⟨h1, h2⟩ := getAll_ok hl
   have h3 := (h2 i id e1).1
   rw [e2] at h3
   exact List.all_eq_true.1 hok _ (List.mem_of_getElem? h3)
  cases b0 with
  | cells ty cs =>
   obtain ⟨rb, c, hg, hh, hr, hlf⟩ := hb
   exact ⟨rb, c, hg, hh, hren.cellsL (fun b hb => hcl id hmem b (by rw [e2]; exact hb)) hokb hr, renA_leaves hlf⟩
  | list ee t g sh L =>
   obtain ⟨a, cap, hg, hz, hc, hbk⟩ := hb
   refine ⟨a, cap, hg, hz, hc, ?_⟩
   cases a with
   | none => exact hbk
   | some ad =>
    obtain ⟨hsp, c, lo, hi', hh, hsz, hfz, hsh, hx⟩ := hbk
    exact ⟨hsp, c, lo, hi', hh, hsz, hfz, fun h o h1 h2 h3 => hsh h o h1 h2 (hT _ _ h3), fun i x hi => (hx i x hi).mono hren.keep⟩
 ·intro i b j b2 k hi hj hne h1 h2
  obtain ⟨id, b0, e1, e2, e3, e4⟩ := sub_get hl hi
  obtain ⟨id', b0', e1', e2', e3', e4'⟩ := sub_get hl hj
  rw [e4] at h1
  rw [e4'] at h2
  have hii : i < ids.length := (List.getElem?_eq_some_iff.1 e1).1
  have hjj : j < ids.length := (List.getElem?_eq_some_iff.1 e1').1
  have : id ≠ id' := fun e => by
   subst e
   have := (List.getElem_inj (h₀ := hii) (h₁ := hjj) hd).1 (by rw [(List.getElem?_eq_some_iff.1 e1).2, (List.getElem?_eq_some_iff.1 e1').2])
   exact hne this
  exact hs.apart id b0 id' b0' k e2 e2' this h1 h2
 ·intro k o hf hh
  obtain ⟨b, blk, h1, _, h3⟩ := hheld k hh
  exact hf1 k o b hf h1 h3
end Go.Sx
