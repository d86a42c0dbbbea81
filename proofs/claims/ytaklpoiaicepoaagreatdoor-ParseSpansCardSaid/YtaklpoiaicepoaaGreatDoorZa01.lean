/- A part of the proof: see the row's text. -/
import Derived.Test.YtaklpoiaicepoaaGreatDoorZa00
import Derived.Below
import Derived.Laws.Cells
import Derived.Laws.Entries
import Derived.Lib.FrozenHead
import Derived.ChangeKeysEq
import Derived.Laws.Strings
import Derived.Laws.StructEq
set_option linter.unusedVariables false
set_option linter.unusedSimpArgs false
noncomputable section
namespace Go.Sx
open Go
inductive G where
 | cells (rb : Nat)
 | list (a : Option Addr) (cap : Nat)
def ownsB (g : G) (b : Blk) (k o : Nat) : Prop :=
 match g, b with
 | .cells rb, .cells _ _ => k = rb
 | .list (some a) cap, .list _ t _ sh L => k = a.block ∧ (if sh then a.off + L.length * t.size else a.off) ≤ o ∧ o < a.off + cap * t.size
 | _, _ => False
def liesB (g : G) (k : Nat) : Prop :=
 match g with
 | .cells rb => k = rb
 | .list (some a) _ => k = a.block
 | .list none _ => False
structure Ctx where
 w : World
 m : Get
 φ : Nat → G
 fr : Nat → Nat → Prop
 gl : Nat → Obj → Prop
def Ctx.own (C : Ctx) (k o : Nat) : Prop := ∃ id b, C.m id = some b ∧ ownsB (C.φ id) b k o
def Ctx.T (C : Ctx) (k o : Nat) : Prop := C.fr k o ∨ C.own k o
def Ctx.held (C : Ctx) (k : Nat) : Prop := ∃ id b, C.m id = some b ∧ liesB (C.φ id) k
def Imm (w : World) (T : Nat → Nat → Prop) (k o : Nat) (vs : List Value) : Prop :=
 ∀ j v, vs[j]? = some v → w.cell? ⟨k, o + j, none⟩ = some v ∧ ¬ T k (o + j)
def Rep (w : World) (T : Nat → Nat → Prop) : (t : Ty) → t.den → List Value → Prop
 | .unit, _, vs => vs = []
 | .bool, b, vs => vs = [.bool b]
 | .int k, n, vs => vs = [.int k n]
 | .flt k, n, vs => vs = [.float k n]
 | .str, s, vs => vs = [.string ⟨⟨s⟩⟩]
 | .pair a b, x, vs => ∃ v1 v2, vs = v1 ++ v2 ∧ Rep w T a x.1 v1 ∧ Rep w T b x.2 v2
 | .slice e, L, vs => ∃ a cap, vs = [.slice a (List.length L) cap] ∧ List.length L ≤ cap ∧
   ∀ i x, (show List e.den from L)[i]? = some x → ∃ ad cs, a = some ad ∧ ad.spot = none ∧ Imm w T ad.block (ad.off + i * e.size) cs ∧ Rep w T e x cs
 | .ptr _, none, vs => vs = [.pointer none]
 | .ptr e, some x, vs => ∃ k o cs, vs = [.pointer (some ⟨k, o, none⟩)] ∧ Imm w T k o cs ∧ Rep w T e x cs
theorem Rep.len {w : World} {T : Nat → Nat → Prop} : ∀ {t : Ty} {x : t.den} {vs : List Value}, Rep w T t x vs → vs.length = t.size
 | .unit, _, _, h => by simp [Rep] at h; simp [h, Ty.size]
 | .bool, _, _, h => by simp [Rep] at h; simp [h, Ty.size]
 | .int _, _, _, h => by simp [Rep] at h; simp [h, Ty.size]
 | .flt _, _, _, h => by simp [Rep] at h; simp [h, Ty.size]
 | .str, _, _, h => by simp [Rep] at h; simp [h, Ty.size]
 | .pair _ _, _, _, h => by
  obtain ⟨v1, v2, rfl, h1, h2⟩ := h
  simp [Ty.size, h1.len, h2.len]
 | .slice _, _, _, h => by obtain ⟨a, cap, rfl, _⟩ := h; simp [Ty.size]
 | .ptr _, none, _, h => by simp [Rep] at h; simp [h, Ty.size]
 | .ptr _, some _, _, h => by obtain ⟨k, o, cs, rfl, _⟩ := h; simp [Ty.size]
def Keep (w : World) (T : Nat → Nat → Prop) (w' : World) (T' : Nat → Nat → Prop) : Prop :=
 ∀ k o v, w.cell? ⟨k, o, none⟩ = some v → ¬ T k o → w'.cell? ⟨k, o, none⟩ = some v ∧ ¬ T' k o
theorem Imm.mono {w w' : World} {T T' : Nat → Nat → Prop} (h : Keep w T w' T') {k o : Nat} {vs : List Value} (hi : Imm w T k o vs) : Imm w' T' k o vs :=
 fun j v hv => h _ _ _ (hi j v hv).1 (hi j v hv).2
theorem Rep.mono {w w' : World} {T T' : Nat → Nat → Prop} (h : Keep w T w' T') : ∀ {t : Ty} {x : t.den} {vs : List Value}, Rep w T t x vs → Rep w' T' t x vs
 | .unit, _, _, r => r
 | .bool, _, _, r => r
 | .int _, _, _, r => r
 | .flt _, _, _, r => r
 | .str, _, _, r => r
 | .pair _ _, _, _, r => by
  obtain ⟨v1, v2, rfl, h1, h2⟩ := r
  exact ⟨v1, v2, rfl, h1.mono h, h2.mono h⟩
 | .slice _, _, _, r => by
  obtain ⟨a, cap, rfl, hl, hx⟩ := r
  refine ⟨a, cap, rfl, hl, fun i x hi => ?_⟩
  obtain ⟨ad, cs, ha, hs, him, hr⟩ := hx i x hi
  exact ⟨ad, cs, ha, hs, him.mono h, hr.mono h⟩
 | .ptr _, none, _, r => r
 | .ptr _, some _, _, r => by
  obtain ⟨k, o, cs, rfl, him, hr⟩ := r
  exact ⟨k, o, cs, rfl, him.mono h, hr.mono h⟩
mutual
def VRel (C : Ctx) : AV → Value → Prop
 | .undef, _ => True
 | .bool b, v => v = .bool b
 | .int k n, v => v = .int k n
 | .flt k n, v => v = .float k n
 | .str s, v => v = .string ⟨⟨s⟩⟩
 | .nilp, v => v = .pointer none
 | .nils, v => v = .slice none 0 0
 | .ref b off, v => ∃ rb ty cs, C.m b = some (.cells ty cs) ∧ C.φ b = .cells rb ∧ v = .pointer (some ⟨rb, off, none⟩)
 | .anyp, v => ∃ a, v = .pointer a
 | .bself b, v => ∃ rb ty cs, C.m b = some (.cells ty cs) ∧ C.φ b = .cells rb ∧ (v = .pointer none ∨ v = .pointer (some ⟨rb, 0, none⟩))
 | .pd t x off, v => ∃ k o cs, v = .pointer (some ⟨k, o + off, none⟩) ∧ Imm C.w C.T k o cs ∧ Rep C.w C.T t x cs
 | .sl t L, v => Rep C.w C.T (.slice t) L [v]
 | .sx t L, v => ∃ a, v = .slice a L.length L.length ∧ Rep C.w C.T (.slice t) L [v]
 | .own b g, v => ∃ ee t g' sh L, C.m b = some (.list ee t g' sh L) ∧ g ≤ g' ∧ ∃ a n cap, v = .slice a n cap ∧ (g = g' → C.φ b = .list a cap ∧ n = L.length)
 | .el b g i off, v => ∃ ee t g' sh L, C.m b = some (.list ee t g' sh L) ∧ g ≤ g' ∧
   ∃ k o, v = .pointer (some ⟨k, o + off, none⟩) ∧ (g = g' → ∃ a cap, C.φ b = .list (some a) cap ∧ i < L.length ∧ k = a.block ∧ o = a.off + i * t.size)
 | .fn f cap, v => ∃ vs, v = .func (.func f) #[] vs ∧ VRelL C cap vs.toList
 | .nilf, v => v = .nilFunc
 | .iface t x, v => ∃ u, v = .iface t u ∧ VRel C x u
 | .nili, v => v = .nilIface
 | .agg cs, v => ∃ vs, v = .agg vs ∧ VRelL C cs vs.toList
 | .tup cs, v => ∃ vs, v = .tuple vs ∧ VRelL C cs vs.toList
def VRelL (C : Ctx) : List AV → List Value → Prop
 | [], vs => vs = []
 | a :: as, vs => ∃ v r, vs = v :: r ∧ VRel C a v ∧ VRelL C as r
end
theorem VRelL.len {C : Ctx} : ∀ {as : List AV} {vs : List Value}, VRelL C as vs → as.length = vs.length
 | [], _, h => by simp [VRelL] at h; simp [h]
 | _ :: _, _, h => by
  obtain ⟨v, r, rfl, _, h⟩ := h
  simp [h.len]
theorem VRelL.get {C : Ctx} : ∀ {as : List AV} {vs : List Value} {i : Nat} {a : AV}, VRelL C as vs → as[i]? = some a → ∃ v, vs[i]? = some v ∧ VRel C a v
 | a :: as, _, 0, b, h, hi => by
  obtain ⟨v, r, rfl, h1, _⟩ := h
  simp only [List.getElem?_cons_zero, Option.some.injEq] at hi
  exact ⟨v, by simp, hi ▸ h1⟩
 | a :: as, _, i + 1, b, h, hi => by
  obtain ⟨v, r, rfl, _, h⟩ := h
  simpa using h.get (by simpa using hi)
 | [], _, i, b, _, hi => by simp at hi
theorem VRelL.append {C : Ctx} : ∀ {as bs : List AV} {vs ws : List Value}, VRelL C as vs → VRelL C bs ws → VRelL C (as ++ bs) (vs ++ ws)
 | [], _, _, _, h, k => by simp only [VRelL] at h; subst h; simpa using k
 | _ :: _, _, _, _, h, k => by
  obtain ⟨v, r, rfl, h1, h2⟩ := h
  exact ⟨v, r ++ _, rfl, h1, h2.append k⟩
theorem VRelL.split {C : Ctx} : ∀ {as bs : List AV} {vs : List Value}, VRelL C (as ++ bs) vs → ∃ v1 v2, vs = v1 ++ v2 ∧ VRelL C as v1 ∧ VRelL C bs v2
 | [], _, vs, h => ⟨[], vs, rfl, by simp [VRelL], h⟩
 | a :: as, bs, vs, h => by
  obtain ⟨v, r, rfl, h1, h2⟩ := h
  obtain ⟨v1, v2, rfl, h3, h4⟩ := VRelL.split h2
  exact ⟨v :: v1, v2, rfl, ⟨v, v1, rfl, h1, h3⟩, h4⟩
theorem VRelL.take {C : Ctx} {n : Nat} : ∀ {as : List AV} {vs : List Value}, VRelL C as vs → VRelL C (as.take n) (vs.take n) := by
 induction n with
 | zero => intro as vs h; simp [VRelL]
 | succ n ih =>
  intro as vs h
  cases as with
  | nil => simp only [VRelL] at h; subst h; simp [VRelL]
  | cons a as => obtain ⟨v, r, rfl, h1, h2⟩ := h; exact ⟨v, _, rfl, h1, ih h2⟩
theorem VRelL.drop {C : Ctx} {n : Nat} : ∀ {as : List AV} {vs : List Value}, VRelL C as vs → VRelL C (as.drop n) (vs.drop n) := by
 induction n with
 | zero => intro as vs h; simpa using h
 | succ n ih =>
  intro as vs h
  cases as with
  | nil => simp only [VRelL] at h; subst h; simp [VRelL]
  | cons a as => obtain ⟨v, r, rfl, h1, h2⟩ := h; simpa using ih h2
structure Ext (C C' : Ctx) : Prop where
 cells : ∀ id ty cs, C.m id = some (.cells ty cs) → C'.φ id = C.φ id ∧ ∃ cs', C'.m id = some (.cells ty cs')
 lists : ∀ id ee t g sh L, C.m id = some (.list ee t g sh L) → ∃ g' sh' L', C'.m id = some (.list ee t g' sh' L') ∧ g ≤ g' ∧ (g = g' → C'.φ id = C.φ id ∧ L'.length = L.length)
 keep : Keep C.w C.T C'.w C'.T
 frEq : C'.fr = C.fr
 glEq : C'.gl = C.gl
 frKeep : ∀ k o v, C.w.cell? ⟨k, o, none⟩ = some v → C.fr k o → C'.w.cell? ⟨k, o, none⟩ = some v
 size : C.w.heap.size ≤ C'.w.heap.size
 old : ∀ k, k < C.w.heap.size → ¬ C.held k → C'.w.heap[k]? = C.w.heap[k]?
 held : ∀ k, C'.held k → C.held k ∨ C.w.heap.size ≤ k
 own : ∀ k o, C'.own k o → C.own k o ∨ C.w.heap.size ≤ k
 os : C'.w.os = C.w.os
 tape : C'.w.tape = C.w.tape
 output : C'.w.output = C.w.output
theorem Ext.refl (C : Ctx) : Ext C C where
 cells := fun _ _ cs h => ⟨rfl, cs, h⟩
 lists := fun _ _ _ g sh L h => ⟨g, sh, L, h, Nat.le_refl _, fun _ => ⟨rfl, rfl⟩⟩
 keep := fun _ _ _ h k => ⟨h, k⟩
 frEq := rfl
 glEq := rfl
 frKeep := fun _ _ _ h _ => h
 size := Nat.le_refl _
 old := fun _ _ _ => rfl
 held := fun _ h => .inl h
 own := fun _ _ h => .inl h
 os := rfl
 tape := rfl
 output := rfl
theorem Ext.trans {A B C : Ctx} (h : Ext A B) (k : Ext B C) : Ext A C where
 cells := fun id ty cs hm => by
  obtain ⟨e, cs', hm'⟩ := h.cells id ty cs hm
  obtain ⟨e', cs'', hm''⟩ := k.cells id ty cs' hm'
  exact ⟨e'.trans e, cs'', hm''⟩
 lists := fun id ee t g sh L hm => by
  obtain ⟨g1, sh1, L1, hm1, hg1, e1⟩ := h.lists id ee t g sh L hm
  obtain ⟨g2, sh2, L2, hm2, hg2, e2⟩ := k.lists id ee t g1 sh1 L1 hm1
  refine ⟨g2, sh2, L2, hm2, Nat.le_trans hg1 hg2, fun e => ?_⟩
  have ea : g = g1 := by omega
  have eb : g1 = g2 := by omega
  exact ⟨(e2 eb).1.trans (e1 ea).1, (e2 eb).2.trans (e1 ea).2⟩
 keep := fun a o v hv ht => by
  obtain ⟨hv', ht'⟩ := h.keep a o v hv ht
  exact k.keep a o v hv' ht'
 frEq := k.frEq.trans h.frEq
 glEq := k.glEq.trans h.glEq
 frKeep := fun a o v hv hf => k.frKeep a o v (h.frKeep a o v hv hf) (h.frEq ▸ hf)
 size := Nat.le_trans h.size k.size
 old := fun a ha hn => by
  rw [← h.old a ha hn]
  refine k.old a (Nat.lt_of_lt_of_le ha h.size) fun hh => ?_
  rcases h.held a hh with hh | hh
  ·exact hn hh
  ·omega
 held := fun a ha => by
  rcases k.held a ha with hh | hh
  ·exact h.held a hh
  ·exact .inr (Nat.le_trans h.size hh)
 own := fun a o ha => by
  rcases k.own a o ha with hh | hh
  ·exact h.own a o hh
  ·exact .inr (Nat.le_trans h.size hh)
 os := k.os.trans h.os
 tape := k.tape.trans h.tape
 output := k.output.trans h.output
mutual
theorem VRel.mono {C C' : Ctx} (h : Ext C C') : ∀ {a : AV} {v : Value}, VRel C a v → VRel C' a v
 | .undef, _, _ => trivial
 | .bool _, _, r => r
 | .int _ _, _, r => r
 | .flt _ _, _, r => r
 | .str _, _, r => r
 | .nilp, _, r => r
 | .nils, _, r => r
 | .ref b off, _, r => by
  obtain ⟨rb, ty, cs, hm, hp, hv⟩ := r
  obtain ⟨e, cs', hm'⟩ := h.cells b ty cs hm
  exact ⟨rb, ty, cs', hm', e.trans hp, hv⟩
 | .anyp, _, r => r
 | .bself b, _, r => by
  obtain ⟨rb, ty, cs, hm, hp, hv⟩ := r
  obtain ⟨e, cs', hm'⟩ := h.cells b ty cs hm
  exact ⟨rb, ty, cs', hm', e.trans hp, hv⟩
 | .pd t x off, _, r => by
  obtain ⟨k, o, cs, hv, hi, hr⟩ := r
  exact ⟨k, o, cs, hv, hi.mono h.keep, hr.mono h.keep⟩
 | .sl t L, _, r => Rep.mono h.keep r
 | .sx t L, _, r => by
  obtain ⟨a, hv, hr⟩ := r
  exact ⟨a, hv, Rep.mono h.keep hr⟩
 | .own b g, _, r => by
  obtain ⟨ee, t, g', sh, L, hm, hg, a, n, cap, hv, hq⟩ := r
  obtain ⟨g2, sh2, L2, hm2, hg2, he⟩ := h.lists b ee t g' sh L hm
  refine ⟨ee, t, g2, sh2, L2, hm2, Nat.le_trans hg hg2, a, n, cap, hv, fun e => ?_⟩
  obtain ⟨hp, hn⟩ := hq (by omega)
  obtain ⟨e1, e2⟩ := he (by omega)
  exact ⟨e1.trans hp, hn.trans e2.symm⟩
 | .el b g i off, _, r => by
  obtain ⟨ee, t, g', sh, L, hm, hg, k, o, hv, hq⟩ := r
  obtain ⟨g2, sh2, L2, hm2, hg2, he⟩ := h.lists b ee t g' sh L hm
  refine ⟨ee, t, g2, sh2, L2, hm2, Nat.le_trans hg hg2, k, o, hv, fun e => ?_⟩
  obtain ⟨a, cap, hp, hl, hk, ho⟩ := hq (by omega)
  obtain ⟨e1, e2⟩ := he (by omega)
  exact ⟨a, cap, e1.trans hp, by omega, hk, ho⟩
 | .fn f cap, _, r => by
  obtain ⟨vs, hv, hl⟩ := r
  exact ⟨vs, hv, VRelL.mono h hl⟩
 | .nilf, _, r => r
 | .iface t x, _, r => by
  obtain ⟨u, hv, hx⟩ := r
  exact ⟨u, hv, VRel.mono h hx⟩
 | .nili, _, r => r
 | .agg cs, _, r => by
  obtain ⟨vs, hv, hl⟩ := r
  exact ⟨vs, hv, VRelL.mono h hl⟩
 | .tup cs, _, r => by
  obtain ⟨vs, hv, hl⟩ := r
  exact ⟨vs, hv, VRelL.mono h hl⟩
theorem VRelL.mono {C C' : Ctx} (h : Ext C C') : ∀ {as : List AV} {vs : List Value}, VRelL C as vs → VRelL C' as vs
 | [], _, r => r
 | _ :: _, _, r => by
  obtain ⟨v, s, hv, h1, h2⟩ := r
  exact ⟨v, s, hv, VRel.mono h h1, VRelL.mono h h2⟩
end
def BlkOK (C : Ctx) (g : G) (b : Blk) : Prop :=
 match b with
 | .cells ty cs => ∃ rb c, g = .cells rb ∧ C.w.heap[rb]? = some (.cells c ty (0, 0)) ∧ VRelL C cs c.toList ∧ cs.all AV.leaf = true
 | .list ee t _ sh L => ∃ a cap, g = .list a cap ∧ 0 < t.size ∧ L.length ≤ cap ∧
   match a with
   | none => cap = 0
   | some ad => ad.spot = none ∧ ∃ c lo hi, C.w.heap[ad.block]? = some (.cells c ee (lo, hi)) ∧ ad.off + cap * t.size ≤ c.size ∧
     hi ≤ (if sh then ad.off + L.length * t.size else ad.off) ∧
     (sh = true → ∀ o, ad.off ≤ o → o < ad.off + L.length * t.size → ¬ C.T ad.block o) ∧
     ∀ i x, L[i]? = some x → Rep C.w C.T t x (seg c.toList (ad.off + i * t.size) t.size)
structure SRel (C : Ctx) : Prop where
 ok : ∀ id b, C.m id = some b → BlkOK C (C.φ id) b
 apart : ∀ id b id' b' k, C.m id = some b → C.m id' = some b' → id ≠ id' → liesB (C.φ id) k → liesB (C.φ id') k → False
 frApart : ∀ k o, C.fr k o → C.held k → False
 frOld : ∀ k o, C.fr k o → k < C.w.heap.size
 gl : ∀ k o, C.gl k o → C.w.heap[k]? = some o ∧ ¬ C.held k ∧ ∀ x, ¬ C.fr k x
theorem ownsB_lies {g : G} {b : Blk} {k o : Nat} (h : ownsB g b k o) : liesB g k := by
 unfold ownsB at h
 unfold liesB
 split at h
 ·exact h
 ·exact h.1
 ·exact h.elim
theorem BlkOK.lt {C : Ctx} {g : G} {b : Blk} (h : BlkOK C g b) {k : Nat} (hk : liesB g k) : k < C.w.heap.size := by
 cases b with
 | cells ty cs =>
  obtain ⟨rb, c, rfl, hh, _⟩ := h
  simp only [liesB] at hk
  subst hk
  exact (Array.getElem?_eq_some_iff.1 hh).1
 | list ee t g' sh L =>
  obtain ⟨a, cap, rfl, _, _, hb⟩ := h
  cases a with
  | none => exact hk.elim
  | some ad =>
   simp only [liesB] at hk
   subst hk
   obtain ⟨_, c, lo, hi, hh, _⟩ := hb
   exact (Array.getElem?_eq_some_iff.1 hh).1
theorem BlkOK.mono {C C' : Ctx} (hE : Ext C C') {g : G} {b : Blk} (hk : ∀ k, liesB g k → C'.w.heap[k]? = C.w.heap[k]?) (h : BlkOK C g b) : BlkOK C' g b := by
 cases b with
 | cells ty cs =>
  obtain ⟨rb, c, rfl, hh, hr, hl⟩ := h
  exact ⟨rb, c, rfl, by rw [hk rb rfl]; exact hh, hr.mono hE, hl⟩
 | list ee t g' sh L =>
  obtain ⟨a, cap, rfl, hz, hc, hb⟩ := h
  refine ⟨a, cap, rfl, hz, hc, ?_⟩
  cases a with
  | none => exact hb
  | some ad =>
   obtain ⟨hsp, c, lo, hi, hh, hsz, hfz, hsh, hx⟩ := hb
   refine ⟨hsp, c, lo, hi, by rw [hk ad.block rfl]; exact hh, hsz, hfz, fun hs o h1 h2 => ?_, fun i x hi => (hx i x hi).mono hE.keep⟩
   have hlt : o < c.size := by
    have : L.length * t.size ≤ cap * t.size := Nat.mul_le_mul_right _ hc
    omega
   have hcell : C.w.cell? ⟨ad.block, o, none⟩ = some c[o] := by simp [World.cell?, hh, hlt]
   exact (hE.keep _ _ _ hcell (hsh hs o h1 h2)).2
theorem Ext.gl_ok {C C' : Ctx} (hE : Ext C C') (h : ∀ k o, C.gl k o → C.w.heap[k]? = some o ∧ ¬ C.held k ∧ ∀ x, ¬ C.fr k x) : ∀ k o, C'.gl k o → C'.w.heap[k]? = some o ∧ ¬ C'.held k ∧ ∀ x, ¬ C'.fr k x := fun k o hg => by
 rw [hE.glEq] at hg
 obtain ⟨h1, h2, h3⟩ := h k o hg
 have hlt : k < C.w.heap.size := (Array.getElem?_eq_some_iff.1 h1).1
 refine ⟨by rw [hE.old k hlt h2]; exact h1, fun hh => ?_, by rw [hE.frEq]; exact h3⟩
 rcases hE.held k hh with hh | hh
 ·exact h2 hh
 ·omega
def updF {α : Type} (f : Nat → α) (i : Nat) (a : α) : Nat → α := fun j => if j = i then a else f j
theorem upd_ok {C : Ctx} (hs : SRel C) {id : Nat} {b' : Blk} {g' : G} {w' : World}
  (hsz : C.w.heap.size ≤ w'.heap.size)
  (hoth : ∀ k, k < C.w.heap.size → ¬ (∃ b, C.m id = some b ∧ liesB (C.φ id) k) → w'.heap[k]? = C.w.heap[k]?)
  (hlies : ∀ k, liesB g' k → (∃ b, C.m id = some b ∧ liesB (C.φ id) k) ∨ C.w.heap.size ≤ k)
  (hown : ∀ k o, ownsB g' b' k o → (∃ b, C.m id = some b ∧ ownsB (C.φ id) b k o) ∨ C.w.heap.size ≤ k)
  (hkc : ∀ ty cs, C.m id = some (.cells ty cs) → g' = C.φ id ∧ ∃ cs', b' = .cells ty cs')
  (hkl : ∀ ee t g sh L, C.m id = some (.list ee t g sh L) → ∃ g2 sh2 L2, b' = .list ee t g2 sh2 L2 ∧ g ≤ g2 ∧ (g = g2 → g' = C.φ id ∧ L2.length = L.length))
  (hcell : ∀ k o v, C.w.cell? ⟨k, o, none⟩ = some v → ¬ (∃ b, C.m id = some b ∧ ownsB (C.φ id) b k o) → w'.cell? ⟨k, o, none⟩ = some v)
  (hos : w'.os = C.w.os) (htape : w'.tape = C.w.tape) (hout : w'.output = C.w.output) :
  let C' : Ctx := ⟨w', updF C.m id (some b'), updF C.φ id g', C.fr, C.gl⟩
  Ext C C' ∧ (BlkOK C' g' b' → SRel C') := by
 intro C'
 have hlt : ∀ {k o v}, C.w.cell? ⟨k, o, none⟩ = some v → k < C.w.heap.size := by
  intro k o v hv
  unfold World.cell? at hv
  split at hv
  ·rename_i hh; exact (Array.getElem?_eq_some_iff.1 hh).1
  ·cases hv
 have hm : ∀ j, j ≠ id → C'.m j = C.m j ∧ C'.φ j = C.φ j := fun j hj => by simp [C', updF, hj]
 have hmi : C'.m id = some b' ∧ C'.φ id = g' := by simp [C', updF]
 have hown' : ∀ k o, C'.own k o → C.own k o ∨ C.w.heap.size ≤ k := by
  rintro k o ⟨j, b, hj, hb⟩
  by_cases e : j = id
  ·subst e
   rw [hmi.1] at hj
   rw [hmi.2] at hb
   cases hj
   rcases hown k o hb with ⟨b, h1, h2⟩ | h
   ·exact .inl ⟨j, b, h1, h2⟩
   ·exact .inr h
  ·rw [(hm j e).1] at hj
   rw [(hm j e).2] at hb
   exact .inl ⟨j, b, hj, hb⟩
 have hheld' : ∀ k, C'.held k → C.held k ∨ C.w.heap.size ≤ k := by
  rintro k ⟨j, b, hj, hb⟩
  by_cases e : j = id
  ·subst e
   rw [hmi.2] at hb
   rcases hlies k hb with ⟨b, h1, h2⟩ | h
   ·exact .inl ⟨j, b, h1, h2⟩
   ·exact .inr h
  ·rw [(hm j e).1] at hj
   rw [(hm j e).2] at hb
   exact .inl ⟨j, b, hj, hb⟩
 have hE : Ext C C' := {
  cells := fun j ty cs hj => by
   by_cases e : j = id
   ·subst e
    obtain ⟨h1, cs', h2⟩ := hkc ty cs hj
    exact ⟨by rw [hmi.2]; exact h1, cs', by rw [hmi.1, h2]⟩
   ·exact ⟨(hm j e).2, cs, by rw [(hm j e).1]; exact hj⟩
  lists := fun j ee t g sh L hj => by
   by_cases e : j = id
   ·subst e
    obtain ⟨g2, sh2, L2, h1, h2, h3⟩ := hkl ee t g sh L hj
    exact ⟨g2, sh2, L2, by rw [hmi.1, h1], h2, fun e => by rw [hmi.2]; exact h3 e⟩
   ·exact ⟨g, sh, L, by rw [(hm j e).1]; exact hj, Nat.le_refl _, fun _ => ⟨(hm j e).2, rfl⟩⟩
  keep := fun k o v hv hT => by
   refine ⟨hcell k o v hv fun ⟨b, h1, h2⟩ => hT (.inr ⟨id, b, h1, h2⟩), fun hT' => ?_⟩
   rcases hT' with hf | ho
   ·exact hT (.inl hf)
   ·rcases hown' k o ho with h | h
    ·exact hT (.inr h)
    ·have := hlt hv; omega
  frEq := rfl
  glEq := rfl
  frKeep := fun k o v hv hf => hcell k o v hv fun ⟨b, h1, h2⟩ => hs.frApart k o hf ⟨id, b, h1, ownsB_lies h2⟩
  size := hsz
  old := fun k hk hh => hoth k hk fun ⟨b, h1, h2⟩ => hh ⟨id, b, h1, h2⟩
  held := hheld'
  own := hown'
  os := hos
  tape := htape
  output := hout }
 refine ⟨hE, fun hb => { ok := ?_, apart := ?_, frApart := ?_, frOld := fun k o hf => Nat.lt_of_lt_of_le (hs.frOld k o hf) hsz, gl := hE.gl_ok hs.gl }⟩
 ·intro j b hj
  by_cases e : j = id
  ·subst e
   rw [hmi.1] at hj
   cases hj
   rw [hmi.2]
   exact hb
  ·rw [(hm j e).1] at hj
   rw [(hm j e).2]
   refine (hs.ok j b hj).mono hE fun k hk => hoth k ((hs.ok j b hj).lt hk) fun ⟨b2, h1, h2⟩ => ?_
   exact hs.apart j b id b2 k hj h1 e hk h2
 ·intro i b j b2 k hi hj hne h1 h2
  by_cases ei : i = id
  ·subst ei
   rw [(hm j (Ne.symm hne)).1] at hj
   rw [(hm j (Ne.symm hne)).2] at h2
   rw [hmi.2] at h1
   rcases hlies k h1 with ⟨b3, h3, h4⟩ | h
   ·exact hs.apart i b3 j b2 k h3 hj hne h4 h2
   ·have := (hs.ok j b2 hj).lt h2; omega
  ·by_cases ej : j = id
   ·subst ej
    rw [(hm i ei).1] at hi
    rw [(hm i ei).2] at h1
    rw [hmi.2] at h2
    rcases hlies k h2 with ⟨b3, h3, h4⟩ | h
    ·exact hs.apart i b j b3 k hi h3 hne h1 h4
    ·have := (hs.ok i b hi).lt h1; omega
   ·rw [(hm i ei).1] at hi
    rw [(hm i ei).2] at h1
    rw [(hm j ej).1] at hj
    rw [(hm j ej).2] at h2
    exact hs.apart i b j b2 k hi hj hne h1 h2
 ·intro k o hf hh
  rcases hheld' k hh with h | h
  ·exact hs.frApart k o hf h
  ·have := hs.frOld k o hf; omega
end Go.Sx
namespace Go.Sx
open Go
def aggD : TypeDesc → Bool
 | .struct _ => true
 | .array _ _ => true
 | _ => false
def sizeD (P : Program) (t : TypeId) : Nat := match P.info? t with | some i => i.size | none => 0
def aggT (P : Program) (t : TypeId) : Bool := match P.underlying t with | some d => aggD d | none => false
def fldOf (P : Program) (f : Field) : Fld := ⟨f.offset, sizeD P f.type, aggT P f.type, f.type, f.name == "_"⟩
def tdOf (P : Program) : TypeDesc → TD
 | .int k => .int k
 | .string => .str
 | .bool => .scalar
 | .pointer e => .ptr e
 | .slice e => .slice e
 | .array n e => .array n e
 | .struct fs => .struct (fs.toList.map (fldOf P))
 | .interface _ => .iface
 | _ => .other
def fieldsOK (P : Program) : TypeDesc → Bool
 | .struct fs => fs.toList.all fun f => (P.info? f.type).isSome
 | _ => true
def eqOkD (P : Program) (t : TypeId) : TypeDesc → Bool
 | .struct _ => !P.stoodInHeld t && !P.eqGuardType P.depth t
 | _ => false
def mkTI (P : Program) (t : TypeId) (ty : Option Ty) : Option TI :=
 match P.info? t, P.underlying t with
 | some i, some d => match i.zero with
  | some z => match fieldsOK P d with
   | false => none
   | true => some ⟨i.size, i.bytes, z.cells.toList.map constAV, aggD d, eqOkD P t d, ty, tdOf P d⟩
  | none => none
 | _, _ => none
structure TIOK (P : Program) (t : TypeId) (ti : TI) (i : TypeInfo) (d : TypeDesc) (z : Value) : Prop where
 info : P.info? t = some i
 und : P.underlying t = some d
 zero : i.zero = some z
 size : i.size = ti.size
 bytes : i.bytes = ti.bytes
 zeros : ti.zero = z.cells.toList.map constAV
 agg : aggD d = ti.agg
 eqOk : eqOkD P t d = ti.eqOk
 td : tdOf P d = ti.td
 flds : fieldsOK P d = true
theorem mkTI_ok {P : Program} {t : TypeId} {ty : Option Ty} {ti : TI} (h : mkTI P t ty = some ti) : ∃ i d z, TIOK P t ti i d z := by
 unfold mkTI at h
 split at h
 ·rename_i i d hi hd
  split at h
  ·rename_i z hz
   split at h
   ·cases h
   ·rename_i hf
    simp only [Option.some.injEq] at h
    subst h
    exact ⟨i, d, z, hi, hd, hz, rfl, rfl, rfl, rfl, rfl, rfl, hf⟩
  ·cases h
 ·cases h
structure EnvOK (E : Env) (P : Program) : Prop where
 ti : ∀ t ti, E.T t = some ti → mkTI P t ti.ty = some ti
 mixed : P.follows .mixedOrders = true
variable {P : Program} {E : Env} {C : Ctx}
theorem EnvOK.T (h : EnvOK E P) {t : TypeId} {ti : TI} (ht : E.T t = some ti) : ∃ i d z, TIOK P t ti i d z := mkTI_ok (h.ti t ti ht)
theorem run_typeInfoS {t : TypeId} {i : TypeInfo} (h : P.info? t = some i) (w : World) : (typeInfo t).run P w = .ok i w := by
 simp [typeInfo, h]
theorem run_sizeOfS {t : TypeId} {i : TypeInfo} (h : P.info? t = some i) (w : World) : (sizeOf t).run P w = .ok i.size w := by
 simp [sizeOf, run_typeInfoS h]
theorem run_underlyingS {t : TypeId} {d : TypeDesc} (h : P.underlying t = some d) (w : World) : (underlying t).run P w = .ok d w := by
 simp [underlying, h]
theorem run_zeroValueS {t : TypeId} {i : TypeInfo} {z : Value} (h : P.info? t = some i) (hz : i.zero = some z) (w : World) : (zeroValue t).run P w = .ok z w := by
 simp [zeroValue, run_typeInfoS h, hz]
theorem run_isAggS {t : TypeId} {d : TypeDesc} (h : P.underlying t = some d) (w : World) : (isAgg t).run P w = .ok (aggD d) w := by
 simp only [isAgg, Sem.run_bind, run_underlyingS h, Result.andThen_ok]
 cases d <;> rfl
theorem constAV_rel (v : Value) : VRel C (constAV v) v := by
 unfold constAV
 split <;> simp [VRel]
def Good (P : Program) (C : Ctx) (ρ : Operand → Value) (o : Oper) (av : AV) (m' : Get) : Prop :=
 ∃ v C', ((execOp ρ o).run P C.w = .ok (.value v) C'.w ∨ ((execOp ρ o).run P C.w = .ok .skip C'.w ∧ v = undef)) ∧
  C'.m = m' ∧ SRel C' ∧ Ext C C' ∧ VRel C' av v
theorem Good.pure {ρ : Operand → Value} {o : Oper} {av : AV} {v : Value} (hs : SRel C) (hr : (execOp ρ o).run P C.w = .ok (.value v) C.w) (hv : VRel C av v) :
  Good P C ρ o av C.m := ⟨v, C, .inl hr, rfl, hs, Ext.refl C, hv⟩
theorem addr_add (k o n : Nat) : (⟨k, o, none⟩ : Addr).add n = ⟨k, o + n, none⟩ := by
 unfold Addr.add; split <;> simp_all
theorem run_loadVarS {t : TypeId} {ti : TI} {i : TypeInfo} {d : TypeDesc} {z : Value} (ht : TIOK P t ti i d z) {w : World} {k o : Nat} {vs : List Value} (hl : vs.length = ti.size)
  (hc : ∀ j v, vs[j]? = some v → w.cell? ⟨k, o + j, none⟩ = some v) {u : Value} (hu : (ti.agg = true ∧ u = .agg vs.toArray) ∨ (ti.agg = false ∧ vs = [u])) :
  (loadVar t ⟨k, o, none⟩).run P w = .ok u w := by
 simp only [loadVar, Sem.run_bind, run_isAggS ht.und, Result.andThen_ok, ht.agg]
 rcases hu with ⟨ha, rfl⟩ | ⟨ha, rfl⟩
 ·simp only [ha, if_true, Sem.run_bind, run_sizeOfS ht.info, Result.andThen_ok, ht.size, ← hl]
  rw [run_loadCells_list w _ vs (fun j v hj => by rw [addr_add]; exact hc j v hj)]
  simp
 ·have := hc 0 u (by simp)
  simp only [Nat.add_zero] at this
  simp [ha, this]
end Go.Sx
namespace Go.Sx
open Go
variable {P : Program} {E : Env} {C : Ctx}
theorem flat_rel : ∀ {t : Ty} {x : t.den} {vs : List Value}, Rep C.w C.T t x vs → VRelL C (flat t x) vs
 | .unit, _, _, h => by simp only [Rep] at h; subst h; simp [flat, VRelL]
 | .bool, _, _, h => by simp only [Rep] at h; subst h; simp [flat, VRelL, VRel]
 | .int _, _, _, h => by simp only [Rep] at h; subst h; simp [flat, VRelL, VRel]
 | .flt _, _, _, h => by simp only [Rep] at h; subst h; simp [flat, VRelL, VRel]
 | .str, _, _, h => by simp only [Rep] at h; subst h; simp [flat, VRelL, VRel]
 | .pair _ _, _, _, h => by
  obtain ⟨v1, v2, rfl, h1, h2⟩ := h
  exact (flat_rel h1).append (flat_rel h2)
 | .slice e, L, vs, h => by
  have h' := h
  obtain ⟨a, cap, rfl, _⟩ := h
  exact ⟨_, [], rfl, h', by simp [VRelL]⟩
 | .ptr _, none, _, h => by simp only [Rep] at h; subst h; simp [flat, VRelL, VRel]
 | .ptr e, some x, _, h => by
  obtain ⟨k, o, cs, rfl, hi, hr⟩ := h
  exact ⟨_, [], rfl, ⟨k, o, cs, rfl, hi, hr⟩, by simp [VRelL]⟩
theorem flat_len : ∀ (t : Ty) (x : t.den), (flat t x).length = t.size
 | .unit, _ => rfl
 | .bool, _ => rfl
 | .int _, _ => rfl
 | .flt _, _ => rfl
 | .str, _ => rfl
 | .pair a b, x => by simp [flat, Ty.size, flat_len a, flat_len b]
 | .slice _, _ => rfl
 | .ptr _, none => rfl
 | .ptr _, some _ => rfl
theorem flat_leaf : ∀ (t : Ty) (x : t.den), (flat t x).all AV.leaf = true
 | .unit, _ => rfl
 | .bool, _ => rfl
 | .int _, _ => rfl
 | .flt _, _ => rfl
 | .str, _ => rfl
 | .pair a b, x => by simp [flat, List.all_append, flat_leaf a, flat_leaf b]
 | .slice _, _ => rfl
 | .ptr _, none => rfl
 | .ptr _, some _ => rfl
theorem cell_of {w : World} {k : Nat} {c : Array Value} {e : TypeId} {fz : Nat × Nat} (h : w.heap[k]? = some (.cells c e fz)) (o : Nat) :
  w.cell? ⟨k, o, none⟩ = c[o]? := by simp [World.cell?, h]
theorem seg_get {α : Type} (l : List α) (o n j : Nat) : (seg l o n)[j]? = if j < n then l[o + j]? else none := by
 simp [seg, List.getElem?_take, List.getElem?_drop]
theorem seg_rel {as : List AV} {vs : List Value} (h : VRelL C as vs) (o n : Nat) : VRelL C (seg as o n) (seg vs o n) := (h.drop).take
theorem beq_eq {a b : Nat} (h : Nat.beq a b = true) : a = b := Nat.eq_of_beq_eq_true h
theorem cellsAt_rel (hs : SRel C) {n : Nat} {a : AV} {v : Value} {cs : List AV} {rd : List Nat} (hv : VRel C a v) (h : cellsAt C.m n a = some (cs, rd)) :
  ∃ k o vs, v = .pointer (some ⟨k, o, none⟩) ∧ VRelL C cs vs ∧ ∀ j x, vs[j]? = some x → C.w.cell? ⟨k, o + j, none⟩ = some x := by
 unfold cellsAt at h
 split at h
 ·rename_i b off
  split at h
  ·rename_i cs' hm
   simp only [Option.some.injEq, Prod.mk.injEq] at h
   obtain ⟨rfl, rfl⟩ := h
   obtain ⟨rb, ty2, cs2, hm2, hp, rfl⟩ := hv
   obtain ⟨rb', c, hg, hh, hr, _⟩ := hs.ok b _ hm
   rw [hp] at hg
   cases hg
   refine ⟨rb, off, seg c.toList off n, rfl, seg_rel hr off n, fun j x hj => ?_⟩
   rw [cell_of hh, ← Array.getElem?_toList]
   rw [seg_get] at hj
   split at hj
   ·exact hj
   ·cases hj
  ·cases h
 ·rename_i t x off
  simp only [Option.some.injEq, Prod.mk.injEq] at h
  obtain ⟨rfl, rfl⟩ := h
  obtain ⟨k, o, cs2, rfl, hi, hr⟩ := hv
  refine ⟨k, o + off, seg cs2 off n, rfl, seg_rel (flat_rel hr) off n, fun j x hj => ?_⟩
  rw [seg_get] at hj
  split at hj
  ·have := (hi _ _ hj).1
   rwa [show o + (off + j) = o + off + j by omega] at this
  ·cases hj
 ·rename_i b g i off
  split at h
  ·rename_i ee t g' sh L hm
   split at h
   ·rename_i hg
    simp only [Option.some.injEq, Prod.mk.injEq] at h
    obtain ⟨rfl, rfl⟩ := h
    have hg := beq_eq hg
    obtain ⟨ee2, t2, g2, sh2, L2, hm2, _, k, o', rfl, hv⟩ := hv
    rw [hm] at hm2
    cases hm2
    obtain ⟨a, cap, hp, hl, rfl, rfl⟩ := hv hg
    obtain ⟨a', cap', hgg, hz, hc, hb⟩ := hs.ok b _ hm
    rw [hp] at hgg
    cases hgg
    obtain ⟨_, c, lo, hi, hh, hsz, _, _, hx⟩ := hb
    have hxi := hx i L[i] (by simp [hl])
    have hd : L.getD i t.dflt = L[i] := by simp [List.getD, hl]
    rw [hd]
    refine ⟨a.block, a.off + i * t.size + off, seg (seg c.toList (a.off + i * t.size) t.size) off n, rfl, seg_rel (flat_rel hxi) off n, fun j x hj => ?_⟩
    rw [cell_of hh, ← Array.getElem?_toList]
    rw [seg_get, seg_get] at hj
    split at hj
    ·split at hj
     ·rw [← hj]; congr 1; omega
     ·cases hj
    ·cases hj
   ·cases h
  ·cases h
 ·cases h
theorem mkVal_rel {agg : Bool} {cs : List AV} {vs : List Value} {av : AV} (h : VRelL C cs vs) (hm : mkVal agg cs = some av) :
  ∃ u, ((agg = true ∧ u = .agg vs.toArray) ∨ (agg = false ∧ vs = [u])) ∧ VRel C av u := by
 cases agg with
 | true =>
  simp only [mkVal, Option.some.injEq] at hm
  subst hm
  exact ⟨.agg vs.toArray, .inl ⟨rfl, rfl⟩, ⟨vs.toArray, rfl, by simpa using h⟩⟩
 | false =>
  simp only [mkVal] at hm
  split at hm
  ·simp only [Option.some.injEq] at hm
   subst hm
   obtain ⟨v, r, rfl, hv, hr⟩ := h
   simp only [VRelL] at hr
   subst hr
   exact ⟨v, .inr ⟨rfl, rfl⟩, hv⟩
  ·cases hm
theorem good_load (hE : EnvOK E P) (hs : SRel C) {ρ : Operand → Value} {lk : Look} (hρ : ∀ x, VRel C (evalO lk x) (ρ x)) {o : Oper} {t : TypeId} {a : Operand} (ho : o.op = .load t a)
  {ti : TI} (ht : E.T t = some ti) {cs : List AV} {rd : List Nat} (hc : cellsAt C.m ti.size (evalO lk a) = some (cs, rd)) (hn : cs.length = ti.size) {av : AV} (hv : mkVal ti.agg cs = some av) :
  Good P C ρ o av C.m := by
 obtain ⟨i, d, z, hT⟩ := hE.T ht
 obtain ⟨k, off, vs, hp, hr, hcell⟩ := cellsAt_rel hs (hρ a) hc
 obtain ⟨u, hu, hrel⟩ := mkVal_rel hr hv
 refine Good.pure hs (v := u) ?_ hrel
 simp only [execOp, ho, Instr.loadAt, hp, Instr.sureAddr, Sem.run_bind, Sem.run_pure, Result.andThen_ok]
 rw [run_loadVarS hT (by rw [← hr.len]; exact hn) hcell hu]
 rfl
end Go.Sx
namespace Go.Sx
universe u
open Go
variable {P : Program} {E : Env} {C : Ctx}
theorem nth_eq {α : Type u} : ∀ (l : List α) (i : Nat), nth l i = l[i]?
 | [], i => by simp [nth]
 | a :: r, 0 => by simp [nth]
 | a :: r, i + 1 => by simp [nth, nth_eq r i]
def updM (m : Get) (i : Nat) (b : Blk) : Get := fun j => if j = i then some b else m j
def applyM (m : Get) : Wr → Get
 | [] => m
 | (i, b) :: r => applyM (updM m i b) r
abbrev GoodR (P : Program) (C : Ctx) (ρ : Operand → Value) (o : Oper) (r : OpR) : Prop := Good P C ρ o r.v (applyM C.m r.wr)
theorem run_leaf {α : Type} {a r : α} (h : (DT.leaf a).run = some r) : r = a := (Option.some.inj h).symm
theorem run_fail {α : Type} {r : α} (h : (DT.fail : DT α).run = some r) : False := by cases h
theorem run_br {α : Type} {b : Bool} {t e : DT α} {r : α} (h : (DT.br b t e).run = some r) : (b = true ∧ t.run = some r) ∨ (b = false ∧ e.run = some r) := by
 cases b
 ·exact .inr ⟨rfl, h⟩
 ·exact .inl ⟨rfl, h⟩
theorem run_pureV {v : AV} {r : OpR} (h : (pureV v).run = some r) : r = ⟨v, [], []⟩ := run_leaf h
theorem run_ofO {v : Option AV} {r : OpR} (h : (ofO v).run = some r) : ∃ u, v = some u ∧ r = ⟨u, [], []⟩ := by
 cases v with
 | none => cases h
 | some u => exact ⟨u, rfl, run_leaf h⟩
theorem run_brT {α : Type} {b : Bool} {t : DT α} {r : α} (h : (DT.br b t .fail).run = some r) : b = true ∧ t.run = some r := by
 rcases run_br h with h | h
 ·exact h
 ·cases h.2
section
variable {ρ : Operand → Value} {lk : Look} {o : Oper} {r : OpR} {id : Nat}
theorem goodR_move (hs : SRel C) (hρ : ∀ x, VRel C (evalO lk x) (ρ x)) {x : Operand} (ho : o.op = .move x) (h : (opA E lk C.m id (.move x)).run = some r) : GoodR P C ρ o r := by
 rw [run_pureV h]
 exact Good.pure hs (by simp [execOp, ho]) (hρ x)
theorem goodR_assign (hs : SRel C) (hρ : ∀ x, VRel C (evalO lk x) (ρ x)) {x : Operand} (ho : o.op = .assign x) (h : (opA E lk C.m id (.assign x)).run = some r) : GoodR P C ρ o r := by
 rw [run_pureV h]
 exact Good.pure hs (by simp [execOp, ho]) (hρ x)
theorem goodR_pick (hs : SRel C) (hρ : ∀ x, VRel C (evalO lk x) (ρ x)) {c a b : Operand} (ho : o.op = .pick c a b) (h : (opA E lk C.m id (.pick c a b)).run = some r) : GoodR P C ρ o r := by
 simp only [opA] at h
 have hc := hρ c
 have ha := hρ a
 have hb := hρ b
 split at h
 ·rename_i t ht
  rw [ht] at hc
  simp only [VRel] at hc
  have key : ∀ av, VRel C av (if t then ρ a else ρ b) → Good P C ρ o av C.m := fun av hv => Good.pure hs (by simp [execOp, ho, hc, asBool]) hv
  split at h
  ·rename_i x y hx hy
   rw [hx] at ha; rw [hy] at hb
   rw [run_pureV h]
   refine key _ ?_
   simp only [VRel] at ha hb ⊢
   cases t <;> simp [ha, hb]
  ·rcases run_br h with ⟨rfl, h⟩ | ⟨rfl, h⟩
   ·rw [run_pureV h]; exact key _ (by simpa using ha)
   ·rw [run_pureV h]; exact key _ (by simpa using hb)
 ·exact (run_fail h).elim
theorem goodR_nilCheck (hs : SRel C) (hρ : ∀ x, VRel C (evalO lk x) (ρ x)) {x : Operand} (ho : o.op = .nilCheck x) (h : (opA E lk C.m id (.nilCheck x)).run = some r) : GoodR P C ρ o r := by
 simp only [opA] at h
 have hx := hρ x
 have key : ∀ {av : AV}, VRel C av (ρ x) → ((∃ a, ρ x = .pointer (some a)) ∨ (∃ f vs, ρ x = .func (.func f) #[] vs)) → Good P C ρ o av C.m := fun hv hp =>
  Good.pure hs (v := ρ x) (by rcases hp with ⟨a, h⟩ | ⟨f, vs, h⟩ <;> simp [execOp, ho, h]) hv
 split at h
 ·rename_i b off hb
  rw [run_pureV h]; rw [hb] at hx
  have ⟨_, _, _, _, _, hv⟩ := hx
  exact key hx (.inl ⟨_, hv⟩)
 ·rename_i t y off hb
  rw [run_pureV h]; rw [hb] at hx
  have ⟨_, _, _, hv, _⟩ := hx
  exact key hx (.inl ⟨_, hv⟩)
 ·rename_i b g i off hb
  rw [run_pureV h]; rw [hb] at hx
  have ⟨_, _, _, _, _, _, _, _, _, hv, _⟩ := hx
  exact key hx (.inl ⟨_, hv⟩)
 ·rename_i f c hb
  rw [run_pureV h]; rw [hb] at hx
  have ⟨_, hv, _⟩ := hx
  exact key hx (.inr ⟨_, _, hv⟩)
 ·exact (run_fail h).elim
theorem goodR_extract (hs : SRel C) (hρ : ∀ x, VRel C (evalO lk x) (ρ x)) {x : Operand} {i : Nat} (ho : o.op = .extract x i) (h : (opA E lk C.m id (.extract x i)).run = some r) : GoodR P C ρ o r := by
 simp only [opA] at h
 have hx := hρ x
 split at h
 ·rename_i vs hv
  rw [hv] at hx
  obtain ⟨us, hu, hl⟩ := hx
  obtain ⟨av, hn, rfl⟩ := run_ofO h
  have hn' : vs[i]? = some av := by rw [← nth_eq]; exact hn
  obtain ⟨v, hv', hr⟩ := hl.get hn'
  refine Good.pure hs (v := v) ?_ hr
  have : us[i]? = some v := by rw [← Array.getElem?_toList]; exact hv'
  simp [execOp, ho, hu, Instr.extract, this]
 ·exact (run_fail h).elim
end
end Go.Sx
namespace Go.Sx
open Go
variable {P : Program} {E : Env} {C : Ctx}
section
variable {ρ : Operand → Value} {lk : Look} {o : Oper} {r : OpR} {id : Nat}
theorem eqGuard_int (op : BinOp) (t : TypeId) (x y : Operand) (k k' : IntKind) (a b : Int) : eqGuard op t x y (.int k a) (.int k' b) = pure () := by
 cases op <;> rfl
theorem eqGuard_str (op : BinOp) (t : TypeId) (x y : Operand) (a b : ByteArray) : eqGuard op t x y (.string a) (.string b) = pure () := by
 cases op <;> rfl
theorem goodR_binInt (hs : SRel C) {op : BinOp} {t t' : TypeId} {x y : Operand} (ho : o.op = .binOp op t x y t') {k : IntKind} {a b : Int} (hx : ρ x = .int k a) (hy : ρ y = .int k b)
  (h : (binInt op k a b).run = some r) : GoodR P C ρ o r := by
 have key : ∀ {av : AV} {v : Value}, (binOp op t (.int k a) (.int k b)).run P C.w = .ok v C.w → VRel C av v → r = ⟨av, [], []⟩ → GoodR P C ρ o r := fun hr hv e => by
  subst e
  exact Good.pure hs (by simp [execOp, ho, hx, hy, eqGuard_int, hr]) hv
 cases op <;> simp only [binInt] at h
 case quo =>
  rcases run_br h with ⟨_, h⟩ | ⟨hb, h⟩
  ·exact (run_fail h).elim
  ·have hb0 : b ≠ 0 := by simpa using hb
   exact key (v := .int k (k.wrap (a.tdiv b))) (by simp [binOp, Op.intDiv, hb0]) (by simp [VRel]) (run_pureV h)
 case rem =>
  rcases run_br h with ⟨_, h⟩ | ⟨hb, h⟩
  ·exact (run_fail h).elim
  ·have hb0 : b ≠ 0 := by simpa using hb
   exact key (v := .int k (a.tmod b)) (by simp [binOp, Op.intDiv, hb0]) (by simp [VRel]) (run_pureV h)
 all_goals first
  | exact (run_fail h).elim
  | exact key (by simp [binOp, Op.intArith, Op.intCmp]; first | rfl | done) (by simp [VRel]; first | rfl | done) (run_pureV h)
theorem goodR_binStr (hs : SRel C) {op : BinOp} {t t' : TypeId} {x y : Operand} (ho : o.op = .binOp op t x y t') {a b : List UInt8} (hx : ρ x = .string ⟨⟨a⟩⟩) (hy : ρ y = .string ⟨⟨b⟩⟩)
  (h : (binStr op a b).run = some r) : GoodR P C ρ o r := by
 have key : ∀ {av : AV} {v : Value}, (binOp op t (.string ⟨⟨a⟩⟩) (.string ⟨⟨b⟩⟩)).run P C.w = .ok v C.w → VRel C av v → r = ⟨av, [], []⟩ → GoodR P C ρ o r := fun hr hv e => by
  subst e
  exact Good.pure hs (by simp [execOp, ho, hx, hy, eqGuard_str, hr]) hv
 cases op <;> simp only [binStr] at h
 case add =>
  obtain ⟨hl, h⟩ := run_brT h
  simp only [decide_eq_true_eq] at hl
  refine key (v := .string ⟨⟨a ++ b⟩⟩) ?_ (by simp [VRel]) (run_pureV h)
  have hsz : ¬ (((ByteArray.mk ⟨a⟩).size + (ByteArray.mk ⟨b⟩).size : Nat) : Int) > IntKind.i64.max := by
   have : (ByteArray.mk ⟨a⟩).size + (ByteArray.mk ⟨b⟩).size = a.length + b.length := rfl
   rw [this]
   have : IntKind.i64.max = 9223372036854775807 := by decide
   rw [this]; omega
  simp only [binOp, Op.stringOp, hsz, if_false, Sem.run_pure]
  congr 2
 all_goals first
  | exact (run_fail h).elim
  | exact key (by simp [binOp, Op.stringOp, ByteArray.toList_eq]; first | rfl | done) (by simp [VRel]; first | rfl | done) (run_pureV h)
end
end Go.Sx
namespace Go.Sx
open Go
variable {P : Program} {E : Env} {C : Ctx}
def Val (agg : Bool) (vs : List Value) (v : Value) : Prop := (agg = true ∧ v = .agg vs.toArray) ∨ (agg = false ∧ vs = [v])
theorem eqf_cons' {d : Nat} {xs ys : Array Value} {f : Field} {fs : List Field} {a b : Value} {r s : Bool} {w : World} (hn : (f.name == "_") = false)
  (ha : (part f.type xs f.offset).run P w = .ok a w) (hb : (part f.type ys f.offset).run P w = .ok b w) (he : (Op.equalIn d f.type a b).run P w = .ok r w)
  (hr : (Op.eqFields d xs ys fs).run P w = .ok s w) : (Op.eqFields d xs ys (f :: fs)).run P w = .ok (r && s) w := by
 have hn' : f.name ≠ "_" := by simpa using hn
 rw [Op.eqFields]
 simp only [if_pos hn', Sem.run_bind, ha, hb, he, Result.andThen_ok]
 cases r
 ·simp
 ·simpa using hr
theorem part_run {t : TypeId} {ti : TI} {i : TypeInfo} {d : TypeDesc} {z : Value} (ht : TIOK P t ti i d z) (vs : List Value) (off : Nat) {v : Value} (hv : Val ti.agg (seg vs off ti.size) v) (w : World) :
  (part t vs.toArray off).run P w = .ok v w := by
 simp only [part, Sem.run_bind, run_isAggS ht.und, Result.andThen_ok, ht.agg]
 rcases hv with ⟨ha, rfl⟩ | ⟨ha, hv⟩
 ·simp only [ha, if_true, Sem.run_bind, run_sizeOfS ht.info, Result.andThen_ok, ht.size, Sem.run_pure]
  congr 2
  apply Array.ext'
  simp [seg, List.take_drop]
 ·have : vs[off]? = some v := by
   have h0 : (seg vs off ti.size)[0]? = some v := by rw [hv]; rfl
   rw [seg_get] at h0
   split at h0
   ·simpa using h0
   ·cases h0
  simp [ha, this]
theorem seg_val {ti : TI} {xs : List AV} {vs : List Value} (h : VRelL C xs vs) {off : Nat} (hl : ti.agg = true ∨ (seg xs off ti.size).length = 1) :
  ∃ v, Val ti.agg (seg vs off ti.size) v := by
 cases hb : ti.agg with
 | true => exact ⟨_, .inl ⟨rfl, rfl⟩⟩
 | false =>
  rcases hl with hl | hl
  ·rw [hb] at hl; cases hl
  ·have := (seg_rel h off ti.size).len
   rw [hl] at this
   match hs : seg vs off ti.size with
   | [v] => exact ⟨v, .inr ⟨rfl, rfl⟩⟩
   | [] => rw [hs] at this; simp at this
   | _ :: _ :: _ => rw [hs] at this; simp at this
theorem eqLeaf_sound {t : TypeId} {ti : TI} {i : TypeInfo} {d : TypeDesc} {z : Value} (ht : TIOK P t ti i d z) {x y : AV} {u v : Value} {b : Bool} (h : eqLeaf ti.td x y = some b)
  (hx : VRel C x u) (hy : VRel C y v) (n : Nat) : (Op.equalIn (n + 1) t u v).run P C.w = .ok b C.w := by
 have htd := ht.td
 have hu := ht.und
 unfold eqLeaf at h
 cases hd : d <;> rw [hd] at htd hu <;> simp only [tdOf] at htd <;> rw [← htd] at h <;> simp only at h <;> try (cases h; done)
 case bool =>
  split at h <;> try (cases h; done)
  simp only [Option.some.injEq] at h
  simp only [VRel] at hx hy
  subst hx hy h
  exact run_equalIn_bool' C.w n t _ _ hu
 case int k =>
  split at h <;> try (cases h; done)
  split at h <;> try (cases h; done)
  simp only [Option.some.injEq] at h
  simp only [VRel] at hx hy
  rename_i e
  subst hx hy h e
  exact run_equalIn_int C.w n t _ k _ _ hu
 case string =>
  split at h <;> try (cases h; done)
  simp only [Option.some.injEq] at h
  simp only [VRel] at hx hy
  subst hx hy h
  rw [run_equalIn_string C.w n t _ _ hu, ByteArray.toList_eq, ByteArray.toList_eq]
 case pointer e =>
  split at h <;> try (cases h; done)
  all_goals
   simp only [Option.some.injEq] at h
   subst h
  ·simp only [VRel] at hx hy; subst hx hy
   simp [Op.equalIn, run_underlyingS hu]
  ·obtain ⟨_, _, _, _, _, rfl⟩ := hy
   simp only [VRel] at hx; subst hx
   simp [Op.equalIn, run_underlyingS hu]
  ·obtain ⟨_, _, _, rfl, _⟩ := hy
   simp only [VRel] at hx; subst hx
   simp [Op.equalIn, run_underlyingS hu]
  ·obtain ⟨_, _, _, _, _, rfl⟩ := hx
   simp only [VRel] at hy; subst hy
   simp [Op.equalIn, run_underlyingS hu]
  ·obtain ⟨_, _, _, rfl, _⟩ := hx
   simp only [VRel] at hy; subst hy
   simp [Op.equalIn, run_underlyingS hu]
 case slice e =>
  split at h <;> try (cases h; done)
  all_goals
   simp only [Option.some.injEq] at h
   subst h
  ·simp only [VRel] at hx hy; subst hx hy
   simp [Op.equalIn, run_underlyingS hu]
  ·rename_i t' a l
   simp only [VRel] at hy; subst hy
   obtain ⟨ad, cap, hv, _, hc⟩ := hx
   simp only [List.cons.injEq, and_true] at hv
   subst hv
   obtain ⟨ad', cs, rfl, _⟩ := hc 0 a (by rfl)
   simp [Op.equalIn, run_underlyingS hu]
mutual
theorem eqT_sound (hE : EnvOK E P) : ∀ (n : Nat) {t : Nat} {xs ys : List AV} {b : Bool} {vs us : List Value} {ti : TI} {u v : Value}, eqT E n t xs ys = some b → VRelL C xs vs → VRelL C ys us →
  E.T t = some ti → Val ti.agg vs u → Val ti.agg us v → ∀ d, n ≤ d → (Op.equalIn d t u v).run P C.w = .ok b C.w
 | 0, _, _, _, _, _, _, _, _, _, h, _, _ => by simp [eqT] at h
 | n + 1, t, xs, ys, b, vs, us, ti, u, v, h, hx, hy => fun hti hu hv d hd => by
  obtain ⟨d, rfl⟩ : ∃ e, d = e + 1 := ⟨d - 1, by omega⟩
  obtain ⟨i, ds, z, hT⟩ := hE.T hti
  have htd := hT.td
  unfold eqT at h
  rw [hti] at h
  simp only at h
  split at h
  ·rename_i fs hfs
   split at h
   ·rename_i hok
    cases hd' : ds <;> rw [hd', hfs] at htd <;> simp only [tdOf] at htd <;> try (cases htd; done)
    rename_i fields
    simp only [TD.struct.injEq] at htd
    have hagg : ti.agg = true := by rw [← hT.agg, hd']; rfl
    have hek := hT.eqOk
    rw [hd', hok] at hek
    simp only [eqOkD, Bool.and_eq_true, Bool.not_eq_true'] at hek
    rcases hu with ⟨_, rfl⟩ | ⟨ha, _⟩
    ·rcases hv with ⟨_, rfl⟩ | ⟨ha, _⟩
     ·have hund : P.underlying t = some (.struct fields) := by rw [hT.und, hd']
      have hf : P.fieldsOf t = fields := by simp [Program.fieldsOf, hund]
      rw [run_equalIn_struct (P := P) C.w d t vs.toArray us.toArray (by rw [hf]; exact hund) hek.1, hf]
      rw [← htd] at h
      exact eqFs_sound hE n h hx hy d (by omega)
     ·rw [hagg] at ha; cases ha
    ·rw [hagg] at ha; cases ha
   ·cases h
  ·rename_i td hns
   split at h
   ·rename_i x
    split at h
    ·rename_i y
     obtain ⟨v1, r1, rfl, hx1, hx2⟩ := hx
     obtain ⟨v2, r2, rfl, hy1, hy2⟩ := hy
     simp only [VRelL] at hx2 hy2
     subst hx2 hy2
     have hagg : ti.agg = false := by
      rw [← hT.agg]
      cases hd' : ds <;> first
       | rfl
       | (rw [hd'] at htd; simp only [tdOf] at htd; exact (hns _ htd.symm).elim)
       | (rw [hd'] at htd; simp only [tdOf] at htd; rw [← htd] at h; simp [eqLeaf] at h)
     rcases hu with ⟨ha, _⟩ | ⟨_, hu⟩
     ·rw [hagg] at ha; cases ha
     ·rcases hv with ⟨ha, _⟩ | ⟨_, hv⟩
      ·rw [hagg] at ha; cases ha
      ·simp only [List.cons.injEq, and_true] at hu hv
       subst hu hv
       exact eqLeaf_sound hT h hx1 hy1 d
    ·cases h
   ·cases h
theorem eqFs_sound (hE : EnvOK E P) : ∀ (n : Nat) {fs : List Field} {xs ys : List AV} {b : Bool} {vs us : List Value}, eqFs E n (fs.map (fldOf P)) xs ys = some b → VRelL C xs vs → VRelL C ys us →
  ∀ d, n ≤ d → (Op.eqFields d vs.toArray us.toArray fs).run P C.w = .ok b C.w
 | n, [], _, _, b, _, _, h, _, _ => fun d _ => by
  have : b = true := by cases n <;> simpa [eqFs, eq_comm] using h
  subst this
  simp [Op.eqFields]
 | 0, _ :: _, _, _, _, _, _, h, _, _ => by simp [eqFs] at h
 | n + 1, f :: fs, xs, ys, b, vs, us, h, hx, hy => fun d hd => by
  simp only [List.map_cons, eqFs] at h
  split at h
  ·cases h
  ·rename_i hbl
   split at h
   ·cases h
   ·rename_i a ha
    have hT0 : ∃ ti, E.T f.type = some ti := by
     cases hn : n with
     | zero => rw [hn] at ha; simp [eqT] at ha
     | succ m =>
      rw [hn] at ha
      simp only [eqT, fldOf] at ha
      cases ht : E.T f.type with
      | none => rw [ht] at ha; cases ha
      | some ti => exact ⟨ti, rfl⟩
    obtain ⟨ti, hti⟩ := hT0
    obtain ⟨i, ds, z, hT⟩ := hE.T hti
    have hsz : sizeD P f.type = ti.size := by simp [sizeD, hT.info, hT.size]
    have hag : aggT P f.type = ti.agg := by simp [aggT, hT.und, hT.agg]
    have hlen : ∀ (l : List AV), (ti.agg = true ∨ (seg l f.offset ti.size).length = 1) ∨ (ti.agg = false ∧ (seg l f.offset ti.size).length ≠ 1) := fun l => by
     cases ti.agg <;> by_cases hq : (seg l f.offset ti.size).length = 1 <;> simp [hq]
    simp only [fldOf, hsz] at ha
    have hone : ∀ {l l' : List AV} {a : Bool}, eqT E n f.type l l' = some a → ti.agg = false → l.length = 1 ∧ l'.length = 1 := by
     intro l l' a ha hf
     cases hn : n with
     | zero => rw [hn] at ha; simp [eqT] at ha
     | succ m =>
      rw [hn] at ha
      simp only [eqT, hti] at ha
      split at ha
      ·rename_i fs' hfs'
       have htd := hT.td
       rw [hfs'] at htd
       have hagg := hT.agg
       rw [hf] at hagg
       cases hd' : ds <;> rw [hd'] at htd hagg <;> simp only [tdOf] at htd <;> first
        | (cases htd; done)
        | (simp [aggD] at hagg; done)
      ·split at ha
       ·split at ha
        ·simp
        ·cases ha
       ·cases ha
    obtain ⟨u, hu⟩ : ∃ u, Val ti.agg (seg vs f.offset ti.size) u := by
     rcases hlen xs with hl | ⟨hf, hl⟩
     ·exact seg_val hx hl
     ·exact (hl (hone ha hf).1).elim
    obtain ⟨v, hv⟩ : ∃ v, Val ti.agg (seg us f.offset ti.size) v := by
     rcases hlen ys with hl | ⟨hf, hl⟩
     ·exact seg_val hy hl
     ·exact (hl (hone ha hf).2).elim
    have hpa := part_run hT vs f.offset hu C.w
    have hpb := part_run hT us f.offset hv C.w
    have he := eqT_sound hE n ha (seg_rel hx f.offset ti.size) (seg_rel hy f.offset ti.size) hti hu hv d (by omega)
    have hn' : (f.name == "_") = false := hbl
    split at h
    ·simp only [Option.some.injEq] at h
     subst h
     rename_i hnil
     have hfs : fs = [] := by simpa using hnil
     subst hfs
     have := eqf_cons' (P := P) (fs := []) (s := true) hn' hpa hpb he (by simp [Op.eqFields])
     rwa [Bool.and_true] at this
    ·split at h
     ·cases h
     ·rename_i c hc
      simp only [Option.some.injEq] at h
      subst h
      exact eqf_cons' hn' hpa hpb he (eqFs_sound hE n hc hx hy d (by omega))
end
end Go.Sx
