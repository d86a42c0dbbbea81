/- A part of the proof: see the row's text. -/
import Derived.Test.YtaklpoiaicepoaaGreatDoorZa09
import Derived.Test.YtaklpoiaicepoaaGreatDoorZa08
import Derived.ChangeBears
import Derived.ChangeReads
import Derived.DataReads
import Derived.ChangeArms
set_option linter.unusedVariables false
set_option linter.unusedSimpArgs false
noncomputable section
namespace Go.Sx
open Go
variable {G : Nat → Obj → Prop} {P : Program} {E : Env} {K : Callee}
def KNt (K : Callee) : Prop := ∀ (R : Type) f args bs k (r : R), K R f args bs k = .ok r → ∃ o, k o = .ok r ∧ ∀ (R' : Type) k' (r' : R'), k' o = .ok r' → K R' f args bs k' = .ok r'
def INt (g : Intr) : Prop := ∀ (R : Type) args bs k (r : R), g R args bs k = .ok r → ∃ o, k o = .ok r ∧ ∀ (R' : Type) k' (r' : R'), k' o = .ok r' → g R' args bs k' = .ok r'
theorem bindK_nt {α R : Type} {pos : Nat} {k : α → Rs R} {r : R} {d : DT α} (h : d.bindK pos k = .ok r) : ∃ a, k a = .ok r ∧ ∀ (R' : Type) (k' : α → Rs R') (r' : R'), k' a = .ok r' → d.bindK pos k' = .ok r' := by
 induction d with
 | leaf a => exact ⟨a, h, fun _ _ _ h => h⟩
 | fail => cases h
 | br b t e iht ihe =>
  cases b with
  | true => exact iht h
  | false => exact ihe h
theorem doCall_nt (hK : KNt K) {f : Nat} {args : List AV} {get : Get} {base : Nat} {R : Type} {k : Out → Wr → List Nat → Rs R} {r : R} (h : doCall K f args get base k = .ok r) :
  ∃ o wr rd, k o wr rd = .ok r ∧ ∀ (R' : Type) (k' : Out → Wr → List Nat → Rs R') (r' : R'), k' o wr rd = .ok r' → doCall K f args get base k' = .ok r' := by
 unfold doCall at h
 split at h
 ·cases h
 rename_i ids hids
 split at h
 ·cases h
 rename_i l hl
 split at h
 ·cases h
 rename_i hck
 obtain ⟨o, ho, hall⟩ := hK _ _ _ _ _ _ h
 obtain ⟨out, l'⟩ := o
 cases out with
 | ret v =>
  simp only at ho
  split at ho
  ·rename_i hn
   refine ⟨_, _, _, ho, fun R' k' r' hk => ?_⟩
   unfold doCall
   rw [hids]
   simp only [hl, hck]
   refine hall _ _ _ ?_
   simp only [hn]
   exact hk
  ·cases ho
 | panic v =>
  refine ⟨_, _, _, ho, fun R' k' r' hk => ?_⟩
  unfold doCall
  rw [hids]
  simp only [hl, hck]
  exact hall _ _ _ hk
theorem execO_nt (hK : KNt K) {lk : Look} {get : Get} {id : Nat} {o : Oper} {e : Nat} {R : Type} {kn : AV → Wr → List Nat → Rs R} {kp : AV → Rs R} {r : R} (h : execO E K lk get id o e kn kp = .ok r) :
  (∃ v wr rd, kn v wr rd = .ok r ∧ ∀ (R' : Type) (kn' : AV → Wr → List Nat → Rs R') (kp' : AV → Rs R') (r' : R'), kn' v wr rd = .ok r' → execO E K lk get id o e kn' kp' = .ok r') ∨
  (∃ v, kp v = .ok r ∧ ∀ (R' : Type) (kn' : AV → Wr → List Nat → Rs R') (kp' : AV → Rs R') (r' : R'), kp' v = .ok r' → execO E K lk get id o e kn' kp' = .ok r') := by
 unfold execO at h ⊢
 split at h
 ·rename_i f as _ _
  split at h
  ·rename_i f' cap hf
   obtain ⟨out, wr, rd, h1, h2⟩ := doCall_nt hK h
   cases out with
   | ret v =>
    simp only at h1
    split at h1
    ·rename_i hb
     refine .inl ⟨v, wr, rd, h1, fun R' kn' kp' r' hk => ?_⟩
     refine h2 _ _ _ ?_
     simp only [hb]
     exact hk
    ·cases h1
   | panic v => exact .inr ⟨v, h1, fun R' kn' kp' r' hk => h2 _ _ _ hk⟩
  ·cases h
 ·split at h
  ·rename_i t v hx
   split at h
   ·rename_i hp
    refine .inr ⟨_, h, fun R' kn' kp' r' hk => ?_⟩
    first | exact hk | (simp only [hp]; exact hk)
   ·cases h
  ·cases h
 ·obtain ⟨a, h1, h2⟩ := bindK_nt h
  split at h1
  ·rename_i hb
   refine .inl ⟨_, _, _, h1, fun R' kn' kp' r' hk => ?_⟩
   refine h2 _ _ _ ?_
   simp only [hb]
   exact hk
  ·cases h1
theorem evOps_nt (hK : KNt K) {rid : Nat} {all : List Oper} : ∀ (ops : List Oper) (i : Nat) (st : St) {R : Type} {kn : St → Rs R} {kp : AV → Rs R} {r : R}, evOps E K rid all ops i st kn kp = .ok r →
  (∃ st', kn st' = .ok r ∧ ∀ (R' : Type) (kn' : St → Rs R') (kp' : AV → Rs R') (r' : R'), kn' st' = .ok r' → evOps E K rid all ops i st kn' kp' = .ok r') ∨
  (∃ v, kp v = .ok r ∧ ∀ (R' : Type) (kn' : St → Rs R') (kp' : AV → Rs R') (r' : R'), kp' v = .ok r' → evOps E K rid all ops i st kn' kp' = .ok r')
 | [], i, st, R, kn, kp, r, h => .inl ⟨_, h, fun _ _ _ _ h => h⟩
 | o :: os, i, st, R, kn, kp, r, h => by
  have go : ∀ (st0 : St), execO E K (look st0.tmps) (getB st0.blks) (st0.next + 16 * i) o (rid * 100 + i) (fun v wr _ => evOps E K rid all os (i + 1) { tmps := putT st0.tmps o.dst v, blks := applyWr st0.blks wr, next := st0.next } kn kp) kp = .ok r →
    (∃ st', kn st' = .ok r ∧ ∀ (R' : Type) (kn' : St → Rs R') (kp' : AV → Rs R') (r' : R'), kn' st' = .ok r' → execO E K (look st0.tmps) (getB st0.blks) (st0.next + 16 * i) o (rid * 100 + i) (fun v wr _ => evOps E K rid all os (i + 1) { tmps := putT st0.tmps o.dst v, blks := applyWr st0.blks wr, next := st0.next } kn' kp') kp' = .ok r') ∨
    (∃ v, kp v = .ok r ∧ ∀ (R' : Type) (kn' : St → Rs R') (kp' : AV → Rs R') (r' : R'), kp' v = .ok r' → execO E K (look st0.tmps) (getB st0.blks) (st0.next + 16 * i) o (rid * 100 + i) (fun v wr _ => evOps E K rid all os (i + 1) { tmps := putT st0.tmps o.dst v, blks := applyWr st0.blks wr, next := st0.next } kn' kp') kp' = .ok r') := fun st0 h => by
   rcases execO_nt hK h with ⟨v, wr, rd, h1, h2⟩ | ⟨v, h1, h2⟩
   ·rcases evOps_nt hK os (i + 1) _ h1 with ⟨st', h3, h4⟩ | ⟨v', h3, h4⟩
    ·exact .inl ⟨st', h3, fun R' kn' kp' r' hk => h2 R' _ _ r' (h4 R' kn' kp' r' hk)⟩
    ·exact .inr ⟨v', h3, fun R' kn' kp' r' hk => h2 R' _ _ r' (h4 R' kn' kp' r' hk)⟩
   ·exact .inr ⟨v, h1, fun R' kn' kp' r' hk => h2 R' _ _ r' hk⟩
  have skip : ∀ (st0 : St), evOps E K rid all os (i + 1) st0 kn kp = .ok r →
    (∃ st', kn st' = .ok r ∧ ∀ (R' : Type) (kn' : St → Rs R') (kp' : AV → Rs R') (r' : R'), kn' st' = .ok r' → evOps E K rid all os (i + 1) st0 kn' kp' = .ok r') ∨
    (∃ v, kp v = .ok r ∧ ∀ (R' : Type) (kn' : St → Rs R') (kp' : AV → Rs R') (r' : R'), kp' v = .ok r' → evOps E K rid all os (i + 1) st0 kn' kp' = .ok r') := fun st0 h => evOps_nt hK os (i + 1) _ h
  simp only [evOps] at h ⊢
  split at h
  ·rename_i hg
   exact go st h
  ·rename_i j want hg
   split at h
   ·cases h
   ·rename_i d hd
    split at h
    ·rename_i b hb
     cases b with
     | true => cases want with
      | true => exact go { st with tmps := (d, .bool true) :: st.tmps } h
      | false => exact skip _ h
     | false => cases want with
      | true => exact skip _ h
      | false => exact go { st with tmps := (d, .bool false) :: st.tmps } h
    ·exact skip _ h
    ·cases h
def NtD (F : (R : Type) → (St → Rs R) → (AV → Rs R) → Rs R) : Prop := ∀ (R : Type) (kn : St → Rs R) (kp : AV → Rs R) (r : R), F R kn kp = .ok r →
 (∃ st', kn st' = .ok r ∧ ∀ (R' : Type) (kn' : St → Rs R') (kp' : AV → Rs R') (r' : R'), kn' st' = .ok r' → F R' kn' kp' = .ok r') ∨
 (∃ v, kp v = .ok r ∧ ∀ (R' : Type) (kn' : St → Rs R') (kp' : AV → Rs R') (r' : R'), kp' v = .ok r' → F R' kn' kp' = .ok r')
theorem evOpsD_nt (hK : KNt K) {rid : Nat} {all : List Oper} {bf : List Nat} : ∀ (ops : List Oper) (i : Nat) (st : St) (es : List Ent) (pm : Option (Nat × AV)), NtD (fun R kn kp => evOpsD E K rid all bf ops i st es pm kn kp)
 | [], i, st, es, pm => fun R kn kp r h => by
  simp only [evOpsD] at h ⊢
  split at h
  ·cases pm with
   | none => exact .inl ⟨_, h, fun _ _ _ _ h => h⟩
   | some q => exact .inr ⟨_, h, fun _ _ _ _ h => h⟩
  ·cases h
 | o :: os, i, st, es, pm => fun R kn kp r h => by
  have go : ∀ (st0 : St), NtD (fun R kn kp => execO E K (look st0.tmps) (getB st0.blks) (st0.next + 16 * i) o (rid * 100 + i) (fun v wr rd => match keysOk st0.next (st0.next + 16 * i) es wr with
    | true => evOpsD E K rid all bf os (i + 1) { tmps := putT st0.tmps o.dst v, blks := applyWr st0.blks wr, next := st0.next } (match wr, rd with | [], [] => es | wr, rd => ⟨i, rd, wr.map (·.1)⟩ :: es) pm kn kp
    | false => .err 7) (fun v => panNext pm (callRd (look st0.tmps) (getB st0.blks) o) fun rd => evOpsD E K rid all bf os (i + 1) { st0 with tmps := putT st0.tmps o.dst .undef } (pushR i rd es) (some (i, v)) kn kp)) := fun st0 R kn kp r h => by
   rcases execO_nt hK h with ⟨v, wr, rd, h1, h2⟩ | ⟨v, h1, h2⟩
   ·split at h1
    ·rename_i hkk
     rcases evOpsD_nt hK os (i + 1) _ _ _ _ _ _ _ h1 with ⟨st', h3, h4⟩ | ⟨v', h3, h4⟩
     ·refine .inl ⟨st', h3, fun R' kn' kp' r' hk => h2 R' _ _ r' ?_⟩
      simp only [hkk]
      exact h4 R' kn' kp' r' hk
     ·refine .inr ⟨v', h3, fun R' kn' kp' r' hk => h2 R' _ _ r' ?_⟩
      simp only [hkk]
      exact h4 R' kn' kp' r' hk
    ·cases h1
   ·unfold panNext at h1
    split at h1
    ·cases h1
    ·split at h1
     ·cases h1
     ·rename_i rd hrd
      rcases evOpsD_nt hK os (i + 1) _ _ _ _ _ _ _ h1 with ⟨st', h3, h4⟩ | ⟨v', h3, h4⟩
      ·refine .inl ⟨st', h3, fun R' kn' kp' r' hk => h2 R' _ _ r' ?_⟩
       simp only [panNext, hrd]
       exact h4 R' kn' kp' r' hk
      ·refine .inr ⟨v', h3, fun R' kn' kp' r' hk => h2 R' _ _ r' ?_⟩
       simp only [panNext, hrd]
       exact h4 R' kn' kp' r' hk
  have skip : ∀ (st0 : St), NtD (fun R kn kp => evOpsD E K rid all bf os (i + 1) st0 es pm kn kp) := fun st0 => evOpsD_nt hK os (i + 1) _ es pm
  simp only [evOpsD] at h ⊢
  split at h
  ·exact skip _ _ _ _ _ h
  ·split at h
   ·exact go st _ _ _ _ h
   ·rename_i j want hg
    split at h
    ·cases h
    ·rename_i d hd
     split at h
     ·rename_i b hb
      cases b with
      | true => cases want with
       | true => exact go { st with tmps := (d, .bool true) :: st.tmps } _ _ _ _ h
       | false => exact skip _ _ _ _ _ h
      | false => cases want with
       | true => exact skip _ _ _ _ _ h
       | false => exact go { st with tmps := (d, .bool false) :: st.tmps } _ _ _ _ h
     ·exact skip _ _ _ _ _ h
     ·cases h
theorem ev_nt (hK : KNt K) : ∀ (c : Code) (p : Nat) (st : St) {R : Type} {k : Ex → St → Rs R} {r : R}, ev E K noCuts noJump c p st k = .ok r →
  ∃ ex st', k ex st' = .ok r ∧ ∀ (R' : Type) (k' : Ex → St → Rs R') (r' : R'), k' ex st' = .ok r' → ev E K noCuts noJump c p st k' = .ok r' := by
 intro c
 induction c with
 | skip => intro p st R k r h; exact ⟨_, _, h, fun _ _ _ h => h⟩
 | ret => intro p st R k r h; exact ⟨_, _, h, fun _ _ _ h => h⟩
 | exit id => intro p st R k r h; exact ⟨_, _, h, fun _ _ _ h => h⟩
 | label l => intro p st R k r h; exact ⟨_, _, h, fun _ _ _ h => h⟩
 | scope c ih =>
  intro p st R k r h
  have h : ev E K noCuts noJump c (2 * p) st k = .ok r := h
  exact ih (2 * p) st h
 | seq x y ihx ihy =>
  intro p st R k r h
  have h : ev E K noCuts noJump x (2 * p) st (seqK (enter noCuts noJump (ev E K noCuts noJump y)) (2 * p + 1) k) = .ok r := h
  obtain ⟨ex, st', h1, h2⟩ := ihx (2 * p) st h
  cases ex with
  | normal =>
   have h1 : ev E K noCuts noJump y (2 * p + 1) st' k = .ok r := h1
   obtain ⟨ex2, st2, h3, h4⟩ := ihy (2 * p + 1) st' h1
   refine ⟨ex2, st2, h3, fun R' k' r' hk => ?_⟩
   exact h2 R' (seqK (enter noCuts noJump (ev E K noCuts noJump y)) (2 * p + 1) k') r' (h4 R' k' r' hk)
  | exit id => exact ⟨.exit id, st', h1, fun R' k' r' hk => h2 R' (seqK (enter noCuts noJump (ev E K noCuts noJump y)) (2 * p + 1) k') r' hk⟩
  | ret => exact ⟨.ret, st', h1, fun R' k' r' hk => h2 R' (seqK (enter noCuts noJump (ev E K noCuts noJump y)) (2 * p + 1) k') r' hk⟩
  | panic v => exact ⟨.panic v, st', h1, fun R' k' r' hk => h2 R' (seqK (enter noCuts noJump (ev E K noCuts noJump y)) (2 * p + 1) k') r' hk⟩
 | cond o x y ihx ihy =>
  intro p st R k r h
  have h : (match evalO (look st.tmps) o with
   | .bool t => (match t with
    | true => ev E K noCuts noJump x (2 * p) st k
    | false => ev E K noCuts noJump y (2 * p + 1) st k)
   | _ => .err (7000000 + p)) = .ok r := h
  have goal : ∃ ex st', k ex st' = .ok r ∧ ∀ (R' : Type) (k' : Ex → St → Rs R') (r' : R'), k' ex st' = .ok r' → (match evalO (look st.tmps) o with
   | .bool t => (match t with
    | true => ev E K noCuts noJump x (2 * p) st k'
    | false => ev E K noCuts noJump y (2 * p + 1) st k')
   | _ => .err (7000000 + p)) = .ok r' := by
   split at h
   ·rename_i t ht
    cases t with
    | true => exact ihx (2 * p) st h
    | false => exact ihy (2 * p + 1) st h
   ·cases h
  exact goal
 | block id c ih =>
  intro p st R k r h
  have h : ev E K noCuts noJump c (2 * p) st (blockK id k) = .ok r := h
  obtain ⟨ex, st', h1, h2⟩ := ih (2 * p) st h
  cases ex with
  | normal => exact ⟨.normal, st', h1, fun R' k' r' hk => h2 R' (blockK id k') r' hk⟩
  | exit j =>
   cases hj : Nat.beq j id with
   | true =>
    have h1 : (match Nat.beq j id with | true => k .normal st' | false => k (.exit j) st') = .ok r := h1
    rw [hj] at h1
    refine ⟨.normal, st', h1, fun R' k' r' hk => h2 R' (blockK id k') r' ?_⟩
    show (match Nat.beq j id with | true => k' .normal st' | false => k' (.exit j) st') = .ok r'
    rw [hj]
    exact hk
   | false =>
    have h1 : (match Nat.beq j id with | true => k .normal st' | false => k (.exit j) st') = .ok r := h1
    rw [hj] at h1
    refine ⟨.exit j, st', h1, fun R' k' r' hk => h2 R' (blockK id k') r' ?_⟩
    show (match Nat.beq j id with | true => k' .normal st' | false => k' (.exit j) st') = .ok r'
    rw [hj]
    exact hk
  | ret => exact ⟨.ret, st', h1, fun R' k' r' hk => h2 R' (blockK id k') r' hk⟩
  | panic v => exact ⟨.panic v, st', h1, fun R' k' r' hk => h2 R' (blockK id k') r' hk⟩
 | loop c ih => intro p st R k r h; cases h
 | region id ops draw =>
  intro p st R k r h
  cases draw with
  | false =>
   have h : evOps E K id ops.toList ops.toList 0 st (fun st' => k .normal st') (fun v => k (.panic v) st) = .ok r := h
   rcases evOps_nt hK _ _ _ h with ⟨st', h1, h2⟩ | ⟨v, h1, h2⟩
   ·exact ⟨.normal, st', h1, fun R' k' r' hk => h2 R' (fun st' => k' .normal st') (fun v => k' (.panic v) st) r' hk⟩
   ·exact ⟨.panic v, st, h1, fun R' k' r' hk => h2 R' (fun st' => k' .normal st') (fun v => k' (.panic v) st) r' hk⟩
  | true =>
   have h : evOpsD E K id ops.toList (befs ops.toList []) ops.toList 0 st [] none (fun st' => k .normal st') (fun v => k (.panic v) st) = .ok r := h
   rcases evOpsD_nt hK _ _ _ _ _ _ _ _ _ h with ⟨st', h1, h2⟩ | ⟨v, h1, h2⟩
   ·exact ⟨.normal, st', h1, fun R' k' r' hk => h2 R' (fun st' => k' .normal st') (fun v => k' (.panic v) st) r' hk⟩
   ·exact ⟨.panic v, st, h1, fun R' k' r' hk => h2 R' (fun st' => k' .normal st') (fun v => k' (.panic v) st) r' hk⟩
 | _ => intros; rename_i h; cases h
theorem leave_nt {np : Nat} {get : Get} {v : AV} {R : Type} {k : (Out × List Blk) → Rs R} {r : R} (h : leave np get v k = .ok r) :
  ∃ o, k o = .ok r ∧ ∀ (R' : Type) (k' : (Out × List Blk) → Rs R') (r' : R'), k' o = .ok r' → leave np get v k' = .ok r' := by
 unfold leave at h ⊢
 split at h
 ·cases h
 ·split at h
  ·cases h
  ·split at h
   ·rename_i hc
    refine ⟨_, h, fun R' k' r' hk => ?_⟩
    exact hk
   ·cases h
theorem finK_nt {np : Nat} {rs : List ResultVar} {R : Type} {k : (Out × List Blk) → Rs R} {ex : Ex} {st : St} {r : R} (h : finK E np rs k ex st = .ok r) :
  ∃ o, k o = .ok r ∧ ∀ (R' : Type) (k' : (Out × List Blk) → Rs R') (r' : R'), k' o = .ok r' → finK E np rs k' ex st = .ok r' := by
 unfold finK at h ⊢
 split at h
 ·split at h
  ·exact leave_nt h
  ·exact leave_nt h
  ·cases h
 ·split at h
  ·exact leave_nt h
  ·exact leave_nt h
  ·cases h
 ·exact ⟨_, h, fun _ _ _ h => h⟩
 ·cases h
theorem body_nt (hK : KNt K) {fi : FI} {args : List AV} {bs : List Blk} {R : Type} {k : (Out × List Blk) → Rs R} {r : R} (h : body E K fi args bs k = .ok r) :
  ∃ o, k o = .ok r ∧ ∀ (R' : Type) (k' : (Out × List Blk) → Rs R') (r' : R'), k' o = .ok r' → body E K fi args bs k' = .ok r' := by
 unfold body at h ⊢
 split at h
 ·cases h
 ·obtain ⟨ex, st', h1, h2⟩ := ev_nt hK _ _ _ h
  obtain ⟨o, h3, h4⟩ := finK_nt h1
  exact ⟨o, h3, fun R' k' r' hk => h2 R' _ r' (h4 R' k' r' hk)⟩
def inlI (E : Env) (lib : List (Nat × Intr)) (fi : FI) : Intr := fun R args bs k => body E (tabI lib) fi args bs k
def INtL (l : List (Nat × Intr)) : Prop := ∀ p ∈ l, INt p.2
theorem INtL.nil : INtL [] := fun p h => by cases h
theorem INtL.cons {f : Nat} {g : Intr} {l : List (Nat × Intr)} (h : INt g) (k : INtL l) : INtL ((f, g) :: l) := fun p hp => by
 rcases List.mem_cons.1 hp with e | hp
 ·subst e; exact h
 ·exact k p hp
theorem tabI_nt {l : List (Nat × Intr)} (h : INtL l) : KNt (tabI l) := fun R f args bs k r hr => by
 unfold tabI at hr ⊢
 split at hr
 ·rename_i g hg; exact h _ (intrAt_mem hg) R args bs k r hr
 ·cases hr
theorem inlI_ok (hE : EnvOK E P) {lib : List (Nat × Intr)} (hn : INtL lib) (hk : IChk P G lib) {f : Nat} {fi : FI} (hf : FIOK P f fi) : IntrOne P G f (inlI E lib fi) := fun R args bs k r hr => by
 obtain ⟨o, h1, h2⟩ := body_nt (tabI_nt hn) hr
 exact ⟨o, h1, body_ok hE (tabI_ok hk) hf (h2 _ _ _ rfl)⟩
theorem specI_nt {f : Nat} {ts rs : Sig} {p : Dens ts → Bool} {out : Dens ts → Dens rs} : INt (specI f ts rs p out) := fun R args bs k r hr => by
 unfold specI at hr ⊢
 split at hr
 ·cases hr
 ·split at hr
  ·cases hr
  ·split at hr
   ·cases hr
   ·exact ⟨_, hr, fun _ _ _ h => h⟩
theorem ofT_nt {f : Nat} {g : TIntr} : INt (ofT f g) := fun R args bs k r hr => bindK_nt hr
end Go.Sx
namespace Go.Sx
open Go
variable {G : Nat → Obj → Prop} {P : Program} {C : Ctx}
theorem SA.bump {f : Nat} {args : List AV} {bs l l' : List Blk} {v v' : AV} (h : SA P G f args bs (.ret v, l)) (h0 : Gen0 bs) {q : Nat → Nat} (hq : ∀ i, i < bs.length → 1 ≤ q i)
  (hv : gV (getB (withIds 0 l)) q v = some v') (hl : gBs (getB (withIds 0 l)) q 0 l = some l') (hck : (plainV v' && l'.all okBlk) = true) : SA P G f args bs (.ret v', l') := fun D vals hG hm hs hvs => by
 simp only [Bool.and_eq_true] at hck
 refine Answers.mono (R := PostOf D (.ret v, l)) (h D vals hG hm hs hvs) fun e w' hR => ?_
 cases e with
 | returned u =>
  obtain ⟨v2, D1, e1, e2, e3, e4, e5, e6, e7, e8⟩ := hR
  simp only [Out.ret.injEq] at e1
  subst e1
  rw [← e3] at hv hl
  obtain ⟨s2, g2, own2, held2⟩ := gen_ok e4 e3 e8 hl
  refine ⟨v', Gen D1 l', rfl, e2, rfl, s2, ?_, g2.relV hv e7 e6, hck.1, hck.2⟩
  exact {
   cells := fun i ty cs hi => by
    obtain ⟨k3, cs2, k4⟩ := e5.cells i ty cs hi
    obtain ⟨k5, k6⟩ := g2.cells i ty cs2 k4
    exact ⟨k5.trans k3, k6⟩
   lists := fun i ee t gn sh L hi => by
    obtain ⟨gn2, sh2, L2, k3, k4, k5⟩ := e5.lists i _ _ _ _ _ hi
    obtain ⟨k6, k7⟩ := g2.lists i _ _ _ _ _ k3
    rw [hm, withIds_get] at hi
    simp only [Nat.zero_le, if_true, Nat.sub_zero] at hi
    have hlt : i < bs.length := (List.getElem?_eq_some_iff.1 hi).1
    have hg := h0 _ _ _ _ _ (List.mem_of_getElem? hi)
    have := hq i hlt
    exact ⟨q i, sh2, L2, k7, by omega, fun e => by omega⟩
   keep := fun kk oo x h1 h2 => by
    obtain ⟨h5, h6⟩ := e5.keep kk oo x h1 h2
    exact g2.keep kk oo x h5 h6
   frEq := e5.frEq
   glEq := e5.glEq
   frKeep := e5.frKeep
   size := e5.size
   old := e5.old
   held := fun kk h => e5.held kk ((held2 kk).1 h)
   own := fun kk oo h => e5.own kk oo ((own2 kk oo).1 h)
   os := e5.os
   tape := e5.tape
   output := e5.output }
 | panicked ch => obtain ⟨v2, e1, _⟩ := hR; cases e1
 | outgrown => exact hR
end Go.Sx
namespace Go.Sx
open Go
variable {G : Nat → Obj → Prop} {P : Program} {C : Ctx}
theorem PExt.gen {D : Ctx} {bs0 : List Blk} (own1 : ∀ k o, (Gen D bs0).own k o ↔ D.own k o) (held1 : ∀ k, (Gen D bs0).held k ↔ D.held k) {w' : World} {T' : Nat → Nat → Prop} (h : PExt (Gen D bs0) w' T') : PExt D w' T' where
 keep := fun k o v h1 h2 => h.keep k o v h1 fun h3 => h2 (h3.imp id (own1 k o).1)
 frKeep := h.frKeep
 size := h.size
 old := fun k hk hn => h.old k hk fun h3 => hn ((held1 k).1 h3)
 os := h.os
 tape := h.tape
 output := h.output
def shiftP (f : Nat) (g : Intr) : Intr := fun R args bs k =>
 match mapO (gV (getB (withIds 0 bs)) (fun _ => 0)) args, gBs (getB (withIds 0 bs)) (fun _ => 0) 0 bs, bs.all okBlk && args.all plainV with
 | some args0, some bs0, true => g R args0 bs0 fun o => match o with
  | (.ret v, l) => (match gV (getB (withIds 0 l)) (backQ bs l) v, gBs (getB (withIds 0 l)) (backQ bs l) 0 l with
   | some v', some l' => (match plainV v' && l'.all okBlk with
    | true => k (.ret v', l')
    | false => .err (7000000 + f))
   | _, _ => .err (7000000 + f))
  | (.panic v, _) => k (.panic v, [])
 | _, _, _ => .err (7000000 + f)
theorem shiftP_ok {f : Nat} {g : Intr} (hI : IntrOne P G f g) : IntrOne P G f (shiftP f g) := fun R args bs k r hr => by
 unfold shiftP at hr
 split at hr
 ·rename_i args0 bs0 ha hb hck
  simp only [Bool.and_eq_true] at hck
  obtain ⟨hok, hp⟩ := hck
  obtain ⟨o, ho, hSA⟩ := hI R args0 bs0 _ r hr
  obtain ⟨out, l⟩ := o
  cases out with
  | panic v =>
   simp only at ho
   refine ⟨_, ho, fun D vals hG hm hs hv => ?_⟩
   rw [← hm] at ha hb
   obtain ⟨s1, g1, own1, held1⟩ := gen_ok hs hm hok hb
   have hA := hSA (Gen D bs0) vals hG rfl s1 (g1.relVs ha hp hv)
   refine Answers.mono (R := PostOf (Gen D bs0) (.panic v, l)) hA fun e w' hR => ?_
   cases e with
   | returned u => obtain ⟨v2, D1, e1, _⟩ := hR; cases e1
   | panicked ch =>
    obtain ⟨v2, e1, u, T', p1, p2, p3, p4⟩ := hR
    cases e1
    exact ⟨_, rfl, u, T', p1, p2, p3, PExt.gen own1 held1 p4⟩
   | outgrown => exact hR
  | ret v =>
   simp only at ho
   split at ho
   ·rename_i v' l' hv' hl'
    split at ho
    ·rename_i hck2
     simp only [Bool.and_eq_true] at hck2
     refine ⟨_, ho, fun D vals hG hm hs hv => ?_⟩
     rw [← hm] at ha hb
     obtain ⟨s1, g1, own1, held1⟩ := gen_ok hs hm hok hb
     have hA := hSA (Gen D bs0) vals hG rfl s1 (g1.relVs ha hp hv)
     refine Answers.mono (R := PostOf (Gen D bs0) (.ret v, l)) hA fun e w' hR => ?_
     cases e with
     | returned u =>
      obtain ⟨v2, D1, e1, e2, e3, e4, e5, e6, e7, e8⟩ := hR
      simp only [Out.ret.injEq] at e1
      subst e1
      rw [← e3] at hv' hl'
      obtain ⟨s2, g2, own2, held2⟩ := gen_ok e4 e3 e8 hl'
      refine ⟨v', Gen D1 l', rfl, e2, rfl, s2, ?_, g2.relV hv' e7 e6, hck2.1, hck2.2⟩
      exact {
       cells := fun i ty cs hi => by
        obtain ⟨k1, cs1, k2⟩ := g1.cells i ty cs hi
        obtain ⟨k3, cs2, k4⟩ := e5.cells i ty cs1 k2
        obtain ⟨k5, k6⟩ := g2.cells i ty cs2 k4
        exact ⟨k5.trans (k3.trans k1), k6⟩
       lists := fun i ee t gn sh L hi => by
        obtain ⟨k1, k2⟩ := g1.lists i ee t gn sh L hi
        obtain ⟨gn2, sh2, L2, k3, k4, k5⟩ := e5.lists i _ _ _ _ _ k2
        obtain ⟨k6, k7⟩ := g2.lists i _ _ _ _ _ k3
        have hq : backQ bs l i = gn2 + gn := by
         unfold backQ
         rw [← e3, ← hm, k3, hi]
         rfl
        rw [hq] at k7
        refine ⟨gn2 + gn, sh2, L2, k7, by omega, fun e => ?_⟩
        have h0 : 0 = gn2 := by omega
        exact ⟨k6.trans ((k5 h0).1.trans k1), (k5 h0).2⟩
       keep := fun kk oo x h1 h2 => by
        obtain ⟨h3, h4⟩ := g1.keep kk oo x h1 h2
        obtain ⟨h5, h6⟩ := e5.keep kk oo x h3 h4
        exact g2.keep kk oo x h5 h6
       frEq := e5.frEq
       glEq := e5.glEq
       frKeep := e5.frKeep
       size := e5.size
       old := fun kk hk hh => e5.old kk hk fun h => hh ((held1 kk).1 h)
       held := fun kk h => ((e5.held kk ((held2 kk).1 h)).imp (held1 kk).1 id)
       own := fun kk oo h => ((e5.own kk oo ((own2 kk oo).1 h)).imp (own1 kk oo).1 id)
       os := e5.os
       tape := e5.tape
       output := e5.output }
     | panicked ch => obtain ⟨v2, e1, _⟩ := hR; cases e1
     | outgrown => exact hR
    ·cases ho
   ·cases ho
 ·cases hr
def subI (f : Nat) (g : Intr) : Intr := fun R args bs k =>
 doCall (fun R' f' a b k' => g R' a b k') f args (getB (withIds 0 bs)) bs.length fun out wr _ => match out with
  | .panic v => k (.panic v, [])
  | .ret v => (match getAll (getB (applyWr (withIds 0 bs) wr)) (List.range (bs.length + (wr.filter fun p => Nat.ble bs.length p.1).length)), wr.all (fun p => Nat.blt p.1 (bs.length + (wr.filter fun p => Nat.ble bs.length p.1).length)) with
   | some l, true => (match plainV v && l.all okBlk with
    | true => k (.ret v, l)
    | false => .err (7200000 + f))
   | _, _ => .err (7200000 + f))
theorem applyWr_get : ∀ (wr : Wr) (bs : Blks), getB (applyWr bs wr) = applyM (getB bs) wr
 | [], _ => rfl
 | (i, b) :: r, bs => by
  simp only [applyWr, applyM]
  rw [applyWr_get r]
  congr 1
  funext j
  simp only [getB, updM]
  by_cases h : i = j
  ·subst h; simp
  ·have : Nat.beq i j = false := by
    cases e : Nat.beq i j
    ·rfl
    ·exact absurd (beq_eq e) h
   rw [this]
   simp [Ne.symm h]
theorem subI_ok {f : Nat} {g : Intr} (hI : IntrOne P G f g) : IntrOne P G f (subI f g) := fun R args bs k r hr => by
 have hK : KOK P G (fun R' f' a b k' => match Nat.beq f' f with | true => g R' a b k' | false => .err 0) := fun R' f' a b k' r' h => by
  simp only at h
  split at h
  ·rename_i e
   have e := beq_eq e
   subst e
   exact hI R' a b k' r' h
  ·cases h
 have hr : doCall (fun R' f' a b k' => match Nat.beq f' f with | true => g R' a b k' | false => .err 0) f args (getB (withIds 0 bs)) bs.length (fun out wr _ => match out with
  | .panic v => k (.panic v, [])
  | .ret v => (match getAll (getB (applyWr (withIds 0 bs) wr)) (List.range (bs.length + (wr.filter fun p => Nat.ble bs.length p.1).length)), wr.all (fun p => Nat.blt p.1 (bs.length + (wr.filter fun p => Nat.ble bs.length p.1).length)) with
   | some l, true => (match plainV v && l.all okBlk with
    | true => k (.ret v, l)
    | false => .err (7200000 + f))
   | _, _ => .err (7200000 + f))) = .ok r := by
  unfold doCall
  simp only [Nat.beq_refl]
  exact hr
 obtain ⟨out, wr, rd, h1, h2⟩ := doCall_is hK hr
 cases out with
 | panic v =>
  refine ⟨_, h1, fun D vals hG hm hs hv => ?_⟩
  rw [← hm] at h2
  have hA := doCall_good hG hs hv (base := bs.length) (fun j hj _ => by
   rw [hm, withIds_get]
   simp only [Nat.zero_le, if_true, Nat.sub_zero]
   exact List.getElem?_eq_none hj) h2
  refine Answers.mono hA fun e w' hR => ?_
  cases e with
  | returned u => obtain ⟨v2, D1, e1, _⟩ := hR; cases e1
  | panicked ch =>
   obtain ⟨v2, e1, e2⟩ := hR
   cases e1
   exact ⟨_, rfl, e2⟩
  | outgrown => exact hR
 | ret v =>
  simp only at h1
  split at h1
  ·rename_i l hl hb
   split at h1
   ·rename_i hck
    simp only [Bool.and_eq_true] at hck
    refine ⟨_, h1, fun D vals hG hm hs hv => ?_⟩
    rw [← hm] at h2
    have hA := doCall_good hG hs hv (base := bs.length) (fun j hj _ => by
     rw [hm, withIds_get]
     simp only [Nat.zero_le, if_true, Nat.sub_zero]
     exact List.getElem?_eq_none hj) h2
    refine Answers.mono hA fun e w' hR => ?_
    cases e with
    | returned u =>
     obtain ⟨v2, C', e1, e2, e3, e4, e5, e6⟩ := hR
     cases e1
     rw [applyWr_get, ← hm, ← e3] at hl
     have hf : Free C'.m (bs.length + (wr.filter fun p => Nat.ble bs.length p.1).length) := by
      rw [e3]
      refine applyM_free (fun j hj => ?_) fun p hp => by
       have := List.all_eq_true.1 hb p hp
       simpa using this
      rw [hm, withIds_get]
      simp only [Nat.zero_le, if_true, Nat.sub_zero]
      exact List.getElem?_eq_none (by omega)
     exact ⟨_, C', rfl, e2, getAll_range hl hf, e4, e5, e6, hck.1, hck.2⟩
    | panicked ch => obtain ⟨v2, e1, _⟩ := hR; cases e1
    | outgrown => exact hR
   ·cases h1
  ·cases h1
def dataI (f : Nat) (np : Nat) (ts : Sig) (g : Intr) : Intr := fun R args bs k =>
 match bs.all okBlk with
 | false => .err (7300000 + f)
 | true => match takeL (getB (withIds 0 bs)) ts (args.drop np) with
  | none => .err (7400000 + f)
  | some (x, m) => g R (args.take np ++ canL ts x) (shareIf m bs) k
theorem shareIf_eq (m : List Nat) (bs : List Blk) : shareIf m bs = shareL m 0 bs := by
 cases m with
 | nil =>
  show bs = shareL [] 0 bs
  generalize 0 = i
  induction bs generalizing i with
  | nil => rfl
  | cons b bs ih => simp only [shareL, ← ih]; cases b <;> rfl
 | cons a m => rfl
theorem VRelL.cut {C : Ctx} : ∀ (n : Nat) {as : List AV} {vs : List Value}, VRelL C as vs → VRelL C (as.take n) (vs.take n) ∧ VRelL C (as.drop n) (vs.drop n)
 | 0, as, vs, h => ⟨rfl, h⟩
 | n + 1, [], vs, h => by simp only [VRelL] at h; subst h; exact ⟨rfl, rfl⟩
 | n + 1, a :: as, vs, h => by
  obtain ⟨v, r, rfl, h1, h2⟩ := h
  obtain ⟨h3, h4⟩ := VRelL.cut n h2
  exact ⟨⟨v, _, rfl, h1, h3⟩, h4⟩
theorem dataI_ok {f np : Nat} {ts : Sig} {g : Intr} (hI : IntrOne P G f g) : IntrOne P G f (dataI f np ts g) := fun R args bs k r hr => by
 unfold dataI at hr
 split at hr
 ·cases hr
 split at hr
 ·cases hr
 rename_i x m ht
 obtain ⟨o, ho, hSA⟩ := hI R _ _ k r hr
 refine ⟨o, ho, fun D vals hG hm hs hv => ?_⟩
 rw [← hm] at ht
 obtain ⟨v1, v2⟩ := hv.cut np
 obtain ⟨C1, s1, s2, s3, s4, s5, s6, s7, s8⟩ := share_ok hs m
 have hv1 := takeL_rel hs ht v2 s4 s8 s7
 rw [share_eq hm m, ← shareIf_eq] at s3
 have hv2 := (v1.mono s2).append hv1
 rw [List.take_append_drop] at hv2
 have hA := hSA C1 vals (s2.glEq.trans hG) s3 s1 hv2
 rw [s4] at hA
 refine Answers.mono hA fun e w' hR => ?_
 cases e with
 | returned u =>
  obtain ⟨v, D1, e2, e3, e4, e5, e6, e7, e8, e9⟩ := hR
  exact ⟨v, D1, e2, e3, e4, e5, s2.trans e6, e7, e8, e9⟩
 | panicked ch =>
  obtain ⟨v, e2, e3⟩ := hR
  exact ⟨v, e2, e3.after s2⟩
 | outgrown => exact hR
theorem shiftP_nt {f : Nat} {g : Intr} (hg : INt g) : INt (shiftP f g) := fun R args bs k r hr => by
 unfold shiftP at hr ⊢
 split at hr
 ·obtain ⟨o, h1, h2⟩ := hg _ _ _ _ _ hr
  obtain ⟨out, l⟩ := o
  cases out with
  | panic v => exact ⟨_, h1, fun R' k' r' hk => h2 _ _ _ hk⟩
  | ret v =>
   simp only at h1
   split at h1
   ·rename_i v' l' hv hl
    split at h1
    ·rename_i hck
     refine ⟨_, h1, fun R' k' r' hk => h2 _ _ _ ?_⟩
     simp only [hv, hl, hck]
     exact hk
    ·cases h1
   ·cases h1
 ·cases hr
theorem subI_nt {f : Nat} {g : Intr} (hg : INt g) : INt (subI f g) := fun R args bs k r hr => by
 have hK : KNt (fun R' f' a b k' => g R' a b k') := fun R' f' a b k' r' h => hg R' a b k' r' h
 unfold subI at hr ⊢
 obtain ⟨out, wr, rd, h1, h2⟩ := doCall_nt hK hr
 cases out with
 | panic v => exact ⟨_, h1, fun R' k' r' hk => h2 _ _ _ hk⟩
 | ret v =>
  simp only at h1
  split at h1
  ·rename_i l hl hb
   split at h1
   ·rename_i hck
    refine ⟨_, h1, fun R' k' r' hk => h2 _ _ _ ?_⟩
    simp only [hl, hb, hck]
    exact hk
   ·cases h1
  ·cases h1
theorem dataI_nt {f np : Nat} {ts : Sig} {g : Intr} (hg : INt g) : INt (dataI f np ts g) := fun R args bs k r hr => by
 unfold dataI at hr ⊢
 split at hr
 ·cases hr
 split at hr
 ·cases hr
 ·exact hg _ _ _ _ _ hr
end Go.Sx
namespace Go.Sx
open Go
def chain : List Ty → Ty
 | [] => .unit
 | t :: r => .pair t (chain r)
def NoT : Nat → Nat → Prop := fun _ _ => False
def tyB : Ty → Nat
 | .unit => 0
 | .bool => 1
 | .int k => k.bits / 8
 | .flt _ => 4
 | .str => 16
 | .pair a b => tyB a + tyB b
 | .slice _ => 24
 | .ptr _ => 8
def Fine : (t : Ty) → t.den → Prop
 | .int k, n => (Lit.int k n).wf = true
 | .str, s => List.length (show List UInt8 from s) ≤ reachBytes
 | .pair a b, x => Fine a x.1 ∧ Fine b x.2
 | .slice e, L => List.length (show List e.den from L) * tyB e ≤ reachBytes ∧ ∀ x ∈ (show List e.den from L), Fine e x
 | .ptr e, some x => Fine e x
 | _, _ => True
def LeafRep (w : World) : List Ty → List Value → Prop
 | [], vs => vs = []
 | t :: ts, vs => ∃ v r, vs = v :: r ∧ (∃ x, Rep w NoT t x [v] ∧ Fine t x) ∧ LeafRep w ts r
theorem LeafRep.chain {w : World} : ∀ {l : List Ty} {vs : List Value}, LeafRep w l vs → ∃ x, Rep w NoT (Sx.chain l) x vs ∧ Fine (Sx.chain l) x
 | [], _, h => ⟨(), h, trivial⟩
 | t :: l, _, h => by
  obtain ⟨v, r, rfl, ⟨x, hx, fx⟩, h2⟩ := h
  obtain ⟨y, hy, fy⟩ := LeafRep.chain h2
  exact ⟨(x, y), ⟨[v], r, rfl, hx, hy⟩, fx, fy⟩
theorem LeafRep.append {w : World} : ∀ {l l' : List Ty} {vs vs' : List Value}, LeafRep w l vs → LeafRep w l' vs' → LeafRep w (l ++ l') (vs ++ vs')
 | [], _, _, _, h, h' => by simp only [LeafRep] at h; subst h; exact h'
 | t :: l, _, _, _, h, h' => by
  obtain ⟨v, r, rfl, hx, h2⟩ := h
  exact ⟨v, _, rfl, hx, h2.append h'⟩
variable {H : Type} {enc : TypeId × Value → H} {P : Program} {w : World} {sp : Nat → Bool} {held : Bool}
end Go.Sx
namespace Go.Sx
open Go
abbrev R0 : Type := Out × List Blk
theorem wrap64 {n : Int} (h0 : -9223372036854775808 ≤ n) (h1 : n ≤ 9223372036854775807) : IntKind.wrap .i64 n = n := by
 unfold IntKind.wrap
 have hb : IntKind.bits .i64 = 64 := rfl
 have hs : IntKind.signed .i64 = true := rfl
 simp only [hb, hs, Bool.true_and]
 split
 ·rename_i h; simp only [decide_eq_true_eq] at h; omega
 ·rename_i h; simp only [decide_eq_true_eq] at h; omega
theorem inI_iff {i : Int} {n : Nat} : inI i n = true ↔ 0 ≤ i ∧ i < n := by simp only [inI, Bool.and_eq_true, decide_eq_true_eq]
theorem inI_of {i : Int} {n : Nat} (h0 : 0 ≤ i) (h1 : i < n) : inI i n = true := inI_iff.2 ⟨h0, h1⟩
theorem inB_of {l h : Int} {n : Nat} (h0 : 0 ≤ l) (h1 : l ≤ h) (h2 : h ≤ n) : inB l h n = true := by
 simp only [inB, Bool.and_eq_true, decide_eq_true_eq]
 omega
theorem bif_lt {α : Type} {a b : Nat} {x y : α} (h : a < b) : (bif decide (a < b) then x else y) = x := by rw [decide_eq_true h]; rfl
theorem bif_t {α : Type} {c : Bool} {x y : α} (h : c = true) : (bif c then x else y) = x := by rw [h]; rfl
theorem bif_f {α : Type} {c : Bool} {x y : α} (h : c = false) : (bif c then x else y) = y := by rw [h]; rfl
theorem gen0_nil : Gen0 [] := fun _ _ _ _ _ h => by cases h
theorem castL_ty {t t' : Ty} {x : List t.den} {y : List t'.den} (h : castL t t' x = some y) : ∃ e : t = t', e ▸ x = y := by
 unfold castL at h
 split at h
 ·rename_i e
  exact ⟨e, Option.some.inj h⟩
 ·cases h
theorem getD_app (pre : List UInt8) (c : UInt8) (r : List UInt8) : List.getD (pre ++ c :: r) pre.length 0 = c := by simp [List.getD]
end Go.Sx
namespace Go.Sx
open Go
variable {G : Nat → Obj → Prop} {P : Program} {E : Env}
def detA : AV → Option Value
 | .bool b => some (.bool b)
 | .int k n => some (.int k n)
 | .flt k n => some (.float k n)
 | .str s => some (.string ⟨⟨s⟩⟩)
 | .nilp => some (.pointer none)
 | .nils => some (.slice none 0 0)
 | .nili => some .nilIface
 | _ => none
theorem detA_rel {C : Ctx} {a : AV} {u v : Value} (h : detA a = some u) (hv : VRel C a v) : v = u := by
 cases a <;> simp only [detA, Option.some.injEq, reduceCtorEq] at h
 all_goals
  subst h
  exact hv
theorem detA_of {C : Ctx} {a : AV} {u : Value} (h : detA a = some u) : VRel C a u := by
 cases a <;> simp only [detA, Option.some.injEq, reduceCtorEq] at h
 all_goals
  subst h
  rfl
theorem detL_rel {C : Ctx} : ∀ {as : List AV} {us vs : List Value}, mapO detA as = some us → VRelL C as vs → vs = us
 | [], us, vs, h, hv => by
  simp only [mapO, Option.some.injEq] at h
  simp only [VRelL] at hv
  rw [hv, ← h]
 | a :: as, us, vs, h, hv => by
  simp only [mapO] at h
  split at h
  ·rename_i b r h1 h2
   simp only [Option.some.injEq] at h
   subst h
   obtain ⟨v, r', rfl, h3, h4⟩ := hv
   rw [detA_rel h1 h3, detL_rel h2 h4]
  ·cases h
theorem detL_of {C : Ctx} : ∀ {as : List AV} {us : List Value}, mapO detA as = some us → VRelL C as us
 | [], us, h => by
  simp only [mapO, Option.some.injEq] at h
  rw [← h]
  rfl
 | a :: as, us, h => by
  simp only [mapO] at h
  split at h
  ·rename_i b r h1 h2
   simp only [Option.some.injEq] at h
   subst h
   exact ⟨b, r, rfl, detA_of h1, detL_of h2⟩
  ·cases h
theorem sa_det {f : Nat} {fi : FI} (hf : FIOK P f fi) {as : List AV} {us : List Value} {y : AV} {u : Value} (ha : mapO detA as = some us) (hy : ∀ D, VRel D y u) (hp : plainV y = true)
  (hc : ∀ D : Ctx, D.gl = G → SRel D → Calls P f us.toArray D.w fun e w' => e = .returned u ∧ RowKit.Below D.w.heap.size D.w w') : SA P G f as [] (.ret y, []) := fun D vals hG hm hs hv => by
 rw [detL_rel ha hv]
 exact ans_pure hf hm hs rfl hy hp (hc D hG hs)
theorem below_eq {n : Nat} {w w' : World} (h : w' = w) (hn : n = w.heap.size) : RowKit.Below n w w' := by
 subst h hn
 exact RowKit.Below.refl _ _
theorem pieces_at {R : Type} {E : Env} {K : Callee} {fi : FI} {cs : List Cut} {np : Nat} {k : (Out × List Blk) → Rs R} {n j : Nat} {st : St} {c : Cut} (h : nth cs j = some c) :
  pieces E K fi cs np k (n + 1) j st = resume E K (cutsOf np cs 0) (pieces E K fi cs np k n) c.path fi.code 1 st (finK E np fi.results k) := by
 show (match nth cs j with
  | some c => resume E K (cutsOf np cs 0) (pieces E K fi cs np k n) c.path fi.code 1 st (finK E np fi.results k)
  | none => .err 17) = _
 rw [h]
end Go.Sx
