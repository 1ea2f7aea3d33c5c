/-
  One operation of any kind; operations in the order of the text.
-/
import Derived.Test.YtemcdjdglcceiaaSxL
namespace Go.Proofs.Ytemcdjdglcceiaa
namespace Sx
open Go

section
variable {U : Uni} {P : Program} {τ : Tab}

def envGet : List (Nat × AV) → Nat → AV
  | [], _ => .und
  | (i, v) :: e, t => bif Nat.beq i t then v else envGet e t
def evO (env : List (Nat × AV)) : Operand → AV
  | .tmp t => envGet env t
  | .const v => constAV v
  | .global g => .raw (.pointer (some ⟨g, 0, none⟩))
  | .func f => .fn f [] []
def envPut (env : List (Nat × AV)) (dst : Option Nat) (v : AV) : List (Nat × AV) := match dst with | some d => (d, v) :: env | none => env

def EnvOk (r : Nm) (env : List (Nat × AV)) (a : Act) : Prop := ∀ t, rel r (envGet env t) (a.tmps.getD t undef)

theorem evO_ok {r : Nm} {env : List (Nat × AV)} {a : Act} (h : EnvOk r env a) (x : Operand) : rel r (evO env x) (a.eval x) := by
  cases x with
  | tmp t => exact h t
  | const v => exact rel_constAV r v
  | global g => rfl
  | func f => exact ⟨[], [], relL_nil, relL_nil, rfl⟩
theorem EnvOk.mono {r s : Nm} (k : r.le s) {env : List (Nat × AV)} {a : Act} (h : EnvOk r env a) : EnvOk s env a := fun t => rel_mono k _ _ (h t)
theorem envGet_put {env : List (Nat × AV)} {d t : Nat} {v : AV} : envGet (envPut env (some d) v) t = if t = d then v else envGet env t := by
  show (bif Nat.beq d t then v else envGet env t) = _
  by_cases h : t = d
  · subst h; simp
  · have : Nat.beq d t = false := by cases e : Nat.beq d t with | true => exact absurd (Nat.eq_of_beq_eq_true e).symm h | false => rfl
    simp [this, h]
theorem getD_put (a : Act) (d t : Nat) (z : Value) : (a.put (some d) z).tmps.getD t undef = if t = d ∧ d < a.tmps.size then z else a.tmps.getD t undef := by
  simp only [Act.put, Array.getD_eq_getD_getElem?, Array.getElem?_setIfInBounds]
  by_cases h : d = t
  · subst h
    by_cases h2 : d < a.tmps.size <;> simp [h2]
  · have : ¬ t = d := fun e => h e.symm
    simp [h, this]
theorem EnvOk.put {r : Nm} {env : List (Nat × AV)} {a : Act} (h : EnvOk r env a) {dst : Option Nat} {v : AV} {z : Value} (hv : rel r v z) (hd : ∀ d, dst = some d → d < a.tmps.size) : EnvOk r (envPut env dst v) (a.put dst z) := by
  cases dst with
  | none => exact h
  | some d =>
    intro t
    rw [envGet_put, getD_put]
    by_cases ht : t = d
    · subst ht; simp only [true_and, if_true]; rw [if_pos (hd _ rfl)]; exact hv
    · rw [if_neg ht, if_neg (fun e => ht e.1)]; exact h t
theorem put_size (a : Act) (dst : Option Nat) (z : Value) : (a.put dst z).tmps.size = a.tmps.size := by cases dst <;> simp [Act.put]
theorem put_defers (a : Act) (dst : Option Nat) (z : Value) : (a.put dst z).defers = a.defers := by cases dst <;> rfl

def Fresh (r : Nm) (nx : Nat) : Prop := ∀ i, nx ≤ i → r i = none
def Kept (h h' : Heap U) (T : List Nat) : Prop := ∀ id B, h.get id = some B → id ∉ T → h'.get id = some B

/-- What a call does, seen from outside. -/
def CallsSx (P : Program) (f : Nat) (args : List AV) (h : Heap U) (nx : Nat) (R : AV → Heap U → Nat → List Nat → Prop) : Prop :=
  (∃ fn, P.funcs[f]? = some fn ∧ (fn.name == "runtime.NumGoroutine") = false ∧ fn.body.isNone = false) ∧
  ∀ (β : Base) (r : Nm) (vs : List Value) (w : World), relL r args vs → Sat β r h w → Fresh r nx →
    Calls P f vs.toArray w (fun e w' => ∃ v h' nx' T z r', e = .returned z ∧ R v h' nx' T ∧ r.le r' ∧ Fresh r' nx' ∧ rel r' v z ∧ Sat β r' h' w' ∧ Kept h h' T)

abbrev CallF (U : Uni) := Nat → List AV → Heap U → Nat → (AV → Heap U → Nat → List Nat → Out U) → Out U
def CallF.ok (P : Program) (M : Goal U) (C : CallF U) : Prop := ∀ f args h nx K, (C f args h nx K).holds M → CallsSx P f args h nx (fun v h' nx' T => (K v h' nx' T).holds M)

def isLz : Op → Bool
  | .move _ | .assign _ | .pick .. | .nilCheck _ | .binOp .. | .unOp .. | .convert .. | .field .. | .index .. | .extract .. | .fieldAddr .. | .indexAddr .. | .slice .. | .load .. | .makeFunc .. | .makeInterface .. | .build .. | .lookup .. => true
  | .call { callee := .builtin b, .. } => (match b with | .len | .min | .max => true | _ => false)
  | _ => false

def stepAny (τ : Tab) (κ : Kinds U) (C : CallF U) (op : Op) (env : List (Nat × AV)) (h : Heap U) (nx : Nat) (K : AV → Heap U → Nat → List Nat → Option Nat → Out U) : Out U :=
  bif isLz op then evalL τ κ op (evO env) h (fun v rd => K v h nx [] rd)
  else (match op with
    | .call { callee := .value f, args, .. } => (match evO env f with
      | .fn g fs cs => C g (fs ++ args.toList.map (evO env) ++ cs) h nx (fun v h' nx' T => K v h' nx' T none)
      | _ => .bad 200)
    | op => evalE τ κ op (evO env) h nx (fun v h' T => K v h' (nx + 1) T none))

/-- What an operation of any kind does. -/
def OpWp (P : Program) (o : Oper) (ev : Operand → AV) (h : Heap U) (nx : Nat) (R : AV → Heap U → Nat → List Nat → Prop) : Prop :=
  ∀ (β : Base) (r : Nm) (a : Act) (w : World), (∀ x ∈ o.op.operands.toList, rel r (ev x) (a.eval x)) → Sat β r h w → Fresh r nx →
    ∀ (next : Act → World → Prop) (Q : Exit → Act → World → Prop),
      (∀ v h' nx' T z w' r', R v h' nx' T → r.le r' → Fresh r' nx' → rel r' v z → Sat β r' h' w' → Kept h h' T → next (a.put o.dst z) w') → o.wp P a w next Q

theorem Kept.refl (h : Heap U) (T : List Nat) : Kept h h T := fun _ _ e _ => e

theorem stepAny_sound (hτ : τ.met P) {κ : Kinds U} (hκ : κ.met τ) {M : Goal U} {C : CallF U} (hC : C.ok P M) {o : Oper} {env : List (Nat × AV)} {h : Heap U} {nx : Nat} {K : AV → Heap U → Nat → List Nat → Option Nat → Out U}
    (H : (stepAny τ κ C o.op env h nx K).holds M) : OpWp P o (evO env) h nx (fun v h' nx' T => ∃ rd, (K v h' nx' T rd).holds M) := by
  obtain ⟨dst, op, type, pos, after, guard⟩ := o
  unfold stepAny at H
  rw [holds_bif] at H
  split at H
  · obtain ⟨v, rd, hK, hlz, hrd⟩ := evalL_sound (dst := dst) (type := type) (pos := pos) (after := after) (guard := guard) hτ hκ H
    intro β r a w ho hs hf next Q hn
    obtain ⟨z, hz, hr⟩ := hlz β r a w ho (fun id B e => by
      unfold rdOf at e
      split at e
      · split at e
        · rename_i hB; cases e; exact hs.at hB
        · cases e
      · cases e)
    unfold Oper.wp; rw [hz, Oper.upon_value]
    exact hn v h nx [] z w r ⟨rd, hK⟩ (Nm.le.refl r) hf hr hs (Kept.refl h [])
  · rename_i hl
    have eag : (evalE τ κ op (evO env) h nx (fun v h' T => K v h' (nx + 1) T none)).holds M → OpWp P ⟨dst, op, type, pos, after, guard⟩ (evO env) h nx (fun v h' nx' T => ∃ rd, (K v h' nx' T rd).holds M) := by
      intro H β r a w ho hs hf next Q hn
      obtain ⟨v, h', T, z, w', r', hK, hrun, g1, g2, g3, g4, g5⟩ := evalE_sound hτ hκ H β r a w ho hs (hf nx (Nat.le_refl _))
      have fin : next (a.put dst z) w' := hn v h' (nx + 1) T z w' r' ⟨none, hK⟩ g1 (fun i hi => g2 i (by omega) (hf i (by omega))) g3 g4 g5
      rcases hrun with hrun | ⟨hrun, rfl⟩
      · unfold Oper.wp; rw [hrun, Oper.upon_value]; exact fin
      · unfold Oper.wp; rw [hrun, Oper.upon_skip]; exact fin
    split at H
    · rename_i f args at' heq
      simp only at heq; subst heq
      split at H
      · rename_i g fs cs hfv
        obtain ⟨⟨fn, hfn, hnm, hbd⟩, hcalls⟩ := hC _ _ _ _ _ H
        intro β r a w ho hs hf next Q hn
        have hfx := ho f (by simp [Op.operands, Call.operands]); rw [hfv] at hfx
        obtain ⟨us, vs, hus, hvs, hfx⟩ := hfx
        have hargs : relL r (args.toList.map (evO env)) (args.toList.map a.eval) := by
          have : ∀ l : List Operand, (∀ x ∈ l, rel r (evO env x) (a.eval x)) → relL r (l.map (evO env)) (l.map a.eval) := by
            intro l
            induction l with
            | nil => intro _; exact relL_nil
            | cons x l ih => intro hh; exact relL_cons.2 ⟨hh x (by simp), ih fun y hy => hh y (by simp [hy])⟩
          exact this _ (fun x hx => ho x (by simp [Op.operands, Call.operands] at hx ⊢; simp [hx]))
        have hc := hcalls β r _ w (relL_append (relL_append hus hargs) hvs) hs hf
        have hrun : (execOp a.eval ⟨dst, .call ⟨.value f, args, at'⟩, type, pos, after, guard⟩).run P w = .ok (.enter g (us ++ args.toList.map a.eval ++ vs).toArray) w := by
          have e1 : (us.toArray ++ args.map a.eval ++ vs.toArray) = (us ++ args.toList.map a.eval ++ vs).toArray := by
            apply Array.ext'; simp
          have hcf : ∀ X, (callFunc g X).run P w = .ok (.enter g X) w := by
            intro X
            unfold callFunc
            simp only [Sem.run_bind, run_program, Result.andThen_ok, hfn, hnm, hbd, Bool.false_eq_true, if_false, Sem.run_pure]
          show (do let d ← resolve a.eval _ type; invoke d.target d.args : Sem Next).run P w = _
          simp only [resolve, hfx, Deferred.ofValue, Sem.run_bind, Sem.run_pure, Result.andThen_ok, invoke]
          rw [e1]; exact hcf _
        unfold Oper.wp; rw [hrun, Oper.upon_enter]
        refine hc.mono fun e w' hh => ?_
        obtain ⟨v, h', nx', T, z, r', rfl, hK, g1, g2, g3, g4, g5⟩ := hh
        exact hn v h' nx' T z w' r' ⟨none, hK⟩ g1 g2 g3 g4 g5
      · exact H.elim
    · exact eag H

/-! ## guards -/
inductive Want where
  | yes | no | ask (d : Nat) (b : Bool) | bad

def want? (ops : Array Oper) (env : List (Nat × AV)) (o : Oper) : Want :=
  match o.guard with
  | none => .yes
  | some (j, wt) => (match (ops[j]?).bind (·.dst) with
    | none => .no
    | some d => (match envGet env d with
      | .tt => bif wt then .yes else .no
      | .ff => bif wt then .no else .yes
      | .bool b => .ask d b
      | .raw (.tuple _) => .no
      | _ => .bad))

theorem want?_sound {ops : Array Oper} {env : List (Nat × AV)} {o : Oper} {r : Nm} {a : Act} (he : ∀ j wt d, o.guard = some (j, wt) → (ops[j]?).bind (·.dst) = some d → rel r (envGet env d) (a.tmps.getD d undef) ∧ d < a.tmps.size) :
    (want? ops env o = .yes → Region.wanted o (yielded ops a.tmps) = true) ∧ (want? ops env o = .no → Region.wanted o (yielded ops a.tmps) = false) := by
  unfold want? Region.wanted
  cases hg : o.guard with
  | none => exact ⟨fun _ => rfl, fun h => by cases h⟩
  | some q =>
    obtain ⟨j, wt⟩ := q
    simp only
    cases hd : (ops[j]?).bind (·.dst) with
    | none => exact ⟨fun h => (by cases h), fun _ => (by simp [yielded, hd])⟩
    | some d =>
      obtain ⟨h1, h2⟩ := he j wt d hg hd
      have hget : a.tmps[d]? = some (a.tmps.getD d undef) := by simp [Array.getD, h2]
      have hy : yielded ops a.tmps j = (match a.tmps.getD d undef with | .bool b => some b | _ => none) := by
        unfold yielded
        rw [hd]; simp only [Option.bind_some]; rw [hget]
        cases a.tmps.getD d undef <;> rfl
      simp only
      split
      · rename_i hx; rw [hx] at h1; simp only [rel] at h1; rw [hy, h1]; cases wt <;> simp
      · rename_i hx; rw [hx] at h1; simp only [rel] at h1; rw [hy, h1]; cases wt <;> simp
      · exact ⟨fun h => (by cases h), fun h => (by cases h)⟩
      · rename_i hx; rw [hx] at h1; simp only [rel] at h1; rw [hy, h1]; exact ⟨fun h => (by cases h), fun _ => (by simp)⟩
      · exact ⟨fun h => (by cases h), fun h => (by cases h)⟩

end
end Sx
end Go.Proofs.Ytemcdjdglcceiaa
