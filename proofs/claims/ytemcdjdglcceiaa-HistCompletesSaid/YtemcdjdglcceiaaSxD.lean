/-
  Operations that only read (what they tell, out of what is known), and that the model tells the same.
-/
import Derived.Test.YtemcdjdglcceiaaSxC
namespace Go.Proofs.Ytemcdjdglcceiaa
namespace Sx
open Go

section
variable {U : Uni} {P : Program} {τ : Tab}

theorem run_isAgg {t : Nat} {R : TyRow} (h : R.met P t) (w : World) : (isAgg t).run P w = .ok R.kind.agg w := by
  have k := h.kind
  unfold isAgg
  cases hk : R.kind <;> rw [hk] at k <;> simp only [TK.met] at k <;>
    first
      | (simp [run_underlying k, TK.agg]; done)
      | (obtain ⟨fs, k, _⟩ := k; simp [run_underlying k, TK.agg]; done)
      | (obtain ⟨ms, k⟩ := k; simp [run_underlying k, TK.agg]; done)
      | (obtain ⟨a, b, c, k⟩ := k; simp [run_underlying k, TK.agg]; done)
      | (obtain ⟨d, k, hd⟩ := k; simp only [Sem.run_bind, run_underlying k, Result.andThen_ok]; cases d <;> simp_all [TK.agg])
theorem run_sizeOf {t : Nat} {R : TyRow} (h : R.met P t) (w : World) : (sizeOf t).run P w = .ok R.size w := by
  obtain ⟨i, z, hi, hs, _⟩ := h.info
  simp [sizeOf, typeInfo, hi, hs]

def partAV (τ : Tab) (t : Nat) (cs : List AV) (off : Nat) : Option AV :=
  match τ t with
  | some R => bif R.kind.agg then (bif Nat.ble (off + R.size) cs.length then some (.agg ((cs.drop off).take R.size)) else none) else cs[off]?
  | none => none
theorem partAV_sound (hτ : τ.met P) {t : Nat} {cs : List AV} {off : Nat} {x : AV} (h : partAV τ t cs off = some x) {r : Nm} {vs : List Value} (hr : relL r cs vs) (w : World) :
    ∃ v, (part t vs.toArray off).run P w = .ok v w ∧ rel r x v := by
  unfold partAV at h
  cases hR : τ t with
  | none => rw [hR] at h; simp at h
  | some R =>
    rw [hR] at h; simp only at h
    have hm := hτ t R hR
    unfold part
    simp only [Sem.run_bind, run_isAgg hm, Result.andThen_ok]
    cases ha : R.kind.agg with
    | true =>
      rw [ha] at h; simp only [cond_true] at h
      cases hb : Nat.ble (off + R.size) cs.length with
      | false => rw [hb] at h; simp at h
      | true =>
        rw [hb] at h; simp at h; subst h
        refine ⟨_, by simp [run_sizeOf hm]; rfl, ⟨_, relL_take (relL_drop hr off) R.size, ?_⟩⟩
        simp [List.take_drop]
    | false =>
      rw [ha] at h; simp only [cond_false] at h
      obtain ⟨u, hu, hru⟩ := relL_get hr h
      exact ⟨u, by simp [hu], hru⟩

/-! ## equality -/
def eqOne (x y : AV) : Option (Bool × Bool) :=
  match x.num, y.num with
  | some (k, a, la), some (k', b, lb) => bif decide (k = k') then some (a == b, la && lb) else none
  | _, _ => match x.bl, y.bl with
    | some (a, la), some (b, lb) => some (a == b, la && lb)
    | _, _ => none

def cellsAV : AV → List AV
  | .agg cs => cs
  | x => [x]

def eqAV (τ : Tab) : Nat → Nat → AV → AV → Option (Bool × Bool)
  | 0, _, _, _ => none
  | n + 1, t, x, y =>
    match τ t with
    | none => none
    | some R =>
      match R.kind with
      | .int _ => match x.num, y.num with
        | some (k, a, la), some (k', b, lb) => bif decide (k = k') then some (a == b, la && lb) else none
        | _, _ => none
      | .bool => match x.bl, y.bl with
        | some (a, la), some (b, lb) => some (a == b, la && lb)
        | _, _ => none
      | .struct fs => bif R.cmp then (match x, y with
        | .agg xs, .agg ys => fs.foldr (fun f acc => match partAV τ f.2 xs f.1, partAV τ f.2 ys f.1, acc with
            | some a, some b, some (c, lc) => (match eqAV τ n f.2 a b with | some (d, ld) => some (d && c, ld && lc) | none => none)
            | _, _, _ => none) (some (true, true))
        | _, _ => none) else none
      | _ => none

theorem eqAV_sound (hτ : τ.met P) : ∀ (n t : Nat) (x y : AV) (b l : Bool), eqAV τ n t x y = some (b, l) → ∀ (r : Nm) (u v : Value), rel r x u → rel r y v → ∀ (d : Nat) (w : World), n ≤ d →
    (Op.equalIn d t u v).run P w = .ok b w := by
  intro n
  induction n with
  | zero => intro t x y b l h; simp [eqAV] at h
  | succ n ih =>
    intro t x y b l h r u v hu hv d w hd
    obtain ⟨d, rfl⟩ : ∃ e, d = e + 1 := ⟨d - 1, by omega⟩
    simp only [eqAV] at h
    cases hR : τ t with
    | none => rw [hR] at h; simp at h
    | some R =>
      rw [hR] at h; simp only at h
      have hm := hτ t R hR
      have hk := hm.kind
      cases hK : R.kind <;> rw [hK] at h hk <;> simp only [TK.met] at hk <;> simp only at h <;> try (simp at h; done)
      · -- int
        split at h
        · rename_i k a la k' b' lb hx hy
          have e1 := rel_num hx hu; have e2 := rel_num hy hv
          subst e1; subst e2
          cases hkk : decide (k = k') with
          | false => rw [hkk] at h; simp at h
          | true =>
            simp only [decide_eq_true_eq] at hkk; subst hkk
            simp at h
            rw [run_equalIn_int w d t k _ a b' hk, ← h.1]
        · simp at h
      · split at h
        · rename_i a la b' lb hx hy
          have e1 := rel_bl hx hu; have e2 := rel_bl hy hv
          subst e1; subst e2
          simp at h
          rw [run_equalIn_bool w d t a b' hk, ← h.1]
        · simp at h
      · rename_i fs
        cases hc : R.cmp with
        | false => rw [hc] at h; simp at h
        | true =>
          rw [hc] at h; simp only [cond_true] at h
          obtain ⟨hs1, _, hs3⟩ := hm.cmp hc
          obtain ⟨fields, hf, hmap⟩ := hk
          split at h
          · rename_i xs ys
            obtain ⟨us, hus, rfl⟩ := hu
            obtain ⟨vs, hvs, rfl⟩ := hv
            have hfo : P.fieldsOf t = fields := by simp [Program.fieldsOf, hf]
            rw [run_equalIn_struct w d t _ _ (by rw [hfo]; exact hf) hs1, hfo]
            have hn := hs3 fields hf
            rw [← hmap] at h
            clear hmap hfo hf hs3
            generalize fields.toList = fl at h hn
            induction fl generalizing b l with
            | nil => simp at h; obtain ⟨rfl, _⟩ := h; rfl
            | cons f fl ihl =>
              simp only [List.map_cons, List.foldr_cons] at h
              split at h
              · rename_i a1 b1 c lc ha hb hacc
                split at h
                · rename_i d1 ld he
                  simp only [Option.some.injEq, Prod.mk.injEq] at h
                  obtain ⟨rfl, _⟩ := h
                  obtain ⟨p1, hp1, hq1⟩ := partAV_sound hτ ha hus w
                  obtain ⟨p2, hp2, hq2⟩ := partAV_sound hτ hb hvs w
                  have hrun := ih _ _ _ _ _ he r p1 p2 hq1 hq2 d w (by omega)
                  simp only [Op.eqFields, if_pos (hn f (by simp)), Sem.run_bind, hp1, hp2, hrun, Result.andThen_ok]
                  cases d1
                  · simp
                  · simp only [Bool.not_true, Bool.false_eq_true, if_false, Bool.true_and]
                    exact ihl _ _ hacc (fun g hg => hn g (by simp [hg]))
                · simp at h
              · simp at h
          · simp at h

theorem eqAV_struct {n T : Nat} {R : TyRow} {fs : List (Nat × Nat)} (hR : τ T = some R) (hK : R.kind = .struct fs) {x y : AV} {z : Bool × Bool} (h : eqAV τ (n + 1) T x y = some z) :
    R.cmp = true ∧ ∃ xs ys, x = .agg xs ∧ y = .agg ys := by
  simp only [eqAV, hR, hK] at h
  cases hcm : R.cmp with
  | false => rw [hcm] at h; simp at h
  | true =>
    rw [hcm] at h; simp only [cond_true] at h
    split at h
    · exact ⟨rfl, _, _, rfl, rfl⟩
    · simp at h
theorem eqAV_bool {n T : Nat} {R : TyRow} (hR : τ T = some R) (hK : R.kind = .bool) {x y : AV} {z : Bool × Bool} (h : eqAV τ (n + 1) T x y = some z) :
    ∃ c lc d ld, x.bl = some (c, lc) ∧ y.bl = some (d, ld) := by
  simp only [eqAV, hR, hK] at h
  split at h
  · rename_i a la b lb hx hy; exact ⟨_, _, _, _, hx, hy⟩
  · simp at h

/-- Is it nil, of pointers, slices, maps, functions, interfaces? -/
def AV.isNil : AV → Option Bool
  | .nilP => some true
  | .ptr .. => some false
  | .ptrR .. => some false
  | .nilM => some true
  | .mp _ => some false
  | .nilI => some true
  | .ifc .. => some false
  | .nilF => some true
  | .fn .. => some false
  | _ => none

def AV.isNilP : AV → Bool
  | .nilP => true
  | _ => false
def AV.isNilM : AV → Bool
  | .nilM => true
  | _ => false
def AV.isNilI : AV → Bool
  | .nilI => true
  | _ => false

/-- Equality of what is no number. -/
def evalEql (τ : Tab) (T : Nat) (x y : AV) : Option (Bool × Bool) :=
  match τ T with
  | none => none
  | some R =>
    match R.kind with
    | .bool => eqAV τ 12 T x y
    | .struct _ => eqAV τ 12 T x y
    | .ptr _ => (match x, y with
      | .nilP, .nilP => some (true, true)
      | .nilP, .ptr .. => some (false, true)
      | .nilP, .ptrR .. => some (false, true)
      | .ptr .., .nilP => some (false, true)
      | .ptrR .., .nilP => some (false, true)
      | _, _ => none)
    | .map _ _ => (match x, y with
      | .nilM, .nilM => some (true, true)
      | .nilM, .mp _ => some (false, true)
      | .mp _, .nilM => some (false, true)
      | _, _ => none)
    | .iface => (match x, y with
      | .ifc .., .nilI => some (false, true)
      | .nilI, .ifc .. => some (false, true)
      | .nilI, .nilI => some (true, true)
      | _, _ => none)
    | .func => (match x, y with
      | .fn .., .nilF => some (false, true)
      | .nilF, .fn .. => some (false, true)
      | .nilF, .nilF => some (true, true)
      | _, _ => none)
    | _ => none

def Operand.isConst : Operand → Bool
  | .const _ => true
  | _ => false

theorem run_both {T : Nat} {u v : Value} {b : Bool} {w : World} {p q : Operand} (g1 : (eqGuard .eql T p q u v).run P w = .ok () w) (g2 : (eqGuard .neq T p q u v).run P w = .ok () w)
    (b1 : binOp .eql T u v = (do pure (.bool (← Op.equal T u v)))) (b2 : binOp .neq T u v = (do pure (.bool (!(← Op.equal T u v)))))
    (he : (Op.equalIn (9999 + 1) T u v).run P w = .ok b w) :
    (do eqGuard .eql T p q u v; binOp .eql T u v : Sem Value).run P w = .ok (.bool b) w ∧ (do eqGuard .neq T p q u v; binOp .neq T u v : Sem Value).run P w = .ok (.bool (!b)) w := by
  have e : (Op.equal T u v).run P w = .ok b w := he
  constructor
  · rw [b1]; simp only [Sem.run_bind, g1, Result.andThen_ok, e, Sem.run_pure]
  · rw [b2]; simp only [Sem.run_bind, g2, Result.andThen_ok, e, Sem.run_pure]

set_option maxHeartbeats 1000000 in
theorem evalEql_sound (hτ : τ.met P) {T : Nat} {x y : AV} {b l : Bool} (h : evalEql τ T x y = some (b, l)) {r : Nm} {u v : Value} (hu : rel r x u) (hv : rel r y v) (w : World) (p q : Operand)
    (hc : Operand.isConst p = true ∨ Operand.isConst q = true ∨ x.isNilI = false) :
    (do eqGuard .eql T p q u v; binOp .eql T u v : Sem Value).run P w = .ok (.bool b) w ∧ (do eqGuard .neq T p q u v; binOp .neq T u v : Sem Value).run P w = .ok (.bool (!b)) w := by
  unfold evalEql at h
  cases hR : τ T with
  | none => rw [hR] at h; simp at h
  | some R =>
    rw [hR] at h; simp only at h
    have hm := hτ T R hR
    have hk := hm.kind
    cases hK : R.kind <;> rw [hK] at h hk <;> simp only [TK.met] at hk <;> simp only at h <;> try (simp at h; done)
    · -- bool
      have he := eqAV_sound hτ 12 T x y b l h r u v hu hv (9999 + 1) w (by omega)
      obtain ⟨c, lc, d, ld, hx, hy⟩ := eqAV_bool (n := 11) hR hK h
      have e1 := rel_bl hx hu; have e2 := rel_bl hy hv
      subst e1; subst e2
      exact run_both rfl rfl rfl rfl he
    · -- ptr
      have key : ∀ (c d : Option Addr) (b : Bool), (c = none ∧ b = d.isNone ∨ d = none ∧ b = c.isNone) → (do eqGuard .eql T p q (.pointer c) (.pointer d); binOp .eql T (.pointer c) (.pointer d) : Sem Value).run P w = .ok (.bool b) w ∧ (do eqGuard .neq T p q (.pointer c) (.pointer d); binOp .neq T (.pointer c) (.pointer d) : Sem Value).run P w = .ok (.bool (!b)) w := by
        intro c d b hh
        refine run_both rfl rfl (by cases c <;> cases d <;> rfl) (by cases c <;> cases d <;> rfl) ?_
        generalize 9999 = n
        rcases hh with ⟨rfl, rfl⟩ | ⟨rfl, rfl⟩
        · cases d <;> simp [Op.equalIn, run_underlying hk]
        · cases c <;> simp [Op.equalIn, run_underlying hk]
      split at h <;> simp at h <;> obtain ⟨rfl, _⟩ := h <;> simp only [rel] at hu hv
      · subst hu; subst hv; exact key _ _ _ (.inl ⟨rfl, rfl⟩)
      · obtain ⟨a, _, rfl⟩ := hv; subst hu; exact key _ _ _ (.inl ⟨rfl, rfl⟩)
      · obtain ⟨a, _, rfl⟩ := hv; subst hu; exact key _ _ _ (.inl ⟨rfl, rfl⟩)
      · obtain ⟨a, _, rfl⟩ := hu; subst hv; exact key _ _ _ (.inr ⟨rfl, rfl⟩)
      · obtain ⟨a, _, rfl⟩ := hu; subst hv; exact key _ _ _ (.inr ⟨rfl, rfl⟩)
    · -- struct
      have he := eqAV_sound hτ 12 T x y b l h r u v hu hv (9999 + 1) w (by omega)
      obtain ⟨hcm, xs, ys, rfl, rfl⟩ := eqAV_struct (n := 11) hR hK h
      obtain ⟨c, _, rfl⟩ := hu
      obtain ⟨d, _, rfl⟩ := hv
      obtain ⟨_, hg, _⟩ := hm.cmp hcm
      exact run_both (run_eqGuard_agg w _ T p q _ _ hg) (run_eqGuard_agg w _ T p q _ _ hg) rfl rfl he
    · -- map
      have key : ∀ (c d : Option Nat) (b : Bool), (c = none ∧ b = d.isNone ∨ d = none ∧ b = c.isNone) → (do eqGuard .eql T p q (.map c) (.map d); binOp .eql T (.map c) (.map d) : Sem Value).run P w = .ok (.bool b) w ∧ (do eqGuard .neq T p q (.map c) (.map d); binOp .neq T (.map c) (.map d) : Sem Value).run P w = .ok (.bool (!b)) w := by
        intro c d b hh
        refine run_both rfl rfl rfl rfl ?_
        generalize 9999 = n
        rcases hh with ⟨rfl, rfl⟩ | ⟨rfl, rfl⟩
        · cases d <;> simp [Op.equalIn, run_underlying hk]
        · cases c <;> simp [Op.equalIn, run_underlying hk]
      split at h <;> simp at h <;> obtain ⟨rfl, _⟩ := h <;> simp only [rel] at hu hv
      · subst hu; subst hv; exact key _ _ _ (.inl ⟨rfl, rfl⟩)
      · obtain ⟨a, _, rfl⟩ := hv; subst hu; exact key _ _ _ (.inl ⟨rfl, rfl⟩)
      · obtain ⟨a, _, rfl⟩ := hu; subst hv; exact key _ _ _ (.inr ⟨rfl, rfl⟩)
    · -- iface
      obtain ⟨ms, hk⟩ := hk
      split at h <;> simp at h <;> obtain ⟨rfl, _⟩ := h <;> simp only [rel] at hu hv
      · obtain ⟨a, _, rfl⟩ := hu; subst hv
        exact run_both rfl rfl rfl rfl ((fun n : Nat => show (Op.equalIn (n + 1) _ _ _).run P w = _ by simp [Op.equalIn, run_underlying hk]) 9999)
      · obtain ⟨a, _, rfl⟩ := hv; subst hu
        exact run_both rfl rfl rfl rfl ((fun n : Nat => show (Op.equalIn (n + 1) _ _ _).run P w = _ by simp [Op.equalIn, run_underlying hk]) 9999)
      · subst hu; subst hv
        have hg : ∀ op, (eqGuard op T p q .nilIface .nilIface).run P w = .ok () w := by
          intro op
          rcases hc with hc | hc | hc
          · cases p <;> simp [Operand.isConst] at hc
            cases op <;> rfl
          · cases q <;> simp [Operand.isConst] at hc
            cases p <;> cases op <;> rfl
          · simp [AV.isNilI] at hc
        exact run_both (hg _) (hg _) rfl rfl ((fun n : Nat => show (Op.equalIn (n + 1) _ _ _).run P w = _ by simp [Op.equalIn, run_underlying hk]) 9999)
    · obtain ⟨ms, _, _, hk⟩ := hk
      split at h <;> simp at h <;> obtain ⟨rfl, _⟩ := h <;> simp only [rel] at hu hv
      · obtain ⟨a, b, _, _, rfl⟩ := hu; subst hv
        exact run_both rfl rfl rfl rfl ((fun n : Nat => show (Op.equalIn (n + 1) _ _ _).run P w = _ by simp [Op.equalIn, run_underlying hk]) 9999)
      · obtain ⟨a, b, _, _, rfl⟩ := hv; subst hu
        exact run_both rfl rfl rfl rfl ((fun n : Nat => show (Op.equalIn (n + 1) _ _ _).run P w = _ by simp [Op.equalIn, run_underlying hk]) 9999)
      · subst hu; subst hv
        exact run_both rfl rfl rfl rfl ((fun n : Nat => show (Op.equalIn (n + 1) _ _ _).run P w = _ by simp [Op.equalIn, run_underlying hk]) 9999)

end
end Sx
end Go.Proofs.Ytemcdjdglcceiaa
