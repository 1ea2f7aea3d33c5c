/-
  The evaluator of operations that leave memory alone, whole, and its soundness.
-/
import Derived.Test.YtemcdjdglcceiaaSxE
namespace Go.Proofs.Ytemcdjdglcceiaa
namespace Sx
open Go

section
variable {U : Uni} {P : Program} {τ : Tab}

def evalUn (o : UnOp) (x : AV) : Option AV :=
  match o with
  | .not => (match x.bl with | some (b, l) => some (mkBool l (!b)) | none => none)
  | .neg => (match x.num with | some (k, n, l) => some (mkInt l k (k.wrap (0 - n))) | none => none)
  | .xor => (match x.num with | some (k, n, l) => some (mkInt l k (bitsOp .xor k (if k.signed then -1 else k.max) n)) | none => none)
  | .plus => none

theorem evalUn_sound {o : UnOp} {x v : AV} (h : evalUn o x = some v) {r : Nm} {u : Value} (hu : rel r x u) (w : World) : ∃ z, (Op.unary o u).run P w = .ok z w ∧ rel r v z := by
  cases o <;> simp only [evalUn] at h <;> (try split at h) <;> simp at h
  · rename_i k n l hx; have e := rel_num hx hu; subst e; subst h
    exact ⟨_, by simp [Op.unary, Op.intArith]; rfl, by simp [rel_mkInt]⟩
  · rename_i k n l hx; have e := rel_num hx hu; subst e; subst h
    exact ⟨_, by simp [Op.unary, Op.intBits]; rfl, by simp [rel_mkInt, bitsOp]⟩
  · rename_i b l hx; have e := rel_bl hx hu; subst e; subst h
    exact ⟨_, by simp [Op.unary]; rfl, by simp [rel_mkBool]⟩

def TyRow.isInt (R : TyRow) : Option IntKind := match R.kind with | .int k => some k | _ => none

theorem under_some {t : Nat} {R : TyRow} (h : R.met P t) : ∃ d, P.underlying t = some d := by
  have k := h.kind
  cases hk : R.kind <;> rw [hk] at k <;> simp only [TK.met] at k <;>
    first
      | exact ⟨_, k⟩
      | (obtain ⟨fs, k, _⟩ := k; exact ⟨_, k⟩)
      | (obtain ⟨ms, k⟩ := k; exact ⟨_, k⟩)
      | (obtain ⟨a, b, c, k⟩ := k; exact ⟨_, k⟩)

def evalConv (τ : Tab) (s d : Nat) (x : AV) : Option AV :=
  match τ s, τ d, x.num with
  | some _, some R, some (_, n, l) => (match R.kind with | .int k => some (mkInt l k (k.wrap n)) | _ => none)
  | _, _, _ => none
theorem evalConv_sound (hτ : τ.met P) {s d : Nat} {x v : AV} (h : evalConv τ s d x = some v) {r : Nm} {u : Value} (hu : rel r x u) (w : World) : ∃ z, (convert s d u).run P w = .ok z w ∧ rel r v z := by
  unfold evalConv at h
  split at h
  · rename_i Rs R k0 n l hs hd hx
    split at h
    · rename_i k hk
      simp only [Option.some.injEq] at h; subst h
      have e := rel_num hx hu; subst e
      obtain ⟨ds, hds⟩ := under_some (hτ s Rs hs)
      have hkd := (hτ d R hd).kind; rw [hk] at hkd; simp only [TK.met] at hkd
      refine ⟨.int k (k.wrap n), ?_, by simp [rel_mkInt]⟩
      simp only [convert, Sem.run_bind, run_underlying hds, run_underlying hkd, Result.andThen_ok]
      rfl
    · simp at h
  · simp at h

def structOf (τ : Tab) (T : Nat) (f : Nat) : Option (Nat × Nat) :=
  match τ T with
  | some R => (match R.kind with | .struct fs => fs[f]? | _ => none)
  | none => none
theorem structOf_sound (hτ : τ.met P) {T f off ft : Nat} (h : structOf τ T f = some (off, ft)) :
    ∃ fields, P.underlying T = some (.struct fields) ∧ ∃ fl, fields[f]? = some fl ∧ fl.offset = off ∧ fl.type = ft := by
  unfold structOf at h
  split at h
  · rename_i R hR
    split at h
    · rename_i fs hk
      have hm := (hτ T R hR).kind; rw [hk] at hm; simp only [TK.met] at hm
      obtain ⟨fields, hu, hmap⟩ := hm
      rw [← hmap, List.getElem?_map] at h
      cases hf : fields.toList[f]? with
      | none => rw [hf] at h; simp at h
      | some fl => rw [hf] at h; simp at h; exact ⟨fields, hu, fl, by simpa using hf, h.1, h.2⟩
    · simp at h
  · simp at h

def arrayOf (τ : Tab) (T : Nat) : Option (Nat × Nat × Nat) :=
  match τ T with
  | some R => (match R.kind with | .array n e => (match τ e with | some E => some (n, e, E.size) | none => none) | _ => none)
  | none => none
theorem arrayOf_sound (hτ : τ.met P) {T n e s : Nat} (h : arrayOf τ T = some (n, e, s)) :
    P.underlying T = some (.array n e) ∧ ∀ w, (sizeOf e).run P w = .ok s w := by
  unfold arrayOf at h
  split at h
  · rename_i R hR
    split at h
    · rename_i n' e' hk
      split at h
      · rename_i E hE
        simp only [Option.some.injEq, Prod.mk.injEq] at h; obtain ⟨rfl, rfl, rfl⟩ := h
        have hm := (hτ T R hR).kind; rw [hk] at hm
        exact ⟨hm, fun w => run_sizeOf (hτ _ E hE) w⟩
      · simp at h
    · simp at h
  · simp at h
def sliceOf (τ : Tab) (T : Nat) : Option (Nat × Nat) :=
  match τ T with
  | some R => (match R.kind with | .slice e => (match τ e with | some E => some (e, E.size) | none => none) | _ => none)
  | none => none
theorem sliceOf_sound (hτ : τ.met P) {T e s : Nat} (h : sliceOf τ T = some (e, s)) :
    P.underlying T = some (.slice e) ∧ ∀ w, (sizeOf e).run P w = .ok s w := by
  unfold sliceOf at h
  split at h
  · rename_i R hR
    split at h
    · rename_i e' hk
      split at h
      · rename_i E hE
        simp only [Option.some.injEq, Prod.mk.injEq] at h; obtain ⟨rfl, rfl⟩ := h
        have hm := (hτ T R hR).kind; rw [hk] at hm
        exact ⟨hm, fun w => run_sizeOf (hτ _ E hE) w⟩
      · simp at h
    · simp at h
  · simp at h

def evalField (τ : Tab) (T f : Nat) (x : AV) : Option AV :=
  match structOf τ T f, x with
  | some (off, ft), .agg cs => partAV τ ft cs off
  | _, _ => none
theorem evalField_sound (hτ : τ.met P) {T f : Nat} {x v : AV} (h : evalField τ T f x = some v) {r : Nm} {u : Value} (hu : rel r x u) (w : World) : ∃ z, (Instr.field T u f).run P w = .ok z w ∧ rel r v z := by
  unfold evalField at h
  split at h
  · rename_i off ft cs hs
    obtain ⟨fields, hk, fl, hfl, rfl, rfl⟩ := structOf_sound hτ hs
    obtain ⟨vs, hvs, rfl⟩ := hu
    obtain ⟨z, hz, hr⟩ := partAV_sound hτ h hvs w
    exact ⟨z, by simp [Instr.field, run_underlying hk, hfl, asAgg, hz], hr⟩
  · simp at h

def evalIndex (τ : Tab) (T : Nat) (x ix : AV) : Option AV :=
  match arrayOf τ T, x, ix.num with
  | some (n, e, s), .agg cs, some (_, i, true) => bif decide (0 ≤ i) && decide (i < (n : Int)) then partAV τ e cs (i.toNat * s) else none
  | _, _, _ => none
theorem evalIndex_sound (hτ : τ.met P) {T : Nat} {x ix v : AV} (h : evalIndex τ T x ix = some v) {r : Nm} {u ui : Value} (hu : rel r x u) (hi : rel r ix ui) (w : World) : ∃ z, (Instr.index T u ui).run P w = .ok z w ∧ rel r v z := by
  unfold evalIndex at h
  split at h
  · rename_i n e s cs k i ha hix
    cases hb : (decide (0 ≤ i) && decide (i < (n : Int))) with
    | false => rw [hb] at h; simp at h
    | true =>
      rw [hb] at h; simp only [cond_true] at h
      simp at hb
      obtain ⟨hk, hs⟩ := arrayOf_sound hτ ha
      obtain ⟨vs, hvs, rfl⟩ := hu
      have e := rel_num hix hi; subst e
      obtain ⟨z, hz, hr⟩ := partAV_sound hτ h hvs w
      exact ⟨z, by simp [Instr.index, asIntOf, run_underlying hk, hb, hs, hz], hr⟩
  · simp at h

def evalFieldAddr (τ : Tab) (T f : Nat) (x : AV) : Option AV :=
  match structOf τ T f with
  | some (off, ft) => (match τ ft with
    | some R => bif Nat.beq R.size 0 then none else (match x with
      | .ptr id o => some (.ptr id (o + off))
      | .ptrR id i w c => some (.ptrR id i w (c + off))
      | _ => none)
    | none => none)
  | none => none
theorem evalFieldAddr_sound (hτ : τ.met P) {T f : Nat} {x v : AV} (h : evalFieldAddr τ T f x = some v) {r : Nm} {u : Value} (hu : rel r x u) (w : World) : ∃ z, (Instr.fieldAt T u f).run P w = .ok z w ∧ rel r v z := by
  unfold evalFieldAddr at h
  split at h
  · rename_i off ft hs
    split at h
    · rename_i R hR
      cases hb : Nat.beq R.size 0 with
      | true => rw [hb] at h; simp at h
      | false =>
        rw [hb] at h; simp only [cond_false] at h
        have hne : R.size ≠ 0 := fun e => by rw [e] at hb; simp at hb
        obtain ⟨fields, hk, fl, hfl, rfl, rfl⟩ := structOf_sound hτ hs
        have hsz := run_sizeOf (P := P) (hτ _ R hR) w
        split at h <;> simp at h <;> subst h
        · obtain ⟨y, hy, rfl⟩ := hu
          exact ⟨_, by simp [Instr.fieldAt, run_underlying hk, hfl, Instr.sureAddr, fieldPlace, hsz, hne, Addr.add_lit]; rfl, ⟨y, hy, by simp [Nat.add_assoc]⟩⟩
        · obtain ⟨y, hy, rfl⟩ := hu
          exact ⟨_, by simp [Instr.fieldAt, run_underlying hk, hfl, Instr.sureAddr, fieldPlace, hsz, hne, Addr.add_lit]; rfl, ⟨y, hy, by simp [Nat.add_assoc]⟩⟩
    · simp at h
  · simp at h

def evalIndexAddr (τ : Tab) (T : Nat) (x ix : AV) (K : AV → Out U) : Out U :=
  match sliceOf τ T with
  | some (_, s) => (match x, ix.num with
    | .sl _ id st w len _, some (_, i, _) => bif Nat.beq w s then .need (0 ≤ i ∧ i < (len : Int)) (K (.ptrR id (st + i.toNat) w 0)) else .bad 30
    | _, _ => .bad 31)
  | none => (match arrayOf τ T, x, ix.num with
    | some (n, _, s), .ptr id o, some (_, i, true) => bif decide (0 ≤ i) && decide (i < (n : Int)) then K (.ptr id (o + i.toNat * s)) else .bad 32
    | some (n, _, s), .ptrR id j w c, some (_, i, true) => bif decide (0 ≤ i) && decide (i < (n : Int)) then K (.ptrR id j w (c + i.toNat * s)) else .bad 33
    | _, _, _ => .bad 34)
theorem evalIndexAddr_sound (hτ : τ.met P) {M : Goal U} {T : Nat} {x ix : AV} {K : AV → Out U} (h : (evalIndexAddr τ T x ix K).holds M) :
    ∃ v, (K v).holds M ∧ ∀ (r : Nm) (u ui : Value) (w : World), rel r x u → rel r ix ui → ∃ z, (Instr.indexAt T u ui).run P w = .ok z w ∧ rel r v z := by
  unfold evalIndexAddr at h
  split at h
  · rename_i e s hs
    obtain ⟨hk, hsz⟩ := sliceOf_sound hτ hs
    split at h
    · rename_i kn id st wd len cap k i l hix
      rw [holds_bif] at h
      split at h
      · rename_i hw
        have hw := Nat.eq_of_beq_eq_true hw
        subst hw
        obtain ⟨⟨h0, h1⟩, h⟩ := h
        refine ⟨_, h, fun r u ui w hu hi => ?_⟩
        have e := rel_num hix hi; subst e
        obtain ⟨a, rfl, hlc, ha⟩ := hu
        rcases ha with hz | ⟨y, hy, rfl⟩
        · omega
        · refine ⟨.pointer (some ⟨y.1, y.2 + st * wd + i.toNat * wd, none⟩), ?_, ⟨y, hy, ?_⟩⟩
          · simp [Instr.indexAt, asIntOf, run_underlying hk, hsz, h0, h1, Addr.add_lit]
          · simp [Nat.add_mul, Nat.add_assoc]
      · exact h.elim
    · exact h.elim
  · split at h
    · rename_i n e s id o k i ha hix
      rw [holds_bif] at h
      split at h
      · rename_i hb
        simp at hb
        obtain ⟨hk, hsz⟩ := arrayOf_sound hτ ha
        refine ⟨_, h, fun r u ui w hu hi => ?_⟩
        have e := rel_num hix hi; subst e
        obtain ⟨y, hy, rfl⟩ := hu
        exact ⟨_, by simp [Instr.indexAt, asIntOf, run_underlying hk, hsz, hb, Addr.add_lit, Instr.sureAddr]; rfl, ⟨y, hy, by simp [Nat.add_assoc]⟩⟩
      · exact h.elim
    · rename_i n e s id j wd c k i ha hix
      rw [holds_bif] at h
      split at h
      · rename_i hb
        simp at hb
        obtain ⟨hk, hsz⟩ := arrayOf_sound hτ ha
        refine ⟨_, h, fun r u ui w hu hi => ?_⟩
        have e := rel_num hix hi; subst e
        obtain ⟨y, hy, rfl⟩ := hu
        exact ⟨_, by simp [Instr.indexAt, asIntOf, run_underlying hk, hsz, hb, Addr.add_lit, Instr.sureAddr]; rfl, ⟨y, hy, by simp [Nat.add_assoc]⟩⟩
      · exact h.elim
    · exact h.elim

end
end Sx
end Go.Proofs.Ytemcdjdglcceiaa
