/-
  Slices of slices, lengths, least and greatest, maps asked; and the evaluator of all that leaves memory alone.
-/
import Derived.Test.YtemcdjdglcceiaaSxF
namespace Go.Proofs.Ytemcdjdglcceiaa
namespace Sx
open Go

section
variable {U : Uni} {P : Program} {τ : Tab}

/-! ## slices of slices -/
def evalSlice (τ : Tab) (T : Nat) (x : AV) (lo hi mx : Option AV) (K : AV → Out U) : Out U :=
  match sliceOf τ T, x with
  | some (_, s), .sl kn id st w len cap => bif Nat.beq w s then (
    match lo, hi, mx with
    | none, none, none => K (.sl kn id st w len cap)
    | some l, none, none => (match l.num with | some (_, i, _) => .need (0 ≤ i ∧ i ≤ (len : Int)) (K (.sl false id (st + i.toNat) w (len - i.toNat) (cap - i.toNat))) | none => .bad 40)
    | none, some h, none => (match h.num with | some (_, j, _) => .need (0 ≤ j ∧ j ≤ (cap : Int)) (K (.sl false id st w j.toNat cap)) | none => .bad 41)
    | some l, some h, none => (match l.num, h.num with | some (_, i, _), some (_, j, _) => .need (0 ≤ i ∧ i ≤ j ∧ j ≤ (cap : Int)) (K (.sl false id (st + i.toNat) w (j.toNat - i.toNat) (cap - i.toNat))) | _, _ => .bad 42)
    | none, some h, some m => (match h.num, m.num with | some (_, j, _), some (_, n, _) => .need (0 ≤ j ∧ j ≤ n ∧ n ≤ (cap : Int)) (K (.sl false id st w j.toNat n.toNat)) | _, _ => .bad 43)
    | _, _, _ => .bad 44) else .bad 45
  | _, _ => .bad 46

theorem evalSlice_sound (hτ : τ.met P) {M : Goal U} {T : Nat} {x : AV} {lo hi mx : Option AV} {K : AV → Out U} (h : (evalSlice τ T x lo hi mx K).holds M) :
    ∃ v, (K v).holds M ∧ ∀ (r : Nm) (u : Value) (vlo vhi vmx : Option Value) (w : World), rel r x u →
      (∀ y, lo = some y → ∃ z, vlo = some z ∧ rel r y z) → (lo = none → vlo = none) → (∀ y, hi = some y → ∃ z, vhi = some z ∧ rel r y z) → (hi = none → vhi = none) →
      (∀ y, mx = some y → ∃ z, vmx = some z ∧ rel r y z) → (mx = none → vmx = none) →
      ∃ z, (Instr.sliceAt T u vlo vhi vmx).run P w = .ok z w ∧ rel r v z := by
  unfold evalSlice at h
  split at h
  · rename_i e s kn id st wd len cap hs
    obtain ⟨hk, hsz⟩ := sliceOf_sound hτ hs
    have core : ∀ (r : Nm) (a : Option Addr) (w : World) (l hh m : Nat) (vlo vhi vmx : Option Value), (cap = 0 ∨ ∃ x, r id = some x ∧ a = some ⟨x.1, x.2 + st * s, none⟩) → l ≤ hh → hh ≤ m → m ≤ cap →
        (Instr.sliceBounds true len cap vlo vhi vmx).run P w = .ok (l, hh, m) w → ∀ kk, ∃ z, (Instr.sliceAt T (.slice a len cap) vlo vhi vmx).run P w = .ok z w ∧ rel r (.sl kk id (st + l) s (hh - l) (m - l)) z := by
      intro r a w l hh m vlo vhi vmx ha h1 h2 h3 hrun kk
      have hk' : P.underlying T = some (.slice (P.elem T)) := by simp [Program.elem, hk]
      have e1 : (Instr.sliceAt T (.slice a len cap) vlo vhi vmx).run P w = .ok (.slice (if m = l then a else a.map (·.add (l * s))) (hh - l) (m - l)) w := by
        simp only [Instr.sliceAt, Sem.run_bind, run_underlying hk, Result.andThen_ok, Instr.slice, hrun, hsz, Sem.run_pure]
      refine ⟨_, e1, ⟨_, rfl, by omega, ?_⟩⟩
      by_cases hml : m = l
      · left; omega
      · right
        rcases ha with hz | ⟨y, hy, rfl⟩
        · omega
        · exact ⟨y, hy, by simp [hml, Addr.add_lit, Nat.add_mul, Nat.add_assoc]⟩
    rw [holds_bif] at h
    split at h
    · rename_i hw
      have hw := Nat.eq_of_beq_eq_true hw
      subst hw
      split at h
      · refine ⟨_, h, fun r u vlo vhi vmx w hu _ hl _ hh _ hm => ?_⟩
        rw [hl rfl, hh rfl, hm rfl]
        obtain ⟨a, rfl, hlc, ha⟩ := hu
        simpa using core r a w 0 len cap none none none ha (Nat.zero_le _) hlc (Nat.le_refl _) (by simp [Instr.sliceBounds]) kn
      · split at h
        · rename_i l k i ll hl
          obtain ⟨⟨h0, h1⟩, h⟩ := h
          refine ⟨_, h, fun r u vlo vhi vmx w hu hlo _ _ hh _ hm => ?_⟩
          rw [hh rfl, hm rfl]
          obtain ⟨z, rfl, hz⟩ := hlo _ rfl
          have e := rel_num hl hz; subst e
          obtain ⟨a, rfl, hlc, ha⟩ := hu
          exact core r a w i.toNat len cap _ _ _ ha (by omega) hlc (Nat.le_refl _) (by simp [Instr.sliceBounds, Instr.sliceBound, asIntOf, h0, h1]) false
        · exact h.elim
      · split at h
        · rename_i hh k j lj hj
          obtain ⟨⟨h0, h1⟩, h⟩ := h
          refine ⟨_, h, fun r u vlo vhi vmx w hu _ hl hhi _ _ hm => ?_⟩
          rw [hl rfl, hm rfl]
          obtain ⟨z, rfl, hz⟩ := hhi _ rfl
          have e := rel_num hj hz; subst e
          obtain ⟨a, rfl, hlc, ha⟩ := hu
          simpa using core r a w 0 j.toNat cap _ _ _ ha (by omega) (by omega) (Nat.le_refl _) (by simp [Instr.sliceBounds, Instr.sliceBound, asIntOf, h0, h1]) false
        · exact h.elim
      · split at h
        · rename_i l hh k i li k' j lj hi hj
          obtain ⟨⟨h0, h1, h2⟩, h⟩ := h
          refine ⟨_, h, fun r u vlo vhi vmx w hu hlo _ hhi _ _ hm => ?_⟩
          rw [hm rfl]
          obtain ⟨z, rfl, hz⟩ := hlo _ rfl
          obtain ⟨z', rfl, hz'⟩ := hhi _ rfl
          have e := rel_num hi hz; subst e
          have e := rel_num hj hz'; subst e
          obtain ⟨a, rfl, hlc, ha⟩ := hu
          have hj0 : 0 ≤ j := by omega
          exact core r a w i.toNat j.toNat cap _ _ _ ha (by omega) (by omega) (Nat.le_refl _) (by simp [Instr.sliceBounds, Instr.sliceBound, asIntOf, h0, hj0, h2]; intro hc; omega) false
        · exact h.elim
      · split at h
        · rename_i hh m k j lj k' n ln hj hn
          obtain ⟨⟨h0, h1, h2⟩, h⟩ := h
          refine ⟨_, h, fun r u vlo vhi vmx w hu _ hl hhi _ hmx _ => ?_⟩
          rw [hl rfl]
          obtain ⟨z, rfl, hz⟩ := hhi _ rfl
          obtain ⟨z', rfl, hz'⟩ := hmx _ rfl
          have e := rel_num hj hz; subst e
          have e := rel_num hn hz'; subst e
          obtain ⟨a, rfl, hlc, ha⟩ := hu
          have hn0 : 0 ≤ n := by omega
          simpa using core r a w 0 j.toNat n.toNat _ _ _ ha (by omega) (by omega) (by omega) (by simp [Instr.sliceBounds, Instr.sliceBound, asIntOf, h0, hn0, h2]; intro hc; omega) false
        · exact h.elim
      · exact h.elim
    · exact h.elim
  · exact h.elim

/-! ## least and greatest -/
def evalMin2 (x y : AV) : Option AV :=
  match x.num, y.num with
  | some (k, a, la), some (_, b, lb) => some (mkInt (la && lb) k (if b < a then b else a))
  | _, _ => none
def evalMax2 (x y : AV) : Option AV :=
  match x.num, y.num with
  | some (k, a, la), some (_, b, lb) => some (mkInt (la && lb) k (if b > a then b else a))
  | _, _ => none
theorem evalMin2_sound {x y v : AV} (h : evalMin2 x y = some v) {r : Nm} {u u' : Value} (hu : rel r x u) (hu' : rel r y u') (ts : Array Nat) (t : Nat) (w : World) : ∃ z, (Builtin.min_ ts t #[u, u']).run P w = .ok z w ∧ rel r v z := by
  unfold evalMin2 at h; split at h
  · rename_i k a la k' b lb hx hy
    simp only [Option.some.injEq] at h; subst h
    have e := rel_num hx hu; have e' := rel_num hy hu'; subst e; subst e'
    exact ⟨_, run_min_int2 w ts t k k' a b, by simp [rel_mkInt]⟩
  · simp at h
theorem evalMax2_sound {x y v : AV} (h : evalMax2 x y = some v) {r : Nm} {u u' : Value} (hu : rel r x u) (hu' : rel r y u') (ts : Array Nat) (t : Nat) (w : World) : ∃ z, (Builtin.max_ ts t #[u, u']).run P w = .ok z w ∧ rel r v z := by
  unfold evalMax2 at h; split at h
  · rename_i k a la k' b lb hx hy
    simp only [Option.some.injEq] at h; subst h
    have e := rel_num hx hu; have e' := rel_num hy hu'; subst e; subst e'
    exact ⟨_, run_max_int2 w ts t k k' a b, by simp [rel_mkInt]⟩
  · simp at h

/-! ## lengths -/
def evalLen (τ : Tab) (T : Nat) (x : AV) : Option AV :=
  match τ T with
  | some R => (match R.kind, x with
    | .slice _, .sl true _ _ _ len _ => some (.lit .i64 (len : Int))
    | .slice _, .sl false _ _ _ len _ => some (.int .i64 (len : Int))
    | .slice _, .nilS => some (.lit .i64 0)
    | .array n _, _ => some (.lit .i64 (n : Int))
    | _, _ => none)
  | none => none
theorem evalLen_sound (hτ : τ.met P) {T : Nat} {x v : AV} (h : evalLen τ T x = some v) {r : Nm} {u : Value} (hu : rel r x u) (ts : Array Nat) (ht : ts[0]? = some T) (t : Nat) (w : World) : ∃ z, (Builtin.len_ ts t #[u]).run P w = .ok z w ∧ rel r v z := by
  unfold evalLen at h
  split at h
  · rename_i R hR
    have hk := (hτ T R hR).kind
    split at h
    · rename_i hK; simp only [Option.some.injEq] at h; subst h
      rw [hK] at hk; simp only [TK.met] at hk
      obtain ⟨a, rfl, _, _⟩ := hu
      exact ⟨_, by simp [Builtin.len_, ht, run_underlying hk]; rfl, by simp [rel, goInt]⟩
    · rename_i hK; simp only [Option.some.injEq] at h; subst h
      rw [hK] at hk; simp only [TK.met] at hk
      obtain ⟨a, rfl, _, _⟩ := hu
      exact ⟨_, by simp [Builtin.len_, ht, run_underlying hk]; rfl, by simp [rel, goInt]⟩
    · rename_i hK; simp only [Option.some.injEq] at h; subst h
      rw [hK] at hk; simp only [TK.met] at hk
      simp only [rel] at hu; subst hu
      exact ⟨_, by simp [Builtin.len_, ht, run_underlying hk]; rfl, by simp [rel, goInt]⟩
    · rename_i hK; simp only [Option.some.injEq] at h; subst h
      rw [hK] at hk; simp only [TK.met] at hk
      exact ⟨_, by simp [Builtin.len_, ht, run_underlying hk]; rfl, by simp [rel, goInt]⟩
    · simp at h
  · simp at h

/-! ## maps: what they hold of a key, and how many -/
def mget {α : Type} : List (Int × α) → Int → Option α
  | [], _ => none
  | (k, x) :: m, n => if n = k then some x else mget m n

theorem relM_find {α : Type} {E : Enc α} {kk : IntKind} {r : Nm} (n : Int) : ∀ (m : List (Int × α)) (es : List MapEntry) (i : Nat), relM E kk r m es →
    (mget m n = none → Instr.findNow (.int kk) (.int kk n) es i = some none) ∧
    (∀ x, mget m n = some x → ∃ j e, Instr.findNow (.int kk) (.int kk n) es i = some (some (i + j, e.val)) ∧ es[j]? = some e ∧ e.key = .int kk n ∧ relV E.agg r (E.enc x) e.val ∧ (m.map (·.1)).findIdx (· == n) = j)
  | [], es, i, h => by
    simp only [relM] at h; subst h
    exact ⟨fun _ => rfl, fun x hx => by simp [mget] at hx⟩
  | (k, y) :: m, es, i, h => by
    simp only [relM] at h
    obtain ⟨e, fs, rfl, hk, hv, hr⟩ := h
    obtain ⟨ih1, ih2⟩ := relM_find n m fs (i + 1) hr
    by_cases hnk : n = k
    · subst hnk
      refine ⟨fun hx => by simp [mget] at hx, fun x hx => ⟨0, e, ?_, rfl, hk, ?_, ?_⟩⟩
      · simp [Instr.findNow, hk, Instr.sameNow]
      · simp [mget] at hx; subst hx; exact hv
      · simp [List.findIdx_cons]
    · have hne : (n == k) = false := by simpa using hnk
      refine ⟨fun hx => ?_, fun x hx => ?_⟩
      · simp only [mget, if_neg hnk] at hx
        simp only [Instr.findNow, hk, Instr.sameNow, if_true, hne, ih1 hx]
      · simp only [mget, if_neg hnk] at hx
        obtain ⟨j, e', h1, h2, h3, h4, h5⟩ := ih2 x hx
        refine ⟨j + 1, e', ?_, by simpa using h2, h3, h4, ?_⟩
        · simp only [Instr.findNow, hk, Instr.sameNow, if_true, hne, h1]
          rw [show i + 1 + j = i + (j + 1) by omega]
        · have : (k == n) = false := by simpa using fun h => hnk h.symm
          simp [List.findIdx_cons, this, h5]

theorem relM_length {α : Type} {E : Enc α} {kk : IntKind} {r : Nm} : ∀ {m : List (Int × α)} {es : List MapEntry}, relM E kk r m es → es.length = m.length
  | [], _, h => by simp only [relM] at h; subst h; rfl
  | (_, _) :: m, _, h => by simp only [relM] at h; obtain ⟨e, fs, rfl, _, _, hr⟩ := h; simp [relM_length hr]

/-- Which kind of element a type is laid as. -/
abbrev Kinds (U : Uni) := Nat → Option U.K
def Kinds.met (τ : Tab) (κ : Kinds U) : Prop := ∀ e k, κ e = some k → ∃ R, τ e = some R ∧ (U.enc k).w = R.size ∧ (U.enc k).agg = R.kind.agg ∧ R.bytes ≠ 0 ∧
  ∀ r vs, relL r R.zero vs → relL r ((U.enc k).enc (U.enc k).dflt) vs

def mapOf (τ : Tab) (κ : Kinds U) (T : Nat) : Option (IntKind × U.K) :=
  match τ T with
  | some R => (match R.kind with
    | .map k e => (match τ k, κ e with | some Kr, some E => (match Kr.kind with | .int kk => some (kk, E) | _ => none) | _, _ => none)
    | _ => none)
  | none => none

theorem mapOf_sound (hτ : τ.met P) {κ : Kinds U} {T : Nat} {kk : IntKind} {E : U.K} (h : mapOf τ κ T = some (kk, E)) :
    ∃ k e, P.underlying T = some (.map k e) ∧ P.underlying k = some (.int kk) ∧ κ e = some E := by
  unfold mapOf at h
  split at h
  · rename_i R hR
    split at h
    · rename_i k e hk
      split at h
      · rename_i Kr E' hK hE
        split at h
        · rename_i kk' hkk
          simp only [Option.some.injEq, Prod.mk.injEq] at h; obtain ⟨rfl, rfl⟩ := h
          have hm := (hτ T R hR).kind; rw [hk] at hm
          have hm2 := (hτ k Kr hK).kind; rw [hkk] at hm2
          exact ⟨k, e, hm, hm2, hE⟩
        · simp at h
      · simp at h
    · simp at h
  · simp at h

/-- An element's cells as a value. -/
def rowAV (agg : Bool) (cs : List AV) : AV := bif agg then .agg cs else cs.headD .und

theorem rel_rowAV {agg : Bool} {r : Nm} {cs : List AV} {v : Value} (h : relV agg r cs v) : rel r (rowAV agg cs) v := by
  cases agg
  · simp only [relV] at h
    match cs, h with
    | [], h => simp [relL] at h
    | [c], h => exact (relL_cons.1 h).1
    | c :: d :: cs, h =>
      have := relL_length h; simp at this
  · exact h

theorem relV_imp {agg : Bool} {r : Nm} {xs ys : List AV} (h : ∀ vs, relL r xs vs → relL r ys vs) {v : Value} (k : relV agg r xs v) : relV agg r ys v := by
  cases agg
  · exact h _ k
  · obtain ⟨vs, a, b⟩ := k; exact ⟨vs, h _ a, b⟩

theorem run_zero {t : Nat} {R : TyRow} (h : R.met P t) (r : Nm) (w : World) : ∃ z, (zeroValue t).run P w = .ok z w ∧ relV R.kind.agg r R.zero z := by
  obtain ⟨i, z, hi, _, _, hz, _, hr, _⟩ := h.info
  exact ⟨z, by simp [zeroValue, typeInfo, hi, hz], relV_mono (fun _ _ e => by cases e) hr⟩

/-- What a map tells of a key. -/
def evalLookup (τ : Tab) (κ : Kinds U) (T : Nat) (B : Blk U) (key : AV) (ok : Bool) (K : AV → Out U) : Out U :=
  match mapOf τ κ T, B, key.num with
  | some (kk, E), .mp kk' k m, some (kk'', n, _) =>
    bif decide (kk = kk') && decide (kk = kk'') && (@decide (E = k) (U.dk E k)) then
      K (bif ok then .tup [rowAV (U.enc k).agg ((U.enc k).enc ((mget m n).getD (U.enc k).dflt)), .bool (mget m n).isSome] else rowAV (U.enc k).agg ((U.enc k).enc ((mget m n).getD (U.enc k).dflt)))
    else .bad 50
  | _, _, _ => .bad 51

theorem run_checkKey_int {k : Nat} {kk : IntKind} (h : P.underlying k = some (.int kk)) (b : Bool) (n : Nat) (v : Value) (w : World) : (Instr.checkKey b (n + 1) k v).run P w = .ok () w := by
  simp only [Instr.checkKey, Sem.run_bind, run_underlying h, Result.andThen_ok]
  cases v <;> rfl

theorem evalLookup_sound (hτ : τ.met P) {κ : Kinds U} (hκ : κ.met τ) {M : Goal U} {T : Nat} {B : Blk U} {key : AV} {ok : Bool} {K : AV → Out U} (h : (evalLookup τ κ T B key ok K).holds M) {id : Nat} :
    ∃ v, (K v).holds M ∧ ∀ (β : Base) (r : Nm) (w : World) (H1 : Hp) (u uk : Value), rel r (.mp id) u → rel r key uk → B.den β.G r id H1 → H1.inW w → ∃ z, (Instr.lookup T u uk ok).run P w = .ok z w ∧ rel r v z := by
  unfold evalLookup at h
  split at h
  · rename_i kk E kk' k m kk'' n l hmap hkey
    rw [holds_bif] at h
    split at h
    · rename_i hb
      simp only [Bool.and_eq_true, decide_eq_true_eq] at hb
      obtain ⟨⟨rfl, rfl⟩, hEk⟩ := hb
      subst hEk
      refine ⟨_, h, fun β r w H1 u uk hu huk hB hw => ?_⟩
      obtain ⟨x, hx, rfl⟩ := hu
      obtain ⟨b, es, clock, hb, hrm, rfl⟩ := hB
      rw [hx] at hb; cases hb
      have e := rel_num hkey huk; subst e
      obtain ⟨tk, te, hT, hk, hE'⟩ := mapOf_sound hτ hmap
      obtain ⟨R, hR, _, hag, _, hz0⟩ := hκ te E hE'
      have hE := hτ te R hR
      have hblk := Hp.inW_one.1 hw
      have hget : (getObj b).run P w = .ok (.map es clock) w := by simp [getObj, Sem.run, hblk]
      obtain ⟨f1, f2⟩ := relM_find n m es.toList 0 hrm
      have hfin : ∃ v0, (Instr.lookup T (.map (some b)) (.int kk n) ok).run P w = .ok (if ok then .tuple #[v0, .bool (mget m n).isSome] else v0) w ∧ relV (U.enc E).agg r ((U.enc E).enc ((mget m n).getD (U.enc E).dflt)) v0 := by
        cases hg : mget m n with
        | none =>
          obtain ⟨z, hz, hrz⟩ := run_zero hE r w
          refine ⟨z, ?_, by have := relV_imp (agg := R.kind.agg) (hz0 r) hrz; rw [← hag] at this; simpa using this⟩
          unfold Instr.lookup
          simp only [Sem.run_bind, run_underlying hT, Result.andThen_ok, hget, Sem.run_pure, run_checkKey_int hk _ 9999, Instr.findKey, run_underlying hk, f1 hg, hz, Option.isSome_none]
        | some y =>
          obtain ⟨j, e, h1, _, _, h4, _⟩ := f2 y hg
          refine ⟨e.val, ?_, by simpa using h4⟩
          unfold Instr.lookup
          simp only [Sem.run_bind, run_underlying hT, Result.andThen_ok, hget, Sem.run_pure, run_checkKey_int hk _ 9999, Instr.findKey, run_underlying hk, h1, Option.isSome_some]
      obtain ⟨v0, hv0, hr0⟩ := hfin
      refine ⟨_, hv0, ?_⟩
      cases ok
      · exact rel_rowAV hr0
      · exact ⟨[v0, .bool (mget m n).isSome], relL_cons.2 ⟨rel_rowAV hr0, relL_cons.2 ⟨by simp [rel], relL_nil⟩⟩, rfl⟩
    · exact h.elim
  · exact h.elim

end
end Sx
end Go.Proofs.Ytemcdjdglcceiaa
