/-
  fair.turn: what it tells, and where its variables lie.
-/
import Derived.Test.YtmcmdghmglopnaaGreatDoorGrowingP10
namespace Go.Proofs.YtmcmdghmglopnaaGreatDoor
open Go.RowKit
namespace Sx
open Go

theorem mod_val {t n : Int} (h0 : 0 < n) (h1 : n ≤ 64) : (IntKind.i64.wrap (t.tmod n + n)).tmod n = t % n := by
  have h2 : -n < t.tmod n := Int.lt_tmod_of_pos _ h0
  have h3 : t.tmod n < n := Int.tmod_lt_of_pos _ h0
  have e : IntKind.i64.wrap (t.tmod n + n) = t.tmod n + n := by
    generalize t.tmod n = x at h2 h3
    simp [IntKind.wrap, IntKind.bits, IntKind.signed]; omega
  rw [e, Int.tmod_eq_emod_of_nonneg (by omega), Int.add_emod_right]
  rw [Int.tmod_def]
  have h4 : (t - n * t.tdiv n) % n = t % n := Int.sub_mul_emod_self_left ..
  exact h4
theorem cfgF0_ok : cfgF0.ok := ⟨tab_met, kinds_met, mixed_met, fun g fn h => (by cases h), fun g H h => (by cases h)⟩
/-- What is behind a call that knows all of the memory ahead of it. -/
structure TurnAt (w W : World) (th t : Int) (bt bv bf : Nat) : Prop where
  t1 : W.heap[bt]? = some (.cells #[.int .i64 th] 3 (0, 0))
  t2 : W.heap[bv]? = some (.cells #[.int .i64 t] 3 (0, 0))
  t3 : W.heap[bf]? = some (.cells #[.int .i64 (t % th)] 3 (0, 0))
  l1 : w.heap.size ≤ bt
  l2 : w.heap.size ≤ bv
  l3 : w.heap.size ≤ bf
  old : ∀ k, k < w.heap.size → W.heap[k]? = w.heap[k]?
  below : Below w.heap.size w W
theorem turn_calls (th t : Int) (h0 : 0 < th) (h1 : th ≤ 64) (w : World) : Calls Tryz.prog 22 #[.int .i64 th, .int .i64 t] w (fun e W => ∃ bt bv bf, e = .returned (.func (.func 34) #[] #[.pointer (some ⟨bt, 0, none⟩), .pointer (some ⟨bv, 0, none⟩), .pointer (some ⟨bf, 0, none⟩)]) ∧ TurnAt w W th t bt bv bf) := by
  have hc : CallsSx (U := V) Tryz.prog 22 [.int .i64 th, .int .i64 t] [] 0 (fun v h' nx' _ => v = .fn 34 [] [.ptr 0 0, .ptr 1 0, .ptr 2 0] ∧ h' = [(2, .cells 3 [.int .i64 (t % th)]), (1, .cells 3 [.int .i64 t]), (0, .cells 3 [.int .i64 th])]) := by
    refine calls_runF (R := fun v h' nx' _ => v = .fn 34 [] [.ptr 0 0, .ptr 1 0, .ptr 2 0] ∧ h' = [(2, .cells 3 [.int .i64 (t % th)]), (1, .cells 3 [.int .i64 t]), (0, .cells 3 [.int .i64 th])]) cfgF0_ok (n := 40) (fn := Tryz.f22) ⟨Tryz.func22, by kernel_rfl⟩ (by kernel_rfl) (by show 2 ≤ _; decide) ?_
    rw [ft22]
    refine ⟨by omega, by omega, rfl, ?_⟩
    rw [mod_val h0 h1]
  refine (hc.2 ⟨whole w, w.os, w.output, w.tape⟩ (fun _ => none) [.int .i64 th, .int .i64 t] w (by simp [relL, rel]) ⟨⟨rfl, rfl, rfl, fun x o e => e⟩, Hp.nil, rfl, Hp.nil_apart _, Hp.inW_nil w⟩ (fun _ _ => rfl)).mono ?_
  rintro e W ⟨v, h', nx', T, z, r', rfl, ⟨rfl, rfl⟩, _, _, hz, ⟨hm, H, hd, hap, hin⟩, _⟩
  have key : ∀ {id : Nat} {x : Int} {H1 : Hp}, Blk.den (whole w) r' id (.cells 3 [.int .i64 x] : Blk V) H1 → ∃ b, r' id = some (b, 0) ∧ H1 = Hp.one b (.cells #[.int .i64 x] 3 (0, 0)) := by
    rintro id x H1 ⟨b, vs, k1, k2, rfl⟩
    simp only [relL, rel] at k2
    obtain ⟨v, us, rfl, rfl, rfl⟩ := k2
    exact ⟨b, k1, rfl⟩
  obtain ⟨H1, H2, d1, ⟨H3, H4, d2, ⟨H5, H6, d3, d4, a3, rfl⟩, a2, rfl⟩, a1, rfl⟩ := hd
  obtain ⟨bf, n1, rfl⟩ := key d1
  obtain ⟨bv, n2, rfl⟩ := key d2
  obtain ⟨bt, n3, rfl⟩ := key d3
  have hH6 : H6 = Hp.nil := d4
  subst hH6
  rw [Hp.join_nil] at hin hap
  simp only [rel, relL] at hz
  obtain ⟨zs, vs2, rfl, ⟨p0, us0, rfl, ⟨x0, q0, rfl⟩, p1, us1, rfl, ⟨x1, q1, rfl⟩, p2, us2, rfl, ⟨x2, q2, rfl⟩, rfl⟩, rfl⟩ := hz
  rw [n3] at q0; cases q0
  rw [n2] at q1; cases q1
  rw [n1] at q2; cases q2
  have i1 := (Hp.inW_join (by rw [Hp.join_nil] at a1; exact a1)).1 hin
  have i2 := (Hp.inW_join (by rw [Hp.join_nil] at a2; exact a2)).1 i1.2
  have ap := Hp.join_apart.1 hap
  have ap2 := Hp.join_apart.1 ap.2
  have size : ∀ {b : Nat} {o : Obj}, (Hp.one b o).apart (whole w) → w.heap.size ≤ b := by
    intro b o h
    have h1 : whole w b = none := Hp.one_apart.1 h
    have h2 : w.heap[b]? = none := h1
    rwa [Array.getElem?_eq_none_iff] at h2
  have hG := hm.G
  have old : ∀ k, k < w.heap.size → W.heap[k]? = w.heap[k]? := fun k hk => by
    have := hG k _ (show whole w k = some w.heap[k] from Array.getElem?_eq_getElem hk)
    rw [this, Array.getElem?_eq_getElem hk]
  refine ⟨bt, bv, bf, rfl, ⟨i2.2 bt _ (by simp [Hp.one]), i2.1 bv _ (by simp [Hp.one]), i1.1 bf _ (by simp [Hp.one]), size ap2.2, size ap2.1, size ap.1, old, hm.os, hm.tape, hm.output, ?_, old⟩⟩
  rcases Nat.eq_zero_or_pos w.heap.size with e | e
  · omega
  · have h1 := old (w.heap.size - 1) (by omega)
    rw [Array.getElem?_eq_getElem (show w.heap.size - 1 < w.heap.size by omega)] at h1
    have := (Array.getElem?_eq_some_iff.1 h1).1
    omega
end Sx
end Go.Proofs.YtmcmdghmglopnaaGreatDoor

