/-
  Steps played in both: alike at each step, and their logs behind all of them.
-/
import Derived.Test.YtjackepkphdibaaTrees7
namespace Go.Proofs.Ytjackepkphdibaa
namespace Sx
open Go
set_option linter.unusedSimpArgs false
set_option linter.unusedVariables false

theorem hooks7_ok : ∀ g H, hooks7 g = some H → HookOk Try.prog g H := by
  intro g H h
  unfold hooks7 at h
  split at h
  · cases h; exact hDo
  · exact hooks6_ok _ H h
theorem cfg7_ok : cfg7.ok := ⟨tab_met, kinds_met, mixed_met, fun g fn h => (by cases h), hooks7_ok⟩

theorem locks_load (s : MC) (t k : Int) : (s.load t k).2.2.locks.length = s.locks.length := by unfold MC.load; split <;> simp [MC.note]
theorem locks_store (s : MC) (t k v : Int) : (s.store t k v).2.locks.length = s.locks.length := by unfold MC.store; split <;> simp [MC.note]
theorem locks_swap (s : MC) (t k o v : Int) : (s.swap t k o v).2.2.locks.length = s.locks.length := by
  unfold MC.swap; split
  · rfl
  · split <;> simp [MC.note]
theorem locks_take (s : MC) (t k d : Int) : (s.take t k d).2.2.locks.length = s.locks.length := by
  unfold MC.take; split
  · rfl
  · split
    · rfl
    · split
      · split <;> simp [MC.note]
      · simp [MC.note]
theorem locks_unlock (s : MC) (t k : Int) : (s.unlock t k).2.locks.length = s.locks.length := by
  unfold MC.unlock; split
  · rfl
  · split <;> simp [MC.note]
theorem locks_step (s : MC) (f : Five) : (doC s f).locks.length = s.locks.length := by
  unfold doC
  repeat' split
  all_goals simp only [locks_load, locks_store, locks_swap, locks_take, locks_unlock]

theorem Rel.room {s : MC} {r : MR} (R : Rel s r) (h : s.room) : r.room := by
  unfold MC.room at h
  unfold MR.room
  rw [R.l, R.h, R.n, List.length_map]
  exact ⟨by omega, rfl⟩

theorem l40_ok : LoopOk Try.prog 0 (loopOf Try.f4 0) L40 := by
  refine loopH_ok (C := cfg7) cfg7_ok (f := 4) (n := 40) [2, 7, 8, 9, 10] 5 (fun p : P40 => I4 p.toP4) (fun p x => x.i ≤ p.xs.length ∧ Rel x.s x.r ∧ x.s.log.length ≤ x.i ∧ x.s.locks.length ≤ 4096) (fun p => ⟨0, MC.mk0 p.w p.l, MR.mk0 p.w p.l⟩) (fun p x => p.xs.length - x.i)
    (fun p (x : X4) => Rel x.s x.r ∧ x.s.log.length ≤ 200 ∧ x.s.locks.length ≤ 4096) (fun p x => I4 p.toP4 x) (fun p => ⟨Nat.zero_le _, Rel.mk0 .., Nat.le_refl _, ?_⟩) ?_
  · show (List.replicate (MC.many p.l) (⟨0, false⟩ : Holder)).length ≤ 4096
    rw [List.length_replicate]
    have := cap4_le p.l
    unfold MC.many; omega
  · intro p x ⟨hi, R, hg, hl⟩
    rw [b40]
    have hb := p.hb
    simp only [Out.holds, Nat.zero_add, decide_eq_true_eq, decide_eq_false_iff_not, Int.toNat_natCast, bne_iff_ne, bne_eq_false_iff_eq]
    have hr : x.s.room := by unfold MC.room; omega
    generalize hf : p.xs.getD x.i (V.enc Kd.five).dflt = f
    have R' : Rel (doC x.s f) (doR x.r f) := R.step f
    have hg' : (doC x.s f).log.length ≤ x.i + 1 := Nat.le_trans (len_step x.s f) (by omega)
    have hr' : (doC x.s f).room := by unfold MC.room; omega
    refine ⟨fun h => ⟨by omega, by omega, ⟨hr, R.room hr, R⟩, by omega, by omega, by omega, by omega, R'.room hr', fun h2 => ?_, fun h2 => ?_⟩, fun h => ⟨trivial, SImp.of_wk (ren := []) x ?_ ⟨R, by omega, hl⟩⟩⟩
    · exact absurd (R'.holder f.c) h2
    · refine SImp.of_wk (ren := []) ⟨x.i + 1, doC x.s f, doR x.r f⟩ ?_ ⟨⟨by show x.i + 1 ≤ _; omega, R', hg', by rw [locks_step]; exact hl⟩, by show p.xs.length - (x.i + 1) < p.xs.length - x.i; omega⟩
      exact ⟨⟨AV.sub_same _, AV.sub_same _, AV.sub_same _, AV.sub_same _, AV.sub_int (wrap_nat (by omega)), trivial⟩, ⟨.same _, .same _, .same _, trivial⟩, rfl, tl_ok rfl, ⟨.inl (in_ok rfl), .inl (in_ok rfl), .inr rfl, trivial⟩, ⟨Nat.le_of_ble_eq_true rfl, rfl⟩⟩
    · exact ⟨⟨AV.sub_same _, AV.sub_same _, AV.sub_same _, AV.sub_same _, AV.sub_same _, trivial⟩, ⟨.same _, .same _, .same _, trivial⟩, rfl, tl_ok rfl, ⟨.inl (in_ok rfl), .inl (in_ok rfl), .inr rfl, trivial⟩, ⟨Nat.le_of_ble_eq_true rfl, rfl⟩⟩

theorem l42_ok : LoopOk Try.prog 2 (loopOf Try.f4 2) L42 := by
  refine loopN_ok (C := cfg7) cfg7_ok (f := 4) (n := 40) 11 (fun p : P42d => I42 p.toP42) (fun p x => x.1 ≤ p.n ∧ x.2.length = p.n) (fun p => (0, p.ds)) (fun p x => p.n - x.1)
    (fun p (x : Nat × List Deed) => x.2.length = p.n) (fun p x => I42 p.toP42 x) (fun p => ⟨Nat.zero_le _, p.hd⟩) ?_
  intro p x ⟨hi, hl⟩
  rw [b42]
  have hb := p.hb
  simp only [Out.holds, Nat.zero_add, decide_eq_true_eq, decide_eq_false_iff_not, Int.toNat_natCast]
  refine ⟨fun h => ⟨by omega, by omega, (x.1 + 1, x.2.set x.1 { x.2.getD x.1 (V.enc Kd.deed).dflt with thread := -7 }), [(10, 10)], ?_, ⟨by show x.1 + 1 ≤ _; omega, (List.length_set ..).trans hl⟩, by show p.n - (x.1 + 1) < p.n - x.1; omega⟩, fun h => ⟨trivial, x, [(10, 10)], ?_, hl⟩⟩
  · exact ⟨⟨AV.sub_same _, AV.sub_same _, AV.sub_same _, AV.sub_same _, AV.sub_same _, AV.sub_int (wrap_nat (n := x.1) (by omega)), trivial⟩, ⟨.same _, .same _, .same _, .same _, .same _, .same _, .same _, .same _, trivial⟩, rfl, tl_ok rfl, ⟨.inl (in_ok rfl), .inr rfl, .inr rfl, .inr rfl, .inr rfl, .inr rfl, .inr rfl, .inr rfl, trivial⟩, ⟨Nat.le_of_ble_eq_true rfl, rfl⟩⟩
  · exact ⟨⟨AV.sub_same _, AV.sub_same _, AV.sub_same _, AV.sub_same _, AV.sub_same _, AV.sub_same _, trivial⟩, ⟨.same _, .same _, .same _, .same _, .same _, .same _, .same _, .same _, trivial⟩, rfl, tl_ok rfl, ⟨.inr rfl, .inr rfl, .inr rfl, .inr rfl, .inr rfl, .inr rfl, .inr rfl, .inr rfl, trivial⟩, ⟨Nat.le_of_ble_eq_true rfl, rfl⟩⟩

theorem hooks9_ok : ∀ g H, hooks9 g = some H → HookOk Try.prog g H := by
  intro g H h
  unfold hooks9 at h
  split at h
  · cases h; exact hookAfter_ok ⟨Try.f13, by kernel_rfl, by kernel_rfl, by kernel_rfl⟩ (openR_ok 4) hLog
  · cases h; exact hookAfter_ok ⟨Try.f20, by kernel_rfl, by kernel_rfl, by kernel_rfl⟩ (packR_ok 4) hHeldR
  · exact hooks7_ok _ H h
theorem cfg9_ok : cfg9.ok := ⟨tab_met, kinds_met, mixed_met, fun g fn h => (by cases h), hooks9_ok⟩

theorem play_law (w l : Int) (xs : List Five) (c : Nat) : CallsSx Try.prog 4 [.int .i64 w, .int .i64 l, .sl false 2 0 5 xs.length c] ([(2, .ro Kd.five xs)] : Heap V) 3 (fun v _ _ _ => v.sub .tt) := by
  refine calls_runL (args := [.int .i64 w, .int .i64 l, .sl false 2 0 5 xs.length c]) cfg9_ok (n := 60) (fn := Try.f4) ⟨by kernel_rfl, by kernel_rfl⟩ (by kernel_rfl) (show 3 ≤ _ by decide +kernel) ?_
  rw [t4]
  refine ⟨fun _ => AV.sub_same _, fun h1 => ?_⟩
  have hb : xs.length ≤ 200 := by have := of_decide_eq_false h1; omega
  refine ⟨l40_ok, fun q => q = ⟨⟨xs, c, hb⟩, w, l⟩, ⟨Nat.le_refl _, SImp.of_wk (ren := []) ⟨⟨xs, c, hb⟩, w, l⟩ ?_ rfl⟩, ?_⟩
  · exact ⟨⟨AV.sub_same _, AV.sub_same _, AV.sub_same _, AV.sub_same _, AV.sub_lit', trivial⟩, ⟨.same _, .same _, .same _, trivial⟩, rfl, tl_ok rfl, ⟨.inr rfl, .inr rfl, .inr rfl, trivial⟩, ⟨Nat.le_of_ble_eq_true rfl, rfl⟩⟩
  rintro _ rfl x ⟨R, hg, hl⟩ q
  have hr : x.s.room := by unfold MC.room; omega
  have hx : x.r.l = x.s.log := R.l
  have tk : ∀ {α : Type} (l : List α), List.take l.length (List.drop 0 l) = l := fun l => by simp
  have hll : x.r.l.length = x.s.log.length := by rw [hx]
  refine ⟨hr, fun sp => ⟨by omega, by omega, by rw [tk]; omega, l42_ok, ⟨⟨true, xs, x.s, x.r, q, x.s.log.length, sp, by omega⟩, x.s.log, rfl⟩, [(10, 10)], ⟨Nat.le_refl _, ?_⟩, fun y hy => ⟨fun _ => ⟨hr, fun sp2 => ⟨by omega, by omega, (by rw [tk]; show x.s.log.length ≤ _; omega), fun _ => ⟨by show x.s.locks.length ≤ _; omega, fun sp3 => ⟨⟨⟨rfl, rfl⟩, ⟨rfl, rfl⟩, ⟨rfl, rfl⟩, rfl, rfl⟩, ⟨?_, (R.room hr).2⟩, fun sp4 => ⟨by omega, by omega, ?_, ?_⟩⟩⟩, fun h => ?_⟩⟩, fun h => ?_⟩⟩⟩
  · have ok : AV.sub (.bool (decide (List.take x.s.log.length (List.drop 0 x.s.log) = List.take x.r.l.length (List.drop 0 x.r.l)))) (.bool true) := AV.sub_bool (decide_eq_true (by rw [tk, tk, hx]))
    exact ⟨⟨AV.sub_same _, AV.sub_same _, AV.sub_same _, AV.sub_same _, ok, AV.sub_lit', trivial⟩, ⟨.same _, .same _, .same _, .same _, .same _, .same _, .same _, .same _, trivial⟩, rfl, tl_ok rfl, ⟨.inr rfl, .inr rfl, .inr rfl, .inr rfl, .inr rfl, .inr rfl, .inr rfl, .inr rfl, trivial⟩, ⟨Nat.le_of_ble_eq_true rfl, rfl⟩⟩
  · show x.r.h.length ≤ _
    rw [R.h, List.length_map]; omega
  · rw [tk]
    have := heldTo_len x.s 1 x.s.locks.length
    exact Nat.le_trans this (by show x.s.locks.length ≤ _; omega)
  · intro r z hz
    have e : MR.held ⟨x.r.w, x.r.h, x.r.t, x.r.l⟩ 1 = x.s.held 1 := R.heldAlike 1
    rw [tk, tk] at hz
    exact hz.trans (congrArg Value.bool (decide_eq_true e.symm))
  · exfalso
    rw [tk, tk] at h
    exact absurd hx.symm (of_decide_eq_false h)
  · cases h

end Sx
end Go.Proofs.Ytjackepkphdibaa
