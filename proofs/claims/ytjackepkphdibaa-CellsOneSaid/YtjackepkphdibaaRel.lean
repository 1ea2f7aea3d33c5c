/-
  The words and locks of the program and those of the document, step by step alike.
-/
import Derived.Test.YtjackepkphdibaaRef2
namespace Go.Proofs.Ytjackepkphdibaa
namespace Sx
open Go

structure Rel (s : MC) (r : MR) : Prop where
  w : r.w = s.words
  h : r.h = s.locks.map Holder.held
  n : r.t.length = s.locks.length
  t : ∀ i, i < s.locks.length → (s.locks.getD i ⟨0, false⟩).held = true → r.t.getD i 0 = (s.locks.getD i ⟨0, false⟩).thread
  l : r.l = s.log

theorem Rel.word {s : MC} {r : MR} (R : Rel s r) (k : Int) : r.isWord k ↔ ¬ s.noWord k := by
  unfold MR.isWord MC.noWord; rw [R.w]; omega
theorem Rel.lock {s : MC} {r : MR} (R : Rel s r) (k : Int) : r.isLock k ↔ ¬ s.noLock k := by
  unfold MR.isLock MC.noLock; rw [R.h, List.length_map]; omega
theorem Rel.wordEq {s : MC} {r : MR} (R : Rel s r) (k : Int) : r.word k = s.word k := by unfold MR.word MC.word; rw [R.w]
theorem Rel.heldEq {s : MC} {r : MR} (R : Rel s r) (k : Int) : r.isHeld k = (s.lock k).held := by
  unfold MR.isHeld MC.lock
  rw [R.h, List.getD_eq_getElem?_getD, List.getD_eq_getElem?_getD, List.getElem?_map]
  cases s.locks[k.toNat]? <;> rfl
theorem Rel.whoEq {s : MC} {r : MR} (R : Rel s r) {k : Int} (hk : ¬ s.noLock k) (hh : (s.lock k).held = true) : r.who k = (s.lock k).thread :=
  R.t _ (by unfold MC.noLock at hk; omega) hh

theorem Rel.note {s : MC} {r : MR} (R : Rel s r) (t d c b a : Int) : Rel (s.note t d c b a) (r.note t d c b a) := ⟨R.w, R.h, R.n, R.t, by show r.l ++ _ = s.log ++ _; rw [R.l]⟩
theorem Rel.setWord {s : MC} {r : MR} (R : Rel s r) (k : Nat) (v : Int) : Rel { s with words := s.words.set k v } { r with w := r.w.set k v } := ⟨by show r.w.set k v = s.words.set k v; rw [R.w], R.h, R.n, R.t, R.l⟩
theorem Rel.setLock {s : MC} {r : MR} (R : Rel s r) (k : Nat) (t : Int) : Rel { s with locks := s.locks.set k ⟨t, true⟩ } { r with h := r.h.set k true, t := r.t.set k t } := by
  refine ⟨R.w, ?_, by simpa using R.n, fun i hi hh => ?_, R.l⟩
  · show r.h.set k true = (s.locks.set k ⟨t, true⟩).map Holder.held
    rw [R.h, List.map_set]
  · have hi' : i < s.locks.length := by simpa using hi
    change ((s.locks.set k ⟨t, true⟩).getD i ⟨0, false⟩).held = true at hh
    show (r.t.set k t).getD i 0 = ((s.locks.set k ⟨t, true⟩).getD i ⟨0, false⟩).thread
    have hn := R.n
    rw [List.getD_eq_getElem?_getD, List.getElem?_set] at hh ⊢
    rw [List.getD_eq_getElem?_getD, List.getElem?_set]
    by_cases e : k = i
    · subst e; simp [hi', hn]
    · simp only [e, if_false] at hh ⊢
      have := R.t i hi' (by rw [List.getD_eq_getElem?_getD]; exact hh)
      rw [List.getD_eq_getElem?_getD, List.getD_eq_getElem?_getD] at this
      exact this
theorem Rel.freeLock {s : MC} {r : MR} (R : Rel s r) (k : Nat) : Rel { s with locks := s.locks.set k ⟨0, false⟩ } { r with h := r.h.set k false } := by
  refine ⟨R.w, ?_, by simpa using R.n, fun i hi hh => ?_, R.l⟩
  · show r.h.set k false = (s.locks.set k ⟨0, false⟩).map Holder.held
    rw [R.h, List.map_set]
  · have hi' : i < s.locks.length := by simpa using hi
    change ((s.locks.set k ⟨0, false⟩).getD i ⟨0, false⟩).held = true at hh
    show r.t.getD i 0 = ((s.locks.set k ⟨0, false⟩).getD i ⟨0, false⟩).thread
    rw [List.getD_eq_getElem?_getD, List.getElem?_set] at hh
    have e2 : (s.locks.set k ⟨0, false⟩).getD i ⟨0, false⟩ = ((s.locks.set k ⟨0, false⟩)[i]?).getD ⟨0, false⟩ := List.getD_eq_getElem?_getD
    have e3 : s.locks.getD i ⟨0, false⟩ = (s.locks[i]?).getD ⟨0, false⟩ := List.getD_eq_getElem?_getD
    rw [e2, List.getElem?_set]
    by_cases e : k = i
    · subst e; simp [hi'] at hh
    · simp only [e, if_false] at hh ⊢
      have := R.t i hi' (by rw [List.getD_eq_getElem?_getD]; exact hh)
      rw [e3] at this
      exact this

theorem Rel.load {s : MC} {r : MR} (R : Rel s r) (t k : Int) : (s.load t k).1 = (r.load t k).1 ∧ (s.load t k).2.1 = (r.load t k).2.1 ∧ Rel (s.load t k).2.2 (r.load t k).2.2 := by
  unfold MC.load MR.load
  by_cases h : s.noWord k
  · rw [if_pos h, if_neg (fun hh => (R.word k).1 hh h)]; exact ⟨rfl, rfl, R⟩
  · rw [if_neg h, if_pos ((R.word k).2 h), R.wordEq]; exact ⟨rfl, rfl, R.note ..⟩
theorem Rel.store {s : MC} {r : MR} (R : Rel s r) (t k v : Int) : (s.store t k v).1 = (r.store t k v).1 ∧ Rel (s.store t k v).2 (r.store t k v).2 := by
  unfold MC.store MR.store
  by_cases h : s.noWord k
  · rw [if_pos h, if_neg (fun hh => (R.word k).1 hh h)]; exact ⟨rfl, R⟩
  · rw [if_neg h, if_pos ((R.word k).2 h), R.wordEq]; exact ⟨rfl, (R.note ..).setWord ..⟩
theorem Rel.swap {s : MC} {r : MR} (R : Rel s r) (t k o v : Int) : (s.swap t k o v).1 = (r.swap t k o v).1 ∧ (s.swap t k o v).2.1 = (r.swap t k o v).2.1 ∧ Rel (s.swap t k o v).2.2 (r.swap t k o v).2.2 := by
  unfold MC.swap MR.swap
  by_cases h : s.noWord k
  · rw [if_pos h, if_neg (fun hh => (R.word k).1 hh h)]; exact ⟨rfl, rfl, R⟩
  · rw [if_neg h, if_pos ((R.word k).2 h), R.wordEq]
    by_cases h2 : s.word k = o
    · rw [if_pos h2, if_pos h2]; exact ⟨rfl, rfl, (R.note ..).setWord ..⟩
    · rw [if_neg h2, if_neg h2]; exact ⟨rfl, rfl, R.note ..⟩
theorem Rel.take {s : MC} {r : MR} (R : Rel s r) (t k d : Int) : (s.take t k d).1 = (r.take t k d).1 ∧ (s.take t k d).2.1 = (r.take t k d).2.1 ∧ Rel (s.take t k d).2.2 (r.take t k d).2.2 := by
  unfold MC.take MR.take
  by_cases h : s.noLock k
  · rw [if_pos h, if_neg (fun hh => (R.lock k).1 hh h)]; exact ⟨rfl, rfl, R⟩
  · rw [if_neg h, if_pos ((R.lock k).2 h), R.heldEq]
    by_cases h2 : (s.lock k).held = true
    · rw [R.whoEq h h2]
      by_cases h3 : (s.lock k).thread = t
      · rw [if_pos ⟨h3, h2⟩, if_pos h2, if_pos h3]; exact ⟨rfl, rfl, R⟩
      · rw [if_neg (fun hh => h3 hh.1), if_pos h2, if_pos h2, if_neg h3]
        by_cases h4 : d = 4
        · rw [if_pos h4, if_pos h4]; exact ⟨rfl, rfl, R⟩
        · rw [if_neg h4, if_neg h4]; exact ⟨rfl, rfl, R.note ..⟩
    · rw [if_neg (fun hh => h2 hh.2), if_neg h2, if_neg h2]; exact ⟨rfl, rfl, (R.note ..).setLock ..⟩
theorem Rel.unlock {s : MC} {r : MR} (R : Rel s r) (t k : Int) : (s.unlock t k).1 = (r.unlock t k).1 ∧ Rel (s.unlock t k).2 (r.unlock t k).2 := by
  unfold MC.unlock MR.unlock
  by_cases h : s.noLock k
  · rw [if_pos h, if_neg (fun hh => (R.lock k).1 hh h)]; exact ⟨rfl, R⟩
  · rw [if_neg h, if_pos ((R.lock k).2 h), R.heldEq]
    by_cases h2 : (s.lock k).held = true
    · rw [if_pos h2, R.whoEq h h2]
      by_cases h3 : (s.lock k).thread = t
      · rw [if_pos ⟨h3, h2⟩, if_pos h3]; exact ⟨rfl, (R.note ..).freeLock ..⟩
      · rw [if_neg (fun hh => h3 hh.1), if_neg h3]; exact ⟨rfl, R⟩
    · rw [if_neg (fun hh => h2 hh.2), if_neg h2]; exact ⟨rfl, R⟩
theorem Rel.holder {s : MC} {r : MR} (R : Rel s r) (k : Int) : s.holder k = r.holder k := by
  unfold MC.holder MR.holder
  by_cases h : s.noLock k
  · rw [if_pos h, if_neg (fun hh => (R.lock k).1 hh h)]
  · rw [if_neg h, if_pos ((R.lock k).2 h), R.heldEq]
    by_cases h2 : (s.lock k).held = true
    · rw [if_pos h2, if_pos h2, R.whoEq h h2]
    · rw [if_neg h2, if_neg h2]

theorem Rel.mk0 (w l : Int) : Rel (MC.mk0 w l) (MR.mk0 w l) := by
  have e : ∀ n, MR.many n = MC.many n := fun n => by
    unfold MR.many MC.many MR.cap4 MC.cap4
    have e : (if 0 > n then 0 else n) = (if n > 0 then n else 0) := by split <;> split <;> omega
    rw [e]
  refine ⟨by simp [MC.mk0, MR.mk0, e], by simp [MC.mk0, MR.mk0, e], by simp [MC.mk0, MR.mk0, e], fun i hi hh => ?_, rfl⟩
  have hl : (MC.mk0 w l).locks.getD i ⟨0, false⟩ = ⟨0, false⟩ := by
    show (List.replicate (MC.many l) (⟨0, false⟩ : Holder)).getD i ⟨0, false⟩ = _
    rw [List.getD_eq_getElem?_getD, List.getElem?_replicate]; split <;> rfl
  rw [hl] at hh; cases hh

/-- A step adds one deed at most. -/
theorem len_load (s : MC) (t k : Int) : (s.load t k).2.2.log.length ≤ s.log.length + 1 := by unfold MC.load; split <;> simp [MC.note]
theorem len_store (s : MC) (t k v : Int) : (s.store t k v).2.log.length ≤ s.log.length + 1 := by unfold MC.store; split <;> simp [MC.note]
theorem len_swap (s : MC) (t k o v : Int) : (s.swap t k o v).2.2.log.length ≤ s.log.length + 1 := by
  unfold MC.swap; split
  · simp
  · split <;> simp [MC.note]
theorem len_take (s : MC) (t k d : Int) : (s.take t k d).2.2.log.length ≤ s.log.length + 1 := by
  unfold MC.take; split
  · simp
  · split
    · simp
    · split
      · split <;> simp [MC.note]
      · simp [MC.note]
theorem len_unlock (s : MC) (t k : Int) : (s.unlock t k).2.log.length ≤ s.log.length + 1 := by
  unfold MC.unlock; split
  · simp
  · split <;> simp [MC.note]

end Sx
end Go.Proofs.Ytjackepkphdibaa
