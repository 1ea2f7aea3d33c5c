/-
  The small case comes out right; what is no cell and no lock tells so.
-/
import Derived.Test.YtjackepkphdibaaTrees3
import Derived.Test.YtjackepkphdibaaSxV
namespace Go.Proofs.Ytjackepkphdibaa
namespace Sx
open Go
set_option linter.unusedSimpArgs false
set_option linter.unusedVariables false

theorem cfg2_hooks : ∀ g H, hooks2 g = some H → HookOk Try.prog g H := by
  intro g H h
  unfold hooks2 at h
  split at h <;> cases h
  · exact hNew
  · exact hLoad
  · exact hStore
  · exact hSwap
  · exact hLock
  · exact hTry
  · exact hUnlock
  · exact hHolder
  · exact hLog
  · exact hHeld
  · exact hInts
theorem cfg2_ok : cfg2.ok := ⟨tab_met, kinds_met, mixed_met, fun g fn h => (by cases h), cfg2_hooks⟩

theorem room_of {s : MC} (h : Nat.ble s.log.length 1000000 = true) : s.room := by
  have := Nat.le_of_ble_eq_true h
  unfold MC.room; omega

theorem hSmall : HookOk Try.prog 8 (hookFree [] runSmall) := by
  refine free_hook (C := cfg2) cfg2_ok (n := 60) (fn := Try.f8) ⟨by kernel_rfl, by kernel_rfl⟩ (by kernel_rfl) ?_
  intro M ar K0 H
  unfold runSmall at H
  split at H
  · refine ⟨Nat.zero_le _, ?_⟩
    show (runF cfg2 60 8 Try.f8 [] [] 0).holds _
    rw [t8]
    have no : ∀ {p : Prop} {b : Bool}, b = true → b = false → p := fun h k => absurd (h.symm.trans k) (by decide)
    refine ⟨room_of (by decide +kernel), room_of (by decide +kernel), room_of (by decide +kernel), room_of (by decide +kernel), room_of (by decide +kernel), room_of (by decide +kernel), room_of (by decide +kernel),
      fun _ => ⟨fun _ => ⟨fun _ => ⟨fun _ => ⟨fun _ => ⟨fun _ => ⟨fun _ => ⟨fun _ => ⟨fun _ => ⟨room_of (by decide +kernel), fun y => ⟨fun _ => ⟨by decide, fun y1 => ⟨by decide, by decide, fun _ => ?_, fun h => ?_⟩⟩, fun h => ?_⟩⟩, fun h => ?_⟩, fun h => ?_⟩, fun h => ?_⟩, fun h => ?_⟩, fun h => ?_⟩, fun h => ?_⟩, fun h => ?_⟩, fun h => ?_⟩, fun h => ?_⟩
    · exact ⟨_, _, H, endPlain (fun r v h => h) rfl⟩
    all_goals exact no (by decide +kernel) h
  · exact H.elim

theorem hooks3_ok : ∀ g H, hooks3 g = some H → HookOk Try.prog g H := by
  intro g H h
  unfold hooks3 at h
  split at h
  · cases h; exact hSmall
  · exact cfg2_hooks _ H h
theorem cfg3_ok : cfg3.ok := ⟨tab_met, kinds_met, mixed_met, fun g fn h => (by cases h), hooks3_ok⟩

theorem calls_runL {C : Cfg Try.prog V} (hC : C.ok) {n g : Nat} {fn : Func} (hg : Try.prog.funcs[g]? = some fn ∧ (fn.name == "runtime.NumGoroutine") = false) (hb : fn.body.isSome = true) {args : List AV} (hl : args.length ≤ fn.ntmps) {h : Heap V} {nx : Nat}
    (H : (runL C n g fn args h nx).holds ⟨fun _ _ => False, fun v _ _ => v.sub .tt⟩) : CallsSx Try.prog g args h nx (fun v _ _ _ => v.sub .tt) := by
  unfold runL at H
  cases hbd : fn.body with
  | none => rw [hbd] at hb; cases hb
  | some body =>
    rw [hbd] at H
    exact calls_of_run hC (n := n) (M := ⟨fun _ _ => False, fun v _ _ => v.sub .tt⟩) (R := fun v _ _ _ => v.sub .tt) (k := fun v h' nx' _ => .fin v [] 0) hg.1 hg.2 hbd hl (fun _ _ _ _ hh => hh) H

theorem room_len {s : MC} {n : Nat} (h : s.log.length = n) (hn : n ≤ 1000000) : s.room := by unfold MC.room; omega

theorem ends_words (s : MC) (t k : Int) (n : Nat) (hs : s.words = List.replicate n 0) (hg : s.log = []) (iw : Bool) (hiw : iw = decide (0 ≤ k ∧ k < n)) (a : Int) (ha : a = if iw then 0 else 1) :
    ∃ s1 s2 s3 : MC, s.load t k = (0, a, s1) ∧ s1.store t k 5 = (a, s2) ∧ s2.swap t k 5 6 = (iw, a, s3) ∧ s1.room ∧ s2.room ∧ s3.room ∧ s3.locks = s.locks ∧ s3.log.length = if iw then 3 else 0 := by
  by_cases h : 0 ≤ k ∧ k < n
  · have e : iw = true := by rw [hiw]; exact decide_eq_true h
    subst e
    have hn : ∀ s' : MC, s'.words.length = n → ¬ s'.noWord k := fun s' h' hh => by unfold MC.noWord at hh; omega
    have hk : k.toNat < n := by omega
    have hl : s.words.length = n := by rw [hs]; simp
    have w0 : s.word k = 0 := by unfold MC.word; rw [hs, List.getD_eq_getElem?_getD, List.getElem?_replicate, if_pos hk]; rfl
    refine ⟨s.note t 1 k 0 0, { (s.note t 1 k 0 0).note t 2 k 0 5 with words := s.words.set k.toNat 5 }, { ({ (s.note t 1 k 0 0).note t 2 k 0 5 with words := s.words.set k.toNat 5 } : MC).note t 3 k 5 6 with words := (s.words.set k.toNat 5).set k.toNat 6 }, ?_, ?_, ?_, ?_, ?_, ?_, rfl, ?_⟩
    · rw [show s.load t k = _ from if_neg (hn s hl), w0, ha]; rfl
    · have w1 : (s.note t 1 k 0 0).word k = 0 := w0
      rw [show (s.note t 1 k 0 0).store t k 5 = _ from if_neg (hn _ hl), w1, ha]; rfl
    · have w2 : ({ (s.note t 1 k 0 0).note t 2 k 0 5 with words := s.words.set k.toNat 5 } : MC).word k = 5 := by
        show (s.words.set k.toNat 5).getD k.toNat 0 = 5
        rw [List.getD_eq_getElem?_getD, List.getElem?_set_self (by omega)]; rfl
      rw [show MC.swap _ t k 5 6 = _ from (if_neg (hn _ (by simp [hl]))).trans (if_pos w2), ha]; rfl
    · exact room_len (n := 1) (by simp [MC.note, hg]) (by decide)
    · exact room_len (n := 2) (by simp [MC.note, hg]) (by decide)
    · exact room_len (n := 3) (by simp [MC.note, hg]) (by decide)
    · simp [MC.note, hg]
  · have e : iw = false := by rw [hiw]; exact decide_eq_false h
    subst e
    have hl : s.words.length = n := by rw [hs]; simp
    have hn : s.noWord k := by unfold MC.noWord; omega
    have r : s.room := room_len (n := 0) (by simp [hg]) (by decide)
    refine ⟨s, s, s, ?_, ?_, ?_, r, r, r, rfl, by simp [hg]⟩
    · rw [show s.load t k = _ from if_pos hn, ha]; rfl
    · rw [show s.store t k 5 = _ from if_pos hn, ha]; rfl
    · rw [show s.swap t k 5 6 = _ from if_pos hn, ha]; rfl

theorem ends_locks (s : MC) (t k : Int) (n g : Nat) (hs : s.locks = List.replicate n ⟨0, false⟩) (hg : s.log.length = g) (hgb : g ≤ 1000) (il : Bool) (hil : il = decide (0 ≤ k ∧ k < n)) (b c d : Int) (hb : b = if il then 0 else 1) (hc : c = if il then 5 else 1) (hd : d = if il then t else -1) :
    ∃ s4 s5 : MC, s.take t k 4 = (il, b, s4) ∧ s4.take t k 5 = (false, c, s4) ∧ s4.holder k = d ∧ s4.unlock t k = (b, s5) ∧ s4.room ∧ s5.room ∧ s5.log.length = g + (if il then 2 else 0) ∧ s5.locks = List.replicate n ⟨0, false⟩ := by
  by_cases h : 0 ≤ k ∧ k < n
  · have e : il = true := by rw [hil]; exact decide_eq_true h
    subst e
    have hn : ∀ s' : MC, s'.locks.length = n → ¬ s'.noLock k := fun s' h' hh => by unfold MC.noLock at hh; omega
    have hk : k.toNat < n := by omega
    have hl : s.locks.length = n := by rw [hs]; simp
    have w0 : s.lock k = ⟨0, false⟩ := by unfold MC.lock; rw [hs, List.getD_eq_getElem?_getD, List.getElem?_replicate, if_pos hk]; rfl
    have w1 : ({ s.note t 4 k 0 1 with locks := s.locks.set k.toNat ⟨t, true⟩ } : MC).lock k = ⟨t, true⟩ := by
      show (s.locks.set k.toNat ⟨t, true⟩).getD k.toNat ⟨0, false⟩ = ⟨t, true⟩
      rw [List.getD_eq_getElem?_getD, List.getElem?_set_self (by omega)]; rfl
    refine ⟨{ s.note t 4 k 0 1 with locks := s.locks.set k.toNat ⟨t, true⟩ }, { ({ s.note t 4 k 0 1 with locks := s.locks.set k.toNat ⟨t, true⟩ } : MC).note t 6 k 1 0 with locks := (s.locks.set k.toNat ⟨t, true⟩).set k.toNat ⟨0, false⟩ }, ?_, ?_, ?_, ?_, ?_, ?_, ?_, ?_⟩
    · rw [show s.take t k 4 = _ from (if_neg (hn s hl)).trans ((if_neg (by rw [w0]; simp)).trans (if_neg (by rw [w0]; simp))), hb]; rfl
    · rw [show MC.take _ t k 5 = _ from (if_neg (hn _ (by simp [hl]))).trans (if_pos (by rw [w1]; simp)), hc]; rfl
    · rw [show MC.holder _ k = _ from (if_neg (hn _ (by simp [hl]))).trans (if_pos (by rw [w1])), w1, hd]; rfl
    · rw [show MC.unlock _ t k = _ from (if_neg (hn _ (by simp [hl]))).trans (if_pos (by rw [w1]; simp)), hb]; rfl
    · exact room_len (n := g + 1) (by simp [MC.note, hg]) (by omega)
    · exact room_len (n := g + 2) (by simp [MC.note, hg]) (by omega)
    · simp [MC.note, hg]
    · show (s.locks.set k.toNat ⟨t, true⟩).set k.toNat ⟨0, false⟩ = _
      rw [List.set_set, hs]
      apply List.ext_getElem?
      intro i
      rw [List.getElem?_set]
      split
      · rename_i hi; subst hi; rw [List.getElem?_replicate]; simp
      · rfl
  · have e : il = false := by rw [hil]; exact decide_eq_false h
    subst e
    have hl : s.locks.length = n := by rw [hs]; simp
    have hn : s.noLock k := by unfold MC.noLock; omega
    have r : s.room := room_len hg (by omega)
    refine ⟨s, s, ?_, ?_, ?_, ?_, r, r, by simp [hg], hs⟩
    · rw [show s.take t k 4 = _ from if_pos hn, hb]; rfl
    · rw [show s.take t k 5 = _ from if_pos hn, hc]; rfl
    · rw [show s.holder k = _ from if_pos hn, hd]; rfl
    · rw [show s.unlock t k = _ from if_pos hn, hb]; rfl

theorem ends_law (w l t k : Int) : CallsSx Try.prog 7 [.int .i64 w, .int .i64 l, .int .i64 t, .int .i64 k] ([] : Heap V) 0 (fun v _ _ _ => v.sub .tt) := by
  refine calls_runL (args := [.int .i64 w, .int .i64 l, .int .i64 t, .int .i64 k]) cfg3_ok (n := 60) (fn := Try.f7) ⟨by kernel_rfl, by kernel_rfl⟩ (by kernel_rfl) (show 4 ≤ _ by decide +kernel) ?_
  rw [t7]
  have tt : (AV.tt).sub .tt := AV.sub_same _
  refine ⟨fun _ => tt, fun h1 => ⟨fun _ => tt, fun h2 => ⟨fun _ => tt, fun h3 => ⟨fun _ => tt, fun h4 => ?_⟩⟩⟩⟩
  simp only [decide_eq_false_iff_not] at h1 h2 h3 h4
  have cw : MC.many w = w.toNat := by unfold MC.many MC.cap4; split <;> first | omega | (split <;> omega)
  have cl : MC.many l = l.toNat := by unfold MC.many MC.cap4; split <;> first | omega | (split <;> omega)
  have r0 : (MC.mk0 w l).room := by simp [MC.room, MC.mk0]
  obtain ⟨s1, s2, s3, e1, e2, e3, r1, r2, r3, hl3, hg3⟩ := ends_words (MC.mk0 w l) t k w.toNat (by rw [← cw]; rfl) rfl _ rfl _ rfl
  obtain ⟨s4, s5, e4, e5, e6, e7, r4, r5, hg5, hl5⟩ := ends_locks s3 t k l.toNat _ (by rw [hl3, ← cl]; rfl) hg3 (by split <;> omega) _ rfl _ _ _ rfl rfl rfl
  have held0 : (s5.held t).length = 0 := by
    unfold MC.held heldTo
    rw [List.length_map, List.length_eq_zero_iff, List.filter_eq_nil_iff]
    intro i hi
    rw [hl5, List.getElem?_replicate]
    simp
  have hlen5 : s5.locks.length ≤ 1099511627776 := by rw [hl5, List.length_replicate]; omega
  simp only [e1, e2, e3, e4, e5, e6, e7, Out.holds, r0, r1, r2, r3, r4, r5, hlen5, true_and, held0, hg5]
  have aw : (0 ≤ k ∧ k < ((w.toNat : Nat) : Int)) ↔ (0 ≤ k ∧ k < w) := by omega
  have al : (0 ≤ k ∧ k < ((l.toNat : Nat) : Int)) ↔ (0 ≤ k ∧ k < l) := by omega
  simp only [aw, al]
  by_cases hk : 0 ≤ k <;> by_cases hw : k < w <;> by_cases hl : k < l <;> simp [hk, hw, hl, AV.sub_tt'] <;> exact fun _ _ h => h

end Sx
end Go.Proofs.Ytjackepkphdibaa
