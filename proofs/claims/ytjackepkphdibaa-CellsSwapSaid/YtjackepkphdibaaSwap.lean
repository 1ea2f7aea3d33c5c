/-
  Of many that swap the first alone gets through, and each lock is counted once.
-/
import Derived.Test.YtjackepkphdibaaTrees4
namespace Go.Proofs.Ytjackepkphdibaa
namespace Sx
open Go
set_option linter.unusedSimpArgs false
set_option linter.unusedVariables false

structure SwapFacts (xs : List Int) (v : Int) (i : Nat) : Prop where
  words : (swapTo xs v i).words = [if i = 0 then 0 else v]
  locks : (swapTo xs v i).locks = (xs.take i).map (fun x => ⟨x, true⟩) ++ List.replicate (60 - i) ⟨0, false⟩
  log : (swapTo xs v i).log.length = 2 * i

theorem swap_step {xs : List Int} {v : Int} (hv : v ≠ 0) (hb : xs.length ≤ 50) {i : Nat} (hi : i < xs.length) (F : SwapFacts xs v i) :
    ((swapTo xs v i).swap (xs.getD i 0) 0 0 v).1 = decide (i = 0) ∧ ((swapTo xs v i).swap (xs.getD i 0) 0 0 v).2.1 = 0 ∧ ((swapTo xs v i).swap (xs.getD i 0) 0 0 v).2.2.room ∧
    (((swapTo xs v i).swap (xs.getD i 0) 0 0 v).2.2.take (xs.getD i 0) i 4).2.1 = 0 ∧ SwapFacts xs v (i + 1) := by
  have hx : xs.getD i 0 = xs[i] := by rw [List.getD_eq_getElem?_getD, List.getElem?_eq_getElem hi]; rfl
  have hlen : (swapTo xs v i).locks.length = 60 := by rw [F.locks]; simp; omega
  have hw : ¬ (swapTo xs v i).noWord 0 := by unfold MC.noWord; rw [F.words]; simp
  have hl : (swapTo xs v i).lock i = ⟨0, false⟩ := by
    unfold MC.lock
    rw [F.locks, List.getD_eq_getElem?_getD, List.getElem?_append_right (by simp; omega), List.getElem?_replicate, if_pos (by simp; omega)]; rfl
  have hword : (swapTo xs v i).word 0 = if i = 0 then 0 else v := by unfold MC.word; rw [F.words]; rfl
  have hset : (swapTo xs v i).locks.set i ⟨xs[i], true⟩ = (xs.take (i + 1)).map (fun x => ⟨x, true⟩) ++ List.replicate (60 - (i + 1)) ⟨0, false⟩ := by
    rw [F.locks, List.take_succ_eq_append_getElem hi, List.map_append, List.set_append_right _ _ (by simp; omega)]
    have e : i - (List.map (fun x => (⟨x, true⟩ : Holder)) (List.take i xs)).length = 0 := by simp; omega
    rw [e, show 60 - i = (60 - (i + 1)) + 1 by omega, List.replicate_succ]
    simp
  -- the state behind the swap, whichever way it goes
  have key : ∀ (b : Bool) (s1 : MC), (swapTo xs v i).swap (xs.getD i 0) 0 0 v = (b, 0, s1) → b = decide (i = 0) → s1.words = [v] → s1.locks = (swapTo xs v i).locks → s1.log.length = 2 * i + 1 →
      ((swapTo xs v i).swap (xs.getD i 0) 0 0 v).1 = decide (i = 0) ∧ ((swapTo xs v i).swap (xs.getD i 0) 0 0 v).2.1 = 0 ∧ ((swapTo xs v i).swap (xs.getD i 0) 0 0 v).2.2.room ∧
      (((swapTo xs v i).swap (xs.getD i 0) 0 0 v).2.2.take (xs.getD i 0) i 4).2.1 = 0 ∧ SwapFacts xs v (i + 1) := by
    intro b s1 e hb' h1 h2 h3
    have hn : ¬ s1.noLock i := by unfold MC.noLock; rw [h2, hlen]; omega
    have hl1 : s1.lock i = ⟨0, false⟩ := by unfold MC.lock at hl ⊢; rw [h2]; exact hl
    have et : s1.take (xs.getD i 0) i 4 = (true, 0, { s1.note (xs.getD i 0) 4 i 0 1 with locks := s1.locks.set (i : Int).toNat ⟨xs.getD i 0, true⟩ }) :=
      (if_neg hn).trans ((if_neg (by rw [hl1]; simp)).trans (if_neg (by rw [hl1]; simp)))
    have es : swapTo xs v (i + 1) = { s1.note (xs.getD i 0) 4 i 0 1 with locks := s1.locks.set i ⟨xs[i], true⟩ } := by
      show (((swapTo xs v i).swap (xs.getD i 0) 0 0 v).2.2.take (xs.getD i 0) i 4).2.2 = _
      rw [e, et, hx]; rfl
    rw [e]
    refine ⟨hb', rfl, room_len h3 (by omega), by rw [et], ⟨?_, ?_, ?_⟩⟩
    · rw [es]; simpa [MC.note] using h1
    · rw [es]
      show s1.locks.set i _ = _
      rw [h2, hset]
    · rw [es]; simp [MC.note, h3]; omega
  by_cases h0 : i = 0
  · subst h0
    refine key true _ ((if_neg hw).trans (if_pos (by rw [hword]; rfl))) rfl ?_ rfl ?_
    · show (swapTo xs v 0).words.set (0 : Int).toNat v = [v]
      rw [F.words]; rfl
    · show ((swapTo xs v 0).log ++ _).length = _
      simp [F.log]
  · refine key false _ ((if_neg hw).trans (if_neg (by rw [hword, if_neg h0]; exact hv))) (by simp [h0]) ?_ rfl ?_
    · show (swapTo xs v i).words = [v]
      rw [F.words, if_neg h0]
    · show ((swapTo xs v i).log ++ _).length = _
      simp [F.log]

theorem swap_facts {xs : List Int} {v : Int} (hv : v ≠ 0) (hb : xs.length ≤ 50) : ∀ {i : Nat}, i ≤ xs.length → SwapFacts xs v i
  | 0, _ => ⟨rfl, by simp [swapTo, MC.mk0]; rfl, rfl⟩
  | i + 1, h => (swap_step hv hb (by omega) (swap_facts hv hb (by omega))).2.2.2.2

theorem count_to (l : List Holder) (a : Holder) : ∀ n, n ≤ l.length → ((List.range n).filter (fun k => decide (l[k]? = some a))).length = (l.take n).countP (fun h => decide (h = a))
  | 0, _ => by simp
  | n + 1, h => by
    rw [List.range_succ, List.filter_append, List.length_append, count_to l a n (by omega), List.take_succ_eq_append_getElem (by omega), List.countP_append]
    congr 1
    by_cases e : l[n] = a <;> simp [e, List.getElem?_eq_getElem (show n < l.length by omega)]
theorem held_len (s : MC) (t : Int) : (s.held t).length = s.locks.countP (fun h => decide (h = ⟨t, true⟩)) := by
  unfold MC.held heldTo
  rw [List.length_map, count_to _ _ _ (Nat.le_refl _), List.take_length]

theorem held_swap {xs : List Int} {v : Int} (hv : v ≠ 0) (hb : xs.length ≤ 50) (t : Int) : ((swapTo xs v xs.length).held t).length = (xs.filter fun y => decide (y = t)).length := by
  rw [held_len, (swap_facts hv hb (Nat.le_refl _)).locks, List.countP_append, List.take_length, List.countP_map, List.countP_replicate]
  simp [List.countP_eq_length_filter, Function.comp_def]

theorem cnt_succ (xs : List Int) {i : Nat} (hi : i < xs.length) : cntTo xs (i + 1) = cntTo xs i + (if firstTo xs i i then (xs.filter fun y => decide (y = xs.getD i 0)).length else 0) := by
  have hx : xs.getD i 0 = xs[i] := by rw [List.getD_eq_getElem?_getD, List.getElem?_eq_getElem hi]; rfl
  have hf : firstTo xs i i = decide (xs[i] ∉ xs.take i) := by
    unfold firstTo; rw [hx]
    rw [Bool.eq_iff_iff]
    simp only [List.all_eq_true, bne_iff_ne, decide_eq_true_eq]
    exact ⟨fun h hm => h _ hm rfl, fun h y hy e => h (e ▸ hy)⟩
  unfold cntTo
  rw [hf, hx]
  generalize hT : xs.take i = T
  have hT' : xs.take (i + 1) = T ++ [xs[i]] := by rw [List.take_succ_eq_append_getElem hi, hT]
  rw [hT']
  generalize xs[i] = x
  clear hT hT' hf hx hi
  simp only [List.mem_append, List.mem_singleton]
  induction xs with
  | nil => simp
  | cons y ys ih =>
    by_cases h1 : x ∈ T
    · simp only [h1, not_true_eq_false, decide_false, Bool.false_eq_true, if_false, Nat.add_zero] at ih ⊢
      by_cases hy : y ∈ T
      · simp only [List.filter_cons, hy, true_or, decide_true, if_true, List.length_cons]; rw [ih]
      · have : y ≠ x := fun e => hy (e ▸ h1)
        simp only [List.filter_cons, hy, this, or_self, decide_false, Bool.false_eq_true, if_false]; rw [ih]
    · simp only [h1, not_false_eq_true, decide_true, if_true] at ih ⊢
      by_cases hy : y ∈ T
      · have : y ≠ x := fun e => h1 (e ▸ hy)
        simp only [List.filter_cons, hy, true_or, decide_true, if_true, this, decide_false, Bool.false_eq_true, if_false, List.length_cons]
        rw [ih]; omega
      · by_cases hxy : y = x
        · subst hxy
          simp only [List.filter_cons, hy, or_true, decide_true, if_true, decide_false, Bool.false_eq_true, if_false, List.length_cons]
          rw [ih]; omega
        · simp only [List.filter_cons, hy, hxy, or_self, decide_false, Bool.false_eq_true, if_false]
          rw [ih]

theorem cnt_end (xs : List Int) : cntTo xs xs.length = xs.length := by
  unfold cntTo
  rw [List.take_length]
  congr 1
  rw [List.filter_eq_self]
  intro a ha
  simpa using ha

theorem cfg4_ok : cfg4.ok := ⟨cfg3_ok.τ, cfg3_ok.κ, cfg3_ok.mixed, cfg3_ok.fns, cfg3_ok.hooks⟩
theorem cfg5_ok : cfg5.ok := ⟨cfg3_ok.τ, cfg3_ok.κ, cfg3_ok.mixed, cfg3_ok.fns, cfg3_ok.hooks⟩

theorem first_succ (xs : List Int) (i : Nat) {k : Nat} (hk : k < xs.length) : firstTo xs i (k + 1) = (firstTo xs i k && (xs.getD k 0 != xs.getD i 0)) := by
  unfold firstTo
  rw [List.take_succ_eq_append_getElem hk, List.all_append]
  congr 1
  have hx : xs.getD k 0 = xs[k] := by rw [List.getD_eq_getElem?_getD, List.getElem?_eq_getElem hk]; rfl
  rw [hx]
  simp

theorem l34_ok : LoopOk Try.prog 4 (loopOf Try.f3 4) L34 := by
  refine loopN_ok (C := cfg3) cfg3_ok (f := 3) (n := 40) 2 I34 (fun p k => k ≤ p.i) (fun _ => 0) (fun p k => p.i - k) (fun _ (_ : Unit) => True) (fun p _ => I34 p p.i) (fun p => Nat.zero_le _) ?_
  intro p k hk
  rw [b34]
  simp only [Out.holds, Nat.zero_add, decide_eq_true_eq, decide_eq_false_iff_not, Int.toNat_natCast]
  have hi := p.hi
  have hb := p.hb
  refine ⟨fun h => ⟨fun h2 => ⟨by omega, by omega, by omega, by omega, k + 1, [], ?_, by omega, by omega⟩, fun h2 => ⟨k + 1, [], ?_, by omega, by omega⟩⟩, fun h => ⟨trivial, (), [], ?_, trivial⟩⟩
  · have hf := first_succ p.xs p.i (k := k) (by omega)
    rw [h2, Bool.true_and] at hf
    exact ⟨⟨AV.sub_same _, AV.sub_same _, AV.sub_same _, AV.sub_same _, AV.sub_same _, AV.sub_bool hf.symm, AV.sub_int (wrap_nat (by omega)), trivial⟩, ⟨.same _, .same _, trivial⟩, rfl, tl_ok rfl, ⟨.inr rfl, .inr rfl, trivial⟩, ⟨Nat.le_of_ble_eq_true rfl, rfl⟩⟩
  · have hf := first_succ p.xs p.i (k := k) (by omega)
    rw [h2, Bool.false_and] at hf
    exact ⟨⟨AV.sub_same _, AV.sub_same _, AV.sub_same _, AV.sub_same _, AV.sub_same _, AV.sub_bool hf.symm, AV.sub_int (wrap_nat (by omega)), trivial⟩, ⟨.same _, .same _, trivial⟩, rfl, tl_ok rfl, ⟨.inr rfl, .inr rfl, trivial⟩, ⟨Nat.le_of_ble_eq_true rfl, rfl⟩⟩
  · have e : k = p.i := by omega
    subst e
    exact ⟨⟨AV.sub_same _, AV.sub_same _, AV.sub_same _, AV.sub_same _, AV.sub_same _, AV.sub_same _, AV.sub_same _, trivial⟩, ⟨.same _, .same _, trivial⟩, rfl, tl_ok rfl, ⟨.inr rfl, .inr rfl, trivial⟩, ⟨Nat.le_of_ble_eq_true rfl, rfl⟩⟩

theorem l30_ok : LoopOk Try.prog 0 (loopOf Try.f3 0) L30 := by
  refine loopN_ok (C := cfg3) cfg3_ok (f := 3) (n := 40) 2 I30 (fun p i => i ≤ p.xs.length) (fun _ => 0) (fun p i => p.xs.length - i) (fun _ (_ : Unit) => True) (fun p _ => I30 p p.xs.length) (fun p => Nat.zero_le _) ?_
  intro p i hi
  rw [b30]
  simp only [Out.holds, Nat.zero_add, decide_eq_true_eq, decide_eq_false_iff_not, Int.toNat_natCast]
  have hb := p.hb
  refine ⟨fun h => ?_, fun h => ⟨trivial, (), [], ?_, trivial⟩⟩
  · have F := swap_facts p.hv hb (i := i) hi
    obtain ⟨f1, f2, f3, f4, f5⟩ := swap_step p.hv hb (by omega) F
    have g1 : ((swapTo p.xs p.v i).swap (p.xs.getD i (V.enc Kd.int).dflt) 0 0 p.v).1 = decide (i = 0) := f1
    have g2 : ((swapTo p.xs p.v i).swap (p.xs.getD i (V.enc Kd.int).dflt) 0 0 p.v).2.1 = 0 := f2
    have g4 : (((swapTo p.xs p.v i).swap (p.xs.getD i (V.enc Kd.int).dflt) 0 0 p.v).2.2.take (p.xs.getD i (V.enc Kd.int).dflt) i 4).2.1 = 0 := f4
    refine ⟨by omega, by omega, room_len F.log (by omega), fun h2 => ?_, fun _ => ⟨fun h3 => ?_, fun _ => ⟨by omega, by omega, f3, fun h4 => ?_, fun _ => ⟨i + 1, [], ?_, by omega, by omega⟩⟩⟩⟩
    · rw [g1] at h2
      by_cases e : i = 0
      · subst e; simp at h2
      · simp [e] at h2
    · rw [g2] at h3; simp at h3
    · rw [g4] at h4; simp at h4
    · exact ⟨⟨AV.sub_same _, AV.sub_same _, AV.sub_same _, AV.sub_same _, AV.sub_int (wrap_nat (by omega)), trivial⟩, ⟨.same _, .same _, trivial⟩, rfl, tl_ok rfl, ⟨.inl (in_ok rfl), .inr rfl, trivial⟩, ⟨Nat.le_of_ble_eq_true rfl, rfl⟩⟩
  · have e : i = p.xs.length := by omega
    subst e
    exact ⟨⟨AV.sub_same _, AV.sub_same _, AV.sub_same _, AV.sub_same _, AV.sub_same _, trivial⟩, ⟨.same _, .same _, trivial⟩, rfl, tl_ok rfl, ⟨.inr rfl, .inr rfl, trivial⟩, ⟨Nat.le_of_ble_eq_true rfl, rfl⟩⟩

theorem wrap_small {n : Int} (h0 : 0 ≤ n) (h : n < 4611686018427387904) : IntKind.wrap .i64 n = n := by
  simp [IntKind.wrap, IntKind.bits, IntKind.signed]; omega

theorem l32_ok : LoopOk Try.prog 2 (loopOf Try.f3 2) L32 := by
  refine loopN_ok (C := cfg4) cfg4_ok (f := 3) (n := 40) 2 I32 (fun p i => i ≤ p.xs.length) (fun _ => 0) (fun p i => p.xs.length - i) (fun _ (_ : Unit) => True) (fun p _ => I32 p p.xs.length) (fun p => Nat.zero_le _) ?_
  intro p i hi
  rw [b32]
  simp only [Out.holds, Nat.zero_add, decide_eq_true_eq, decide_eq_false_iff_not, Int.toNat_natCast]
  have hb := p.hb
  refine ⟨fun h => ⟨l34_ok, ⟨p, i, by omega⟩, [], ⟨Nat.le_refl _, ?_⟩, fun _ _ => ⟨fun h2 => ⟨⟨by show (0 : Int) ≤ (i : Int); omega, by show (i : Int) < (p.xs.length : Int); omega⟩, by show i < p.xs.length; omega, ?_, fun y => ⟨i + 1, [], ?_, by omega, by omega⟩⟩, fun h2 => ⟨i + 1, [], ?_, by omega, by omega⟩⟩⟩, fun h => ⟨trivial, (), [], ?_, trivial⟩⟩
  · exact ⟨⟨AV.sub_same _, AV.sub_same _, AV.sub_same _, AV.sub_same _, AV.sub_same _, AV.sub_tt rfl, AV.sub_lit', trivial⟩, ⟨.same _, .same _, trivial⟩, rfl, tl_ok rfl, ⟨.inr rfl, .inr rfl, trivial⟩, ⟨Nat.le_of_ble_eq_true rfl, rfl⟩⟩
  · show (swapTo p.xs p.v p.xs.length).locks.length ≤ _
    rw [(swap_facts p.hv hb (Nat.le_refl _)).locks]; simp; omega
  · have hc := cnt_succ p.xs (i := i) (by omega)
    rw [if_pos h2] at hc
    have hh := held_swap p.hv hb (p.xs.getD i (V.enc Kd.int).dflt)
    have hle : cntTo p.xs i ≤ p.xs.length := List.length_filter_le _ _
    have hle2 : (p.xs.filter fun y => decide (y = p.xs.getD i 0)).length ≤ p.xs.length := List.length_filter_le _ _
    have hn : IntKind.wrap .i64 ((cntTo p.xs i : Int) + (((swapTo p.xs p.v p.xs.length).held (p.xs.getD i (V.enc Kd.int).dflt)).length : Int)) = (cntTo p.xs (i + 1) : Int) := by
      rw [hh]
      have e : (p.xs.filter fun y => decide (y = p.xs.getD i (V.enc Kd.int).dflt)).length = (p.xs.filter fun y => decide (y = p.xs.getD i 0)).length := rfl
      rw [e, hc, wrap_small (by omega) (by omega)]; omega
    exact ⟨⟨AV.sub_same _, AV.sub_same _, AV.sub_same _, AV.sub_int hn, AV.sub_int (wrap_nat (n := i) (by omega)), trivial⟩, ⟨.same _, .same _, trivial⟩, rfl, tl_ok rfl, ⟨.inl (in_ok rfl), .inr rfl, .inr rfl, trivial⟩, ⟨Nat.le_of_ble_eq_true rfl, rfl⟩⟩
  · have hc := cnt_succ p.xs (i := i) (by omega)
    rw [if_neg (by rw [show firstTo p.xs i i = false from h2]; decide), Nat.add_zero] at hc
    exact ⟨⟨AV.sub_same _, AV.sub_same _, AV.sub_same _, AV.sub_int (by show (cntTo p.xs i : Int) = (cntTo p.xs (i + 1) : Int); rw [hc]; rfl), AV.sub_int (wrap_nat (n := i) (by omega)), trivial⟩, ⟨.same _, .same _, trivial⟩, rfl, tl_ok rfl, ⟨.inr rfl, .inr rfl, trivial⟩, ⟨Nat.le_of_ble_eq_true rfl, rfl⟩⟩
  · have e : i = p.xs.length := by omega
    subst e
    exact ⟨⟨AV.sub_same _, AV.sub_same _, AV.sub_same _, AV.sub_same _, AV.sub_same _, trivial⟩, ⟨.same _, .same _, trivial⟩, rfl, tl_ok rfl, ⟨.inr rfl, .inr rfl, trivial⟩, ⟨Nat.le_of_ble_eq_true rfl, rfl⟩⟩

theorem swap_law (xs : List Int) (c : Nat) (v : Int) : CallsSx Try.prog 3 [.sl false 0 0 1 xs.length c, .int .i64 v] ([(0, .ro Kd.int xs)] : Heap V) 1 (fun v _ _ _ => v.sub .tt) := by
  refine calls_runL (args := [.sl false 0 0 1 xs.length c, .int .i64 v]) cfg5_ok (n := 60) (fn := Try.f3) ⟨by kernel_rfl, by kernel_rfl⟩ (by kernel_rfl) (show 2 ≤ _ by decide +kernel) ?_
  rw [t3]
  have tt : (AV.tt).sub .tt := AV.sub_same _
  refine ⟨fun _ => tt, fun h1 => ⟨fun _ => tt, fun h2 => ?_⟩⟩
  have hb : xs.length ≤ 50 := by have := of_decide_eq_false h1; omega
  have hv : v ≠ 0 := by simpa using h2
  refine ⟨l30_ok, ⟨xs, c, v, hv, hb⟩, [], ⟨Nat.le_refl _, ?_⟩, fun _ _ => ⟨l32_ok, ⟨xs, c, v, hv, hb⟩, [], ⟨Nat.le_refl _, ?_⟩, fun _ _ => ⟨fun _ => ⟨?_, fun y => ?_⟩, fun h => ?_⟩⟩⟩
  · exact ⟨⟨AV.sub_same _, AV.sub_same _, AV.sub_same _, AV.sub_same _, AV.sub_lit', trivial⟩, ⟨.same _, .same _, trivial⟩, rfl, tl_ok rfl, ⟨.inr rfl, .inr rfl, trivial⟩, ⟨Nat.le_of_ble_eq_true rfl, rfl⟩⟩
  · exact ⟨⟨AV.sub_same _, AV.sub_same _, AV.sub_same _, AV.sub_lit (by show (0 : Int) = (cntTo xs 0 : Int); simp [cntTo, List.filter_eq_nil_iff.2]), AV.sub_lit', trivial⟩, ⟨.same _, .same _, trivial⟩, rfl, tl_ok rfl, ⟨.inr rfl, .inr rfl, trivial⟩, ⟨Nat.le_of_ble_eq_true rfl, rfl⟩⟩
  · exact room_len (swap_facts hv hb (Nat.le_refl _)).log (by omega)
  · have e := (swap_facts hv hb (Nat.le_refl xs.length)).log
    intro r z hz
    have : (((swapTo xs v xs.length).log.length : Int) == IntKind.wrap .i64 (2 * (xs.length : Int))) = true := by
      rw [e, wrap_small (by omega) (by omega)]; simp
    exact (hz.trans (congrArg Value.bool this))
  · have e := cnt_end xs
    have h' : ((cntTo xs xs.length : Int) == (xs.length : Int)) = false := h
    rw [e] at h'; simp at h'

end Sx
end Go.Proofs.Ytjackepkphdibaa
