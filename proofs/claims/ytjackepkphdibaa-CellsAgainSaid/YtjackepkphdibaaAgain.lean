/-
  Who plays the log again has the same words and holders.
-/
import Derived.Test.YtjackepkphdibaaTrees8
namespace Go.Proofs.Ytjackepkphdibaa
namespace Sx
open Go
set_option linter.unusedSimpArgs false
set_option linter.unusedVariables false

def heldL (s : MC) : List Int := s.locks.map fun h => if h.held then 1 else 0
theorem logPlay_add (l : List Deed) (d : Deed) : logPlay (l ++ [d]) = logStep (logPlay l) d := by unfold logPlay; rw [List.foldl_append]; rfl
theorem LInv.eq {s : MC} (W : LInv s) : logPlay s.log = (s.words, heldL s) := by
  have h1 := W.words
  have h2 := W.held
  generalize logPlay s.log = q at h1 h2
  obtain ⟨a, b⟩ := q
  simp only at h1 h2
  rw [h1, h2]; rfl
theorem LInv.add {s s' : MC} (W : LInv s) {d : Deed} (hl : s'.log = s.log ++ [d]) (hc : logCheck (s.words, heldL s) d) (hs : logStep (s.words, heldL s) d = (s'.words, heldL s')) (hw : s'.words.length = 4) (hk : s'.locks.length = 4) : LInv s' := by
  have e : logPlay s'.log = (s'.words, heldL s') := by rw [hl, logPlay_add, W.eq, hs]
  refine ⟨?_, by rw [e], by rw [e]; rfl, hw, hk⟩
  intro i hi
  rw [hl] at hi
  simp only [hl]
  rcases Nat.lt_or_ge i s.log.length with h | h
  · rw [List.getElem_append_left h, List.take_append_of_le_length (by omega)]
    exact W.good i h
  · have : i = s.log.length := by simp at hi; omega
    subst this
    rw [List.getElem_append_right (Nat.le_refl _), List.take_append_of_le_length (Nat.le_refl _), List.take_length, W.eq]
    simpa using hc

theorem set_same {α : Type} (l : List α) (i : Nat) (a d : α) (h : l.getD i d = a) (hi : i < l.length) : l.set i a = l := by
  apply List.ext_getElem?
  intro j
  rw [List.getElem?_set]
  split
  · rename_i e; subst e
    rw [List.getElem?_eq_getElem hi]
    rw [List.getD_eq_getElem?_getD, List.getElem?_eq_getElem hi] at h
    exact congrArg some h.symm
  · rfl

theorem heldL_get (s : MC) (k : Int) : (heldL s).getD k.toNat 0 = if (s.lock k).held then 1 else 0 := by
  unfold heldL MC.lock
  rw [List.getD_eq_getElem?_getD, List.getD_eq_getElem?_getD, List.getElem?_map]
  cases s.locks[k.toNat]? <;> rfl

theorem LInv.load {s : MC} (W : LInv s) (t k : Int) : LInv (s.load t k).2.2 := by
  unfold MC.load
  by_cases h : s.noWord k
  · rw [if_pos h]; exact W
  · rw [if_neg h]
    have hk : 0 ≤ k ∧ k < 4 := by have := W.wl; unfold MC.noWord at h; omega
    refine W.add (d := ⟨t, 1, k, s.word k, s.word k⟩) rfl ⟨⟨hk.1, by show k ≤ 3; omega⟩, ?_⟩ ?_ W.wl W.ll
    · rw [if_neg (show ¬ ((1 : Int) ≥ 4) by decide)]; exact ⟨rfl, fun _ => rfl⟩
    · unfold logStep
      rw [if_neg (show ¬ ((1 : Int) ≥ 4) by decide)]
      show (s.words.set k.toNat (s.word k), heldL s) = (s.words, heldL s)
      rw [set_same s.words k.toNat (s.word k) 0 rfl (by have := W.wl; omega)]
theorem LInv.store {s : MC} (W : LInv s) (t k v : Int) : LInv (s.store t k v).2 := by
  unfold MC.store
  by_cases h : s.noWord k
  · rw [if_pos h]; exact W
  · rw [if_neg h]
    have hk : 0 ≤ k ∧ k < 4 := by have := W.wl; unfold MC.noWord at h; omega
    refine W.add (d := ⟨t, 2, k, s.word k, v⟩) rfl ⟨⟨hk.1, by show k ≤ 3; omega⟩, ?_⟩ ?_ (by show (s.words.set _ _).length = 4; rw [List.length_set]; exact W.wl) W.ll
    · rw [if_neg (show ¬ ((2 : Int) ≥ 4) by decide)]; exact ⟨rfl, fun h => absurd (show (2 : Int) = 1 from h) (by decide)⟩
    · unfold logStep
      rw [if_neg (show ¬ ((2 : Int) ≥ 4) by decide)]; rfl
theorem LInv.swap {s : MC} (W : LInv s) (t k o v : Int) : LInv (s.swap t k o v).2.2 := by
  unfold MC.swap
  by_cases h : s.noWord k
  · rw [if_pos h]; exact W
  · rw [if_neg h]
    have hk : 0 ≤ k ∧ k < 4 := by have := W.wl; unfold MC.noWord at h; omega
    by_cases h2 : s.word k = o
    · rw [if_pos h2]
      refine W.add (d := ⟨t, 3, k, o, v⟩) rfl ⟨⟨hk.1, by show k ≤ 3; omega⟩, ?_⟩ ?_ (by show (s.words.set _ _).length = 4; rw [List.length_set]; exact W.wl) W.ll
      · rw [if_neg (show ¬ ((3 : Int) ≥ 4) by decide)]; exact ⟨h2, fun h => absurd (show (3 : Int) = 1 from h) (by decide)⟩
      · unfold logStep
        rw [if_neg (show ¬ ((3 : Int) ≥ 4) by decide)]; rfl
    · rw [if_neg h2]
      refine W.add (d := ⟨t, 3, k, s.word k, s.word k⟩) rfl ⟨⟨hk.1, by show k ≤ 3; omega⟩, ?_⟩ ?_ W.wl W.ll
      · rw [if_neg (show ¬ ((3 : Int) ≥ 4) by decide)]; exact ⟨rfl, fun h => absurd (show (3 : Int) = 1 from h) (by decide)⟩
      · unfold logStep
        rw [if_neg (show ¬ ((3 : Int) ≥ 4) by decide)]
        show (s.words.set k.toNat (s.word k), heldL s) = (s.words, heldL s)
        rw [set_same s.words k.toNat (s.word k) 0 rfl (by have := W.wl; omega)]
theorem heldL_set (s : MC) (k : Nat) (h : Holder) : heldL { s with locks := s.locks.set k h } = (heldL s).set k (if h.held then 1 else 0) := by
  unfold heldL
  rw [List.map_set]
theorem LInv.take {s : MC} (W : LInv s) (t k d : Int) (hd : d ≥ 4) : LInv (s.take t k d).2.2 := by
  unfold MC.take
  by_cases h : s.noLock k
  · rw [if_pos h]; exact W
  · rw [if_neg h]
    have hk : 0 ≤ k ∧ k < 4 := by have := W.ll; unfold MC.noLock at h; omega
    by_cases h2 : (s.lock k).thread = t ∧ (s.lock k).held = true
    · rw [if_pos h2]; exact W
    · rw [if_neg h2]
      have hg := heldL_get s k
      by_cases h3 : (s.lock k).held = true
      · rw [if_pos h3]
        rw [h3, if_pos rfl] at hg
        by_cases h4 : d = 4
        · rw [if_pos h4]; exact W
        · rw [if_neg h4]
          refine W.add (d := ⟨t, d, k, 1, 1⟩) rfl ⟨⟨hk.1, by show k ≤ 3; omega⟩, ?_⟩ ?_ W.wl W.ll
          · rw [if_pos hd]; exact hg
          · unfold logStep
            rw [if_pos hd]
            show (s.words, (heldL s).set k.toNat 1) = (s.words, heldL s)
            rw [set_same (heldL s) k.toNat 1 0 hg (by unfold heldL; rw [List.length_map, W.ll]; omega)]
      · rw [if_neg h3]
        rw [if_neg h3] at hg
        refine W.add (d := ⟨t, d, k, 0, 1⟩) rfl ⟨⟨hk.1, by show k ≤ 3; omega⟩, ?_⟩ ?_ W.wl (by show (s.locks.set _ _).length = 4; rw [List.length_set]; exact W.ll)
        · rw [if_pos hd]; exact hg
        · unfold logStep
          rw [if_pos hd]
          exact congrArg (Prod.mk s.words) (heldL_set s k.toNat ⟨t, true⟩).symm
theorem LInv.unlock {s : MC} (W : LInv s) (t k : Int) : LInv (s.unlock t k).2 := by
  unfold MC.unlock
  by_cases h : s.noLock k
  · rw [if_pos h]; exact W
  · rw [if_neg h]
    have hk : 0 ≤ k ∧ k < 4 := by have := W.ll; unfold MC.noLock at h; omega
    by_cases h2 : (s.lock k).thread = t ∧ (s.lock k).held = true
    · rw [if_pos h2]
      have hg := heldL_get s k
      rw [h2.2, if_pos rfl] at hg
      refine W.add (d := ⟨t, 6, k, 1, 0⟩) rfl ⟨⟨hk.1, by show k ≤ 3; omega⟩, ?_⟩ ?_ W.wl (by show (s.locks.set _ _).length = 4; rw [List.length_set]; exact W.ll)
      · rw [if_pos (show (6 : Int) ≥ 4 by decide)]; exact hg
      · unfold logStep
        rw [if_pos (show (6 : Int) ≥ 4 by decide)]
        exact congrArg (Prod.mk s.words) (heldL_set s k.toNat ⟨0, false⟩).symm
    · rw [if_neg h2]; exact W
theorem LInv.step {s : MC} (W : LInv s) (f : Five) : LInv (doC s f) := by
  unfold doC
  split
  · exact W.load ..
  · split
    · exact W.store ..
    · split
      · exact W.swap ..
      · split
        · exact W.take _ _ _ (by decide)
        · split
          · exact W.take _ _ _ (by decide)
          · split
            · exact W.take _ _ _ (by decide)
            · exact W.unlock ..
theorem LInv.mk0 : LInv (MC.mk0 4 4) := by
  have hw : (MC.mk0 4 4).words = [0, 0, 0, 0] := by decide
  have hl : (MC.mk0 4 4).locks = [⟨0, false⟩, ⟨0, false⟩, ⟨0, false⟩, ⟨0, false⟩] := by decide
  refine ⟨fun i hi => ?_, hw.symm, ?_, by rw [hw]; rfl, by rw [hl]; rfl⟩
  · exact absurd hi (Nat.not_lt_zero _)
  · rw [hl]; rfl

theorem l60_ok : LoopOk Try.prog 0 (loopOf Try.f6 0) L60 := by
  refine loopH_ok (C := cfg7) cfg7_ok (f := 6) (n := 40) [0, 3, 4, 5, 6] 3 (fun p : P4 => I6 p) (fun p x => x.i ≤ p.xs.length ∧ Rel x.s x.r ∧ LInv x.s ∧ x.s.log.length ≤ x.i) (fun p => ⟨0, MC.mk0 4 4, MR.mk0 4 4⟩) (fun p x => p.xs.length - x.i)
    (fun p (x : X4) => Rel x.s x.r ∧ LInv x.s ∧ x.s.log.length ≤ 200) (fun p x => I6 p x) (fun p => ⟨Nat.zero_le _, Rel.mk0 .., LInv.mk0, Nat.le_refl _⟩) ?_
  intro p x ⟨hi, R, W, hg⟩
  rw [b60]
  have hb := p.hb
  simp only [Out.holds, Nat.zero_add, decide_eq_true_eq, decide_eq_false_iff_not, Int.toNat_natCast, bne_iff_ne, bne_eq_false_iff_eq]
  have hr : x.s.room := by unfold MC.room; omega
  generalize hf : p.xs.getD x.i (V.enc Kd.five).dflt = f
  have R' : Rel (doC x.s f) (doR x.r f) := R.step f
  have hg' : (doC x.s f).log.length ≤ x.i + 1 := Nat.le_trans (len_step x.s f) (by omega)
  refine ⟨fun h => ⟨by omega, by omega, ⟨hr, R.room hr, R⟩, ?_⟩, fun h => ⟨trivial, SImp.of_wk (ren := []) x ?_ ⟨R, W, by omega⟩⟩⟩
  · refine SImp.of_wk (ren := []) ⟨x.i + 1, doC x.s f, doR x.r f⟩ ?_ ⟨⟨by show x.i + 1 ≤ _; omega, R', W.step f, hg'⟩, by show p.xs.length - (x.i + 1) < p.xs.length - x.i; omega⟩
    exact ⟨⟨AV.sub_same _, AV.sub_same _, AV.sub_same _, AV.sub_same _, AV.sub_int (wrap_nat (by omega)), trivial⟩, ⟨.same _, .same _, .same _, trivial⟩, rfl, tl_ok rfl, ⟨.inl (in_ok rfl), .inl (in_ok rfl), .inr rfl, trivial⟩, ⟨Nat.le_of_ble_eq_true rfl, rfl⟩⟩
  · exact ⟨⟨AV.sub_same _, AV.sub_same _, AV.sub_same _, AV.sub_same _, AV.sub_same _, trivial⟩, ⟨.same _, .same _, .same _, trivial⟩, rfl, tl_ok rfl, ⟨.inl (in_ok rfl), .inl (in_ok rfl), .inr rfl, trivial⟩, ⟨Nat.le_of_ble_eq_true rfl, rfl⟩⟩

theorem step_len (q : List Int × List Int) (d : Deed) : (logStep q d).1.length = q.1.length ∧ (logStep q d).2.length = q.2.length := by
  unfold logStep; split <;> simp
theorem play_len (l : List Deed) : (logPlay l).1.length = 4 ∧ (logPlay l).2.length = 4 := by
  have key : ∀ (l : List Deed) (q : List Int × List Int), (l.foldl logStep q).1.length = q.1.length ∧ (l.foldl logStep q).2.length = q.2.length := by
    intro l
    induction l with
    | nil => intro q; exact ⟨rfl, rfl⟩
    | cons d l ih => intro q; have := ih (logStep q d); have := step_len q d; simp only [List.foldl_cons]; omega
  exact key l _

theorem l62_ok : LoopOk Try.prog 2 (loopOf Try.f6 2) L62 := by
  refine loopH_ok (C := cfg7) cfg7_ok (f := 6) (n := 40) [3, 4, 5, 8, 9, 10, 11] 11 I62 (fun p x => x.1 ≤ p.s.log.length ∧ x.2 = logPlay (p.s.log.take x.1)) (fun p => (0, [0, 0, 0, 0], [0, 0, 0, 0])) (fun p x => p.s.log.length - x.1)
    (fun p (x : Nat × List Int × List Int) => x.2 = logPlay p.s.log) I62 (fun p => ⟨Nat.zero_le _, rfl⟩) ?_
  intro p x ⟨hi, hx⟩
  rw [b62]
  have hb := p.hb
  have hpl := play_len (p.s.log.take x.1)
  rw [← hx] at hpl
  obtain ⟨h1, h2⟩ := hpl
  simp only [Out.holds, Nat.zero_add, decide_eq_true_eq, decide_eq_false_iff_not, Int.toNat_natCast, bne_iff_ne, bne_eq_false_iff_eq, beq_iff_eq, beq_eq_false_iff_ne]
  have keep : ∀ (ws hs : List Int) (k : Nat), x.1 < p.s.log.length → (ws, hs) = logPlay (p.s.log.take (x.1 + 1)) → ∀ (s' : St V), Wk 11 [(3, 3), (4, 4)] s' (I62 p (x.1 + 1, ws, hs)) → SImp 11 s' (I62 p) (fun y => (y.1 ≤ p.s.log.length ∧ y.2 = logPlay (p.s.log.take y.1)) ∧ p.s.log.length - y.1 < p.s.log.length - x.1) :=
    fun ws hs k hlt he s' hw => SImp.of_wk (x.1 + 1, ws, hs) hw ⟨⟨by show x.1 + 1 ≤ _; omega, he⟩, by show p.s.log.length - (x.1 + 1) < _; omega⟩
  refine ⟨fun h => ?_, fun h => ⟨trivial, SImp.of_wk (ren := []) x ?_ (by rw [hx, List.take_of_length_le (by omega)])⟩⟩
  · have hlt : x.1 < p.s.log.length := by omega
    have hgd : p.s.log.getD x.1 (V.enc Kd.deed).dflt = p.s.log[x.1] := by rw [List.getD_eq_getElem?_getD, List.getElem?_eq_getElem hlt]; rfl
    have hc := p.V.good x.1 hlt
    rw [← hx] at hc
    have hst : logPlay (p.s.log.take (x.1 + 1)) = logStep x.2 p.s.log[x.1] := by rw [List.take_succ_eq_append_getElem hlt, logPlay_add, ← hx]
    rw [hgd]
    generalize p.s.log[x.1] = d at hc hst
    obtain ⟨⟨c1, c2⟩, c3⟩ := hc
    have n0 : (0 : Int) ≤ (x.1 : Int) ∧ (x.1 : Int) < (p.s.log.length : Int) := ⟨by omega, by omega⟩
    have n1 : 0 ≤ d.cell ∧ d.cell < 4 := ⟨c1, by omega⟩
    refine ⟨n0, hlt, fun h3 => by omega, fun _ => ⟨n0, hlt, fun h3 => by omega, fun _ => ⟨n0, hlt, fun h3 => ⟨n0, hlt, n1, by omega, n0, hlt, fun h4 => ?_, fun _ => ⟨n0, hlt, n0, hlt, n1, by omega, ?_⟩⟩, fun h3 => ⟨n0, hlt, n1, by omega, n0, hlt, fun h4 => ?_, fun _ => ⟨n0, hlt, fun h5 => ⟨n0, hlt, n0, hlt, fun h6 => ?_, fun _ => ⟨n0, hlt, n0, hlt, n1, by omega, ?_⟩⟩, fun h5 => ⟨n0, hlt, n0, hlt, n1, by omega, ?_⟩⟩⟩⟩⟩⟩
    · rw [if_pos h3] at c3; exact absurd c3 h4
    · refine keep x.2.1 _ 4 hlt (by rw [hst]; unfold logStep; rw [if_pos h3]) _ ?_
      exact ⟨⟨AV.sub_same _, AV.sub_same _, AV.sub_same _, AV.sub_same _, AV.sub_same _, AV.sub_same _, AV.sub_int (wrap_nat (n := x.1) (by omega)), trivial⟩, ⟨.same _, .same _, .same _, .same _, .same _, .same _, .same _, .same _, .same _, .same _, trivial⟩, rfl, tl_ok rfl, ⟨.inr rfl, .inl (in_ok rfl), .inl (in_ok rfl), .inl (in_ok rfl), .inr rfl, .inr rfl, .inr rfl, .inr rfl, .inr rfl, .inr rfl, trivial⟩, ⟨Nat.le_of_ble_eq_true rfl, rfl⟩⟩
    · rw [if_neg h3] at c3; exact absurd c3.1 h4
    · rw [if_neg h3] at c3; exact absurd (c3.2 h5) h6
    · refine keep _ x.2.2 3 hlt (by rw [hst]; unfold logStep; rw [if_neg h3]) _ ?_
      exact ⟨⟨AV.sub_same _, AV.sub_same _, AV.sub_same _, AV.sub_same _, AV.sub_same _, AV.sub_same _, AV.sub_int (wrap_nat (n := x.1) (by omega)), trivial⟩, ⟨.same _, .same _, .same _, .same _, .same _, .same _, .same _, .same _, .same _, .same _, trivial⟩, rfl, tl_ok rfl, ⟨.inr rfl, .inl (in_ok rfl), .inl (in_ok rfl), .inl (in_ok rfl), .inr rfl, .inr rfl, .inr rfl, .inr rfl, .inr rfl, .inr rfl, trivial⟩, ⟨Nat.le_of_ble_eq_true rfl, rfl⟩⟩
    · refine keep _ x.2.2 3 hlt (by rw [hst]; unfold logStep; rw [if_neg h3]) _ ?_
      exact ⟨⟨AV.sub_same _, AV.sub_same _, AV.sub_same _, AV.sub_same _, AV.sub_same _, AV.sub_same _, AV.sub_int (wrap_nat (n := x.1) (by omega)), trivial⟩, ⟨.same _, .same _, .same _, .same _, .same _, .same _, .same _, .same _, .same _, .same _, trivial⟩, rfl, tl_ok rfl, ⟨.inr rfl, .inl (in_ok rfl), .inl (in_ok rfl), .inl (in_ok rfl), .inr rfl, .inr rfl, .inr rfl, .inr rfl, .inr rfl, .inr rfl, trivial⟩, ⟨Nat.le_of_ble_eq_true rfl, rfl⟩⟩
  · exact ⟨⟨AV.sub_same _, AV.sub_same _, AV.sub_same _, AV.sub_same _, AV.sub_same _, AV.sub_same _, AV.sub_same _, trivial⟩, ⟨.same _, .same _, .same _, .same _, .same _, .same _, .same _, .same _, .same _, .same _, trivial⟩, rfl, tl_ok rfl, ⟨.inr rfl, .inr rfl, .inr rfl, .inr rfl, .inr rfl, .inr rfl, .inr rfl, .inr rfl, .inr rfl, .inr rfl, trivial⟩, ⟨Nat.le_of_ble_eq_true rfl, rfl⟩⟩

theorem hooks10_ok : ∀ g H, hooks10 g = some H → HookOk Try.prog g H := by
  intro g H h
  unfold hooks10 at h
  split at h
  · cases h; exact hookAfter_ok ⟨Try.f13, by kernel_rfl, by kernel_rfl, by kernel_rfl⟩ (openR_ok 2) hLog
  · exact hooks7_ok _ H h
theorem cfg10_ok : cfg10.ok := ⟨tab_met, kinds_met, mixed_met, fun g fn h => (by cases h), hooks10_ok⟩

theorem loads_word {s : MC} (hl : s.words.length = 4) (t : Int) (k : Nat) (hk : k < 4) : (s.load t k).1 = s.words.getD k 0 ∧ (s.load t k).2.2.words = s.words ∧ (s.load t k).2.2.log.length = s.log.length + 1 := by
  have h : ¬ s.noWord k := by unfold MC.noWord; omega
  unfold MC.load
  rw [if_neg h]
  exact ⟨rfl, rfl, by simp [MC.note]⟩

theorem again_law (xs : List Five) (c : Nat) : CallsSx Try.prog 6 [.sl false 0 0 5 xs.length c] ([(0, .ro Kd.five xs)] : Heap V) 1 (fun v _ _ _ => v.sub .tt) := by
  refine calls_runL (args := [.sl false 0 0 5 xs.length c]) cfg10_ok (n := 60) (fn := Try.f6) ⟨by kernel_rfl, by kernel_rfl⟩ (by kernel_rfl) (show 1 ≤ _ by decide +kernel) ?_
  rw [t6]
  refine ⟨fun _ => AV.sub_same _, fun h1 => ?_⟩
  have hb : xs.length ≤ 200 := by have := of_decide_eq_false h1; omega
  refine ⟨l60_ok, fun q => q = ⟨xs, c, hb⟩, ⟨Nat.le_refl _, SImp.of_wk (ren := []) ⟨xs, c, hb⟩ ?_ rfl⟩, ?_⟩
  · exact ⟨⟨AV.sub_same _, AV.sub_same _, AV.sub_same _, AV.sub_same _, AV.sub_lit', trivial⟩, ⟨.same _, .same _, .same _, trivial⟩, rfl, tl_ok rfl, ⟨.inr rfl, .inr rfl, .inr rfl, trivial⟩, ⟨Nat.le_of_ble_eq_true rfl, rfl⟩⟩
  rintro _ rfl x ⟨R, W, hg⟩
  refine ⟨by decide, by decide, fun q => ⟨by unfold MC.room; omega, fun sp => ⟨l62_ok, fun p => p = ⟨xs, c, x.s, x.r, q, sp, R, W, hg⟩, ⟨Nat.le_refl _, SImp.of_wk (ren := []) ⟨xs, c, x.s, x.r, q, sp, R, W, hg⟩ ?_ rfl⟩, ?_⟩⟩⟩
  · exact ⟨⟨AV.sub_same _, AV.sub_same _, AV.sub_same _, AV.sub_same _, AV.sub_same _, AV.sub_same _, AV.sub_lit', trivial⟩, ⟨.same _, .same _, .same _, .same _, .same _, .same _, .same _, .same _, .same _, .same _, trivial⟩, rfl, tl_ok rfl, ⟨.inr rfl, .inr rfl, .inr rfl, .inr rfl, .inr rfl, .inr rfl, .inr rfl, .inr rfl, .inr rfl, .inr rfl, trivial⟩, ⟨Nat.le_of_ble_eq_true rfl, rfl⟩⟩
  rintro _ rfl y hy
  have hv : y.2 = (x.s.words, heldL x.s) := hy.trans W.eq
  have hrh : x.r.h = x.s.locks.map Holder.held := R.h
  have hn : x.r.h.length = 4 := by rw [hrh, List.length_map]; exact W.ll
  obtain ⟨a0, a1, a2⟩ := loads_word W.wl 0 0 (by decide)
  have w1 : (x.s.load 0 (0 : Nat)).2.2.words.length = 4 := by rw [a1]; exact W.wl
  obtain ⟨b0, b1, b2⟩ := loads_word w1 0 1 (by decide)
  have w2 : ((x.s.load 0 (0 : Nat)).2.2.load 0 (1 : Nat)).2.2.words.length = 4 := by rw [b1]; exact w1
  obtain ⟨c0, c1, c2⟩ := loads_word w2 0 2 (by decide)
  have w3 : (((x.s.load 0 (0 : Nat)).2.2.load 0 (1 : Nat)).2.2.load 0 (2 : Nat)).2.2.words.length = 4 := by rw [c1]; exact w2
  obtain ⟨d0, d1, d2⟩ := loads_word w3 0 3 (by decide)
  rw [a1] at b0
  rw [b1, a1] at c0
  rw [c1, b1, a1] at d0
  have hh : ∀ k, (heldL x.s).getD k 0 = if x.r.h.getD k false then 1 else 0 := by
    intro k
    unfold heldL
    rw [hrh, List.getD_eq_getElem?_getD, List.getD_eq_getElem?_getD, List.getElem?_map, List.getElem?_map]
    cases x.s.locks[k]? <;> rfl
  have hq : ∀ k, (!(x.r.h.getD k false) == (y.2.2.getD k 0 == 1)) = false := by
    intro k
    rw [hv]
    show (!(x.r.h.getD k false) == ((heldL x.s).getD k 0 == 1)) = false
    rw [hh]
    cases x.r.h.getD k false <;> rfl
  have l1 : y.2.1.length = 4 := by rw [hv]; exact W.wl
  have l2 : y.2.2.length = 4 := by rw [hv]; show (heldL x.s).length = 4; unfold heldL; rw [List.length_map]; exact W.ll
  have e1 : y.2.1 = x.s.words := by rw [hv]
  have no : ∀ {k : Nat} {n : Int} {Q : Prop}, n = x.s.words.getD k 0 → (n != y.2.1.getD k 0) = true → Q := fun h h2 => by rw [e1, h] at h2; simp at h2
  have noq : ∀ {k : Nat} {Q : Prop}, (!(x.r.h.getD k false) == (y.2.2.getD k 0 == 1)) = true → Q := fun {k} {Q} h => absurd ((hq k).symm.trans h) (by decide)
  have r0 : x.s.room := by unfold MC.room; omega
  have r1 : (x.s.load 0 (0 : Nat)).2.2.room := by unfold MC.room; omega
  have r2 : ((x.s.load 0 (0 : Nat)).2.2.load 0 (1 : Nat)).2.2.room := by unfold MC.room; omega
  have r3 : (((x.s.load 0 (0 : Nat)).2.2.load 0 (1 : Nat)).2.2.load 0 (2 : Nat)).2.2.room := by unfold MC.room; omega
  have hnI : (x.r.h.length : Int) = 4 := by omega
  refine ⟨r0, by decide, by show 0 < y.2.1.length; omega, fun h => no (k := 0) a0 h, fun _ => ⟨by show _ ∧ _ < (x.r.h.length : Int); omega, by show _ < x.r.h.length; omega, by decide, by omega, fun h => noq (k := 0) h, fun _ =>
    ⟨r1, by decide, by omega, fun h => no (k := 1) b0 h, fun _ => ⟨by show _ ∧ _ < (x.r.h.length : Int); omega, by show _ < x.r.h.length; omega, by decide, by omega, fun h => noq (k := 1) h, fun _ =>
    ⟨r2, by decide, by omega, fun h => no (k := 2) c0 h, fun _ => ⟨by show _ ∧ _ < (x.r.h.length : Int); omega, by show _ < x.r.h.length; omega, by decide, by omega, fun h => noq (k := 2) h, fun _ =>
    ⟨r3, by decide, by omega, fun h => no (k := 3) d0 h, fun _ => ⟨by show _ ∧ _ < (x.r.h.length : Int); omega, by show _ < x.r.h.length; omega, by decide, by omega, fun h => noq (k := 3) h, fun _ => AV.sub_same _⟩⟩⟩⟩⟩⟩⟩⟩

end Sx
end Go.Proofs.Ytjackepkphdibaa
