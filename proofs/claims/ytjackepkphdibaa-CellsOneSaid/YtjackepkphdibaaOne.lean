/-
  A lock is held by one thread at most, and a word holds what was stored, or swapped in, last.
-/
import Derived.Test.YtjackepkphdibaaTrees9
namespace Go.Proofs.Ytjackepkphdibaa
namespace Sx
open Go
set_option linter.unusedSimpArgs false
set_option linter.unusedVariables false

theorem and_low (y : Int) (m : Nat) (hm : m < 4611686018427387904) : 0 ≤ bitsOp .and .i64 y (m : Int) ∧ bitsOp .and .i64 y (m : Int) ≤ m := by
  have e : (BitVec.ofInt IntKind.i64.bits y &&& BitVec.ofInt IntKind.i64.bits (m : Int)).toNat ≤ m := by
    rw [BitVec.toNat_and]
    refine Nat.le_trans Nat.and_le_right ?_
    show (BitVec.ofInt 64 (m : Int)).toNat ≤ m
    simp only [BitVec.toNat_ofInt]
    omega
  have h : bitsOp .and .i64 y (m : Int) = IntKind.wrap .i64 ((BitVec.ofInt IntKind.i64.bits y &&& BitVec.ofInt IntKind.i64.bits (m : Int)).toNat : Int) := rfl
  rw [h]
  generalize (BitVec.ofInt IntKind.i64.bits y &&& BitVec.ofInt IntKind.i64.bits (m : Int)).toNat = n at e
  have w : IntKind.wrap .i64 (n : Int) = n := by simp [IntKind.wrap, IntKind.bits, IntKind.signed]; omega
  omega

structure OneInv (s : MC) (hs ws : List Int) : Prop where
  w : s.words = ws
  wl : ws.length = 3
  ll : s.locks.length = 3
  hl : hs.length = 3
  hold : ∀ k, k < 3 → hs.getD k 0 = if (s.locks.getD k ⟨0, false⟩).held then (s.locks.getD k ⟨0, false⟩).thread else -1
  pos : ∀ k, k < 3 → (s.locks.getD k ⟨0, false⟩).held = true → 0 ≤ (s.locks.getD k ⟨0, false⟩).thread

theorem getD_set {α : Type} (l : List α) (i j : Nat) (a d : α) (h : i < l.length) : (l.set i a).getD j d = if i = j then a else l.getD j d := by
  rw [List.getD_eq_getElem?_getD, List.getElem?_set, List.getD_eq_getElem?_getD]
  split
  · rename_i e; subst e; simp [h]
  · rfl

theorem OneInv.wordEq {s : MC} {hs ws : List Int} (O : OneInv s hs ws) (k : Int) : s.word k = ws.getD k.toNat 0 := by unfold MC.word; rw [O.w]
section
variable {s : MC} {hs ws : List Int} (O : OneInv s hs ws) {k : Int} (hk : 0 ≤ k ∧ k < 3)
include O hk
theorem OneInv.noWord : ¬ s.noWord k := by have := O.wl; have := O.w; unfold MC.noWord; rw [O.w]; omega
theorem OneInv.noLock : ¬ s.noLock k := by have := O.ll; unfold MC.noLock; omega
theorem OneInv.lockEq : hs.getD k.toNat 0 = if (s.lock k).held then (s.lock k).thread else -1 := O.hold _ (by omega)
theorem OneInv.low : (hs.getD k.toNat 0 < 0) ↔ (s.lock k).held = false := by
  rw [O.lockEq hk]
  have := O.pos k.toNat (by omega)
  change (s.lock k).held = true → 0 ≤ (s.lock k).thread at this
  cases h : (s.lock k).held with
  | true => simp; exact this h
  | false => simp
theorem one_load (t : Int) : (s.load t k).1 = ws.getD k.toNat 0 ∧ (s.load t k).2.1 = 0 ∧ OneInv (s.load t k).2.2 hs ws := by
  have h := O.noWord hk
  unfold MC.load
  rw [if_neg h]
  exact ⟨O.wordEq k, rfl, O.w, O.wl, O.ll, O.hl, O.hold, O.pos⟩
theorem one_store (t v : Int) : (s.store t k v).1 = 0 ∧ OneInv (s.store t k v).2 hs (ws.set k.toNat v) := by
  have h := O.noWord hk
  unfold MC.store
  rw [if_neg h]
  exact ⟨rfl, by show s.words.set _ _ = _; rw [O.w], by rw [List.length_set]; exact O.wl, O.ll, O.hl, O.hold, O.pos⟩
theorem one_swap (t o v : Int) : (s.swap t k o v).1 = (ws.getD k.toNat 0 == o) ∧ (s.swap t k o v).2.1 = 0 ∧ OneInv (s.swap t k o v).2.2 hs (if (s.swap t k o v).1 = true then ws.set k.toNat v else ws) := by
  have h := O.noWord hk
  unfold MC.swap
  rw [if_neg h]
  by_cases h2 : s.word k = o
  · rw [if_pos h2]
    rw [O.wordEq k] at h2
    exact ⟨by rw [h2]; simp, rfl, by show s.words.set _ _ = ws.set _ _; rw [O.w], by show (ws.set _ _).length = 3; rw [List.length_set]; exact O.wl, O.ll, O.hl, O.hold, O.pos⟩
  · rw [if_neg h2]
    rw [O.wordEq k] at h2
    exact ⟨by show false = _; rw [beq_eq_false_iff_ne.2 h2], rfl, O.w, O.wl, O.ll, O.hl, O.hold, O.pos⟩
theorem one_set (h : Holder) (hp : h.held = true → 0 ≤ h.thread) (s' : MC) (hw : s'.words = s.words) (hl : s'.locks = s.locks.set k.toNat h) : OneInv s' (hs.set k.toNat (if h.held then h.thread else -1)) ws := by
  have e : ∀ j, s'.locks.getD j ⟨0, false⟩ = if k.toNat = j then h else s.locks.getD j ⟨0, false⟩ := fun j => by rw [hl]; exact getD_set _ _ _ _ _ (by have := O.ll; omega)
  refine ⟨hw.trans O.w, O.wl, by rw [hl, List.length_set]; exact O.ll, by rw [List.length_set]; exact O.hl, fun j hj => ?_, fun j hj => ?_⟩
  · rw [e, getD_set _ _ _ _ _ (by have := O.hl; omega)]
    split
    · rfl
    · exact O.hold j hj
  · rw [e]
    split
    · exact hp
    · exact O.pos j hj
theorem one_take {t d : Int} (ht : 0 ≤ t) : ((s.take t k d).1 = decide (hs.getD k.toNat 0 < 0)) ∧ (d = 4 → ((s.take t k d).2.1 == 0) = decide (hs.getD k.toNat 0 < 0)) ∧ OneInv (s.take t k d).2.2 (if hs.getD k.toNat 0 < 0 then hs.set k.toNat t else hs) ws := by
  have h := O.noLock hk
  have hlow := O.low hk
  unfold MC.take
  rw [if_neg h]
  cases hh : (s.lock k).held with
  | false =>
    have hl := hlow.2 hh
    rw [if_neg (by simp), if_neg (by simp), if_pos hl, decide_eq_true hl]
    exact ⟨rfl, fun _ => rfl, one_set O hk ⟨t, true⟩ (fun _ => ht) _ rfl rfl⟩
  | true =>
    have hl : ¬ hs.getD k.toNat 0 < 0 := fun hh' => by rw [hlow.1 hh'] at hh; cases hh
    rw [if_neg hl, decide_eq_false hl]
    by_cases h2 : (s.lock k).thread = t
    · rw [if_pos ⟨h2, rfl⟩]; exact ⟨rfl, fun _ => rfl, O⟩
    · rw [if_neg (fun hh => h2 hh.1), if_pos rfl]
      by_cases h4 : d = 4
      · rw [if_pos h4]; exact ⟨rfl, fun _ => rfl, O⟩
      · rw [if_neg h4]; exact ⟨rfl, fun h => absurd h h4, O.w, O.wl, O.ll, O.hl, O.hold, O.pos⟩
theorem one_unlock {t : Int} (ht : 0 ≤ t) : ((s.unlock t k).1 == 0) = (hs.getD k.toNat 0 == t) ∧ OneInv (s.unlock t k).2 (if hs.getD k.toNat 0 = t then hs.set k.toNat (-1) else hs) ws := by
  have h := O.noLock hk
  have he := O.lockEq hk
  unfold MC.unlock
  rw [if_neg h]
  by_cases h2 : (s.lock k).thread = t ∧ (s.lock k).held = true
  · have e : hs.getD k.toNat 0 = t := by rw [he, if_pos h2.2]; exact h2.1
    rw [if_pos h2, if_pos e, e]
    exact ⟨by simp, one_set O hk ⟨0, false⟩ (fun h => by cases h) _ rfl rfl⟩
  · have e : ¬ hs.getD k.toNat 0 = t := by
      rw [he]
      split
      · rename_i hh; exact fun h3 => h2 ⟨h3, hh⟩
      · omega
    rw [if_neg h2, if_neg e]
    exact ⟨by rw [beq_eq_false_iff_ne.2 e]; rfl, O⟩
end
theorem OneInv.holders {s : MC} {hs ws : List Int} (O : OneInv s hs ws) : ∀ j : Nat, j < 3 → s.holder (j : Int) = hs.getD j 0 := by
  intro j hj
  have h := O.noLock (k := (j : Int)) (by omega)
  have e := O.lockEq (k := (j : Int)) (by omega)
  unfold MC.holder
  rw [if_neg h]
  exact e.symm

theorem l53_ok : LoopOk Try.prog 3 (loopOf Try.f5 3) L53 := by
  refine keepLoop_ok (loopH_ok (C := cfg3) cfg3_ok (f := 5) (n := 60) [0, 3, 4, 5, 6, 7, 17] 6 I53 (fun q j => j ≤ 3) (fun _ => 0) (fun q j => 3 - j) (fun _ (_ : Unit) => True) (fun q _ => E53 q) (fun q => Nat.zero_le _) ?_)
  intro q j hj
  rw [b53]
  have hl := q.hl
  simp only [Out.holds, Nat.zero_add, decide_eq_true_eq, decide_eq_false_iff_not, Int.toNat_natCast, bne_iff_ne, bne_eq_false_iff_eq]
  refine ⟨fun h => ⟨by omega, by omega, fun h2 => absurd (q.ok j (by omega)) h2, fun _ => SImp.of_wk (ren := []) (j + 1) ?_ ⟨by omega, by omega⟩⟩, fun h => ⟨trivial, SImp.of_wk (ren := []) () ?_ trivial⟩⟩
  · exact ⟨⟨AV.sub_same _, AV.sub_same _, AV.sub_same _, AV.sub_same _, AV.sub_same _, AV.sub_same _, AV.sub_int (wrap_nat (by omega)), trivial⟩, ⟨.same _, .same _, .same _, .same _, trivial⟩, rfl, tl_ok rfl, ⟨.inr rfl, .inr rfl, .inr rfl, .inr rfl, trivial⟩, ⟨Nat.le_of_ble_eq_true rfl, rfl⟩⟩
  · exact ⟨⟨AV.sub_same _, AV.sub_same _, AV.sub_same _, AV.sub_same _, AV.sub_same _, AV.sub_same _, trivial⟩, ⟨.same _, .same _, .same _, .same _, trivial⟩, rfl, tl_ok rfl, ⟨.inr rfl, .inr rfl, .inr rfl, .inr rfl, trivial⟩, ⟨Nat.le_of_ble_eq_true rfl, rfl⟩⟩

theorem cfg12_ok : cfg12.ok := ⟨tab_met, kinds_met, mixed_met, fun g fn h => (by cases h), hooks3_ok⟩
theorem cfg11_ok : cfg11.ok := ⟨tab_met, kinds_met, mixed_met, fun g fn h => (by cases h), hooks3_ok⟩

/-- A round's end: the locks are looked at, and so on. -/
theorem one_tail {p : P4} {x : X5} (hi : x.i < p.xs.length) (hg : x.s.log.length ≤ x.i) {s' : MC} {hs' ws' : List Int} (O : OneInv s' hs' ws') (hlen : s'.log.length ≤ x.s.log.length + 1) {ST : St V} {n : Nat} (hn : n ≤ 6) (hw : Wk 6 [] ST (I53 ⟨p, ⟨x.i, s', hs', ws'⟩, O.holders, O.hl⟩ 0)) :
    LoopFor Try.prog 5 3 (loopOf Try.f5 3) L53 ∧ ∃ c0 : P53 → Prop, (n ≤ 6 ∧ SImp 6 ST (fun q => I53 q 0) c0) ∧ ∀ q, c0 q → Unit → True →
      SImp 4 (⟨[(0, .sl false 0 0 5 q.p.xs.length q.p.c), (3, .tt), (4, .ptr 1 0), (5, .sl true 2 0 1 3 3), (6, .sl true 3 0 1 3 3), (7, .int .i64 (IntKind.i64.wrap ((q.x.i : Int) + 1)))],
        [(3, .arr 3 Kd.int q.x.ws 0), (2, .arr 3 Kd.int q.x.hs 0), (1, .obj (oC q.x.s)), (0, .ro Kd.five q.p.xs)], 6, 209, [1, 2, 3, 4, 5, 6, 7, 8, 9, 10, 11, 12, 13]⟩ : St V) (I5 p)
        (fun y => (y.i ≤ p.xs.length ∧ y.s.log.length ≤ y.i ∧ OneInv y.s y.hs y.ws) ∧ p.xs.length - y.i < p.xs.length - x.i) := by
  refine ⟨l53_ok, fun q => q = ⟨p, ⟨x.i, s', hs', ws'⟩, O.holders, O.hl⟩, ⟨hn, SImp.of_wk _ hw rfl⟩, ?_⟩
  rintro _ rfl _ _
  have hb := p.hb
  refine SImp.of_wk (ren := []) ⟨x.i + 1, s', hs', ws'⟩ ?_ ⟨⟨by show x.i + 1 ≤ _; omega, by show s'.log.length ≤ x.i + 1; omega, O⟩, by show p.xs.length - (x.i + 1) < _; omega⟩
  exact ⟨⟨AV.sub_same _, AV.sub_same _, AV.sub_same _, AV.sub_same _, AV.sub_same _, AV.sub_int (wrap_nat (n := x.i) (by omega)), trivial⟩, ⟨.same _, .same _, .same _, .same _, trivial⟩, rfl, tl_ok rfl, ⟨.inr rfl, .inr rfl, .inr rfl, .inr rfl, trivial⟩, ⟨Nat.le_of_ble_eq_true rfl, rfl⟩⟩

theorem l50_ok : LoopOk Try.prog 0 (loopOf Try.f5 0) L50 := by
  refine loopH_ok (C := cfg12) cfg12_ok (f := 5) (n := 60) [0, 3, 4, 5, 6, 7] 4 I5 (fun p x => x.i ≤ p.xs.length ∧ x.s.log.length ≤ x.i ∧ OneInv x.s x.hs x.ws) (fun _ => ⟨0, MC.mk0 3 3, [-1, -1, -1], [0, 0, 0]⟩) (fun p x => p.xs.length - x.i) (fun _ (_ : X5) => True) (fun p x => I5 p x) (fun p => ⟨Nat.zero_le _, Nat.le_refl _, ?_⟩) ?_
  · refine ⟨by decide, rfl, by decide, rfl, ?_, ?_⟩
    · intro k hk
      match k, hk with
      | 0, _ => decide
      | 1, _ => decide
      | 2, _ => decide
    · intro k hk
      match k, hk with
      | 0, _ => decide
      | 1, _ => decide
      | 2, _ => decide
  intro p x ⟨hi, hg, O⟩
  rw [b50]
  have hb := p.hb
  simp only [Nat.zero_add, Int.toNat_natCast]
  generalize p.xs.getD x.i (V.enc Kd.five).dflt = f
  have ht : 0 ≤ bitsOp .and .i64 f.b 7 ∧ bitsOp .and .i64 f.b 7 ≤ 7 := and_low f.b 7 (by decide)
  have hk1 : 0 ≤ bitsOp .and .i64 f.c 1023 ∧ bitsOp .and .i64 f.c 1023 ≤ 1023 := and_low f.c 1023 (by decide)
  have hk : 0 ≤ (bitsOp .and .i64 f.c 1023).tmod 3 ∧ (bitsOp .and .i64 f.c 1023).tmod 3 < 3 := by
    rw [Int.tmod_eq_emod_of_nonneg hk1.1]
    exact ⟨Int.emod_nonneg _ (by decide), Int.emod_lt_of_pos _ (by decide)⟩
  have ht0 : 0 ≤ bitsOp .and .i64 f.b 7 := ht.1
  generalize (bitsOp .and .i64 f.c 1023).tmod 3 = k at hk
  generalize bitsOp .and .i64 f.b 7 = t at ht0
  have hr : x.s.room := by unfold MC.room; omega
  have hwl : k.toNat < x.ws.length := by have := O.wl; omega
  have hhl : k.toNat < x.hs.length := by have := O.hl; omega
  have wk : ∀ {ST : St V} {q : P53}, ST = I53 q 0 → True := fun _ => trivial
  have is : ∀ {b : Bool} {Q : Prop}, b = false → b = true → Q := fun h k => absurd (h.symm.trans k) (by decide)
  refine ⟨fun h => ?_, fun h => ⟨rfl, SImp.of_wk (ren := []) x ?_ trivial⟩⟩
  · have hlt : x.i < p.xs.length := by have := of_decide_eq_true h; omega
    have n0 : (0 : Int) ≤ (x.i : Int) ∧ (x.i : Int) < (p.xs.length : Int) := ⟨by omega, by omega⟩
    have L := one_load O hk t
    have S := one_store O hk t f.d
    have W := one_swap O hk t f.d f.e
    have T4 := one_take O hk (d := 4) ht0
    have T5 := one_take O hk (d := 5) ht0
    have U := one_unlock O hk ht0
    have e1 : ((x.s.load t k).1 != x.ws.getD k.toNat 0) = false := by rw [L.1]; simp
    have e2 : ((x.s.load t k).2.1 != 0) = false := by rw [L.2.1]; rfl
    have e3 : ((x.s.store t k f.d).1 != 0) = false := by rw [S.1]; rfl
    have e4 : (!((x.s.swap t k f.d f.e).1 == (x.ws.getD k.toNat 0 == f.d))) = false := by rw [W.1]; simp
    have e5 : ((x.s.swap t k f.d f.e).2.1 != 0) = false := by rw [W.2.1]; rfl
    have e6 : (!(((x.s.take t k 4).2.1 == 0) == decide (x.hs.getD k.toNat 0 < 0))) = false := by rw [T4.2.1 rfl]; simp
    have e7 : (!((x.s.take t k 5).1 == decide (x.hs.getD k.toNat 0 < 0))) = false := by rw [T5.1]; simp
    have e8 : (!(((x.s.unlock t k).1 == 0) == (x.hs.getD k.toNat 0 == t))) = false := by rw [U.1]; simp
    have lockA : x.hs.getD k.toNat 0 < 0 → OneInv (x.s.take t k 4).2.2 (x.hs.set k.toNat t) x.ws := fun h => by have := T4.2.2; rwa [if_pos h] at this
    have lockB : ¬ x.hs.getD k.toNat 0 < 0 → OneInv (x.s.take t k 4).2.2 x.hs x.ws := fun h => by have := T4.2.2; rwa [if_neg h] at this
    have tryA : (x.s.take t k 5).1 = true → OneInv (x.s.take t k 5).2.2 (x.hs.set k.toNat t) x.ws := fun h => by
      rw [T5.1] at h
      have := T5.2.2; rwa [if_pos (of_decide_eq_true h)] at this
    have tryB : (x.s.take t k 5).1 = false → OneInv (x.s.take t k 5).2.2 x.hs x.ws := fun h => by
      rw [T5.1] at h
      have := T5.2.2; rwa [if_neg (of_decide_eq_false h)] at this
    have unA : (x.hs.getD k.toNat 0 == t) = true → OneInv (x.s.unlock t k).2 (x.hs.set k.toNat (-1)) x.ws := fun h => by have := U.2; rwa [if_pos (by simpa using h)] at this
    have unB : (x.hs.getD k.toNat 0 == t) = false → OneInv (x.s.unlock t k).2 x.hs x.ws := fun h => by have := U.2; rwa [if_neg (by simpa using h)] at this
    have swA : (x.s.swap t k f.d f.e).1 = true → OneInv (x.s.swap t k f.d f.e).2.2 x.hs (x.ws.set k.toNat f.e) := fun h => by have := W.2.2; rwa [if_pos h] at this
    have swB : (x.s.swap t k f.d f.e).1 = false → OneInv (x.s.swap t k f.d f.e).2.2 x.hs x.ws := fun h => by have := W.2.2; rwa [if_neg (by rw [h]; decide)] at this
    exact ⟨n0, hlt, n0, hlt, n0, hlt, n0, hlt, fun _ => ⟨hr, hk, hwl, is e1, fun _ => ⟨is e2, fun _ => one_tail hlt hg L.2.2 (len_load ..) (by decide) ⟨⟨AV.sub_same _, AV.sub_same _, AV.sub_same _, AV.sub_same _, AV.sub_same _, AV.sub_same _, AV.sub_lit', trivial⟩, ⟨.same _, .same _, .same _, .same _, trivial⟩, rfl, tl_ok rfl, ⟨.inl (in_ok rfl), .inl (in_ok rfl), .inl (in_ok rfl), .inr rfl, trivial⟩, ⟨Nat.le_of_ble_eq_true rfl, rfl⟩⟩⟩⟩, fun _ =>
      ⟨fun _ => ⟨hr, is e3, fun _ => ⟨hk, hwl, one_tail hlt hg S.2 (len_store ..) (by decide) ⟨⟨AV.sub_same _, AV.sub_same _, AV.sub_same _, AV.sub_same _, AV.sub_same _, AV.sub_same _, AV.sub_lit', trivial⟩, ⟨.same _, .same _, .same _, .same _, trivial⟩, rfl, tl_ok rfl, ⟨.inl (in_ok rfl), .inl (in_ok rfl), .inl (in_ok rfl), .inr rfl, trivial⟩, ⟨Nat.le_of_ble_eq_true rfl, rfl⟩⟩⟩⟩, fun _ =>
      ⟨fun _ => ⟨n0, hlt, hr, hk, hwl, is e4, fun _ => ⟨is e5, fun _ => ⟨fun hs => ⟨n0, hlt, hk, hwl, one_tail hlt hg (swA hs) (len_swap ..) (by decide) ⟨⟨AV.sub_same _, AV.sub_same _, AV.sub_same _, AV.sub_same _, AV.sub_same _, AV.sub_same _, AV.sub_lit', trivial⟩, ⟨.same _, .same _, .same _, .same _, trivial⟩, rfl, tl_ok rfl, ⟨.inl (in_ok rfl), .inl (in_ok rfl), .inl (in_ok rfl), .inr rfl, trivial⟩, ⟨Nat.le_of_ble_eq_true rfl, rfl⟩⟩⟩, fun hs => one_tail hlt hg (swB hs) (len_swap ..) (by decide) ⟨⟨AV.sub_same _, AV.sub_same _, AV.sub_same _, AV.sub_same _, AV.sub_same _, AV.sub_same _, AV.sub_lit', trivial⟩, ⟨.same _, .same _, .same _, .same _, trivial⟩, rfl, tl_ok rfl, ⟨.inl (in_ok rfl), .inl (in_ok rfl), .inl (in_ok rfl), .inr rfl, trivial⟩, ⟨Nat.le_of_ble_eq_true rfl, rfl⟩⟩⟩⟩⟩, fun _ =>
      ⟨fun h3 => ⟨fun _ => ⟨hk, hhl, hr, is e6, fun _ => ⟨hk, hhl, fun hs => ⟨hk, hhl, one_tail hlt hg (lockA (of_decide_eq_true hs)) (len_take ..) (by decide) ⟨⟨AV.sub_same _, AV.sub_same _, AV.sub_same _, AV.sub_same _, AV.sub_same _, AV.sub_same _, AV.sub_lit', trivial⟩, ⟨.same _, .same _, .same _, .same _, trivial⟩, rfl, tl_ok rfl, ⟨.inl (in_ok rfl), .inl (in_ok rfl), .inl (in_ok rfl), .inr rfl, trivial⟩, ⟨Nat.le_of_ble_eq_true rfl, rfl⟩⟩⟩, fun hs => one_tail hlt hg (lockB (of_decide_eq_false hs)) (len_take ..) (by decide) ⟨⟨AV.sub_same _, AV.sub_same _, AV.sub_same _, AV.sub_same _, AV.sub_same _, AV.sub_same _, AV.sub_lit', trivial⟩, ⟨.same _, .same _, .same _, .same _, trivial⟩, rfl, tl_ok rfl, ⟨.inl (in_ok rfl), .inl (in_ok rfl), .inl (in_ok rfl), .inr rfl, trivial⟩, ⟨Nat.le_of_ble_eq_true rfl, rfl⟩⟩⟩⟩, fun hn => is hn h3⟩, fun _ => ⟨fun _ => ⟨hk, hhl, hr, is e6, fun _ => ⟨hk, hhl, fun hs => ⟨hk, hhl, one_tail hlt hg (lockA (of_decide_eq_true hs)) (len_take ..) (by decide) ⟨⟨AV.sub_same _, AV.sub_same _, AV.sub_same _, AV.sub_same _, AV.sub_same _, AV.sub_same _, AV.sub_lit', trivial⟩, ⟨.same _, .same _, .same _, .same _, trivial⟩, rfl, tl_ok rfl, ⟨.inl (in_ok rfl), .inl (in_ok rfl), .inl (in_ok rfl), .inr rfl, trivial⟩, ⟨Nat.le_of_ble_eq_true rfl, rfl⟩⟩⟩, fun hs => one_tail hlt hg (lockB (of_decide_eq_false hs)) (len_take ..) (by decide) ⟨⟨AV.sub_same _, AV.sub_same _, AV.sub_same _, AV.sub_same _, AV.sub_same _, AV.sub_same _, AV.sub_lit', trivial⟩, ⟨.same _, .same _, .same _, .same _, trivial⟩, rfl, tl_ok rfl, ⟨.inl (in_ok rfl), .inl (in_ok rfl), .inl (in_ok rfl), .inr rfl, trivial⟩, ⟨Nat.le_of_ble_eq_true rfl, rfl⟩⟩⟩⟩, fun _ => ⟨fun _ => ⟨hr, hk, hhl, is e7, fun _ => ⟨fun hs => ⟨hk, hhl, one_tail hlt hg (tryA hs) (len_take ..) (by decide) ⟨⟨AV.sub_same _, AV.sub_same _, AV.sub_same _, AV.sub_same _, AV.sub_same _, AV.sub_same _, AV.sub_lit', trivial⟩, ⟨.same _, .same _, .same _, .same _, trivial⟩, rfl, tl_ok rfl, ⟨.inl (in_ok rfl), .inl (in_ok rfl), .inl (in_ok rfl), .inr rfl, trivial⟩, ⟨Nat.le_of_ble_eq_true rfl, rfl⟩⟩⟩, fun hs => one_tail hlt hg (tryB hs) (len_take ..) (by decide) ⟨⟨AV.sub_same _, AV.sub_same _, AV.sub_same _, AV.sub_same _, AV.sub_same _, AV.sub_same _, AV.sub_lit', trivial⟩, ⟨.same _, .same _, .same _, .same _, trivial⟩, rfl, tl_ok rfl, ⟨.inl (in_ok rfl), .inl (in_ok rfl), .inl (in_ok rfl), .inr rfl, trivial⟩, ⟨Nat.le_of_ble_eq_true rfl, rfl⟩⟩⟩⟩, fun _ => ⟨hk, hhl, hr, is e8, fun _ => ⟨hk, hhl, fun hs => ⟨hk, hhl, one_tail hlt hg (unA hs) (len_unlock ..) (by decide) ⟨⟨AV.sub_same _, AV.sub_same _, AV.sub_same _, AV.sub_same _, AV.sub_same _, AV.sub_same _, AV.sub_lit', trivial⟩, ⟨.same _, .same _, .same _, .same _, trivial⟩, rfl, tl_ok rfl, ⟨.inl (in_ok rfl), .inl (in_ok rfl), .inl (in_ok rfl), .inr rfl, trivial⟩, ⟨Nat.le_of_ble_eq_true rfl, rfl⟩⟩⟩, fun hs => one_tail hlt hg (unB hs) (len_unlock ..) (by decide) ⟨⟨AV.sub_same _, AV.sub_same _, AV.sub_same _, AV.sub_same _, AV.sub_same _, AV.sub_same _, AV.sub_lit', trivial⟩, ⟨.same _, .same _, .same _, .same _, trivial⟩, rfl, tl_ok rfl, ⟨.inl (in_ok rfl), .inl (in_ok rfl), .inl (in_ok rfl), .inr rfl, trivial⟩, ⟨Nat.le_of_ble_eq_true rfl, rfl⟩⟩⟩⟩⟩⟩⟩⟩⟩⟩
  · exact ⟨⟨AV.sub_same _, AV.sub_same _, AV.sub_same _, AV.sub_same _, AV.sub_same _, AV.sub_same _, trivial⟩, ⟨.same _, .same _, .same _, .same _, trivial⟩, rfl, tl_ok rfl, ⟨.inr rfl, .inr rfl, .inr rfl, .inr rfl, trivial⟩, ⟨Nat.le_of_ble_eq_true rfl, rfl⟩⟩

theorem one_law (xs : List Five) (c : Nat) : CallsSx Try.prog 5 [.sl false 0 0 5 xs.length c] ([(0, .ro Kd.five xs)] : Heap V) 1 (fun v _ _ _ => v.sub .tt) := by
  refine calls_runL (args := [.sl false 0 0 5 xs.length c]) cfg11_ok (n := 60) (fn := Try.f5) ⟨by kernel_rfl, by kernel_rfl⟩ (by kernel_rfl) (show 1 ≤ _ by decide +kernel) ?_
  rw [t5]
  refine ⟨fun _ => AV.sub_same _, fun h1 => ?_⟩
  have hb : xs.length ≤ 200 := by have := of_decide_eq_false h1; omega
  have r0 : BSub (some (.cells 3 [.lit .i64 0, .lit .i64 0, .lit .i64 0] : Blk V)) (.arr 3 Kd.int [0, 0, 0] 0) := BSub.rows (U := V) 3 Kd.int _ _ 3 rfl (by decide)
  have r1 : BSub (some (.cells 3 [.lit .i64 (-1), .lit .i64 (-1), .lit .i64 (-1)] : Blk V)) (.arr 3 Kd.int [-1, -1, -1] 0) := BSub.rows (U := V) 3 Kd.int _ _ 3 rfl (by decide)
  refine ⟨l50_ok, fun q => q = ⟨xs, c, hb⟩, ⟨Nat.le_refl _, SImp.of_wk (ren := []) ⟨xs, c, hb⟩ ?_ rfl⟩, fun _ _ _ _ => AV.sub_same _⟩
  exact ⟨⟨AV.sub_same _, AV.sub_same _, AV.sub_same _, AV.sub_same _, AV.sub_same _, AV.sub_lit', trivial⟩, ⟨r0, r1, .same _, .same _, trivial⟩, rfl, tl_ok rfl, ⟨.inl (in_ok rfl), .inl (in_ok rfl), .inr rfl, .inr rfl, trivial⟩, ⟨Nat.le_of_ble_eq_true rfl, rfl⟩⟩

end Sx
end Go.Proofs.Ytjackepkphdibaa
