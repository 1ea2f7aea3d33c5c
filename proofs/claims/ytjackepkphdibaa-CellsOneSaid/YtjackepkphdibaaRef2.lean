/-
  A new row of the document's words and locks, and rows of deeds compared.
-/
import Derived.Test.YtjackepkphdibaaRef
namespace Go.Proofs.Ytjackepkphdibaa
namespace Sx
open Go
set_option linter.unusedSimpArgs false
set_option linter.unusedVariables false

theorem endNewR {n' : Nat} {h' : Heap V} {s : MR} {sw sh st sl m a b c d : Nat} {x y z u : AV}
    (hne : (a ≠ m ∧ b ≠ m ∧ c ≠ m ∧ d ≠ m) ∧ a ≠ b ∧ a ≠ c ∧ a ≠ d ∧ b ≠ c ∧ b ≠ d ∧ c ≠ d)
    (h0 : h'.get m = some (.cells 43 [x, y, z, u]))
    (hx : x.sub (.sl false a 0 1 s.w.length (s.w.length + sw))) (hy : y.sub (.sl false b 0 1 s.h.length (s.h.length + sh))) (hz : z.sub (.sl false c 0 1 s.t.length (s.t.length + st))) (hu : u.sub (.sl false d 0 5 s.l.length (s.l.length + sl)))
    (h1 : BSub (h'.get a) (.arr 3 Kd.int s.w sw : Blk V)) (h2 : BSub (h'.get b) (.arr 4 Kd.bool s.h sh : Blk V)) (h3 : BSub (h'.get c) (.arr 3 Kd.int s.t st : Blk V)) (h4 : BSub (h'.get d) (.arr 45 Kd.deed s.l sl : Blk V)) :
    EndFree n' (.ptr m 0) h' (.ptr 0 0) [.obj (oR s)] := by
  refine ⟨_, pack (ren := [(0, m), (1, a), (2, b), (3, c), (4, d)]) laid_V (x := oR s) (n := 5) (m := m) (h := h') ⟨rBlk s sw sh st sl, rfl, rfl, sw, sh, st, sl, rfl⟩ rfl rfl ⟨?_, ?_, ?_, ?_, ?_, trivial⟩ rfl, ⟨⟨fun _ => m, ⟨?_, trivial⟩, AV.sub_same _⟩, rfl, rfl⟩⟩
  · show BSub (h'.get m) _
    rw [h0]
    exact BSub.cells 43 _ _ (AV.subL_cons hx (AV.subL_cons hy (AV.subL_cons hz (AV.subL_cons hu AV.subL_nil))))
  · show BSub ((h'.del m).get a) _
    rw [Heap.get_del_ne hne.1.1]; exact h1
  · show BSub (((h'.del m).del a).get b) _
    rw [Heap.get_del_ne hne.2.1.symm, Heap.get_del_ne hne.1.2.1]; exact h2
  · show BSub ((((h'.del m).del a).del b).get c) _
    rw [Heap.get_del_ne hne.2.2.2.2.1.symm, Heap.get_del_ne hne.2.2.1.symm, Heap.get_del_ne hne.1.2.2.1]; exact h3
  · show BSub (((((h'.del m).del a).del b).del c).get d) _
    rw [Heap.get_del_ne hne.2.2.2.2.2.2.symm, Heap.get_del_ne hne.2.2.2.2.2.1.symm, Heap.get_del_ne hne.2.2.2.1.symm, Heap.get_del_ne hne.1.2.2.2]; exact h4
  · refine BSub.of_eq ?_
    show (bif Nat.beq m m then _ else _) = _
    rw [Nat.beq_refl]; rfl

def runNewR : RunFree V := fun ar K => match ar with
  | [.int .i64 a, .int .i64 b] => K (.ptr 0 0) [.obj (oR (MR.mk0 a b))]
  | _ => .bad 500
theorem cap4R_le (n : Int) : 0 ≤ MR.cap4 n ∧ MR.cap4 n ≤ 4096 := by unfold MR.cap4; split <;> split <;> omega

theorem hNewR : HookOk Try.prog 14 (hookFree [.int .i64, .int .i64] runNewR) := by
  refine free_hook (C := cfg0) cfg0_ok (n := 40) (fn := Try.f14) ⟨by kernel_rfl, by kernel_rfl⟩ (by kernel_rfl) ?_
  intro M ar K0 H
  unfold runNewR at H
  split at H
  · rename_i a b
    refine ⟨show 2 ≤ _ by decide +kernel, ?_⟩
    show (runF cfg0 40 14 Try.f14 [.int .i64 a, .int .i64 b] [] 2).holds _
    rw [t14]
    have hc : ∀ n : Int, (if 4096 < (if 0 > n then 0 else n) then (4096 : Int) else if 0 > n then 0 else n) = MR.cap4 n := fun _ => rfl
    simp only [hc]
    have ha := cap4R_le a
    have hb := cap4R_le b
    have e1 : (MR.mk0 a b).w.length = (MR.cap4 a).toNat := by simp [MR.mk0, MR.many]
    have e2 : (MR.mk0 a b).h.length = (MR.cap4 b).toNat := by simp [MR.mk0, MR.many]
    have e3 : (MR.mk0 a b).t.length = (MR.cap4 b).toNat := by simp [MR.mk0, MR.many]
    have fin := fun (h' : Heap V) (n' i j k : Nat) (hij : (i ≠ 5 ∧ j ≠ 5 ∧ k ≠ 5 ∧ 99 ≠ 5) ∧ i ≠ j ∧ i ≠ k ∧ i ≠ 99 ∧ j ≠ k ∧ j ≠ 99 ∧ k ≠ 99)
      (h0 : h'.get 5 = some (.cells 43 [.sl false i 0 1 (MR.cap4 a).toNat (MR.cap4 a).toNat, .sl false j 0 1 (MR.cap4 b).toNat (MR.cap4 b).toNat, .sl false k 0 1 (MR.cap4 b).toNat (MR.cap4 b).toNat, .nilS]))
      (h1 : h'.get i = some (.arr 3 Kd.int (MR.mk0 a b).w ((MR.cap4 a).toNat - (MR.cap4 a).toNat))) (h2 : h'.get j = some (.arr 4 Kd.bool (MR.mk0 a b).h ((MR.cap4 b).toNat - (MR.cap4 b).toNat)))
      (h3 : h'.get k = some (.arr 3 Kd.int (MR.mk0 a b).t ((MR.cap4 b).toNat - (MR.cap4 b).toNat))) (h4 : h'.get 99 = none) =>
      endNewR (n' := n') (s := MR.mk0 a b) (sl := 0) (d := 99) hij h0 (AV.sub_sl e1.symm (by rw [e1]; omega)) (AV.sub_sl e2.symm (by rw [e2]; omega)) (AV.sub_sl e3.symm (by rw [e3]; omega)) AV.sub_nilS (BSub.of_eq h1) (BSub.of_eq h2) (BSub.of_eq h3) (h4 ▸ .none _ _)
    have na : 0 ≤ MR.cap4 a ∧ MR.cap4 a ≤ MR.cap4 a ∧ 8 * MR.cap4 a ≤ 281474976710656 := ⟨by omega, by omega, by omega⟩
    have nb : 0 ≤ MR.cap4 b ∧ MR.cap4 b ≤ MR.cap4 b ∧ 8 * MR.cap4 b ≤ 281474976710656 := ⟨by omega, by omega, by omega⟩
    have nc : 0 ≤ MR.cap4 b ∧ MR.cap4 b ≤ MR.cap4 b ∧ 1 * MR.cap4 b ≤ 281474976710656 := ⟨by omega, by omega, by omega⟩
    simp only [Out.holds, na, nb, nc, true_and]
    repeat' apply And.intro
    all_goals first
      | exact trivial
      | exact ⟨_, _, H, fin _ _ _ _ _ (by decide) rfl rfl rfl rfl rfl⟩
      | omega
  · exact H.elim

theorem l18_ok : LoopOk Try.prog 0 (loopOf Try.f18 0) L18 := by
  refine loopS_ok (C := cfg0) cfg0_ok (f := 18) (n := 40) 2 I18 (fun p i => i ≤ p.xs.length ∧ p.xs.take i = p.ys.take i) (fun _ => 0) (fun p i => p.xs.length - i) (fun p _ => p.xs = p.ys) (fun p (_ : Unit) => I18 p p.xs.length) (fun p _ => p.xs ≠ p.ys) (fun p (_ : Unit) => R18 p) (fun p => ⟨Nat.zero_le _, rfl⟩) ?_
  intro p i ⟨hi, ht⟩
  rw [b18]
  simp only [Out.holds, Nat.zero_add, decide_eq_true_eq, decide_eq_false_iff_not, Bool.not_eq_true', Bool.not_eq_false']
  have hb := p.hb
  have hl := p.hl
  have hx : ∀ (h : i < p.xs.length), p.xs.getD i (V.enc Kd.deed).dflt = p.xs[i] := fun h => by rw [List.getD_eq_getElem?_getD, List.getElem?_eq_getElem h]; rfl
  have hy : ∀ (h : i < p.ys.length), p.ys.getD i (V.enc Kd.deed).dflt = p.ys[i] := fun h => by rw [List.getD_eq_getElem?_getD, List.getElem?_eq_getElem h]; rfl
  refine ⟨fun h => ⟨by omega, by omega, by omega, by omega, fun h2 => ⟨(), [], ?_, ?_⟩, fun h2 => ⟨i + 1, [], ?_, ⟨by omega, ?_⟩, by omega⟩⟩, fun h => ⟨trivial, (), [], ?_, ?_⟩⟩
  · exact ⟨⟨AV.sub_same _, trivial⟩, ⟨.same _, .same _, trivial⟩, rfl, tl_ok rfl, ⟨.inr rfl, .inr rfl, trivial⟩, ⟨Nat.le_of_ble_eq_true rfl, rfl⟩⟩
  · intro hxy
    have := (deed_ext (p.xs.getD i (V.enc Kd.deed).dflt) (p.ys.getD i (V.enc Kd.deed).dflt)).2 (by rw [hxy])
    exact absurd (this.symm.trans h2) (by decide)
  · exact ⟨⟨AV.sub_same _, AV.sub_same _, AV.sub_int (wrap_nat (by omega)), trivial⟩, ⟨.same _, .same _, trivial⟩, rfl, tl_ok rfl, ⟨.inr rfl, .inr rfl, trivial⟩, ⟨Nat.le_of_ble_eq_true rfl, rfl⟩⟩
  · have h1 : i < p.xs.length := by omega
    have h3 : i < p.ys.length := by omega
    rw [List.take_succ_eq_append_getElem h1, List.take_succ_eq_append_getElem h3, ht, ← hx h1, ← hy h3]
    exact congrArg (fun z => List.take i p.ys ++ [z]) ((deed_ext _ _).1 h2)
  · exact ⟨⟨AV.sub_same _, AV.sub_same _, AV.sub_int (by omega), trivial⟩, ⟨.same _, .same _, trivial⟩, rfl, tl_ok rfl, ⟨.inr rfl, .inr rfl, trivial⟩, ⟨Nat.le_of_ble_eq_true rfl, rfl⟩⟩
  · have e1 : p.xs.take i = p.xs := List.take_of_length_le (by omega)
    have e2 : p.ys.take i = p.ys := List.take_of_length_le (by omega)
    rw [← e1, ht, e2]

theorem hDeeds : HookOk Try.prog 18 (hookFree [.rows Kd.deed, .rows Kd.deed] runDeeds) := by
  refine free_hook (C := cfg1) cfg1_ok (n := 40) (fn := Try.f18) ⟨by kernel_rfl, by kernel_rfl⟩ (by kernel_rfl) ?_
  intro M ar K0 H
  unfold runDeeds at H
  split at H
  · rename_i xs c ys d
    obtain ⟨hb, H⟩ := H
    refine ⟨show 2 ≤ _ by decide +kernel, ?_⟩
    show (runF cfg1 40 18 Try.f18 [.sl false 0 0 5 xs.length c, .sl false 1 0 5 ys.length d] [(0, .ro Kd.deed xs), (1, .ro Kd.deed ys)] 2).holds _
    rw [t18]
    refine ⟨fun h => ⟨_, _, H, endPlain ?_ rfl⟩, fun h => ?_⟩
    · refine fun r v hv => ?_
      rw [show decide (xs = ys) = false from decide_eq_false (fun e => by subst e; simp at h)]; exact hv
    · have hl : xs.length = ys.length := by
        have h' : (xs.length : Int) = (ys.length : Int) := by simpa using h
        omega
      refine ⟨l18_ok, ⟨xs, c, ys, d, hl, hb⟩, [], ⟨Nat.le_refl _, ?_⟩, fun _ he => ⟨_, _, H, endPlain ?_ rfl⟩, fun _ he => ⟨_, _, H, endPlain ?_ rfl⟩⟩
      · exact ⟨⟨AV.sub_same _, AV.sub_same _, AV.sub_lit', trivial⟩, ⟨.same _, .same _, trivial⟩, rfl, tl_ok rfl, ⟨.inr rfl, .inr rfl, trivial⟩, ⟨Nat.le_of_ble_eq_true rfl, rfl⟩⟩
      · rw [show decide (xs = ys) = true from decide_eq_true he]; exact fun _ _ h => h
      · rw [show decide (xs = ys) = false from decide_eq_false he]; exact fun _ _ h => h
  · exact H.elim

end Sx
end Go.Proofs.Ytjackepkphdibaa
