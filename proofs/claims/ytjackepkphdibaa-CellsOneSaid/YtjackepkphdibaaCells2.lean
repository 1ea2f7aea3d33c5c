/-
  Loops over locks, numbers and deeds: what they come to.
-/
import Derived.Test.YtjackepkphdibaaTrees2
namespace Go.Proofs.Ytjackepkphdibaa
namespace Sx
open Go
set_option linter.unusedSimpArgs false
set_option linter.unusedVariables false

theorem wrap_nat {n : Nat} (h : n < 4611686018427387904) : IntKind.wrap .i64 ((n : Int) + 1) = ((n + 1 : Nat) : Int) := by
  simp [IntKind.wrap, IntKind.bits, IntKind.signed]; omega

theorem heldTo_succ (s : MC) (t : Int) (i : Nat) : heldTo s t (i + 1) = heldTo s t i ++ (if s.locks[i]? = some ⟨t, true⟩ then [(i : Int)] else []) := by
  unfold heldTo
  rw [List.range_succ, List.filter_append, List.map_append]
  congr 1
  by_cases h : s.locks[i]? = some ⟨t, true⟩ <;> simp [h]
theorem heldTo_len (s : MC) (t : Int) (i : Nat) : (heldTo s t i).length ≤ i := by
  unfold heldTo
  rw [List.length_map]
  exact Nat.le_trans (List.length_filter_le _ _) (by simp)
theorem heldTo_end (s : MC) (t : Int) {i : Nat} (h : s.locks.length ≤ i) : heldTo s t i = s.held t := by
  unfold MC.held
  obtain ⟨d, rfl⟩ := Nat.exists_eq_add_of_le h
  clear h
  induction d with
  | zero => rfl
  | succ d ih => rw [← Nat.add_assoc, heldTo_succ, ih, if_neg (by simp)]; simp

theorem holder_ext (a : Holder) (t : Int) : (a.thread == t && (a.held == true && true)) = true ↔ a = ⟨t, true⟩ := by
  obtain ⟨x, y⟩ := a
  simp
theorem deed_ext (a b : Deed) : (a.thread == b.thread && (a.act == b.act && (a.cell == b.cell && (a.before == b.before && (a.after == b.after && true))))) = true ↔ a = b := by
  obtain ⟨x1, x2, x3, x4, x5⟩ := a
  obtain ⟨y1, y2, y3, y4, y5⟩ := b
  simp

theorem l12_ok : LoopOk Try.prog 0 (loopOf Try.f12 0) L12 := by
  refine loopN_ok (C := cfg0) cfg0_ok (f := 12) (n := 40) 5 I12 (fun p x => x.1 ≤ p.s.locks.length) (fun _ => (0, 0)) (fun p x => p.s.locks.length - x.1) (fun p x => p.s.locks.length ≤ x.1) I12 (fun p => Nat.zero_le _) ?_
  intro p x hx
  rw [b12]
  simp only [Out.holds, Nat.zero_add, decide_eq_true_eq, decide_eq_false_iff_not]
  have hb := p.hb
  have hlen := heldTo_len p.s p.t x.1
  refine ⟨fun h => ⟨by omega, by omega, fun h2 => ⟨⟨trivial, trivial, trivial, by omega⟩, fun y => ⟨(x.1 + 1, y), [(5, 9)], ?_, by show x.1 + 1 ≤ _; omega, by show _ - (x.1 + 1) < _ - x.1; omega⟩⟩, fun h2 => ⟨(x.1 + 1, x.2), [(5, 5)], ?_, by show x.1 + 1 ≤ _; omega, by show _ - (x.1 + 1) < _ - x.1; omega⟩⟩, fun h => ⟨trivial, x, [(5, 5)], ?_, by omega⟩⟩
  · have hl : p.s.locks[x.1]? = some ⟨p.t, true⟩ := by
      have := (holder_ext _ _).1 h2
      rw [List.getElem?_eq_getElem (by omega)]
      rw [List.getD_eq_getElem?_getD, List.getElem?_eq_getElem (by omega)] at this
      exact congrArg some this
    have he : heldTo p.s p.t (x.1 + 1) = heldTo p.s p.t x.1 ++ [(x.1 : Int)] := by rw [heldTo_succ, if_pos hl]
    refine ⟨⟨AV.sub_same _, AV.sub_same _, AV.sub_sl (by show _ = (heldTo p.s p.t (x.1 + 1)).length; rw [he]; simp) (by show _ = (heldTo p.s p.t (x.1 + 1)).length + y; rw [he]; simp), AV.sub_same _, AV.sub_same _, AV.sub_int (wrap_nat (by omega)), trivial⟩,
      ⟨.same _, .same _, .same _, .same _, BSub.of_eq (congrArg (fun z => some (Blk.arr 3 Kd.int z y : Blk V)) he.symm), trivial⟩, rfl, tl_ok rfl, ⟨.inl (in_ok rfl), .inl (in_ok rfl), .inl (in_ok rfl), .inr rfl, .inr rfl, .inr rfl, .inr rfl, trivial⟩, ⟨Nat.le_of_ble_eq_true rfl, rfl⟩⟩
  · have hl : ¬ p.s.locks[x.1]? = some ⟨p.t, true⟩ := by
      intro hh
      have h3 : (p.s.locks.getD x.1 (V.enc Kd.holder).dflt) = ⟨p.t, true⟩ := by rw [List.getD_eq_getElem?_getD, hh]; rfl
      have := (holder_ext _ _).2 h3
      exact absurd (h2.symm.trans this) (by decide)
    have he : heldTo p.s p.t (x.1 + 1) = heldTo p.s p.t x.1 := by rw [heldTo_succ, if_neg hl, List.append_nil]
    refine ⟨⟨AV.sub_same _, AV.sub_same _, AV.sub_sl (by show _ = (heldTo p.s p.t (x.1 + 1)).length; rw [he]) (by show _ = (heldTo p.s p.t (x.1 + 1)).length + x.2; rw [he]), AV.sub_same _, AV.sub_same _, AV.sub_int (wrap_nat (by omega)), trivial⟩,
      ⟨.same _, .same _, .same _, .same _, BSub.of_eq (congrArg (fun z => some (Blk.arr 3 Kd.int z x.2 : Blk V)) he.symm), trivial⟩, rfl, tl_ok rfl, ⟨.inl (in_ok rfl), .inr rfl, .inr rfl, .inr rfl, .inr rfl, .inl (in_ok rfl), trivial⟩, ⟨Nat.le_of_ble_eq_true rfl, rfl⟩⟩
  · exact ⟨⟨AV.sub_same _, AV.sub_same _, AV.sub_same _, AV.sub_same _, AV.sub_same _, AV.sub_same _, trivial⟩, ⟨.same _, .same _, .same _, .same _, .same _, trivial⟩, rfl, tl_ok rfl, ⟨.inr rfl, .inr rfl, .inr rfl, .inr rfl, .inl (in_ok rfl), trivial⟩, ⟨Nat.le_of_ble_eq_true rfl, rfl⟩⟩

theorem cfg1_ok : cfg1.ok := ⟨cfg0_ok.τ, cfg0_ok.κ, cfg0_ok.mixed, cfg0_ok.fns, cfg0_ok.hooks⟩

def runHeld : RunC := fun s ar K => match ar with
  | [.int .i64 t] => .need (s.locks.length ≤ 1099511627776) (.all Nat fun sp => K (.sl false 4 0 1 (s.held t).length ((s.held t).length + sp)) s [.arr 3 Kd.int (s.held t) sp])
  | _ => .bad 500

theorem hHeld : HookOk Try.prog 12 (hookObj 4 [.int .i64] (onC runHeld)) := by
  refine cells_hook1 (C := cfg1) cfg1_ok (n := 40) (fn := Try.f12) ⟨by kernel_rfl, by kernel_rfl⟩ (by kernel_rfl) ?_
  intro M s ar K0 H
  unfold runHeld at H
  split at H
  · rename_i t
    obtain ⟨hb, H⟩ := H
    refine ⟨show 2 ≤ _ by decide +kernel, fun sw sl sg => ?_⟩
    simp only [argAV, Arg.av, argHeap, List.append_nil, List.length_cons, List.length_nil, Nat.reduceAdd, Nat.zero_add]
    rw [t12]
    refine ⟨l12_ok, ⟨s, sw, sl, sg, t, hb⟩, [(5, 99)], ⟨Nat.le_refl _, ?_⟩, fun x hx => ?_⟩
    · exact ⟨⟨AV.sub_same _, AV.sub_same _, AV.sub_nilS, AV.sub_same _, AV.sub_same _, AV.sub_lit', trivial⟩, ⟨.same _, .same _, .same _, .same _, .none _ _, trivial⟩, rfl, tl_ok rfl, ⟨.inr rfl, .inr rfl, .inr rfl, .inr rfl, trivial⟩, ⟨Nat.le_of_ble_eq_true rfl, rfl⟩⟩
    · have he := heldTo_end s t hx
      refine ⟨_, _, _, H x.2, endC (a := 1) (b := 2) (c := 3) (sw := sw) (sl := sl) (sg := sg) (by decide) rfl (AV.sub_same _) (AV.sub_same _) (AV.sub_same _) (.same _) (.same _) (.same _) ⟨⟨fun _ => 5, ⟨BSub.of_eq (congrArg (fun z => some (Blk.arr 3 Kd.int z x.2 : Blk V)) he), trivial⟩, AV.sub_sl (congrArg List.length he) (congrArg (fun z : List Int => z.length + x.2) he)⟩, rfl, rfl⟩⟩
  · exact H.elim

theorem l19_ok : LoopOk Try.prog 0 (loopOf Try.f19 0) L19 := by
  refine loopS_ok (C := cfg0) cfg0_ok (f := 19) (n := 40) 2 I19 (fun p i => i ≤ p.xs.length ∧ p.xs.take i = p.ys.take i) (fun _ => 0) (fun p i => p.xs.length - i) (fun p _ => p.xs = p.ys) (fun p (_ : Unit) => I19 p p.xs.length) (fun p _ => p.xs ≠ p.ys) (fun p (_ : Unit) => R19 p) (fun p => ⟨Nat.zero_le _, rfl⟩) ?_
  intro p i ⟨hi, ht⟩
  rw [b19]
  simp only [Out.holds, Nat.zero_add, decide_eq_true_eq, decide_eq_false_iff_not, bne_iff_ne, bne_eq_false_iff_eq]
  have hb := p.hb
  have hl := p.hl
  have hx : ∀ (h : i < p.xs.length), p.xs.getD i (V.enc Kd.int).dflt = p.xs[i] := fun h => by rw [List.getD_eq_getElem?_getD, List.getElem?_eq_getElem h]; rfl
  have hy : ∀ (h : i < p.ys.length), p.ys.getD i (V.enc Kd.int).dflt = p.ys[i] := fun h => by rw [List.getD_eq_getElem?_getD, List.getElem?_eq_getElem h]; rfl
  refine ⟨fun h => ⟨by omega, by omega, by omega, by omega, fun h2 => ⟨(), [], ?_, ?_⟩, fun h2 => ⟨i + 1, [], ?_, ⟨by omega, ?_⟩, by omega⟩⟩, fun h => ⟨trivial, (), [], ?_, ?_⟩⟩
  · exact ⟨⟨AV.sub_same _, trivial⟩, ⟨.same _, .same _, trivial⟩, rfl, tl_ok rfl, ⟨.inr rfl, .inr rfl, trivial⟩, ⟨Nat.le_of_ble_eq_true rfl, rfl⟩⟩
  · intro hxy
    apply h2
    rw [hxy]
  · exact ⟨⟨AV.sub_same _, AV.sub_same _, AV.sub_int (wrap_nat (by omega)), trivial⟩, ⟨.same _, .same _, trivial⟩, rfl, tl_ok rfl, ⟨.inr rfl, .inr rfl, trivial⟩, ⟨Nat.le_of_ble_eq_true rfl, rfl⟩⟩
  · have h1 : i < p.xs.length := by omega
    have h3 : i < p.ys.length := by omega
    rw [List.take_succ_eq_append_getElem h1, List.take_succ_eq_append_getElem h3, ht, ← hx h1, ← hy h3]
    exact congrArg (fun z => List.take i p.ys ++ [z]) h2
  · exact ⟨⟨AV.sub_same _, AV.sub_same _, AV.sub_int (by omega), trivial⟩, ⟨.same _, .same _, trivial⟩, rfl, tl_ok rfl, ⟨.inr rfl, .inr rfl, trivial⟩, ⟨Nat.le_of_ble_eq_true rfl, rfl⟩⟩
  · have e1 : p.xs.take i = p.xs := List.take_of_length_le (by omega)
    have e2 : p.ys.take i = p.ys := List.take_of_length_le (by omega)
    rw [← e1, ht, e2]

theorem free_hook {C : Cfg Try.prog V} (hC : C.ok) {f n : Nat} {fn : Func} {sgn : List (Sg V)} {run : RunFree V} (hg : Try.prog.funcs[f]? = some fn ∧ (fn.name == "runtime.NumGoroutine") = false) (hb : fn.body.isSome = true)
    (H : ∀ (M : Goal V) (ar : List (Arg V)) (K0 : AV → List (Blk V) → Out V), (run ar K0).holds M → ar.length ≤ fn.ntmps ∧
      (runF C n f fn (argAV 0 ar) (argHeap 0 ar) ar.length).holds ⟨fun _ _ => False, fun v0 h' n' => ∃ v E, (K0 v E).holds M ∧ EndFree n' v0 h' v E⟩) :
    HookOk Try.prog f (hookFree sgn run) := by
  refine hookFree_ok ⟨fn, hg.1, hg.2, by cases hb' : fn.body <;> simp [hb'] at hb ⊢⟩ ?_
  intro M ar K0 h
  obtain ⟨hl, h⟩ := H M ar _ h
  refine calls_runF (R := fun v0 h' n' _ => ∃ v E, (K0 v E).holds M ∧ EndFree n' v0 h' v E) hC (n := n) hg hb ?_ h
  have : ∀ (j : Nat) (l : List (Arg V)), (argAV j l).length = l.length := by
    intro j l; induction l generalizing j with
    | nil => rfl
    | cons a l ih => simp [argAV, ih]
  rw [this]; exact hl

theorem endPlain {n' : Nat} {v0 v : AV} {h' : Heap V} (h : v0.sub v) (hv : v.on noName = true) : EndFree n' v0 h' v [] := ⟨h', HImp.refl _ _, .plain h hv⟩

def runInts : RunFree V := fun ar K => match ar with
  | [.rows .int xs c, .rows .int ys d] => .need (xs.length ≤ 1099511627776) (K (.bool (decide (xs = ys))) [])
  | _ => .bad 500
def runDeeds : RunFree V := fun ar K => match ar with
  | [.rows .deed xs c, .rows .deed ys d] => .need (xs.length ≤ 1099511627776) (K (.bool (decide (xs = ys))) [])
  | _ => .bad 500

theorem hInts : HookOk Try.prog 19 (hookFree [.rows Kd.int, .rows Kd.int] runInts) := by
  refine free_hook (C := cfg1) cfg1_ok (n := 40) (fn := Try.f19) ⟨by kernel_rfl, by kernel_rfl⟩ (by kernel_rfl) ?_
  intro M ar K0 H
  unfold runInts at H
  split at H
  · rename_i xs c ys d
    obtain ⟨hb, H⟩ := H
    refine ⟨show 2 ≤ _ by decide +kernel, ?_⟩
    show (runF cfg1 40 19 Try.f19 [.sl false 0 0 1 xs.length c, .sl false 1 0 1 ys.length d] [(0, .ro Kd.int xs), (1, .ro Kd.int ys)] 2).holds _
    rw [t19]
    refine ⟨fun h => ⟨_, _, H, endPlain ?_ rfl⟩, fun h => ?_⟩
    · refine fun r v hv => ?_
      rw [show decide (xs = ys) = false from decide_eq_false (fun e => by subst e; simp at h)]; exact hv
    · have hl : xs.length = ys.length := by
        have h' : (xs.length : Int) = (ys.length : Int) := by simpa using h
        omega
      refine ⟨l19_ok, ⟨xs, c, ys, d, hl, hb⟩, [], ⟨Nat.le_refl _, ?_⟩, fun _ he => ⟨_, _, H, endPlain ?_ rfl⟩, fun _ he => ⟨_, _, H, endPlain ?_ rfl⟩⟩
      · exact ⟨⟨AV.sub_same _, AV.sub_same _, AV.sub_lit', trivial⟩, ⟨.same _, .same _, trivial⟩, rfl, tl_ok rfl, ⟨.inr rfl, .inr rfl, trivial⟩, ⟨Nat.le_of_ble_eq_true rfl, rfl⟩⟩
      · rw [show decide (xs = ys) = true from decide_eq_true he]; exact fun _ _ h => h
      · rw [show decide (xs = ys) = false from decide_eq_false he]; exact fun _ _ h => h
  · exact H.elim

theorem endNew {n' : Nat} {h' : Heap V} {s : MC} {sw sl sg m a b c : Nat} {x y z : AV}
    (hne : (a ≠ m ∧ b ≠ m ∧ c ≠ m) ∧ a ≠ b ∧ a ≠ c ∧ b ≠ c)
    (h0 : h'.get m = some (.cells 56 [x, y, z]))
    (hx : x.sub (.sl false a 0 1 s.words.length (s.words.length + sw))) (hy : y.sub (.sl false b 0 2 s.locks.length (s.locks.length + sl))) (hz : z.sub (.sl false c 0 5 s.log.length (s.log.length + sg)))
    (h1 : BSub (h'.get a) (.arr 3 Kd.int s.words sw : Blk V)) (h2 : BSub (h'.get b) (.arr 62 Kd.holder s.locks sl : Blk V)) (h3 : BSub (h'.get c) (.arr 45 Kd.deed s.log sg : Blk V)) :
    EndFree n' (.ptr m 0) h' (.ptr 0 0) [.obj (oC s)] := by
  refine ⟨_, pack (ren := [(0, m), (1, a), (2, b), (3, c)]) laid_V (x := .inr (.cells s)) (n := 4) (m := m) (h := h') ⟨cBlk s sw sl sg, rfl, rfl, sw, sl, sg, rfl⟩ rfl rfl ⟨?_, ?_, ?_, ?_, trivial⟩ rfl, ⟨⟨fun _ => m, ⟨?_, trivial⟩, AV.sub_same _⟩, rfl, rfl⟩⟩
  · show BSub (h'.get m) _
    rw [h0]
    exact BSub.cells 56 _ _ (AV.subL_cons hx (AV.subL_cons hy (AV.subL_cons hz AV.subL_nil)))
  · show BSub ((h'.del m).get a) _
    rw [Heap.get_del_ne hne.1.1]; exact h1
  · show BSub (((h'.del m).del a).get b) _
    rw [Heap.get_del_ne hne.2.1.symm, Heap.get_del_ne hne.1.2.1]; exact h2
  · show BSub ((((h'.del m).del a).del b).get c) _
    rw [Heap.get_del_ne hne.2.2.2.symm, Heap.get_del_ne hne.2.2.1.symm, Heap.get_del_ne hne.1.2.2]; exact h3
  · refine BSub.of_eq ?_
    show (bif Nat.beq m m then _ else _) = _
    rw [Nat.beq_refl]; rfl

def runNew : RunFree V := fun ar K => match ar with
  | [.int .i64 a, .int .i64 b] => K (.ptr 0 0) [.obj (oC (MC.mk0 a b))]
  | _ => .bad 500
theorem cap4_le (n : Int) : 0 ≤ MC.cap4 n ∧ MC.cap4 n ≤ 4096 := by unfold MC.cap4; split <;> split <;> omega

theorem hNew : HookOk Try.prog 9 (hookFree [.int .i64, .int .i64] runNew) := by
  refine free_hook (C := cfg0) cfg0_ok (n := 40) (fn := Try.f9) ⟨by kernel_rfl, by kernel_rfl⟩ (by kernel_rfl) ?_
  intro M ar K0 H
  unfold runNew at H
  split at H
  · rename_i a b
    refine ⟨show 2 ≤ _ by decide +kernel, ?_⟩
    show (runF cfg0 40 9 Try.f9 [.int .i64 a, .int .i64 b] [] 2).holds _
    rw [t9]
    have hc : ∀ n : Int, (if 4096 < (if n > 0 then n else 0) then (4096 : Int) else if n > 0 then n else 0) = MC.cap4 n := fun _ => rfl
    simp only [hc]
    have ha := cap4_le a
    have hb := cap4_le b
    have e1 : (MC.mk0 a b).words.length = (MC.cap4 a).toNat := by simp [MC.mk0, MC.many]
    have e2 : (MC.mk0 a b).locks.length = (MC.cap4 b).toNat := by simp [MC.mk0, MC.many]
    have fin := fun (h' : Heap V) (n' : Nat) (i j : Nat) (hij : (i ≠ 4 ∧ j ≠ 4 ∧ 99 ≠ 4) ∧ i ≠ j ∧ i ≠ 99 ∧ j ≠ 99)
      (h0 : h'.get 4 = some (.cells 56 [.sl false i 0 1 (MC.cap4 a).toNat (MC.cap4 a).toNat, .sl false j 0 2 (MC.cap4 b).toNat (MC.cap4 b).toNat, .nilS]))
      (h1 : h'.get i = some (.arr 3 Kd.int (MC.mk0 a b).words ((MC.cap4 a).toNat - (MC.cap4 a).toNat))) (h2 : h'.get j = some (.arr 62 Kd.holder (MC.mk0 a b).locks ((MC.cap4 b).toNat - (MC.cap4 b).toNat))) (h3 : h'.get 99 = none) =>
      endNew (n' := n') (s := MC.mk0 a b) (sg := 0) (c := 99) hij h0 (AV.sub_sl e1.symm (by rw [e1]; omega)) (AV.sub_sl e2.symm (by rw [e2]; omega)) AV.sub_nilS (BSub.of_eq h1) (BSub.of_eq h2) (h3 ▸ .none _ _)
    simp only [Out.holds]
    refine ⟨?_, ?_, ?_⟩ <;> refine ⟨⟨by omega, by omega, by omega⟩, ⟨by omega, by omega, by omega⟩, _, _, H, fin _ _ _ _ (by decide) rfl rfl rfl rfl⟩
  · exact H.elim

end Sx
end Go.Proofs.Ytjackepkphdibaa
