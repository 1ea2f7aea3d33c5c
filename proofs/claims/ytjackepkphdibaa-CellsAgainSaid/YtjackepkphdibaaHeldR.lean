/-
  Who holds what, in the document's Cells.
-/
import Derived.Test.YtjackepkphdibaaTrees6
namespace Go.Proofs.Ytjackepkphdibaa
namespace Sx
open Go
set_option linter.unusedSimpArgs false
set_option linter.unusedVariables false

theorem heldToR_succ (s : MR) (t : Int) (i : Nat) : heldToR s t (i + 1) = heldToR s t i ++ (if (s.h.getD i false && decide (s.t.getD i 0 = t)) = true then [(i : Int)] else []) := by
  unfold heldToR
  rw [List.range_succ, List.filter_append, List.map_append]
  congr 1
  cases hh : (s.h.getD i false && decide (s.t.getD i 0 = t)) with
  | true => simp only [List.filter_cons, hh, if_true]; rfl
  | false => simp only [List.filter_cons, hh]; rfl
theorem heldToR_len (s : MR) (t : Int) (i : Nat) : (heldToR s t i).length ≤ i := by
  unfold heldToR
  rw [List.length_map]
  exact Nat.le_trans (List.length_filter_le _ _) (by simp)

theorem cfg8_ok : cfg8.ok := ⟨cfg0_ok.τ, cfg0_ok.κ, cfg0_ok.mixed, cfg0_ok.fns, cfg0_ok.hooks⟩

theorem l20_ok : LoopOk Try.prog 0 (loopOf Try.f20 0) L20 := by
  refine loopN_ok (C := cfg0) cfg0_ok (f := 20) (n := 40) 6 I20 (fun p x => x.1 ≤ p.s.h.length) (fun _ => (0, 0)) (fun p x => p.s.h.length - x.1) (fun p x => p.s.h.length ≤ x.1) I20 (fun p => Nat.zero_le _) ?_
  intro p x hx
  rw [b20]
  simp only [Out.holds, Nat.zero_add, decide_eq_true_eq, decide_eq_false_iff_not, Int.toNat_natCast, beq_iff_eq, beq_eq_false_iff_ne]
  have hb := p.hb
  have ht := p.ht
  have hlen := heldToR_len p.s p.t x.1
  have stay : ∀ {env : List (Nat × AV)}, (p.s.h.getD x.1 false && decide (p.s.t.getD x.1 0 = p.t)) = false → heldToR p.s p.t (x.1 + 1) = heldToR p.s p.t x.1 := fun h => by
    rw [heldToR_succ, if_neg (by rw [h]; decide), List.append_nil]
  refine ⟨fun h => ⟨by omega, by omega, fun h2 => ⟨by omega, by omega, fun h3 => ⟨⟨trivial, trivial, trivial, by omega⟩, fun y => ⟨(x.1 + 1, y), [(6, 8)], ?_, by show x.1 + 1 ≤ _; omega, by show _ - (x.1 + 1) < _ - x.1; omega⟩⟩, fun h3 => ⟨(x.1 + 1, x.2), [(6, 6)], ?_, by show x.1 + 1 ≤ _; omega, by show _ - (x.1 + 1) < _ - x.1; omega⟩⟩, fun h2 => ⟨(x.1 + 1, x.2), [(6, 6)], ?_, by show x.1 + 1 ≤ _; omega, by show _ - (x.1 + 1) < _ - x.1; omega⟩⟩, fun h => ⟨trivial, x, [(6, 6)], ?_, by omega⟩⟩
  · have he : heldToR p.s p.t (x.1 + 1) = heldToR p.s p.t x.1 ++ [(x.1 : Int)] := by
      rw [heldToR_succ, if_pos]
      have e1 : p.s.h.getD x.1 false = true := h2
      have e2 : p.s.t.getD x.1 0 = p.t := h3
      rw [e1, e2]; simp
    refine ⟨⟨AV.sub_same _, AV.sub_same _, AV.sub_sl (by show _ = (heldToR p.s p.t (x.1 + 1)).length; rw [he]; simp) (by show _ = (heldToR p.s p.t (x.1 + 1)).length + y; rw [he]; simp), AV.sub_int (wrap_nat (by omega)), trivial⟩,
      ⟨.same _, .same _, .same _, .same _, .same _, BSub.of_eq (congrArg (fun z => some (Blk.arr 3 Kd.int z y : Blk V)) he.symm), trivial⟩, rfl, tl_ok rfl, ⟨.inl (in_ok rfl), .inl (in_ok rfl), .inr rfl, .inr rfl, .inr rfl, .inr rfl, .inr rfl, trivial⟩, ⟨Nat.le_of_ble_eq_true rfl, rfl⟩⟩
  · have he : heldToR p.s p.t (x.1 + 1) = heldToR p.s p.t x.1 := stay (env := []) (by
      have e2 : ¬ p.s.t.getD x.1 0 = p.t := h3
      rw [decide_eq_false e2, Bool.and_false])
    refine ⟨⟨AV.sub_same _, AV.sub_same _, AV.sub_sl (by show _ = (heldToR p.s p.t (x.1 + 1)).length; rw [he]) (by show _ = (heldToR p.s p.t (x.1 + 1)).length + x.2; rw [he]), AV.sub_int (wrap_nat (by omega)), trivial⟩,
      ⟨.same _, .same _, .same _, .same _, .same _, BSub.of_eq (congrArg (fun z => some (Blk.arr 3 Kd.int z x.2 : Blk V)) he.symm), trivial⟩, rfl, tl_ok rfl, ⟨.inr rfl, .inr rfl, .inr rfl, .inr rfl, .inr rfl, .inl (in_ok rfl), trivial⟩, ⟨Nat.le_of_ble_eq_true rfl, rfl⟩⟩
  · have he : heldToR p.s p.t (x.1 + 1) = heldToR p.s p.t x.1 := stay (env := []) (by
      have e2 : p.s.h.getD x.1 false = false := h2
      rw [e2]; rfl)
    refine ⟨⟨AV.sub_same _, AV.sub_same _, AV.sub_sl (by show _ = (heldToR p.s p.t (x.1 + 1)).length; rw [he]) (by show _ = (heldToR p.s p.t (x.1 + 1)).length + x.2; rw [he]), AV.sub_int (wrap_nat (by omega)), trivial⟩,
      ⟨.same _, .same _, .same _, .same _, .same _, BSub.of_eq (congrArg (fun z => some (Blk.arr 3 Kd.int z x.2 : Blk V)) he.symm), trivial⟩, rfl, tl_ok rfl, ⟨.inr rfl, .inr rfl, .inr rfl, .inr rfl, .inr rfl, .inl (in_ok rfl), trivial⟩, ⟨Nat.le_of_ble_eq_true rfl, rfl⟩⟩
  · exact ⟨⟨AV.sub_same _, AV.sub_same _, AV.sub_same _, AV.sub_same _, trivial⟩, ⟨.same _, .same _, .same _, .same _, .same _, .same _, trivial⟩, rfl, tl_ok rfl, ⟨.inr rfl, .inr rfl, .inr rfl, .inr rfl, .inr rfl, .inl (in_ok rfl), trivial⟩, ⟨Nat.le_of_ble_eq_true rfl, rfl⟩⟩

theorem heldToR_end (s : MR) (t : Int) {i : Nat} (h : s.h.length ≤ i) : heldToR s t i = s.held t := by
  unfold MR.held
  obtain ⟨d, rfl⟩ := Nat.exists_eq_add_of_le h
  clear h
  induction d with
  | zero => rfl
  | succ d ih => rw [← Nat.add_assoc, heldToR_succ, ih, if_neg (by rw [List.getD_eq_getElem?_getD, List.getElem?_eq_none (by omega)]; simp)]; simp

def runHeldR : RunR := fun s ar K => match ar with
  | [.int .i64 t] => .need (s.h.length ≤ 1099511627776 ∧ s.t.length = s.h.length) (.all Nat fun sp => K (.sl false 5 0 1 (s.held t).length ((s.held t).length + sp)) s [.arr 3 Kd.int (s.held t) sp])
  | _ => .bad 500

theorem hHeldR : HookOk Try.prog 20 (hookObj 5 [.int .i64] (onR runHeldR)) := by
  refine ref_hook (C := cfg8) cfg8_ok (n := 40) (fn := Try.f20) ⟨by kernel_rfl, by kernel_rfl⟩ (by kernel_rfl) ?_
  intro M s ar K0 H
  unfold runHeldR at H
  split at H
  · rename_i t
    obtain ⟨⟨hb, ht⟩, H⟩ := H
    refine ⟨show 2 ≤ _ by decide +kernel, fun sw sh st sl => ?_⟩
    simp only [argAV, Arg.av, argHeap, List.append_nil, List.length_cons, List.length_nil, Nat.reduceAdd, Nat.zero_add]
    rw [t20]
    refine ⟨l20_ok, ⟨s, sw, sh, st, sl, t, hb, ht⟩, [(6, 99)], ⟨Nat.le_refl _, ?_⟩, fun x hx => ?_⟩
    · exact ⟨⟨AV.sub_same _, AV.sub_same _, AV.sub_nilS, AV.sub_lit', trivial⟩, ⟨.same _, .same _, .same _, .same _, .same _, .none _ _, trivial⟩, rfl, tl_ok rfl, ⟨.inr rfl, .inr rfl, .inr rfl, .inr rfl, .inr rfl, trivial⟩, ⟨Nat.le_of_ble_eq_true rfl, rfl⟩⟩
    · have he := heldToR_end s t hx
      refine ⟨_, _, _, H x.2, endR (a := 1) (b := 2) (c := 3) (d := 4) (sw := sw) (sh := sh) (st := st) (sl := sl) (by decide) rfl (AV.sub_same _) (AV.sub_same _) (AV.sub_same _) (AV.sub_same _) (.same _) (.same _) (.same _) (.same _) ⟨⟨fun _ => 6, ⟨BSub.of_eq (congrArg (fun z => some (Blk.arr 3 Kd.int z x.2 : Blk V)) he), trivial⟩, AV.sub_sl (congrArg List.length he) (congrArg (fun z : List Int => z.length + x.2) he)⟩, rfl, rfl⟩⟩
  · exact H.elim

theorem Rel.heldToAlike {s : MC} {r : MR} (R : Rel s r) (t : Int) (i : Nat) : heldToR r t i = heldTo s t i := by
  unfold heldToR heldTo
  congr 1
  refine List.filter_congr fun k _ => ?_
  rw [R.h]
  by_cases hk : k < s.locks.length
  · have e1 : (s.locks.map Holder.held).getD k false = (s.locks[k]).held := by
      rw [List.getD_eq_getElem?_getD, List.getElem?_map, List.getElem?_eq_getElem hk]; rfl
    have e2 : s.locks.getD k ⟨0, false⟩ = s.locks[k] := by rw [List.getD_eq_getElem?_getD, List.getElem?_eq_getElem hk]; rfl
    rw [e1, List.getElem?_eq_getElem hk]
    cases hh : (s.locks[k]).held with
    | false =>
      rw [Bool.false_and]
      symm
      refine decide_eq_false fun e => ?_
      have := Option.some.inj e
      rw [this] at hh; cases hh
    | true =>
      have := R.t k hk (by rw [e2]; exact hh)
      rw [e2] at this
      rw [this, Bool.true_and]
      generalize s.locks[k] = q at hh ⊢
      obtain ⟨a, b⟩ := q
      subst hh
      simp
  · rw [List.getD_eq_getElem?_getD, List.getElem?_eq_none (by simp; omega), List.getElem?_eq_none (by omega)]
    simp
theorem Rel.heldAlike {s : MC} {r : MR} (R : Rel s r) (t : Int) : r.held t = s.held t := by
  unfold MR.held MC.held
  rw [R.heldToAlike, R.h, List.length_map]

end Sx
end Go.Proofs.Ytjackepkphdibaa
