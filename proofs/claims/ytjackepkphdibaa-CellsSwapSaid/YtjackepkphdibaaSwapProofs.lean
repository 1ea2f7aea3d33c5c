/-
  For every input the law CellsSwap returns true, does not panic, and each argument reads behind the call as before. Conditions: none.
-/
import Derived.Test.YtjackepkphdibaaRows
import Derived.Test.YtjackepkphdibaaSwap
import Derived.ProofKit
import Derived.Deep.Slices
namespace Go.Proofs.Ytjackepkphdibaa
open Go.ChangeShapes Go.WideShapes Go.ChangeAt Go.RowKit

theorem Try.ownS : ownKnob Try.prog.godebug = none := by kernel_rfl
theorem Try.laidOutS : laidOutB Try.prog = true := by kernel_rfl

namespace Sx
theorem cell_inv {W : World} {a : Addr} {v : Value} (h : W.cell? a = some v) : a.spot = none ∧ ∃ c T fz, W.heap[a.block]? = some (.cells c T fz) ∧ c[a.off]? = some v := by
  unfold World.cell? at h
  split at h
  · rename_i c T fz hh
    split at h
    · cases h
    · rename_i hs
      refine ⟨?_, c, T, fz, hh, h⟩
      cases hsp : a.spot with
      | none => rfl
      | some x => rw [hsp] at hs; simp at hs
  · cases h

/-- A row of numbers that is passed in. -/
theorem open_ro_ints {H : Type} {enc : TypeId × Value → H} {W : World} {v : Value} {d : DataW H} {ps : List MemPlace} (h : DataW.Trod enc Try.prog W 0 (fun _ => true) true 22 v d ps) :
    ∃ (xs : List Int) (c : Nat) (x : Option (Nat × Nat)), ∀ (r : Nm), r 0 = x → (∀ a l k, v = .slice a l k → rel r (.sl false 0 0 1 xs.length c) v) ∧ Blk.den (whole W) r 0 (.ro Kd.int xs : Blk V) Hp.nil := by
  obtain ⟨fuel, hf⟩ := h
  rcases open_ints Try.underlying22 Try.underlying3 (by kernel_rfl) hf with ⟨hcs, _⟩ | ⟨a, len, cap, zs, hcs, _, hl, hm, hz, _, hcell, _⟩
  · refine ⟨[], 0, none, fun r hr => ⟨fun a l k e => ?_, ⟨fun i x e => (by simp at e), rfl⟩⟩⟩
    subst e
    simp [Value.cells] at hcs
    obtain ⟨rfl, rfl, rfl⟩ := hcs
    exact ⟨none, rfl, Nat.le_refl _, .inl rfl⟩
  · simp only [if_true] at hz
    refine ⟨zs.take len, cap, some (a.block, a.off), fun r hr => ⟨fun a' l k e => ?_, ⟨fun i x e => ?_, rfl⟩⟩⟩
    · subst e
      simp [Value.cells] at hcs
      obtain ⟨rfl, rfl, rfl⟩ := hcs
      have hlen : (zs.take l).length = l := by simp; omega
      rw [hlen]
      refine ⟨_, rfl, hl, ?_⟩
      rcases Nat.eq_zero_or_pos k with h0 | h0
      · exact .inl h0
      · have h1 := (cell_inv (hcell 0 (by omega))).1
        refine .inr ⟨_, hr, ?_⟩
        obtain ⟨b, o, sp⟩ := a
        simp [Addr.add] at h1
        subst h1
        simp
    · have hi : i < zs.length := by
        have := (List.getElem?_eq_some_iff.1 e).1
        simp at this; omega
      obtain ⟨_, c, T, fz, g1, g2⟩ := cell_inv (hcell i hi)
      have e1 : (a.add i).block = a.block := by unfold Addr.add; split <;> rfl
      have e2 : (a.add i).off = a.off + i := by unfold Addr.add; split <;> simp_all
      rw [e1] at g1; rw [e2] at g2
      refine ⟨a.block, a.off, c, T, fz, hr, g1, ?_⟩
      have hx : zs.getD i 0 = x := by
        rw [List.getElem?_take] at e
        split at e
        · rw [List.getD_eq_getElem?_getD, e]; rfl
        · cases e
      rw [hx] at g2
      have h3 : (c.toList.drop (a.off + i * 1)).take 1 = [.int .i64 x] := by
        rw [Nat.mul_one]
        have hlt := (Array.getElem?_eq_some_iff.1 g2).1
        rw [List.drop_eq_getElem_cons (by simpa using hlt)]
        have := (Array.getElem?_eq_some_iff.1 g2).2
        simpa using this
      show relL r [.int .i64 x] ((c.toList.drop (a.off + i * 1)).take 1)
      rw [h3]
      exact relL_cons.2 ⟨rfl, relL_nil⟩
end Sx

set_option maxRecDepth 100000 in
theorem cellsSwap_lifted (os : Os) (started : os.Started) (H : Type) (enc : TypeId × Value → H) :
    ReturnsInHanded {} Try.checked os 3 .any (Rows.cellsSwapSpec.pre6 enc Try.prog Try.f3 Rows.cellsSwapRow.domain false) (Rows.cellsSwapSpec.post enc Try.prog Try.f3 false true false false) := by
  refine returnsInHanded_of_change (C := Try.checked) Try.ownS started (by kernel_rfl) Try.func3
    (ChangeSpec.witness6 (enc := enc) (C := Try.checked) false ⟨#[], #[.slice none 0 0, .int .i64 0], []⟩ 8 (by kernel_rfl) (by kernel_rfl) (by kernel_rfl) (by kernel_rfl)) ?_
  intro W base args ds gs before hval0 hW hcnd _
  have hval : ∀ (j : Nat) t v, Try.f3.params[j]? = some t → args[j]? = some v → Value.okWide Try.prog W .any base t v := hval0
  have hW' := hW
  obtain ⟨p, q, hA0, hV, rfl, hfz, hnd⟩ := hW
  have hA : DataW.TrodAll enc Try.prog W 0 (fun _ => true) true Try.f3.params.toList args.toList ds p := hA0
  rw [Try.params3] at hA hval
  obtain ⟨v0, v1, d0, d1, p0, p1, rfl, rfl, rfl, h0, h1⟩ := trodAll_two hA
  obtain ⟨rfl, rfl⟩ := trodVars_none hV
  obtain ⟨b, rfl, rfl, rfl, wb⟩ := open_int Try.underlying3 (hval 1 3 v1 rfl rfl) h1
  obtain ⟨a0, len, cap, rfl⟩ := okWide_slice Try.underlying22 (hval 0 22 v0 rfl rfl)
  clear hA0 hval0
  simp only [List.append_nil] at hW'
  obtain ⟨xs, c, x, hx⟩ := Sx.open_ro_ints h0
  obtain ⟨hr, hd⟩ := hx (fun i => if i = 0 then x else none) rfl
  refine (Sx.law_calls (Sx.swap_law xs c b) (W := W) (r := fun i => if i = 0 then x else none) (vs := [.slice a0 len cap, .int .i64 b]) (Sx.relL_cons.2 ⟨hr _ _ _ rfl, Sx.relL_cons.2 ⟨rfl, Sx.relL_nil⟩⟩)
    ⟨Sx.Hp.nil, Sx.Hp.nil, hd, rfl, Sx.Hp.nil_apart _, rfl⟩ (fun i hi => if_neg (by omega))).mono fun e W' ⟨he, hw⟩ => ?_
  subst he
  exact ⟨_, rfl, _, _, _, [], _, [], hW', trodAll_mk1 (shut_bool Try.underlying4 true), trodAll_mk2 (hw.trod Try.laidOutS (by kernel_rfl) (by decide +kernel) h0 (fun x hx => hW'.lt x (by simpa using hx))) (shut_int Try.underlying3 wb), rfl, hw.frame _, fun h => by cases h⟩

theorem cellsSwap_holds : Rows.CellsSwapSaid :=
  OpenClaim.holds_of_wide 3 Try.f3 rfl rfl rfl rfl rfl rfl rfl ⟨rfl, rfl, rfl, rfl, rfl⟩ rfl rfl rfl rfl rfl (by kernel_rfl) Try.func3 (by kernel_rfl)
    (of_decide_eq_true (by kernel_rfl)) (by unfold Func.isWrapper; first | (rw [if_pos (by decide +kernel)]; kernel_rfl) | (rw [if_neg (by decide +kernel)]; exact ⟨rfl, rfl⟩))
    (fun os started H enc _ => cellsSwap_lifted os started H enc)

end Go.Proofs.Ytjackepkphdibaa
