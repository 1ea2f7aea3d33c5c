/-
  For every input the law SpecOne returns true, does not panic, and each argument reads behind the call as before. Conditions: none.
-/
import Derived.Test.YthabfkcmhffjoaaSpecOneAllP7
import Derived.Test.YthabfkcmhffjoaaRows
namespace Go.Proofs.Ythabfkcmhffjoaa
open Go.ChangeShapes Go.WideShapes Go.ChangeAt Go.RowKit

theorem Try.ownSpecOne : ownKnob Try.prog.godebug = none := by kernel_rfl
theorem Try.laidOutSpecOne : laidOutB Try.prog = true := by kernel_rfl

namespace Sx
/-- A record among the arguments. -/
theorem open_rec {P : Program} {α : Type} {E : Enc α} {q : α → Prop} {H : Type} {enc : TypeId × Value → H} {W : World} {base : Nat} {spare : Nat → Bool} {held : Bool} {r : Reach} {b0 : Nat} {v : Value} {d : DataW H} {ps : List MemPlace} {t : TypeId} {fields : Array Field}
    (ht : P.underlying t = some (.struct fields)) (R : Reads P t E q) (hv : Value.okWide P W r b0 t v) (h : DataW.Trod enc P W base spare held t v d ps) :
    ∃ y cs, relL (fun _ => none) (E.enc y) cs ∧ q y ∧ v = .agg cs.toArray := by
  simp only [Value.okWide, ht] at hv
  obtain ⟨cs, rfl, hsz, _⟩ := hv
  obtain ⟨fuel, hx⟩ := h
  obtain ⟨y, h1, h2⟩ := R _ _ _ _ _ _ _ _ _ hx
  exact ⟨y, _, h1, h2, by simp [Value.cells]⟩
end Sx

set_option maxRecDepth 100000 in
theorem specOne_lifted (os : Os) (started : os.Started) (H : Type) (enc : TypeId × Value → H) :
    ReturnsInHanded {} Try.checked os 5 .any (Rows.specOneSpec.pre6 enc Try.prog Try.f5 Rows.specOneRow.domain false) (Rows.specOneSpec.post enc Try.prog Try.f5 false true false false) := by
  refine returnsInHanded_of_change (C := Try.checked) Try.ownSpecOne started (by kernel_rfl) Try.func5
    (ChangeSpec.witness6 (enc := enc) (C := Try.checked) false ⟨#[], #[.slice none 0 0, .agg #[.int .i64 0, .int .i64 0, .int .i64 0, .bool false]], []⟩ 8 (by kernel_rfl) (by kernel_rfl) (by kernel_rfl) (by kernel_rfl)) ?_
  intro W base args ds gs before hval0 hW hcnd _
  have hval : ∀ (j : Nat) t v, Try.f5.params[j]? = some t → args[j]? = some v → Value.okWide Try.prog W .any base t v := hval0
  have hW' := hW
  obtain ⟨p, q, hA0, hV, rfl, hfz, hnd⟩ := hW
  have hA : DataW.TrodAll enc Try.prog W 0 (fun _ => true) true Try.f5.params.toList args.toList ds p := hA0
  rw [Try.params5] at hA hval
  obtain ⟨v0, v1, d0, d1, p0, p1, rfl, rfl, rfl, h0, h1⟩ := trodAll_two hA
  obtain ⟨rfl, rfl⟩ := trodVars_none hV
  obtain ⟨y, cs, hy, hk, rfl⟩ := Sx.open_rec Try.underlying35 Sx.reads_com (hval 1 35 v1 rfl rfl) h1
  obtain ⟨a0, len, cap, rfl⟩ := okWide_slice Try.underlying22 (hval 0 22 v0 rfl rfl)
  clear hA0 hval0
  simp only [List.append_nil, List.nil_append] at hW'
  obtain ⟨xs, c, x, hb, hc, _, hx⟩ := Sx.open_ro (U := Sx.V) (k := Sx.Kd.com) 0 Try.underlying22 (by kernel_rfl) Sx.reads_com h0
  obtain ⟨hr, hd⟩ := hx (fun i => if i = 0 then x else none) rfl
  refine (Sx.law_calls (Sx.qone_law xs c y hb hk) (W := W) (r := fun i => if i = 0 then x else none) (vs := [.slice a0 len cap, .agg cs.toArray]) (Sx.relL_cons.2 ⟨hr _ _ _ rfl, Sx.relL_cons.2 ⟨⟨cs, Sx.relL_mono (fun _ _ e => by cases e) _ _ hy, rfl⟩, Sx.relL_nil⟩⟩)
    ⟨Sx.Hp.nil, Sx.Hp.nil, hd, rfl, Sx.Hp.nil_apart _, rfl⟩ (fun i hi => if_neg (by omega))).mono fun e W' ⟨he, hw⟩ => ?_
  subst he
  exact ⟨_, rfl, _, _, _, [], _, [], hW', trodAll_mk1 (shut_bool Try.underlying4 true), trodAll_mk2 (hw.trod Try.laidOutSpecOne (by kernel_rfl) (by decide +kernel) h0 (fun x hx => hW'.lt x (by simp [hx]))) (hw.trod Try.laidOutSpecOne (by kernel_rfl) (by decide +kernel) h1 (fun x hx => hW'.lt x (by simp [hx]))), rfl, hw.frame _, fun h => by cases h⟩

theorem specOne_holds : Rows.SpecOneSaid :=
  OpenClaim.holds_of_wide 5 Try.f5 rfl rfl rfl rfl rfl rfl rfl ⟨rfl, rfl, rfl, rfl, rfl⟩ rfl rfl rfl rfl rfl (by kernel_rfl) Try.func5 (by kernel_rfl)
    (of_decide_eq_true (by kernel_rfl)) (by unfold Func.isWrapper; first | (rw [if_pos (by decide +kernel)]; kernel_rfl) | (rw [if_neg (by decide +kernel)]; exact ⟨rfl, rfl⟩))
    (fun os started H enc _ => specOne_lifted os started H enc)

end Go.Proofs.Ythabfkcmhffjoaa

