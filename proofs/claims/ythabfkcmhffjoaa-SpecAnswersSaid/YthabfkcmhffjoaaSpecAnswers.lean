/-
  For every input the law SpecAnswers returns true, does not panic, and each argument reads behind the call as before. Conditions: none.
-/
import Derived.Test.YthabfkcmhffjoaaSpecAnswersP7
import Derived.Test.YthabfkcmhffjoaaRows
namespace Go.Proofs.Ythabfkcmhffjoaa
open Go.ChangeShapes Go.WideShapes Go.ChangeAt Go.RowKit

theorem Try.ownA : ownKnob Try.prog.godebug = none := by kernel_rfl
theorem Try.laidOutA : laidOutB Try.prog = true := by kernel_rfl

set_option maxRecDepth 100000 in
theorem specAnswers_lifted (os : Os) (started : os.Started) (H : Type) (enc : TypeId × Value → H) :
    ReturnsInHanded {} Try.checked os 4 .any (Rows.specAnswersSpec.pre6 enc Try.prog Try.f4 Rows.specAnswersRow.domain false) (Rows.specAnswersSpec.post enc Try.prog Try.f4 false true false false) := by
  refine returnsInHanded_of_change (C := Try.checked) Try.ownA started (by kernel_rfl) Try.func4
    (ChangeSpec.witness6 (enc := enc) (C := Try.checked) false ⟨#[], #[.slice none 0 0, .int .i64 0, .int .i64 0, .int .i64 0], []⟩ 8 (by kernel_rfl) (by kernel_rfl) (by kernel_rfl) (by kernel_rfl)) ?_
  intro W base args ds gs before hval0 hW hcnd _
  have hval : ∀ (j : Nat) t v, Try.f4.params[j]? = some t → args[j]? = some v → Value.okWide Try.prog W .any base t v := hval0
  have hW' := hW
  obtain ⟨p, q, hA0, hV, rfl, hfz, hnd⟩ := hW
  have hA : DataW.TrodAll enc Try.prog W 0 (fun _ => true) true Try.f4.params.toList args.toList ds p := hA0
  rw [Try.params4] at hA hval
  obtain ⟨v0, v1, v2, v3, d0, d1, d2, d3, p0, p1, p2, p3, rfl, rfl, rfl, h0, h1, h2, h3⟩ := trodAll_four hA
  obtain ⟨rfl, rfl⟩ := trodVars_none hV
  obtain ⟨b1, rfl, rfl, rfl, wb1⟩ := open_int Try.underlying3 (hval 1 3 v1 rfl rfl) h1
  obtain ⟨b2, rfl, rfl, rfl, wb2⟩ := open_int Try.underlying3 (hval 2 3 v2 rfl rfl) h2
  obtain ⟨b3, rfl, rfl, rfl, wb3⟩ := open_int Try.underlying3 (hval 3 3 v3 rfl rfl) h3
  obtain ⟨a0, len, cap, rfl⟩ := okWide_slice Try.underlying22 (hval 0 22 v0 rfl rfl)
  clear hA0 hval0
  simp only [List.append_nil, List.nil_append] at hW'
  obtain ⟨xs, c, x, hb, hc, _, hx⟩ := Sx.open_ro (U := Sx.V) (k := Sx.Kd.com) 0 Try.underlying22 (by kernel_rfl) Sx.reads_com h0
  obtain ⟨hr, hd⟩ := hx (fun i => if i = 0 then x else none) rfl
  refine (Sx.law_calls (Sx.qanswers_law xs c b1 b2 b3 hb wb2) (W := W) (r := fun i => if i = 0 then x else none) (vs := [.slice a0 len cap, .int .i64 b1, .int .i64 b2, .int .i64 b3]) (Sx.relL_cons.2 ⟨hr _ _ _ rfl, Sx.relL_cons.2 ⟨rfl, Sx.relL_cons.2 ⟨rfl, Sx.relL_cons.2 ⟨rfl, Sx.relL_nil⟩⟩⟩⟩)
    ⟨Sx.Hp.nil, Sx.Hp.nil, hd, rfl, Sx.Hp.nil_apart _, rfl⟩ (fun i hi => if_neg (by omega))).mono fun e W' ⟨he, hw⟩ => ?_
  subst he
  exact ⟨_, rfl, _, _, _, [], _, [], hW', trodAll_mk1 (shut_bool Try.underlying4 true), trodAll_mk4 (hw.trod Try.laidOutA (by kernel_rfl) (by decide +kernel) h0 (fun x hx => hW'.lt x (by simpa using hx))) (shut_int Try.underlying3 wb1) (shut_int Try.underlying3 wb2) (shut_int Try.underlying3 wb3), rfl, hw.frame _, fun h => by cases h⟩

theorem specAnswers_holds : Rows.SpecAnswersSaid :=
  OpenClaim.holds_of_wide 4 Try.f4 rfl rfl rfl rfl rfl rfl rfl ⟨rfl, rfl, rfl, rfl, rfl⟩ rfl rfl rfl rfl rfl (by kernel_rfl) Try.func4 (by kernel_rfl)
    (of_decide_eq_true (by kernel_rfl)) (by unfold Func.isWrapper; first | (rw [if_pos (by decide +kernel)]; kernel_rfl) | (rw [if_neg (by decide +kernel)]; exact ⟨rfl, rfl⟩))
    (fun os started H enc _ => specAnswers_lifted os started H enc)

end Go.Proofs.Ythabfkcmhffjoaa

