/-
  For every input the law TableKeeps returns true, does not panic, and each argument reads behind the call as before. Conditions: none.
-/
import Derived.Test.YtkadlfadmjhahaaTableKeepsAllP7
import Derived.Test.YtkadlfadmjhahaaRows
namespace Go.Proofs.Ytkadlfadmjhahaa
open Go.ChangeShapes Go.WideShapes Go.ChangeAt Go.RowKit

theorem Try.ownTableKeeps : ownKnob Try.prog.godebug = none := by kernel_rfl
theorem Try.laidOutTableKeeps : laidOutB Try.prog = true := by kernel_rfl

namespace Sx
theorem reads_TableKeeps : Reads Try.prog 3 (V.enc Kd.int) (fun _ => True) := by
  intro H enc W base spare held fuel cs x hx
  obtain ⟨z, hz, _, hw⟩ := DataW.trod_int Try.underlying3 hx
  exact ⟨z, by rw [hz]; exact relL_cons.2 ⟨rfl, relL_nil⟩, trivial⟩
end Sx

set_option maxRecDepth 100000 in
theorem tableKeeps_lifted (os : Os) (started : os.Started) (H : Type) (enc : TypeId × Value → H) :
    ReturnsInHanded {} Try.checked os 8 .any (Rows.tableKeepsSpec.pre6 enc Try.prog Try.f8 Rows.tableKeepsRow.domain false) (Rows.tableKeepsSpec.post enc Try.prog Try.f8 false true false false) := by
  refine returnsInHanded_of_change (C := Try.checked) Try.ownTableKeeps started (by kernel_rfl) Try.func8
    (ChangeSpec.witness6 (enc := enc) (C := Try.checked) false ⟨#[], #[.int .i64 0, .slice none 0 0, .int .i64 0], []⟩ 8 (by kernel_rfl) (by kernel_rfl) (by kernel_rfl) (by kernel_rfl)) ?_
  intro W base args ds gs before hval0 hW hcnd _
  have hval : ∀ (j : Nat) t v, Try.f8.params[j]? = some t → args[j]? = some v → Value.okWide Try.prog W .any base t v := hval0
  have hW' := hW
  obtain ⟨p, q, hA0, hV, rfl, hfz, hnd⟩ := hW
  have hA : DataW.TrodAll enc Try.prog W 0 (fun _ => true) true Try.f8.params.toList args.toList ds p := hA0
  rw [Try.params8] at hA hval
  obtain ⟨v0, v1, v2, d0, d1, d2, p0, p1, p2, rfl, rfl, rfl, h0, h1, h2⟩ := trodAll_three hA
  obtain ⟨rfl, rfl⟩ := trodVars_none hV
  obtain ⟨a0, rfl, rfl, rfl, w0⟩ := open_int Try.underlying3 (hval 0 3 v0 rfl rfl) h0
  obtain ⟨s1, len, cap, rfl⟩ := okWide_slice Try.underlying26 (hval 1 26 v1 rfl rfl)
  obtain ⟨a2, rfl, rfl, rfl, w2⟩ := open_int Try.underlying3 (hval 2 3 v2 rfl rfl) h2
  clear hA0 hval0
  simp only [List.append_nil, List.nil_append] at hW'
  obtain ⟨xs, c, x, _, _, _, hx⟩ := Sx.open_ro (U := Sx.V) (k := Sx.Kd.int) 0 Try.underlying26 (by kernel_rfl) Sx.reads_TableKeeps h1
  obtain ⟨hr, hd⟩ := hx (fun i => if i = 0 then x else none) rfl
  refine (Sx.law_calls (Sx.law8_calls a0 xs c a2) (W := W) (r := fun i => if i = 0 then x else none) (vs := [.int .i64 a0, .slice s1 len cap, .int .i64 a2]) (Sx.relL_cons.2 ⟨rfl, Sx.relL_cons.2 ⟨hr _ _ _ rfl, Sx.relL_cons.2 ⟨rfl, Sx.relL_nil⟩⟩⟩)
    ⟨Sx.Hp.nil, Sx.Hp.nil, hd, rfl, Sx.Hp.nil_apart _, rfl⟩ (fun i hi => if_neg (by omega))).mono fun e W' ⟨he, hw⟩ => ?_
  subst he
  exact ⟨_, rfl, _, _, _, [], _, [], hW', trodAll_mk1 (shut_bool Try.underlying4 true), trodAll_mk3 (shut_int Try.underlying3 w0) (hw.trod Try.laidOutTableKeeps (by kernel_rfl) (by decide +kernel) h1 (fun x hx => hW'.lt x (by simp [hx]))) (shut_int Try.underlying3 w2), rfl, hw.frame _, fun h => by cases h⟩

theorem tableKeeps_holds : Rows.TableKeepsSaid :=
  OpenClaim.holds_of_wide 8 Try.f8 rfl rfl rfl rfl rfl rfl rfl ⟨rfl, rfl, rfl, rfl, rfl⟩ rfl rfl rfl rfl rfl (by kernel_rfl) Try.func8 (by kernel_rfl)
    (of_decide_eq_true (by kernel_rfl)) (by unfold Func.isWrapper; first | (rw [if_pos (by decide +kernel)]; kernel_rfl) | (rw [if_neg (by decide +kernel)]; exact ⟨rfl, rfl⟩))
    (fun os started H enc _ => tableKeeps_lifted os started H enc)

end Go.Proofs.Ytkadlfadmjhahaa

