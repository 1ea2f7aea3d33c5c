/-
  For every input the law TablePlays returns true, does not panic, and each argument reads behind the call as before. Conditions: none.
-/
import Derived.Test.YtkadlfadmjhahaaPlaysP8
import Derived.Test.YtkadlfadmjhahaaRows
namespace Go.Proofs.Ytkadlfadmjhahaa
open Go.ChangeShapes Go.WideShapes Go.ChangeAt Go.RowKit

theorem Try.ownTablePlays : ownKnob Try.prog.godebug = none := by kernel_rfl
theorem Try.laidOutTablePlays : laidOutB Try.prog = true := by kernel_rfl

namespace Sx
theorem reads_TablePlays : Reads Try.prog 27 (V.enc Kd.three) (fun _ => True) := by
  refine reads_array (k := .i64) (n := 3) Try.underlying27 Try.underlying3 (by kernel_rfl) (by kernel_rfl) ?_
  intro zs hl _
  match zs, hl with
  | [a, b, c], _ => exact ⟨⟨a, b, c⟩, relL_cons.2 ⟨rfl, relL_cons.2 ⟨rfl, relL_cons.2 ⟨rfl, relL_nil⟩⟩⟩, trivial⟩
end Sx

set_option maxRecDepth 100000 in
theorem tablePlays_lifted (os : Os) (started : os.Started) (H : Type) (enc : TypeId × Value → H) :
    ReturnsInHanded {} Try.checked os 6 .any (Rows.tablePlaysSpec.pre6 enc Try.prog Try.f6 Rows.tablePlaysRow.domain false) (Rows.tablePlaysSpec.post enc Try.prog Try.f6 false true false false) := by
  refine returnsInHanded_of_change (C := Try.checked) Try.ownTablePlays started (by kernel_rfl) Try.func6
    (ChangeSpec.witness6 (enc := enc) (C := Try.checked) false ⟨#[], #[.int .i64 0, .slice none 0 0], []⟩ 8 (by kernel_rfl) (by kernel_rfl) (by kernel_rfl) (by kernel_rfl)) ?_
  intro W base args ds gs before hval0 hW hcnd _
  have hval : ∀ (j : Nat) t v, Try.f6.params[j]? = some t → args[j]? = some v → Value.okWide Try.prog W .any base t v := hval0
  have hW' := hW
  obtain ⟨p, q, hA0, hV, rfl, hfz, hnd⟩ := hW
  have hA : DataW.TrodAll enc Try.prog W 0 (fun _ => true) true Try.f6.params.toList args.toList ds p := hA0
  rw [Try.params6] at hA hval
  obtain ⟨v0, v1, d0, d1, p0, p1, rfl, rfl, rfl, h0, h1⟩ := trodAll_two hA
  obtain ⟨rfl, rfl⟩ := trodVars_none hV
  obtain ⟨a0, rfl, rfl, rfl, w0⟩ := open_int Try.underlying3 (hval 0 3 v0 rfl rfl) h0
  obtain ⟨s1, len, cap, rfl⟩ := okWide_slice Try.underlying22 (hval 1 22 v1 rfl rfl)
  clear hA0 hval0
  simp only [List.append_nil, List.nil_append] at hW'
  obtain ⟨xs, c, x, _, _, _, hx⟩ := Sx.open_ro (U := Sx.V) (k := Sx.Kd.three) 0 Try.underlying22 (by kernel_rfl) Sx.reads_TablePlays h1
  obtain ⟨hr, hd⟩ := hx (fun i => if i = 0 then x else none) rfl
  refine (Sx.law_calls (Sx.law6_calls a0 xs c) (W := W) (r := fun i => if i = 0 then x else none) (vs := [.int .i64 a0, .slice s1 len cap]) (Sx.relL_cons.2 ⟨rfl, Sx.relL_cons.2 ⟨hr _ _ _ rfl, Sx.relL_nil⟩⟩)
    ⟨Sx.Hp.nil, Sx.Hp.nil, hd, rfl, Sx.Hp.nil_apart _, rfl⟩ (fun i hi => if_neg (by omega))).mono fun e W' ⟨he, hw⟩ => ?_
  subst he
  exact ⟨_, rfl, _, _, _, [], _, [], hW', trodAll_mk1 (shut_bool Try.underlying4 true), trodAll_mk2 (shut_int Try.underlying3 w0) (hw.trod Try.laidOutTablePlays (by kernel_rfl) (by decide +kernel) h1 (fun x hx => hW'.lt x (by simp [hx]))), rfl, hw.frame _, fun h => by cases h⟩

theorem tablePlays_holds : Rows.TablePlaysSaid :=
  OpenClaim.holds_of_wide 6 Try.f6 rfl rfl rfl rfl rfl rfl rfl ⟨rfl, rfl, rfl, rfl, rfl⟩ rfl rfl rfl rfl rfl (by kernel_rfl) Try.func6 (by kernel_rfl)
    (of_decide_eq_true (by kernel_rfl)) (by unfold Func.isWrapper; first | (rw [if_pos (by decide +kernel)]; kernel_rfl) | (rw [if_neg (by decide +kernel)]; exact ⟨rfl, rfl⟩))
    (fun os started H enc _ => tablePlays_lifted os started H enc)

end Go.Proofs.Ytkadlfadmjhahaa

