/-
  For every input the law ShardsPlay returns true, does not panic, and each argument reads behind the call as before. Conditions: none.
-/
import Derived.Test.YtohckjjbephohaaShardsPlayAllP9
import Derived.Test.YtohckjjbephohaaRows
namespace Go.Proofs.Ytohckjjbephohaa
open Go.ChangeShapes Go.WideShapes Go.ChangeAt Go.RowKit

theorem Try.ownShardsPlay : ownKnob Try.prog.godebug = none := by kernel_rfl
theorem Try.laidOutShardsPlay : laidOutB Try.prog = true := by kernel_rfl

namespace Sx
theorem reads_ShardsPlay : Reads Try.prog 35 (V.enc Kd.four) (fun _ => True) := by
  refine reads_array (k := .i64) (n := 4) Try.underlying35 Try.underlying3 (by kernel_rfl) (by kernel_rfl) ?_
  intro zs hl _
  match zs, hl with
  | [a, b, c, d], _ => exact ⟨⟨a, b, c, d⟩, relL_cons.2 ⟨rfl, relL_cons.2 ⟨rfl, relL_cons.2 ⟨rfl, relL_cons.2 ⟨rfl, relL_nil⟩⟩⟩⟩, trivial⟩
end Sx

set_option maxRecDepth 100000 in
theorem shardsPlay_lifted (os : Os) (started : os.Started) (H : Type) (enc : TypeId × Value → H) :
    ReturnsInHanded {} Try.checked os 7 .any (Rows.shardsPlaySpec.pre6 enc Try.prog Try.f7 Rows.shardsPlayRow.domain false) (Rows.shardsPlaySpec.post enc Try.prog Try.f7 false true false false) := by
  refine returnsInHanded_of_change (C := Try.checked) Try.ownShardsPlay started (by kernel_rfl) Try.func7
    (ChangeSpec.witness6 (enc := enc) (C := Try.checked) false ⟨#[], #[.int .i64 0, .int .i64 0, .slice none 0 0], []⟩ 8 (by kernel_rfl) (by kernel_rfl) (by kernel_rfl) (by kernel_rfl)) ?_
  intro W base args ds gs before hval0 hW hcnd _
  have hval : ∀ (j : Nat) t v, Try.f7.params[j]? = some t → args[j]? = some v → Value.okWide Try.prog W .any base t v := hval0
  have hW' := hW
  obtain ⟨p, q, hA0, hV, rfl, hfz, hnd⟩ := hW
  have hA : DataW.TrodAll enc Try.prog W 0 (fun _ => true) true Try.f7.params.toList args.toList ds p := hA0
  rw [Try.params7] at hA hval
  obtain ⟨v0, v1, v2, d0, d1, d2, p0, p1, p2, rfl, rfl, rfl, h0, h1, h2⟩ := trodAll_three hA
  obtain ⟨rfl, rfl⟩ := trodVars_none hV
  obtain ⟨a0, rfl, rfl, rfl, w0⟩ := open_int Try.underlying3 (hval 0 3 v0 rfl rfl) h0
  obtain ⟨a1, rfl, rfl, rfl, w1⟩ := open_int Try.underlying3 (hval 1 3 v1 rfl rfl) h1
  obtain ⟨s2, len, cap, rfl⟩ := okWide_slice Try.underlying34 (hval 2 34 v2 rfl rfl)
  clear hA0 hval0
  simp only [List.append_nil, List.nil_append] at hW'
  obtain ⟨xs, c, x, _, _, _, hx⟩ := Sx.open_ro (U := Sx.V) (k := Sx.Kd.four) 0 Try.underlying34 (by kernel_rfl) Sx.reads_ShardsPlay h2
  obtain ⟨hr, hd⟩ := hx (fun i => if i = 0 then x else none) rfl
  refine (Sx.law_calls (Sx.law7_calls a0 a1 xs c) (W := W) (r := fun i => if i = 0 then x else none) (vs := [.int .i64 a0, .int .i64 a1, .slice s2 len cap]) (Sx.relL_cons.2 ⟨rfl, Sx.relL_cons.2 ⟨rfl, Sx.relL_cons.2 ⟨hr _ _ _ rfl, Sx.relL_nil⟩⟩⟩)
    ⟨Sx.Hp.nil, Sx.Hp.nil, hd, rfl, Sx.Hp.nil_apart _, rfl⟩ (fun i hi => if_neg (by omega))).mono fun e W' ⟨he, hw⟩ => ?_
  subst he
  exact ⟨_, rfl, _, _, _, [], _, [], hW', trodAll_mk1 (shut_bool Try.underlying4 true), trodAll_mk3 (shut_int Try.underlying3 w0) (shut_int Try.underlying3 w1) (hw.trod Try.laidOutShardsPlay (by kernel_rfl) (by decide +kernel) h2 (fun x hx => hW'.lt x (by simp [hx]))), rfl, hw.frame _, fun h => by cases h⟩

theorem shardsPlay_holds : Rows.ShardsPlaySaid :=
  OpenClaim.holds_of_wide 7 Try.f7 rfl rfl rfl rfl rfl rfl rfl ⟨rfl, rfl, rfl, rfl, rfl⟩ rfl rfl rfl rfl rfl (by kernel_rfl) Try.func7 (by kernel_rfl)
    (of_decide_eq_true (by kernel_rfl)) (by unfold Func.isWrapper; first | (rw [if_pos (by decide +kernel)]; kernel_rfl) | (rw [if_neg (by decide +kernel)]; exact ⟨rfl, rfl⟩))
    (fun os started H enc _ => shardsPlay_lifted os started H enc)

end Go.Proofs.Ytohckjjbephohaa

