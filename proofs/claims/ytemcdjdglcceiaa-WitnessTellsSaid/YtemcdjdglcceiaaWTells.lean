/-
  For every input the law WitnessTells returns true, does not panic, and each argument reads behind the call as before. Conditions: none.
-/
import Derived.Test.YtemcdjdglcceiaaWTellsP9
import Derived.Test.YtemcdjdglcceiaaRows
namespace Go.Proofs.Ytemcdjdglcceiaa
open Go.ChangeShapes Go.WideShapes Go.ChangeAt Go.RowKit

theorem Try.ownW : ownKnob Try.prog.godebug = none := by kernel_rfl
theorem Try.laidOutW : laidOutB Try.prog = true := by kernel_rfl
theorem Sx.reads_int : Sx.Reads Try.prog 3 (Sx.V.enc Sx.Kd.int) (fun _ => True) := by
  intro H enc W base spare held fuel cs x hx
  obtain ⟨z, e, _, _⟩ := DataW.trod_int Try.underlying3 hx
  obtain ⟨rfl⟩ : cs = [.int .i64 z] := e
  exact ⟨z, Sx.relL_cons.2 ⟨rfl, Sx.relL_nil⟩, trivial⟩

set_option maxRecDepth 100000 in
theorem witnessTells_lifted (os : Os) (started : os.Started) (H : Type) (enc : TypeId × Value → H) :
    ReturnsInHanded {} Try.checked os 9 .any (Rows.witnessTellsSpec.pre6 enc Try.prog Try.f9 Rows.witnessTellsRow.domain false) (Rows.witnessTellsSpec.post enc Try.prog Try.f9 false true false false) := by
  refine returnsInHanded_of_change (C := Try.checked) Try.ownW started (by kernel_rfl) Try.func9
    (ChangeSpec.witness6 (enc := enc) (C := Try.checked) false ⟨#[], #[.slice none 0 0, .slice none 0 0], []⟩ 8 (by kernel_rfl) (by kernel_rfl) (by kernel_rfl) (by kernel_rfl)) ?_
  intro W base args ds gs before hval0 hW hcnd _
  have hval : ∀ (j : Nat) t v, Try.f9.params[j]? = some t → args[j]? = some v → Value.okWide Try.prog W .any base t v := hval0
  have hW' := hW
  obtain ⟨p, q, hA0, hV, rfl, hfz, hnd⟩ := hW
  have hA : DataW.TrodAll enc Try.prog W 0 (fun _ => true) true Try.f9.params.toList args.toList ds p := hA0
  rw [Try.params9] at hA hval
  obtain ⟨v0, v1, d0, d1, p0, p1, rfl, rfl, rfl, h0, h1⟩ := trodAll_two hA
  obtain ⟨rfl, rfl⟩ := trodVars_none hV
  obtain ⟨a0, len, cap, rfl⟩ := okWide_slice Try.underlying22 (hval 0 22 v0 rfl rfl)
  obtain ⟨a1, len1, cap1, rfl⟩ := okWide_slice Try.underlying43 (hval 1 43 v1 rfl rfl)
  clear hA0 hval0
  simp only [List.append_nil] at hW'
  obtain ⟨xs, c, x, hb, _, _, hx⟩ := Sx.open_ro (U := Sx.V) (k := Sx.Kd.rcd) 0 Try.underlying22 (by kernel_rfl) Sx.reads_rec h0
  obtain ⟨ys, d, y, _, _, _, hy⟩ := Sx.open_ro (U := Sx.V) (k := Sx.Kd.int) 1 Try.underlying43 (by kernel_rfl) Sx.reads_int h1
  obtain ⟨hr, hd⟩ := hx (fun i => if i = 0 then x else if i = 1 then y else none) rfl
  obtain ⟨hr1, hd1⟩ := hy (fun i => if i = 0 then x else if i = 1 then y else none) rfl
  refine (Sx.law_calls (Sx.wtells_law xs c ys d hb) (W := W) (r := fun i => if i = 0 then x else if i = 1 then y else none) (vs := [.slice a0 len cap, .slice a1 len1 cap1]) (Sx.relL_cons.2 ⟨hr _ _ _ rfl, Sx.relL_cons.2 ⟨hr1 _ _ _ rfl, Sx.relL_nil⟩⟩)
    ⟨Sx.Hp.nil, Sx.Hp.nil, hd, ⟨Sx.Hp.nil, Sx.Hp.nil, hd1, rfl, Sx.Hp.nil_apart _, rfl⟩, Sx.Hp.nil_apart _, rfl⟩ (fun i hi => by show (if i = 0 then x else if i = 1 then y else none) = none; rw [if_neg (by omega), if_neg (by omega)])).mono fun e W' ⟨he, hw⟩ => ?_
  subst he
  have k0 := hw.trod Try.laidOutW (by kernel_rfl) (by decide +kernel) h0 (fun x hx => hW'.lt x (List.mem_append_left _ hx))
  have k1 := hw.trod Try.laidOutW (by kernel_rfl) (by decide +kernel) h1 (fun x hx => hW'.lt x (List.mem_append_right _ hx))
  exact ⟨_, rfl, _, _, _, [], _, [], hW', trodAll_mk1 (shut_bool Try.underlying4 true), trodAll_mk2 k0 k1, rfl, hw.frame _, fun h => by cases h⟩

theorem witnessTells_holds : Rows.WitnessTellsSaid :=
  OpenClaim.holds_of_wide 9 Try.f9 rfl rfl rfl rfl rfl rfl rfl ⟨rfl, rfl, rfl, rfl, rfl⟩ rfl rfl rfl rfl rfl (by kernel_rfl) Try.func9 (by kernel_rfl)
    (of_decide_eq_true (by kernel_rfl)) (by unfold Func.isWrapper; first | (rw [if_pos (by decide +kernel)]; kernel_rfl) | (rw [if_neg (by decide +kernel)]; exact ⟨rfl, rfl⟩))
    (fun os started H enc _ => witnessTells_lifted os started H enc)

end Go.Proofs.Ytemcdjdglcceiaa

