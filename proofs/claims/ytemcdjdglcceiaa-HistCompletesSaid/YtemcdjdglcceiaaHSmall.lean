/-
  The small case comes out right.
-/
import Derived.Test.YtemcdjdglcceiaaHTrees5
namespace Go.Proofs.Ytemcdjdglcceiaa
namespace Sx
open Go
set_option linter.unusedSimpArgs false
set_option linter.unusedVariables false

theorem hooksH_ok : ∀ g H, hooksH g = some H → HookOk Try.prog g H := by
  intro g H h
  unfold hooksH at h
  split at h
  · cases h; exact hLeftHook
  · cases h; exact hCommitsHook
  · cases h; exact hCompleteHook
  · exact hooksF_ok _ H h
theorem cfgH_ok : cfgH.ok := by
  refine ⟨tab_met, kinds_met, mixed_met, fun g fn h => ?_, hooksH_ok⟩
  unfold cfgH fnsH at h
  simp only at h
  split at h <;> cases h
  exact ⟨by kernel_rfl, by kernel_rfl⟩

theorem hSmall : HookOk Try.prog 11 (hookFree [] runSmall) := by
  refine free_hook (C := cfgH) cfgH_ok (n := 60) (fn := Try.f11) ⟨by kernel_rfl, by kernel_rfl⟩ (by kernel_rfl) ?_
  intro M ar K0 H
  unfold runSmall at H
  split at H
  · refine ⟨Nat.zero_le _, ?_⟩
    show (runF cfgH 60 11 Try.f11 [] [] 0).holds _
    rw [t11]
    have no : ∀ {p : Prop} {b : Bool}, b = true → b = false → p := fun h k => absurd (h.symm.trans k) (by decide)
    refine ⟨by decide, fun y => ⟨by decide, fun _ => ?_, fun h => no (by decide +kernel) h⟩⟩
    refine ⟨by decide, by decide, fun _ => ?_, fun h => no (by decide +kernel) h⟩
    refine ⟨by decide, fun _ => ?_, fun h => no (by decide +kernel) h⟩
    refine ⟨by decide, fun y1 => ⟨fun _ => ?_, fun h => no (by decide +kernel) h⟩⟩
    refine ⟨by decide, fun y2 => ⟨fun _ => ?_, fun h => no (by decide +kernel) h⟩⟩
    refine ⟨fun _ => ?_, fun h => no (by decide +kernel) h⟩
    refine ⟨by decide, by decide, by decide, by decide, fun _ => ?_, fun h => no (by decide +kernel) h⟩
    exact ⟨by decide, by decide, _, _, H, endPlain (fun r z hz => hz.trans (congrArg Value.bool (by decide +kernel))) rfl⟩
  · exact H.elim
theorem hooksI_ok : ∀ g H, hooksI g = some H → HookOk Try.prog g H := by
  intro g H h
  unfold hooksI at h
  split at h
  · cases h; exact hSmall
  · exact hooksH_ok _ H h
theorem cfgI_ok : cfgI.ok := ⟨tab_met, kinds_met, mixed_met, fun g fn h => (by cases h), hooksI_ok⟩

end Sx
end Go.Proofs.Ytemcdjdglcceiaa
