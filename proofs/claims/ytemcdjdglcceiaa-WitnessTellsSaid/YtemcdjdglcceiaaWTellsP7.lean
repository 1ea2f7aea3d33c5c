/-
  The laws of witnesses: any records tell alike, and the beginning of what Checks does.
-/
import Derived.Test.YtemcdjdglcceiaaWTellsP6
namespace Go.Proofs.Ytemcdjdglcceiaa
namespace Sx
open Go
set_option linter.unusedSimpArgs false
set_option linter.unusedVariables false

theorem hooksM_ok : ∀ g H, hooksM g = some H → HookOk Try.prog g H := by
  intro g H h
  unfold hooksM at h
  split at h
  · cases h; exact hCheck
  · cases h; exact hCheckRef
  · cases h; exact hLost
  · cases h; exact hLostRef
  · exact hooksK_ok _ _ h
theorem cfgM_ok : cfgM.ok := by
  refine ⟨tab_met, kinds_met, mixed_met, fun g fn h => ?_, hooksM_ok⟩
  unfold cfgM fnsM at h
  simp only at h
  split at h <;> cases h
  exact ⟨by kernel_rfl, by kernel_rfl⟩
theorem hSmallW : HookOk Try.prog 27 (hookFree [] runSmall) := by
  refine free_hook (C := cfgM) cfgM_ok (n := 60) (fn := Try.f27) ⟨by kernel_rfl, by kernel_rfl⟩ (by kernel_rfl) ?_
  intro M ar K0 H
  unfold runSmall at H
  split at H
  · refine ⟨Nat.zero_le _, ?_⟩
    show (runF cfgM 60 27 Try.f27 [] [] 0).holds _
    rw [wt27]
    have no : ∀ {p : Prop} {b : Bool}, b = true → b = false → p := fun h k => absurd (h.symm.trans k) (by decide)
    refine ⟨by decide, fun y => ⟨⟨by decide, by decide +kernel⟩, fun _ => ?_, fun h => no (by decide +kernel) h⟩⟩
    refine ⟨⟨by decide, by decide +kernel⟩, fun _ => ?_, fun h => no (by decide +kernel) h⟩
    refine ⟨by decide, ⟨by decide, by decide +kernel⟩, fun _ => ?_, fun h => no (by decide +kernel) h⟩
    refine ⟨⟨by decide, by decide +kernel⟩, fun y1 => ⟨by decide, by decide, fun _ => ?_, fun h => no (by decide +kernel) h⟩⟩
    refine ⟨by decide, by decide, fun _ => ?_, fun h => no (by decide +kernel) h⟩
    refine ⟨by decide, by decide, fun _ => ?_, fun h => no (by decide +kernel) h⟩
    refine ⟨⟨by decide, by decide +kernel, by decide⟩, fun y2 => ⟨fun _ => ?_, fun h => no (by decide +kernel) h⟩⟩
    refine ⟨by decide, fun _ => ?_, fun h => no (by decide +kernel) h⟩
    exact ⟨by decide, fun y3 => ⟨_, _, H, endPlain (fun r z hz => hz.trans (congrArg Value.bool (by decide +kernel))) rfl⟩⟩
  · exact H.elim
theorem hooksN_ok : ∀ g H, hooksN g = some H → HookOk Try.prog g H := by
  intro g H h
  unfold hooksN at h
  split at h
  · cases h; exact hSmallW
  · exact hooksM_ok _ H h
theorem cfgNN_ok : cfgNN.ok := ⟨tab_met, kinds_met, mixed_met, fun g fn h => (by cases h), hooksN_ok⟩

theorem walk9 (l : List Rec) (c : Nat) (o : List Int) (co : Nat) (hl : ∀ r ∈ l, r.op < 9223372036854775808) (F : AV → Heap V → Nat → Prop) (htt : F .tt [] 0) (hF : ∀ b : Bool, b = true → F (.bool b) [] 0) :
    (runL cfgNN 60 9 Try.f9 [.sl false 0 0 8 l.length c, .sl false 1 0 1 o.length co] [(0, .ro Kd.rcd l), (1, .ro Kd.int o)] 2).holds ⟨fun _ _ => False, F⟩ := by
  rw [wt9]
  have hcl := calls_len l
  have hol := wOrder_len l
  have hrl := wRow_len l o
  have hlo : (wLost l).length ≤ (hCommits l).length := lostTo_le _ _
  have hcc := commits_len l
  rw [show List.take l.length (List.drop 0 l) = l from take_all l]
  rw [show List.take l.length (List.drop 0 l) = l from take_all l]
  rw [show List.take o.length (List.drop 0 o) = o from take_all o]
  rw [show List.take (wOrder l).length (List.drop 0 (wOrder l)) = wOrder l from take_all _]
  rw [show List.take (hCallsOf l).length (List.drop 0 (hCallsOf l)) = hCallsOf l from take_all _]
  rw [show List.take (wRow l o).length (List.drop 0 (wRow l o)) = wRow l o from take_all _]
  rw [show List.take (wLost l).length (List.drop 0 (wLost l)) = wLost l from take_all _]
  refine ⟨fun _ => htt, fun h1 => ⟨fun _ => htt, fun h2 => ?_⟩⟩
  have hlen : l.length ≤ 100 := by have := of_decide_eq_false h1; omega
  have holen : o.length ≤ 100 := by have := of_decide_eq_false h2; omega
  simp only [Out.holds, decide_true, beq_self_eq_true, Bool.true_eq_false, true_implies, false_implies, Bool.false_eq_true, and_true]
  repeat' first | apply And.intro | intro _
  all_goals first
    | omega
    | assumption
    | exact hF _ rfl
    | exact hl _ (by assumption)
theorem wtells_law (l : List Rec) (c : Nat) (o : List Int) (co : Nat) (hb : ∀ r ∈ l, r.op < 9223372036854775808) : CallsSx Try.prog 9 [.sl false 0 0 8 l.length c, .sl false 1 0 1 o.length co] ([(0, .ro Kd.rcd l), (1, .ro Kd.int o)] : Heap V) 2 (fun v _ _ _ => v.sub .tt) := by
  refine calls_runL (args := [.sl false 0 0 8 l.length c, .sl false 1 0 1 o.length co]) cfgNN_ok (n := 60) (fn := Try.f9) ⟨by kernel_rfl, by kernel_rfl⟩ (by kernel_rfl) (show 2 ≤ _ by decide +kernel) ?_
  exact walk9 l c o co hb _ (AV.sub_same _) (fun b h r z hz => hz.trans (congrArg Value.bool h))

end Sx
end Go.Proofs.Ytemcdjdglcceiaa

