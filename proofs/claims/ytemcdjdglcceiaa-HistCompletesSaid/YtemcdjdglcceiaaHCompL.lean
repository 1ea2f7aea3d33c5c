/-
  The law of what is completed.
-/
import Derived.Test.YtemcdjdglcceiaaHTrees10
namespace Go.Proofs.Ytemcdjdglcceiaa
namespace Sx
open Go
set_option linter.unusedSimpArgs false
set_option linter.unusedVariables false

theorem walk4 (l : List Rec) (c : Nat) (hl : ∀ r ∈ l, r.op < 9223372036854775808) (F : AV → Heap V → Nat → Prop) (htt : F .tt [] 0) (hF : ∀ b : Bool, b = true → F (.bool b) [] 0) :
    (runL cfgI 60 4 Try.f4 [.sl false 0 0 8 l.length c] [(0, .ro Kd.rcd l)] 1).holds ⟨fun _ _ => False, F⟩ := by
  rw [t4]
  simp only [List.drop_zero, List.take_length]
  refine ⟨fun _ => htt, fun h1 => ?_⟩
  have hlen : l.length ≤ 300 := by have := of_decide_eq_false h1; omega
  refine ⟨by omega, by omega, fun _ => htt, fun hr => ?_⟩
  have hr : hRight l = true := by simpa using hr
  have C := completed hl hr
  have C1 := C.right
  have C2 := C.left
  have C3 := C.coms
  have C4 := C.again
  have C5 := C.calls
  have C6 := C.small
  have hcl := calls_len l
  have hcc : (hCommits l).length ≤ l.length := by
    unfold hCommits
    rw [if_pos hr, List.length_map]
    exact List.length_filter_le _ _
  simp only [C1, C2, C3, C4, Out.holds]
  repeat' first | apply And.intro | intro _
  all_goals first
    | omega
    | exact hF _ (decide_eq_true (by omega))
    | exact hF _ (by simp)
    | (rename_i h; exfalso; revert h; simp)
    | skip

theorem completes_law (l : List Rec) (c : Nat) (hb : ∀ r ∈ l, r.op < 9223372036854775808) : CallsSx Try.prog 4 [.sl false 0 0 8 l.length c] ([(0, .ro Kd.rcd l)] : Heap V) 1 (fun v _ _ _ => v.sub .tt) := by
  refine calls_runL (args := [.sl false 0 0 8 l.length c]) cfgI_ok (n := 60) (fn := Try.f4) ⟨by kernel_rfl, by kernel_rfl⟩ (by kernel_rfl) (show 1 ≤ _ by decide +kernel) ?_
  exact walk4 l c hb _ (AV.sub_same _) (fun b h r z hz => hz.trans (congrArg Value.bool h))

end Sx
end Go.Proofs.Ytemcdjdglcceiaa
