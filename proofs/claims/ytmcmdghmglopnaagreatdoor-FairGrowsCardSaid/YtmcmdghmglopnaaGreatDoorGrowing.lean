/-
  For every input the law FairGrows returns true, does not panic, and each argument reads behind the call as before. Conditions: the variable errors.errorType is tied to the program's text.
-/
import Derived.Test.YtmcmdghmglopnaaGreatDoorGrowingP15
import Derived.Test.YtmcmdghmglopnaaGreatDoorRows
import Derived.Test.YtmcmdghmglopnaaGreatDoorTie
import Derived.Test.YtmcmdghmglopnaaGreatDoorCards
import Derived.ChangeSame
import Derived.ChangeVars
import Derived.JoinedOf
import Derived.RowKit
import Derived.RowKitTokens
import Derived.LaidLaws
import Derived.LaidHandle
import Derived.Stop.Joined
import Derived.SevenTiedAt
namespace Go.Proofs.YtmcmdghmglopnaaGreatDoor
open Go.ChangeShapes Go.WideShapes Go.ChangeAt Go.RowKit

theorem Tryz.ownFairGrows : ownKnob Tryz.prog.godebug = none := by kernel_rfl
theorem Tryz.laidOutFairGrows : laidOutB Tryz.prog = true := by kernel_rfl

namespace Sx
theorem reads_hdr : Reads Tryz.prog 37 (V.enc Kd.rws) (fun _ => True) := by
  intro H enc W base spare held fuel cs x hx
  rcases DataW.trod_slice Tryz.underlying37 hx with ⟨rfl, _⟩ | ⟨a, len, cap, elems, rest, n, _, rfl, _⟩
  · exact ⟨(none, 0, 0), relL_cons.2 ⟨rfl, relL_nil⟩, trivial⟩
  · exact ⟨(some a, len, cap), relL_cons.2 ⟨rfl, relL_nil⟩, trivial⟩
theorem reads_int : Reads Tryz.prog 3 (V.enc Kd.int) (fun _ => True) := by
  intro H enc W base spare held fuel cs x hx
  obtain ⟨z, hz, _, hw⟩ := DataW.trod_int Tryz.underlying3 hx
  exact ⟨z, by rw [hz]; exact relL_cons.2 ⟨rfl, relL_nil⟩, trivial⟩
end Sx

/-- A world that meets the condition. -/
noncomputable def laidWorld (os : Os) : World :=
  let w0 := World.holding Tryz.prog os ⟨#[], #[], []⟩
  { w0 with heap := w0.heap.modify 0 fun
      | .cells _ t frozen => .cells #[.iface 266 (.agg #[.pointer (some ⟨1, 195, none⟩)])] t frozen
      | o => o }
theorem laidWorld_met (os : Os) (args : Array Value) : laidMetH Tryz.prog Rows.fairGrowsRow.laid ((laidWorld os).forCall (fun _ _ => 0) ⟨#[], args, []⟩).memory :=
  laidMetH_of_parts (laidMet_nil _ _) (by kernel_rfl)

set_option maxRecDepth 100000 in
theorem fairGrows_lifted (os : Os) (started : os.Started) (H : Type) (enc : TypeId × Value → H) :
    ReturnsInHanded {} Tryz.checked os 6 .any (fun w args => (Rows.fairGrowsSpec.pre enc Tryz.prog Tryz.f6 [] false w args ∧ laidMetH Tryz.prog Rows.fairGrowsRow.laid w) ∧ sizedMet enc Tryz.prog Tryz.f6 (OpenSpec.ofChange Rows.fairGrowsSpec) false w args)
      (Rows.fairGrowsSpec.post enc Tryz.prog Tryz.f6 false true false false) := by
  refine returnsInHanded_of_change_and (C := Tryz.checked) (X := fun w _ => laidMetH Tryz.prog Rows.fairGrowsRow.laid w) (fun _ _ _ hh h => h.of_heap hh) Tryz.ownFairGrows started (by kernel_rfl) Tryz.func6
    (ChangeSpec.witness_at (enc := enc) (C := Tryz.checked) (os := os) (X := fun w _ => laidMetH Tryz.prog Rows.fairGrowsRow.laid w) false (laidWorld os) #[.slice none 0 0, .slice none 0 0] 8 rfl (by kernel_rfl) (by kernel_rfl) (by kernel_rfl) (by kernel_rfl) (by kernel_rfl) (laidWorld_met os _)) ?_
  intro W base args ds gs before hval0 hW _ _ _ _
  have hval : ∀ (j : Nat) t v, Tryz.f6.params[j]? = some t → args[j]? = some v → Value.okWide Tryz.prog W .any base t v := hval0
  have hW' := hW
  obtain ⟨p, q, hA0, hV0, rfl, hfz, hnd⟩ := hW
  have hA : DataW.TrodAll enc Tryz.prog W 0 (fun _ => true) true Tryz.f6.params.toList args.toList ds p := hA0
  have hV : DataW.TrodVars enc Tryz.prog W (fun _ => true) [] gs q := hV0
  rw [Tryz.params6] at hA hval
  obtain ⟨v0, v1, d0, d1, p0, p1, rfl, rfl, rfl, h0, h1⟩ := trodAll_two hA
  obtain ⟨rfl, rfl⟩ : gs = [] ∧ q = [] := by
    cases gs with
    | nil => exact ⟨rfl, hV⟩
    | cons g r => exact absurd hV (by intro h; cases h)
  obtain ⟨s0, len0, cap0, rfl⟩ := okWide_slice Tryz.underlying23 (hval 0 23 v0 rfl rfl)
  obtain ⟨s1, len1, cap1, rfl⟩ := okWide_slice Tryz.underlying22 (hval 1 22 v1 rfl rfl)
  clear hA0 hval0
  simp only [List.append_nil, List.nil_append] at hW'
  obtain ⟨xs0, c0, x0, _, _, _, hx0⟩ := Sx.open_ro (U := Sx.V) (k := Sx.Kd.rws) 0 Tryz.underlying23 (by kernel_rfl) Sx.reads_hdr h0
  obtain ⟨xs1, c1, x1, _, _, _, hx1⟩ := Sx.open_ro (U := Sx.V) (k := Sx.Kd.int) 1 Tryz.underlying22 (by kernel_rfl) Sx.reads_int h1
  refine (Sx.law_calls (Sx.calls6 xs0 c0 xs1 c1) (W := W) (r := fun i => if i = 0 then x0 else if i = 1 then x1 else none) (vs := [.slice s0 len0 cap0, .slice s1 len1 cap1]) (Sx.relL_cons.2 ⟨(hx0 _ (by simp)).1 _ _ _ rfl, Sx.relL_cons.2 ⟨(hx1 _ (by simp)).1 _ _ _ rfl, Sx.relL_nil⟩⟩)
    ⟨Sx.Hp.nil, Sx.Hp.nil, (hx0 _ (by simp)).2, ⟨Sx.Hp.nil, Sx.Hp.nil, (hx1 _ (by simp)).2, rfl, Sx.Hp.nil_apart _, rfl⟩, Sx.Hp.nil_apart _, rfl⟩ (fun i hi => (by show (if i = 0 then x0 else if i = 1 then x1 else none) = none; rw [if_neg (by omega)]; rw [if_neg (by omega)]))).mono fun e W' ⟨he, hw⟩ => ?_
  subst he
  exact ⟨_, rfl, _, _, _, [], _, [], hW', trodAll_mk1 (shut_bool Tryz.underlying4 true), trodAll_mk2 (hw.trod Tryz.laidOutFairGrows (by kernel_rfl) (by decide +kernel) h0 (fun x hx => hW'.lt x (by simp [hx]))) (hw.trod Tryz.laidOutFairGrows (by kernel_rfl) (by decide +kernel) h1 (fun x hx => hW'.lt x (by simp [hx]))), rfl, hw.frame _, fun h => by cases h⟩

theorem fairGrows_row : Rows.FairGrowsSaid :=
  OpenClaim.holds_of_wide 6 Tryz.f6 rfl rfl rfl rfl rfl rfl rfl ⟨rfl, rfl, rfl, rfl, rfl⟩ rfl rfl rfl rfl rfl (by kernel_rfl) Tryz.func6 (by kernel_rfl)
    (of_decide_eq_true (by kernel_rfl)) (by unfold Func.isWrapper; first | (rw [if_pos (by decide +kernel)]; kernel_rfl) | (rw [if_neg (by decide +kernel)]; exact ⟨rfl, rfl⟩))
    (fun os started H enc _ => fairGrows_lifted os started H enc)
theorem fairGrows_holds : Rows.FairGrowsCardSaid :=
  Claim7.holds_tied_plain_at .later [] [.handle] true (true, "3ed687429296ca49706d3e5cd9ae86bef5fd99293733aeb619f923ab38d166bb") true
    fairGrows_row (fun _ h => by cases h) (by kernel_rfl) (fun _ h => by cases h) fairGrows_row_tie rfl ⟨rfl, rfl⟩ (by kernel_rfl) rfl
    (fun f fn hf hfn => by
      obtain rfl : f = 6 := Option.some.inj ((show Tryz.prog.funcNamed "pantry/pantrylaw25.FairGrows" = some 6 by kernel_rfl).symm.trans hf) |>.symm
      obtain rfl : fn = Tryz.f6 := (Option.some.inj (Tryz.func6.symm.trans hfn)).symm
      exact ⟨by kernel_rfl, fun j t ht => by
        rw [Tryz.params6] at ht
        have hm : t ∈ [23, 22] := by simpa using Array.mem_of_getElem? ht
        have hall : ([23, 22].all fun u => !Tryz.prog.wantsStandIn u) = true := by kernel_rfl
        exact (show Tryz.prog.wantsStandIn t = false by simpa using List.all_eq_true.1 hall t hm)⟩)
    (by kernel_rfl)
end Go.Proofs.YtmcmdghmglopnaaGreatDoor

