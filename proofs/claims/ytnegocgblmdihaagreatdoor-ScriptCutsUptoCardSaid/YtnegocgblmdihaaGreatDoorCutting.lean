/-
  For every input of bulk at most 1048576 the law ScriptCuts returns true, does not panic, and each argument reads behind the call as before. Conditions: the variable errors.errorType is tied to the program's text; the bulk of the arguments is at most 1048576.
-/
import Derived.Test.YtnegocgblmdihaaGreatDoorCuttingP11
import Derived.Test.YtnegocgblmdihaaGreatDoorRows
import Derived.Test.YtnegocgblmdihaaGreatDoorTie
import Derived.Test.YtnegocgblmdihaaGreatDoorCards
import Derived.ChangeSame
import Derived.ChangeVars
import Derived.JoinedOf
import Derived.RowKit
import Derived.RowKitTokens
import Derived.LaidLaws
import Derived.LaidHandle
import Derived.Stop.Joined
import Derived.SevenTiedAt
import Derived.JoinedCond
import Derived.Deep.DeepHandedRow
namespace Go.Proofs.YtnegocgblmdihaaGreatDoor
open Go.ChangeShapes Go.WideShapes Go.ChangeAt Go.RowKit

theorem Tryz.ownScriptCuts : ownKnob Tryz.prog.godebug = none := by kernel_rfl
theorem Tryz.laidOutScriptCuts : laidOutB Tryz.prog = true := by kernel_rfl

/-- A world that meets the condition. -/
noncomputable def laidWorld (os : Os) : World :=
  let w0 := World.holding Tryz.prog os ⟨#[], #[], []⟩
  { w0 with heap := w0.heap.modify 0 fun
      | .cells _ t frozen => .cells #[.iface 270 (.agg #[.pointer (some ⟨1, 212, none⟩)])] t frozen
      | o => o }
theorem laidWorld_met (os : Os) (args : Array Value) : laidMetH Tryz.prog Rows.scriptCutsUptoRow.laid ((laidWorld os).forCall (fun _ _ => 0) ⟨#[], args, []⟩).memory :=
  laidMetH_of_parts (laidMet_nil _ _) (by kernel_rfl)

set_option maxRecDepth 100000 in
theorem scriptCuts_lifted (os : Os) (started : os.Started) (H : Type) (enc : TypeId × Value → H) (F : Stop.Interp) :
    ReturnsInHanded {} Tryz.checked os 5 .any ((Rows.OpenSpec.upto Rows.scriptCutsSpec).preRow enc Tryz.prog Tryz.f5 Rows.scriptCutsUptoRow.domain false Rows.scriptCutsUptoRow.laid) (((Rows.OpenSpec.upto Rows.scriptCutsSpec).at F).post enc Tryz.prog Tryz.f5 false true false false) := by
  obtain ⟨places, hx⟩ : ∃ places, DataW.whole enc Tryz.prog ((laidWorld os).forCall (fun _ _ => 0) ⟨#[], #[.agg #[.int .i64 0, .int .i64 0, .int .i64 0, .int .i64 0, .int .i64 0, .int .i64 0], .slice none 0 0, .slice none 0 0, .slice none 0 0], []⟩).memory Tryz.f5.params.toList Rows.scriptCutsSpec.vars false #[.agg #[.int .i64 0, .int .i64 0, .int .i64 0, .int .i64 0, .int .i64 0, .int .i64 0], .slice none 0 0, .slice none 0 0, .slice none 0 0].toList 8 = some ([.agg [.lit (.int .i64 0), .lit (.int .i64 0), .lit (.int .i64 0), .lit (.int .i64 0), .lit (.int .i64 0), .lit (.int .i64 0)], .nil, .nil, .nil], [], places) :=
    ⟨[], by kernel_rfl⟩
  refine returnsInHanded_of_row (C := Tryz.checked) (s := Rows.OpenSpec.upto Rows.scriptCutsSpec) Tryz.ownScriptCuts started (by kernel_rfl) Tryz.func5
    (witness_row_at (enc := enc) (C := Tryz.checked) false (laidWorld os) #[.agg #[.int .i64 0, .int .i64 0, .int .i64 0, .int .i64 0, .int .i64 0, .int .i64 0], .slice none 0 0, .slice none 0 0, .slice none 0 0] rfl (by kernel_rfl) (by kernel_rfl) (by kernel_rfl)
      (OpenSpec.preRow_of_cond 8 hx (by kernel_rfl) (fun k hk => by cases hk; kernel_rfl) (by kernel_rfl) (laidWorld_met os _))) ?_
  intro W base args ds gs before hval0 hW _ hcond _ _ _ _
  have hcond := hcond _ rfl
  have hval : ∀ (j : Nat) t v, Tryz.f5.params[j]? = some t → args[j]? = some v → Value.okWide Tryz.prog W .any base t v := hval0
  have hW' := hW
  obtain ⟨p, q, hA0, hV0, rfl, hfz, hnd⟩ := hW
  have hA : DataW.TrodAll enc Tryz.prog W 0 (fun _ => true) true Tryz.f5.params.toList args.toList ds p := hA0
  have hV : DataW.TrodVars enc Tryz.prog W (fun _ => true) [] gs q := hV0
  rw [Tryz.params5] at hA hval
  obtain ⟨v0, v1, v2, v3, d0, d1, d2, d3, p0, p1, p2, p3, rfl, rfl, rfl, h0, h1, h2, h3⟩ := trodAll_four hA
  obtain ⟨rfl, rfl⟩ : gs = [] ∧ q = [] := by
    cases gs with
    | nil => exact ⟨rfl, hV⟩
    | cons g r => exact absurd hV (by intro h; cases h)
  obtain ⟨cs0, rfl, hz0⟩ := okWide_struct Tryz.underlying24 (hval 0 24 v0 rfl rfl)
  obtain ⟨s1, len1, cap1, rfl⟩ := okWide_slice Tryz.underlying25 (hval 1 25 v1 rfl rfl)
  obtain ⟨s2, len2, cap2, rfl⟩ := okWide_slice Tryz.underlying26 (hval 2 26 v2 rfl rfl)
  obtain ⟨s3, len3, cap3, rfl⟩ := okWide_slice Tryz.underlying22 (hval 3 22 v3 rfl rfl)
  clear hA0 hval0
  simp only [List.append_nil, List.nil_append] at hW'
  have hcond := of_decide_eq_true hcond
  simp only [List.cons_append, List.nil_append, Rows.uptoBulkAll] at hcond
  obtain ⟨conf, hc⟩ := Sx.open_conf h0 ⟨cs0, rfl⟩
  obtain ⟨o, rows, rc, hr1, hr2, hr3⟩ := Sx.open_rows h1 ⟨_, _, _, rfl⟩
  have hr4 : (Sx.encRows rows).length ≤ 16777216 := by omega
  obtain ⟨xs2, c2, x2, hp2, _, _, hx2⟩ := Sx.open_ro (U := Sx.V) (k := Sx.Kd.int) 2 Tryz.underlying26 (by kernel_rfl) Sx.reads_int h2
  obtain ⟨xs3, c3, x3, hp3, _, _, hx3⟩ := Sx.open_ro (U := Sx.V) (k := Sx.Kd.byte) 3 Tryz.underlying22 (by kernel_rfl) Sx.reads_byte h3
  refine (Sx.law_calls (Sx.calls5 conf (Sx.baseSees W) o rows.length rc xs2 c2 xs3 c3 rows hr2 hr4 hp3) (W := W) (r := fun i => if i = 2 then x2 else if i = 3 then x3 else none) (vs := [.agg cs0, .slice s1 len1 cap1, .slice s2 len2 cap2, .slice s3 len3 cap3]) (Sx.relL_cons.2 ⟨hc _, Sx.relL_cons.2 ⟨hr1 _, Sx.relL_cons.2 ⟨(hx2 _ (by simp)).1 _ _ _ rfl, Sx.relL_cons.2 ⟨(hx3 _ (by simp)).1 _ _ _ rfl, Sx.relL_nil⟩⟩⟩⟩)
    ⟨Sx.Hp.nil, Sx.Hp.nil, (hx2 _ (by simp)).2, ⟨Sx.Hp.nil, Sx.Hp.nil, (hx3 _ (by simp)).2, ⟨Sx.Hp.nil, Sx.Hp.nil, ⟨Sx.baseSees_in W, rfl⟩, rfl, Sx.Hp.nil_apart _, rfl⟩, Sx.Hp.nil_apart _, rfl⟩, Sx.Hp.nil_apart _, rfl⟩ (fun i hi => (by show (if i = 2 then x2 else if i = 3 then x3 else none) = none; rw [if_neg (by omega)]; rw [if_neg (by omega)]))).mono fun e W' ⟨he, hw⟩ => ?_
  subst he
  exact ⟨_, rfl, _, _, _, [], _, [], hW', trodAll_mk1 (shut_bool Tryz.underlying4 true), trodAll_mk4 (hw.trod Tryz.laidOutScriptCuts (by kernel_rfl) (by decide +kernel) h0 (fun x hx => hW'.lt x (by simp [hx]))) (hw.trod Tryz.laidOutScriptCuts (by kernel_rfl) (by decide +kernel) h1 (fun x hx => hW'.lt x (by simp [hx]))) (hw.trod Tryz.laidOutScriptCuts (by kernel_rfl) (by decide +kernel) h2 (fun x hx => hW'.lt x (by simp [hx]))) (hw.trod Tryz.laidOutScriptCuts (by kernel_rfl) (by decide +kernel) h3 (fun x hx => hW'.lt x (by simp [hx]))), rfl, hw.frame _, fun h => by cases h⟩

theorem scriptCuts_row : Rows.ScriptCutsUptoSaid :=
  OpenClaim.holds_of_cond 5 Tryz.f5 rfl rfl rfl rfl rfl rfl rfl ⟨rfl, rfl, rfl, rfl, rfl⟩ rfl rfl rfl rfl rfl (by kernel_rfl) Tryz.func5 (by kernel_rfl)
    (of_decide_eq_true (by kernel_rfl)) (by unfold Func.isWrapper; first | (rw [if_pos (by decide +kernel)]; kernel_rfl) | (rw [if_neg (by decide +kernel)]; exact ⟨rfl, rfl⟩))
    (fun os started H enc _ F => by rw [OpenClaim.pre_eq_preRow]; exact scriptCuts_lifted os started H enc F)
theorem scriptCutsUpto_holds : Rows.ScriptCutsUptoCardSaid :=
  Claim7.holds_tied_plain_at .later [] _ _ _ _
    scriptCuts_row (fun _ h => by cases h) (by kernel_rfl) (fun _ h => by cases h) scriptCutsUpto_row_tie rfl ⟨rfl, rfl⟩ (by kernel_rfl) rfl
    (fun f fn hf hfn => by
      obtain rfl : f = 5 := Option.some.inj ((show Tryz.prog.funcNamed "pantry/pantrylaw26.ScriptCuts" = some 5 by kernel_rfl).symm.trans hf) |>.symm
      obtain rfl : fn = Tryz.f5 := (Option.some.inj (Tryz.func5.symm.trans hfn)).symm
      exact ⟨by kernel_rfl, fun j t ht => by
        rw [Tryz.params5] at ht
        have hm : t ∈ [24, 25, 26, 22] := by simpa using Array.mem_of_getElem? ht
        have hall : ([24, 25, 26, 22].all fun u => !Tryz.prog.wantsStandIn u) = true := by kernel_rfl
        exact (show Tryz.prog.wantsStandIn t = false by simpa using List.all_eq_true.1 hall t hm)⟩)
    (by kernel_rfl)
end Go.Proofs.YtnegocgblmdihaaGreatDoor

