/-
  Records that are passed in.
-/
import Derived.Test.YtemcdjdglcceiaaWTellsP8
namespace Go.Proofs.Ytemcdjdglcceiaa
namespace Sx
open Go Go.ChangeShapes Go.WideShapes Go.ChangeAt Go.RowKit

theorem lit_lt {z : Int} (h : (Lit.int .i64 z).wf = true) : z < 9223372036854775808 := by
  simp [Lit.wf, IntKind.min, IntKind.max, IntKind.bits, IntKind.signed] at h
  omega
theorem reads_rec : Reads Try.prog 30 (V.enc Kd.rcd) (fun r => r.op < 9223372036854775808) := by
  intro H enc W base spare held fuel cs x hx
  obtain ⟨hl, hf⟩ := trod_fields (tab_met 30 ty30 rfl).kind hx
  have c3 : Try.prog.cellsOf 3 = 1 := by kernel_rfl
  have c28 : Try.prog.cellsOf 28 = 1 := by kernel_rfl
  have c27 : Try.prog.cellsOf 27 = 4 := by kernel_rfl
  have c4 : Try.prog.cellsOf 4 = 1 := by kernel_rfl
  have c30 : Try.prog.cellsOf 30 = 8 := by kernel_rfl
  obtain ⟨_, _, g0⟩ := hf 0 _ _ rfl
  obtain ⟨_, _, g1⟩ := hf 1 _ _ rfl
  obtain ⟨_, _, g2⟩ := hf 2 _ _ rfl
  obtain ⟨_, _, g3⟩ := hf 3 _ _ rfl
  obtain ⟨_, _, g4⟩ := hf 4 _ _ rfl
  obtain ⟨z0, e0, _, w0⟩ := DataW.trod_int Try.underlying3 g0
  obtain ⟨z1, e1, _, w1⟩ := DataW.trod_int Try.underlying3 g1
  obtain ⟨z2, e2, _, w2⟩ := DataW.trod_int Try.underlying3 g2
  obtain ⟨hl3, hf3⟩ := trod_fields (tab_met 27 ty27 rfl).kind g3
  obtain ⟨_, _, k0⟩ := hf3 0 _ _ rfl
  obtain ⟨_, _, k1⟩ := hf3 1 _ _ rfl
  obtain ⟨_, _, k2⟩ := hf3 2 _ _ rfl
  obtain ⟨_, _, k3⟩ := hf3 3 _ _ rfl
  obtain ⟨y0, d0, _, _⟩ := DataW.trod_int Try.underlying3 k0
  obtain ⟨y1, d1, _, _⟩ := DataW.trod_int Try.underlying3 k1
  obtain ⟨y2, d2, _, _⟩ := DataW.trod_int Try.underlying3 k2
  obtain ⟨y3, d3, _⟩ := DataW.trod_bool Try.underlying4 k3
  obtain ⟨z4, e4, _, w4⟩ := DataW.trod_int Try.underlying28 g4
  rw [c30] at hl
  rw [c3] at e0 e1 e2 d0 d1 d2
  rw [c4] at d3
  rw [c28] at e4
  rw [c27] at d0 d1 d2 d3
  match cs, hl with
  | [a0, a1, a2, a3, a4, a5, a6, a7], _ =>
    simp at e0 e1 e2 e4 d0 d1 d2 d3
    subst e0; subst e1; subst e2; subst e4; subst d0; subst d1; subst d2; subst d3
    exact ⟨⟨z0, z1, z2, y0, y1, y2, y3, z4⟩, relL_cons.2 ⟨rfl, relL_cons.2 ⟨rfl, relL_cons.2 ⟨rfl, relL_cons.2 ⟨rfl, relL_cons.2 ⟨rfl, relL_cons.2 ⟨rfl, relL_cons.2 ⟨rfl, relL_cons.2 ⟨rfl, relL_nil⟩⟩⟩⟩⟩⟩⟩⟩, lit_lt w1⟩

end Sx
end Go.Proofs.Ytemcdjdglcceiaa

