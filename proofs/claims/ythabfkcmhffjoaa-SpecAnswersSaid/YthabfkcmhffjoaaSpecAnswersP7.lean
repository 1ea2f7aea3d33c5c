/-
  Commits that are passed in.
-/
import Derived.Test.YthabfkcmhffjoaaSpecAnswersP6
namespace Go.Proofs.Ythabfkcmhffjoaa
namespace Sx
open Go Go.ChangeShapes Go.WideShapes Go.ChangeAt Go.RowKit

theorem reads_com : Reads Try.prog 35 (V.enc Kd.com) (fun r => inR r.key) := by
  intro H enc W base spare held fuel cs x hx
  obtain ⟨hl, hf⟩ := trod_fields (tab_met 35 ty35 rfl).kind hx
  have c3 : Try.prog.cellsOf 3 = 1 := by kernel_rfl
  have c4 : Try.prog.cellsOf 4 = 1 := by kernel_rfl
  have c35 : Try.prog.cellsOf 35 = 4 := by kernel_rfl
  obtain ⟨_, _, g0⟩ := hf 0 _ _ rfl
  obtain ⟨_, _, g1⟩ := hf 1 _ _ rfl
  obtain ⟨_, _, g2⟩ := hf 2 _ _ rfl
  obtain ⟨_, _, g3⟩ := hf 3 _ _ rfl
  obtain ⟨z0, e0, _, w0⟩ := DataW.trod_int Try.underlying3 g0
  obtain ⟨z1, e1, _, w1⟩ := DataW.trod_int Try.underlying3 g1
  obtain ⟨z2, e2, _, w2⟩ := DataW.trod_int Try.underlying3 g2
  obtain ⟨z3, e3, _⟩ := DataW.trod_bool Try.underlying4 g3
  rw [c35] at hl
  rw [c3] at e0 e1 e2
  rw [c4] at e3
  match cs, hl with
  | [a0, a1, a2, a3], _ =>
    simp at e0 e1 e2 e3
    subst e0; subst e1; subst e2; subst e3
    exact ⟨⟨z0, z1, z2, z3⟩, relL_cons.2 ⟨rfl, relL_cons.2 ⟨rfl, relL_cons.2 ⟨rfl, relL_cons.2 ⟨rfl, relL_nil⟩⟩⟩⟩, w1⟩

end Sx
end Go.Proofs.Ythabfkcmhffjoaa

