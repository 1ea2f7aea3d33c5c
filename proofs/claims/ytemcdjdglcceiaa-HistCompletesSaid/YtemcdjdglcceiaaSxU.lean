/-
  Objects made of plainer blocks: a universe with such objects besides.
-/
import Derived.Test.YtemcdjdglcceiaaSxT
namespace Go.Proofs.Ytemcdjdglcceiaa
namespace Sx
open Go

abbrev Uni.plus (U : Uni) (O : Type) (tm : O → Heap U → Nat → Prop) : Uni :=
  ⟨U.K, U.dk, U.El, U.enc, U.O ⊕ O, fun x b H => match x with
    | .inl x => U.D x b H
    | .inr x => ∃ hp n r, tm x hp n ∧ r 0 = some (b, 0) ∧ Fresh r n ∧ Heap.den Hp.nil r hp H⟩

section
variable {U : Uni} {O : Type} {tm : O → Heap U → Nat → Prop}

def Blk.up : Blk U → Blk (U.plus O tm)
  | .cells T cs => .cells T cs
  | .arr T k xs sp => .arr T k xs sp
  | .ro k xs => .ro k xs
  | .mp kk k m => .mp kk k m
  | .obj x => .obj (.inl x)
def Heap.up : Heap U → Heap (U.plus O tm)
  | [] => []
  | (i, B) :: h => (i, B.up) :: Heap.up h

theorem Blk.den_up {G : Hp} {r : Nm} {i : Nat} {H : Hp} {B : Blk U} : (B.up : Blk (U.plus O tm)).den G r i H ↔ B.den G r i H := by cases B <;> exact Iff.rfl
theorem Heap.den_up {G : Hp} {r : Nm} : ∀ {h : Heap U} {H : Hp}, (h.up : Heap (U.plus O tm)).den G r H ↔ h.den G r H
  | [], _ => Iff.rfl
  | (i, B) :: h, H => by
    show (∃ H1 H2, _ ∧ _ ∧ _ ∧ _) ↔ (∃ H1 H2, _ ∧ _ ∧ _ ∧ _)
    constructor
    · rintro ⟨H1, H2, a, b, c, d⟩; exact ⟨H1, H2, Blk.den_up.1 a, Heap.den_up.1 b, c, d⟩
    · rintro ⟨H1, H2, a, b, c, d⟩; exact ⟨H1, H2, Blk.den_up.2 a, Heap.den_up.2 b, c, d⟩

def tmUp (tm0 : Tm U) (tm : O → Heap U → Nat → Prop) : Tm (U.plus O tm) := fun x hp n => ∃ h : Heap U, hp = h.up ∧ (match x with | .inl x => tm0 x h n | .inr x => tm x h n)

theorem laid_plus {tm0 : Tm U} (h0 : Laid U tm0) : Laid (U.plus O tm) (tmUp tm0 tm) := by
  intro x b H
  cases x with
  | inl x =>
    refine (h0 x b H).trans ⟨fun ⟨hp, n, r, a, b, c, d⟩ => ⟨hp.up, n, r, ⟨hp, rfl, a⟩, b, c, Heap.den_up.2 d⟩, fun ⟨hp, n, r, ⟨h, e, a⟩, b, c, d⟩ => ?_⟩
    subst e; exact ⟨h, n, r, a, b, c, Heap.den_up.1 d⟩
  | inr x =>
    refine ⟨fun ⟨hp, n, r, a, b, c, d⟩ => ⟨hp.up, n, r, ⟨hp, rfl, a⟩, b, c, Heap.den_up.2 d⟩, fun ⟨hp, n, r, ⟨h, e, a⟩, b, c, d⟩ => ?_⟩
    subst e; exact ⟨h, n, r, a, b, c, Heap.den_up.1 d⟩

instance plainPlus [Plain U] : Plain (U.plus O tm) := ⟨fun k a f => Plain.enc (U := U) k a f⟩
instance barePlus [Bare U] : Bare (U.plus O tm) := ⟨fun k a => Bare.enc (U := U) k a⟩
end
end Sx
end Go.Proofs.Ytemcdjdglcceiaa
