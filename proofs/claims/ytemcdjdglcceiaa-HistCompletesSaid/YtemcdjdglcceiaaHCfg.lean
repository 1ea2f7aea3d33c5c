/-
  The kinds of elements of this seat.
-/
import Derived.Test.YtemcdjdglcceiaaHModel
import Derived.Test.YtemcdjdglcceiaaSxEnd
namespace Go.Proofs.Ytemcdjdglcceiaa
namespace Sx
open Go

inductive Kd where
  | int | bool | com | rcd | cal | opn
  deriving DecidableEq

@[reducible] def kEl : Kd → Type
  | .int => Int
  | .bool => Bool
  | .com => Com
  | .rcd => Rec
  | .cal => Cal
  | .opn => Opn
@[reducible] def kEnc : (k : Kd) → Enc (kEl k)
  | .int => intLay
  | .bool => boolLay
  | .com => Com.lay
  | .rcd => Rec.lay
  | .cal => Cal.lay
  | .opn => Opn.lay
abbrev V : Uni := ⟨Kd, inferInstance, kEl, kEnc, Empty, fun x => x.elim⟩
instance plainV : Plain V := ⟨fun k a f => by cases k <;> rfl⟩
instance bareV : Bare V := ⟨fun k a => by cases k <;> rfl⟩

def kinds : Kinds V := fun t => match t with
  | 3 => some .int
  | 4 => some .bool
  | 27 => some .com
  | 30 => some .rcd
  | 35 => some .cal
  | 84 => some .opn
  | _ => none
theorem kinds_met : kinds.met tab := by
  intro e k h
  unfold kinds at h
  split at h <;> cases h
  · exact ⟨ty3, rfl, rfl, rfl, by decide, fun r vs h => h⟩
  · exact ⟨ty4, rfl, rfl, rfl, by decide, fun r vs h => h⟩
  · exact ⟨ty27, rfl, rfl, rfl, by decide, fun r vs h => h⟩
  · exact ⟨ty30, rfl, rfl, rfl, by decide, fun r vs h => h⟩
  · exact ⟨ty35, rfl, rfl, rfl, by decide, fun r vs h => h⟩
  · exact ⟨ty84, rfl, rfl, rfl, by decide, fun r vs h => h⟩
theorem mixed_met : Try.prog.follows .mixedOrders = true := by kernel_rfl

noncomputable def fnsOf (l : List (Nat × Func)) : Nat → Option Func := fun g => l.lookup g
end Sx
end Go.Proofs.Ytemcdjdglcceiaa
