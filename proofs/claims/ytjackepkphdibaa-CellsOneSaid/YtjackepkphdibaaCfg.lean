/-
  The kinds of elements of this seat.
-/
import Derived.Test.YtjackepkphdibaaSxRec
import Derived.Test.YtjackepkphdibaaSxU
namespace Go.Proofs.Ytjackepkphdibaa
namespace Sx
open Go

inductive Kd where
  | int | bool | holder | deed | five
  deriving DecidableEq

@[reducible] def kEl : Kd → Type
  | .int => Int
  | .bool => Bool
  | .holder => Holder
  | .deed => Deed
  | .five => Five
@[reducible] def kEnc : (k : Kd) → Enc (kEl k)
  | .int => intLay
  | .bool => boolLay
  | .holder => Holder.lay
  | .deed => Deed.lay
  | .five => Five.lay
abbrev V0 : Uni := ⟨Kd, inferInstance, kEl, kEnc, Empty, fun x => x.elim⟩
instance plainV0 : Plain V0 := ⟨fun k a f => by cases k <;> rfl⟩
instance bareV0 : Bare V0 := ⟨fun k a => by cases k <;> rfl⟩
theorem laid_V0 : Laid V0 (fun x => Empty.elim x) := fun x => Empty.elim x

/-- The words, locks and log of a Cells. -/
structure MC where
  words : List Int
  locks : List Holder
  log : List Deed
/-- The same of the document's. -/
structure MR where
  w : List Int
  h : List Bool
  t : List Int
  l : List Deed
inductive CO where
  | cells (s : MC)
  | ref (s : MR)

def cBlk (s : MC) (sw sl sg : Nat) : Heap V0 :=
  [(0, .cells 56 [.sl false 1 0 1 s.words.length (s.words.length + sw), .sl false 2 0 2 s.locks.length (s.locks.length + sl), .sl false 3 0 5 s.log.length (s.log.length + sg)]),
   (1, .arr 3 .int s.words sw), (2, .arr 62 .holder s.locks sl), (3, .arr 45 .deed s.log sg)]
def rBlk (s : MR) (sw sh st sl : Nat) : Heap V0 :=
  [(0, .cells 43 [.sl false 1 0 1 s.w.length (s.w.length + sw), .sl false 2 0 1 s.h.length (s.h.length + sh), .sl false 3 0 1 s.t.length (s.t.length + st), .sl false 4 0 5 s.l.length (s.l.length + sl)]),
   (1, .arr 3 .int s.w sw), (2, .arr 4 .bool s.h sh), (3, .arr 3 .int s.t st), (4, .arr 45 .deed s.l sl)]
def tmC : CO → Heap V0 → Nat → Prop
  | .cells s, hp, n => n = 4 ∧ ∃ sw sl sg, hp = cBlk s sw sl sg
  | .ref s, hp, n => n = 5 ∧ ∃ sw sh st sl, hp = rBlk s sw sh st sl
abbrev V : Uni := V0.plus CO tmC
instance plainV : Plain V := @plainPlus V0 CO tmC plainV0
instance bareV : Bare V := @barePlus V0 CO tmC bareV0
def tmV : Tm V := tmUp (U := V0) (fun x => Empty.elim x) tmC
theorem laid_V : Laid V tmV := laid_plus laid_V0
def cUp (s : MC) (sw sl sg : Nat) : Heap V := Heap.up (cBlk s sw sl sg)
def rUp (s : MR) (sw sh st sl : Nat) : Heap V := Heap.up (rBlk s sw sh st sl)

def kinds : Kinds V := fun t => match t with
  | 3 => some .int
  | 4 => some .bool
  | 62 => some .holder
  | 45 => some .deed
  | 38 => some .five
  | _ => none
theorem kinds_met : kinds.met tab := by
  intro e k h
  unfold kinds at h
  split at h <;> cases h
  · exact ⟨ty3, rfl, rfl, rfl, by decide, fun r vs h => h⟩
  · exact ⟨ty4, rfl, rfl, rfl, by decide, fun r vs h => h⟩
  · exact ⟨ty62, rfl, rfl, rfl, by decide, fun r vs h => h⟩
  · exact ⟨ty45, rfl, rfl, rfl, by decide, fun r vs h => h⟩
  · exact ⟨ty38, rfl, rfl, rfl, by decide, fun r vs h => h⟩
theorem mixed_met : Try.prog.follows .mixedOrders = true := by kernel_rfl
end Sx
end Go.Proofs.Ytjackepkphdibaa
