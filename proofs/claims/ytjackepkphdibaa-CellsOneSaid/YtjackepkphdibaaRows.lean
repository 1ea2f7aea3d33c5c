/-
  No cell of these rows narrows 'for every input' (looked for: loops, veiled, ifaces, maps, wideKeys, modest, calm, conditions, laid).
  DERIVED. THE GIVEN ROWS OF THIS SEAT. 5 by the template 'for every input the law returns true; each argument reads behind the call as it read before'; 0 by the template 'total and deterministic' (their statements: YtjackepkphdibaaTotals.lean).
  GIVEN WITH THE SEED: the statements are not yours to turn. If you find one false, say at which input.
  Laid BY PROGRAM, IN A SANDBOX (cutbox-rows.mjs): the forced cells as the released guide's own fill.sh prints them over the translation 7e497375f3292fe6… (all of the seat's roots in one cut). By AI agents, Wed Nov 11 2026. No macro, syntax, notation, axiom, sorry.
-/
import Derived.Test.YtjackepkphdibaaChecked
import GoSem.Claim
import GoSem.ClaimJoined
import GoSem.ClaimMapViews
import Derived.JoinedTies
import Derived.KernelRfl
namespace Go.Proofs.Ytjackepkphdibaa
/- THE CELL 'sum', in the pinned program and in every row, IS THE sha256 OF THE DUMP (.gsa) THAT YtjackepkphdibaaProg.lean LOADS. Nothing in Lean hashes anything: it is a label: what it is worth is what the hold of that sum in a sandbox is worth. -/
noncomputable def Try.pinned : Pinned := { name := "ytjackepkphdibaa", sum := "7e497375f3292fe6e7b8d3670aadda1cb28da000b3585d44350b6c3cdfab9bdc", checked := Try.checked }
namespace Rows
def none {H : Type} : Left H := { results := [], args := [] }

/-- 'pantrylaw19.CellsSwap': WHATEVER THE INPUT: true; the input reads as it did. -/
def cellsSwapSpec : ChangeSpec := { name := "cellsSwap", fn := fun _ => fun
  | [d1, d2] => { results := [.lit (.bool true)], args := [d1, d2] }
  | _ => none }
def cellsSwapRow : OpenClaim := { program := "ytjackepkphdibaa", sum := "7e497375f3292fe6e7b8d3670aadda1cb28da000b3585d44350b6c3cdfab9bdc", func := "pantry/pantrylaw19.CellsSwap", spec := "cellsSwap", unfollowed := true, recurses := true, apart := false }
def CellsSwapSaid : Prop := cellsSwapRow.holds Try.pinned (OpenSpec.ofChange cellsSwapSpec)

/-- ITS FALSE NEIGHBOUR: 'it returns false'. Refute it at one input. -/
def cellsSwapWrong : ChangeSpec := { name := "cellsSwap", fn := fun _ => fun
  | [d1, d2] => { results := [.lit (.bool false)], args := [d1, d2] }
  | _ => none }
def CellsSwapWrongFalsely : Prop := cellsSwapRow.holds Try.pinned (OpenSpec.ofChange cellsSwapWrong)

/-- 'pantrylaw19.CellsPlay': WHATEVER THE INPUT: true; the input reads as it did. -/
def cellsPlaySpec : ChangeSpec := { name := "cellsPlay", fn := fun _ => fun
  | [d1, d2, d3] => { results := [.lit (.bool true)], args := [d1, d2, d3] }
  | _ => none }
def cellsPlayRow : OpenClaim := { program := "ytjackepkphdibaa", sum := "7e497375f3292fe6e7b8d3670aadda1cb28da000b3585d44350b6c3cdfab9bdc", func := "pantry/pantrylaw19.CellsPlay", spec := "cellsPlay", unfollowed := true, recurses := true, apart := false }
def CellsPlaySaid : Prop := cellsPlayRow.holds Try.pinned (OpenSpec.ofChange cellsPlaySpec)

/-- ITS FALSE NEIGHBOUR: 'it returns false'. Refute it at one input. -/
def cellsPlayWrong : ChangeSpec := { name := "cellsPlay", fn := fun _ => fun
  | [d1, d2, d3] => { results := [.lit (.bool false)], args := [d1, d2, d3] }
  | _ => none }
def CellsPlayWrongFalsely : Prop := cellsPlayRow.holds Try.pinned (OpenSpec.ofChange cellsPlayWrong)

/-- 'pantrylaw19.CellsOne': WHATEVER THE INPUT: true; the input reads as it did. -/
def cellsOneSpec : ChangeSpec := { name := "cellsOne", fn := fun _ => fun
  | [d] => { results := [.lit (.bool true)], args := [d] }
  | _ => none }
def cellsOneRow : OpenClaim := { program := "ytjackepkphdibaa", sum := "7e497375f3292fe6e7b8d3670aadda1cb28da000b3585d44350b6c3cdfab9bdc", func := "pantry/pantrylaw19.CellsOne", spec := "cellsOne", unfollowed := true, recurses := true, apart := false }
def CellsOneSaid : Prop := cellsOneRow.holds Try.pinned (OpenSpec.ofChange cellsOneSpec)

/-- ITS FALSE NEIGHBOUR: 'it returns false'. Refute it at one input. -/
def cellsOneWrong : ChangeSpec := { name := "cellsOne", fn := fun _ => fun
  | [d] => { results := [.lit (.bool false)], args := [d] }
  | _ => none }
def CellsOneWrongFalsely : Prop := cellsOneRow.holds Try.pinned (OpenSpec.ofChange cellsOneWrong)

/-- 'pantrylaw19.CellsAgain': WHATEVER THE INPUT: true; the input reads as it did. -/
def cellsAgainSpec : ChangeSpec := { name := "cellsAgain", fn := fun _ => fun
  | [d] => { results := [.lit (.bool true)], args := [d] }
  | _ => none }
def cellsAgainRow : OpenClaim := { program := "ytjackepkphdibaa", sum := "7e497375f3292fe6e7b8d3670aadda1cb28da000b3585d44350b6c3cdfab9bdc", func := "pantry/pantrylaw19.CellsAgain", spec := "cellsAgain", unfollowed := true, recurses := true, apart := false }
def CellsAgainSaid : Prop := cellsAgainRow.holds Try.pinned (OpenSpec.ofChange cellsAgainSpec)

/-- ITS FALSE NEIGHBOUR: 'it returns false'. Refute it at one input. -/
def cellsAgainWrong : ChangeSpec := { name := "cellsAgain", fn := fun _ => fun
  | [d] => { results := [.lit (.bool false)], args := [d] }
  | _ => none }
def CellsAgainWrongFalsely : Prop := cellsAgainRow.holds Try.pinned (OpenSpec.ofChange cellsAgainWrong)

/-- 'pantrylaw19.CellsEnds': WHATEVER THE INPUT: true; the input reads as it did. -/
def cellsEndsSpec : ChangeSpec := { name := "cellsEnds", fn := fun _ => fun
  | [d1, d2, d3, d4] => { results := [.lit (.bool true)], args := [d1, d2, d3, d4] }
  | _ => none }
def cellsEndsRow : OpenClaim := { program := "ytjackepkphdibaa", sum := "7e497375f3292fe6e7b8d3670aadda1cb28da000b3585d44350b6c3cdfab9bdc", func := "pantry/pantrylaw19.CellsEnds", spec := "cellsEnds", unfollowed := true, recurses := true, apart := false }
def CellsEndsSaid : Prop := cellsEndsRow.holds Try.pinned (OpenSpec.ofChange cellsEndsSpec)

/-- ITS FALSE NEIGHBOUR: 'it returns false'. Refute it at one input. -/
def cellsEndsWrong : ChangeSpec := { name := "cellsEnds", fn := fun _ => fun
  | [d1, d2, d3, d4] => { results := [.lit (.bool false)], args := [d1, d2, d3, d4] }
  | _ => none }
def CellsEndsWrongFalsely : Prop := cellsEndsRow.holds Try.pinned (OpenSpec.ofChange cellsEndsWrong)

/- THE SECOND FORM. 'bulk': how many values and letters a reading holds, each counted each time it is reached (what is shared counts as often as it is met; a slice's spare places count too). A statement '..UptoSaid' is the law's where the arguments, and the package variables that the reading takes, are together of bulk at most 1048576: NARROWER than '..Said'. Prove '..Said' where nothing that the law and all that it calls make is longer than what came in: it says more and counts as full. Else prove '..UptoSaid'. A law counts once. -/
mutual
def uptoBulk {H : Type} : DataW H → Nat
  | .lit (.string bytes) => bytes.length + 1
  | .lit _ => 1
  | .nil => 1
  | .ptr d => uptoBulk d + 1
  | .slice elems spare => uptoBulkAll elems + uptoBulkAll spare + 1
  | .agg parts => uptoBulkAll parts + 1
  | .iface _ d => uptoBulk d + 1
  | .map entries => uptoBulkEntries entries + 1
  | .held _ => 1
def uptoBulkAll {H : Type} : List (DataW H) → Nat
  | [] => 0
  | d :: r => uptoBulk d + uptoBulkAll r
def uptoBulkEntries {H : Type} : List (Lit × DataW H) → Nat
  | [] => 0
  | x :: r => uptoBulkEntry x + uptoBulkEntries r
def uptoBulkEntry {H : Type} : Lit × DataW H → Nat
  | (.string bytes, d) => bytes.length + uptoBulk d + 1
  | (_, d) => uptoBulk d + 1
 end
def uptoSmall : (H : Type) → List (DataW H) → Bool := fun _ ds => decide (uptoBulkAll ds ≤ 1048576)
def OpenSpec.upto (s : _root_.Go.ChangeSpec) : _root_.Go.OpenSpec := { _root_.Go.OpenSpec.ofChange s with cond := some uptoSmall }

/-- 'pantrylaw19.CellsSwap', WHERE WHAT IT READS IS OF BULK AT MOST 1048576: true; the input reads as it did. -/
def cellsSwapUptoRow : OpenClaim := { program := "ytjackepkphdibaa", sum := "7e497375f3292fe6e7b8d3670aadda1cb28da000b3585d44350b6c3cdfab9bdc", func := "pantry/pantrylaw19.CellsSwap", spec := "cellsSwap", unfollowed := true, recurses := true, apart := false, narrowed := true }
def CellsSwapUptoSaid : Prop := cellsSwapUptoRow.holds Try.pinned (OpenSpec.upto cellsSwapSpec)

/-- 'pantrylaw19.CellsPlay', WHERE WHAT IT READS IS OF BULK AT MOST 1048576: true; the input reads as it did. -/
def cellsPlayUptoRow : OpenClaim := { program := "ytjackepkphdibaa", sum := "7e497375f3292fe6e7b8d3670aadda1cb28da000b3585d44350b6c3cdfab9bdc", func := "pantry/pantrylaw19.CellsPlay", spec := "cellsPlay", unfollowed := true, recurses := true, apart := false, narrowed := true }
def CellsPlayUptoSaid : Prop := cellsPlayUptoRow.holds Try.pinned (OpenSpec.upto cellsPlaySpec)

/-- 'pantrylaw19.CellsOne', WHERE WHAT IT READS IS OF BULK AT MOST 1048576: true; the input reads as it did. -/
def cellsOneUptoRow : OpenClaim := { program := "ytjackepkphdibaa", sum := "7e497375f3292fe6e7b8d3670aadda1cb28da000b3585d44350b6c3cdfab9bdc", func := "pantry/pantrylaw19.CellsOne", spec := "cellsOne", unfollowed := true, recurses := true, apart := false, narrowed := true }
def CellsOneUptoSaid : Prop := cellsOneUptoRow.holds Try.pinned (OpenSpec.upto cellsOneSpec)

/-- 'pantrylaw19.CellsAgain', WHERE WHAT IT READS IS OF BULK AT MOST 1048576: true; the input reads as it did. -/
def cellsAgainUptoRow : OpenClaim := { program := "ytjackepkphdibaa", sum := "7e497375f3292fe6e7b8d3670aadda1cb28da000b3585d44350b6c3cdfab9bdc", func := "pantry/pantrylaw19.CellsAgain", spec := "cellsAgain", unfollowed := true, recurses := true, apart := false, narrowed := true }
def CellsAgainUptoSaid : Prop := cellsAgainUptoRow.holds Try.pinned (OpenSpec.upto cellsAgainSpec)

/-- 'pantrylaw19.CellsEnds', WHERE WHAT IT READS IS OF BULK AT MOST 1048576: true; the input reads as it did. -/
def cellsEndsUptoRow : OpenClaim := { program := "ytjackepkphdibaa", sum := "7e497375f3292fe6e7b8d3670aadda1cb28da000b3585d44350b6c3cdfab9bdc", func := "pantry/pantrylaw19.CellsEnds", spec := "cellsEnds", unfollowed := true, recurses := true, apart := false, narrowed := true }
def CellsEndsUptoSaid : Prop := cellsEndsUptoRow.holds Try.pinned (OpenSpec.upto cellsEndsSpec)

end Rows
end Go.Proofs.Ytjackepkphdibaa
