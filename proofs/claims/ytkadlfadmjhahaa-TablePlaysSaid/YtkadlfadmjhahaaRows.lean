/-
  No cell of these rows narrows 'for every input' (looked for: loops, veiled, ifaces, maps, wideKeys, modest, calm, conditions, laid).
  DERIVED. THE GIVEN ROWS OF THIS SEAT. 6 by the template 'for every input the law returns true; each argument reads behind the call as it read before'; 0 by the template 'total and deterministic' (their statements: YtkadlfadmjhahaaTotals.lean).
  GIVEN WITH THE SEED: the statements are not yours to turn. If you find one false, say at which input.
  Laid BY PROGRAM, IN A SANDBOX (cutbox-rows.mjs): the forced cells as the released guide's own fill.sh prints them over the translation 53d0600274c23d65… (all of the seat's roots in one cut). By AI agents, Wed Nov 11 2026. No macro, syntax, notation, axiom, sorry.
-/
import Derived.Test.YtkadlfadmjhahaaChecked
import GoSem.Claim
import GoSem.ClaimJoined
import GoSem.ClaimMapViews
import Derived.JoinedTies
import Derived.KernelRfl
namespace Go.Proofs.Ytkadlfadmjhahaa
/- THE CELL 'sum', in the pinned program and in every row, IS THE sha256 OF THE DUMP (.gsa) THAT YtkadlfadmjhahaaProg.lean LOADS. Nothing in Lean hashes anything: it is a label: what it is worth is what the hold of that sum in a sandbox is worth. -/
noncomputable def Try.pinned : Pinned := { name := "ytkadlfadmjhahaa", sum := "53d0600274c23d65c9899e45693f4c823e3851fff02470ffc0b5c0d5d2af8b0e", checked := Try.checked }
namespace Rows
def none {H : Type} : Left H := { results := [], args := [] }

/-- 'pantrylaw15.TableHolds': WHATEVER THE INPUT: true; the input reads as it did. -/
def tableHoldsSpec : ChangeSpec := { name := "tableHolds", fn := fun _ => fun
  | [d1, d2] => { results := [.lit (.bool true)], args := [d1, d2] }
  | _ => none }
def tableHoldsRow : OpenClaim := { program := "ytkadlfadmjhahaa", sum := "53d0600274c23d65c9899e45693f4c823e3851fff02470ffc0b5c0d5d2af8b0e", func := "pantry/pantrylaw15.TableHolds", spec := "tableHolds", unfollowed := true, recurses := true, apart := false }
def TableHoldsSaid : Prop := tableHoldsRow.holds Try.pinned (OpenSpec.ofChange tableHoldsSpec)

/-- ITS FALSE NEIGHBOUR: 'it returns false'. Refute it at one input. -/
def tableHoldsWrong : ChangeSpec := { name := "tableHolds", fn := fun _ => fun
  | [d1, d2] => { results := [.lit (.bool false)], args := [d1, d2] }
  | _ => none }
def TableHoldsWrongFalsely : Prop := tableHoldsRow.holds Try.pinned (OpenSpec.ofChange tableHoldsWrong)

/-- 'pantrylaw15.TableGrows': WHATEVER THE INPUT: true; the input reads as it did. -/
def tableGrowsSpec : ChangeSpec := { name := "tableGrows", fn := fun _ => fun
  | [d1, d2] => { results := [.lit (.bool true)], args := [d1, d2] }
  | _ => none }
def tableGrowsRow : OpenClaim := { program := "ytkadlfadmjhahaa", sum := "53d0600274c23d65c9899e45693f4c823e3851fff02470ffc0b5c0d5d2af8b0e", func := "pantry/pantrylaw15.TableGrows", spec := "tableGrows", unfollowed := true, recurses := true, apart := false }
def TableGrowsSaid : Prop := tableGrowsRow.holds Try.pinned (OpenSpec.ofChange tableGrowsSpec)

/-- ITS FALSE NEIGHBOUR: 'it returns false'. Refute it at one input. -/
def tableGrowsWrong : ChangeSpec := { name := "tableGrows", fn := fun _ => fun
  | [d1, d2] => { results := [.lit (.bool false)], args := [d1, d2] }
  | _ => none }
def TableGrowsWrongFalsely : Prop := tableGrowsRow.holds Try.pinned (OpenSpec.ofChange tableGrowsWrong)

/-- 'pantrylaw15.TableSeeds': WHATEVER THE INPUT: true; the input reads as it did. -/
def tableSeedsSpec : ChangeSpec := { name := "tableSeeds", fn := fun _ => fun
  | [d1, d2, d3] => { results := [.lit (.bool true)], args := [d1, d2, d3] }
  | _ => none }
def tableSeedsRow : OpenClaim := { program := "ytkadlfadmjhahaa", sum := "53d0600274c23d65c9899e45693f4c823e3851fff02470ffc0b5c0d5d2af8b0e", func := "pantry/pantrylaw15.TableSeeds", spec := "tableSeeds", unfollowed := true, recurses := true, apart := false }
def TableSeedsSaid : Prop := tableSeedsRow.holds Try.pinned (OpenSpec.ofChange tableSeedsSpec)

/-- ITS FALSE NEIGHBOUR: 'it returns false'. Refute it at one input. -/
def tableSeedsWrong : ChangeSpec := { name := "tableSeeds", fn := fun _ => fun
  | [d1, d2, d3] => { results := [.lit (.bool false)], args := [d1, d2, d3] }
  | _ => none }
def TableSeedsWrongFalsely : Prop := tableSeedsRow.holds Try.pinned (OpenSpec.ofChange tableSeedsWrong)

/-- 'pantrylaw15.TablePlays': WHATEVER THE INPUT: true; the input reads as it did. -/
def tablePlaysSpec : ChangeSpec := { name := "tablePlays", fn := fun _ => fun
  | [d1, d2] => { results := [.lit (.bool true)], args := [d1, d2] }
  | _ => none }
def tablePlaysRow : OpenClaim := { program := "ytkadlfadmjhahaa", sum := "53d0600274c23d65c9899e45693f4c823e3851fff02470ffc0b5c0d5d2af8b0e", func := "pantry/pantrylaw15.TablePlays", spec := "tablePlays", unfollowed := true, recurses := true, apart := false }
def TablePlaysSaid : Prop := tablePlaysRow.holds Try.pinned (OpenSpec.ofChange tablePlaysSpec)

/-- ITS FALSE NEIGHBOUR: 'it returns false'. Refute it at one input. -/
def tablePlaysWrong : ChangeSpec := { name := "tablePlays", fn := fun _ => fun
  | [d1, d2] => { results := [.lit (.bool false)], args := [d1, d2] }
  | _ => none }
def TablePlaysWrongFalsely : Prop := tablePlaysRow.holds Try.pinned (OpenSpec.ofChange tablePlaysWrong)

/-- 'pantrylaw15.TableChains': WHATEVER THE INPUT: true; the input reads as it did. -/
def tableChainsSpec : ChangeSpec := { name := "tableChains", fn := fun _ => fun
  | [d1, d2] => { results := [.lit (.bool true)], args := [d1, d2] }
  | _ => none }
def tableChainsRow : OpenClaim := { program := "ytkadlfadmjhahaa", sum := "53d0600274c23d65c9899e45693f4c823e3851fff02470ffc0b5c0d5d2af8b0e", func := "pantry/pantrylaw15.TableChains", spec := "tableChains", unfollowed := true, recurses := true, apart := false }
def TableChainsSaid : Prop := tableChainsRow.holds Try.pinned (OpenSpec.ofChange tableChainsSpec)

/-- ITS FALSE NEIGHBOUR: 'it returns false'. Refute it at one input. -/
def tableChainsWrong : ChangeSpec := { name := "tableChains", fn := fun _ => fun
  | [d1, d2] => { results := [.lit (.bool false)], args := [d1, d2] }
  | _ => none }
def TableChainsWrongFalsely : Prop := tableChainsRow.holds Try.pinned (OpenSpec.ofChange tableChainsWrong)

/-- 'pantrylaw15.TableKeeps': WHATEVER THE INPUT: true; the input reads as it did. -/
def tableKeepsSpec : ChangeSpec := { name := "tableKeeps", fn := fun _ => fun
  | [d1, d2, d3] => { results := [.lit (.bool true)], args := [d1, d2, d3] }
  | _ => none }
def tableKeepsRow : OpenClaim := { program := "ytkadlfadmjhahaa", sum := "53d0600274c23d65c9899e45693f4c823e3851fff02470ffc0b5c0d5d2af8b0e", func := "pantry/pantrylaw15.TableKeeps", spec := "tableKeeps", unfollowed := true, recurses := true, apart := false }
def TableKeepsSaid : Prop := tableKeepsRow.holds Try.pinned (OpenSpec.ofChange tableKeepsSpec)

/-- ITS FALSE NEIGHBOUR: 'it returns false'. Refute it at one input. -/
def tableKeepsWrong : ChangeSpec := { name := "tableKeeps", fn := fun _ => fun
  | [d1, d2, d3] => { results := [.lit (.bool false)], args := [d1, d2, d3] }
  | _ => none }
def TableKeepsWrongFalsely : Prop := tableKeepsRow.holds Try.pinned (OpenSpec.ofChange tableKeepsWrong)

/- THE SECOND FORM. 'bulk': how many values and letters a reading holds, each counted each time it is reached (what is shared counts as often as it is met; a slice's spare places count too). A statement '..UptoSaid' is the law's where the arguments, and the package variables that the reading takes, are together of bulk at most 1048576: NARROWER than '..Said'. Prove '..Said' where nothing that the law and all that it calls make is longer than what came in: it says more and counts as full. Else prove '..UptoSaid'. A law counts once. -/
mutual
def uptoBulk {H : Type} : DataW H → Nat
  | .lit (.string bytes) => bytes.length + 1
  | .lit _ => 1
  | .nil => 1
  | .ptr d => uptoBulk d + 1
  | .slice elems spare => uptoBulkAll elems + uptoBulkAll spare + 1
  | .agg parts => uptoBulkAll parts + 1
  | .iface _ d => uptoBulk d + 1
  | .map entries => uptoBulkEntries entries + 1
  | .held _ => 1
def uptoBulkAll {H : Type} : List (DataW H) → Nat
  | [] => 0
  | d :: r => uptoBulk d + uptoBulkAll r
def uptoBulkEntries {H : Type} : List (Lit × DataW H) → Nat
  | [] => 0
  | x :: r => uptoBulkEntry x + uptoBulkEntries r
def uptoBulkEntry {H : Type} : Lit × DataW H → Nat
  | (.string bytes, d) => bytes.length + uptoBulk d + 1
  | (_, d) => uptoBulk d + 1
 end
def uptoSmall : (H : Type) → List (DataW H) → Bool := fun _ ds => decide (uptoBulkAll ds ≤ 1048576)
def OpenSpec.upto (s : _root_.Go.ChangeSpec) : _root_.Go.OpenSpec := { _root_.Go.OpenSpec.ofChange s with cond := some uptoSmall }

/-- 'pantrylaw15.TableHolds', WHERE WHAT IT READS IS OF BULK AT MOST 1048576: true; the input reads as it did. -/
def tableHoldsUptoRow : OpenClaim := { program := "ytkadlfadmjhahaa", sum := "53d0600274c23d65c9899e45693f4c823e3851fff02470ffc0b5c0d5d2af8b0e", func := "pantry/pantrylaw15.TableHolds", spec := "tableHolds", unfollowed := true, recurses := true, apart := false, narrowed := true }
def TableHoldsUptoSaid : Prop := tableHoldsUptoRow.holds Try.pinned (OpenSpec.upto tableHoldsSpec)

/-- 'pantrylaw15.TableGrows', WHERE WHAT IT READS IS OF BULK AT MOST 1048576: true; the input reads as it did. -/
def tableGrowsUptoRow : OpenClaim := { program := "ytkadlfadmjhahaa", sum := "53d0600274c23d65c9899e45693f4c823e3851fff02470ffc0b5c0d5d2af8b0e", func := "pantry/pantrylaw15.TableGrows", spec := "tableGrows", unfollowed := true, recurses := true, apart := false, narrowed := true }
def TableGrowsUptoSaid : Prop := tableGrowsUptoRow.holds Try.pinned (OpenSpec.upto tableGrowsSpec)

/-- 'pantrylaw15.TableSeeds', WHERE WHAT IT READS IS OF BULK AT MOST 1048576: true; the input reads as it did. -/
def tableSeedsUptoRow : OpenClaim := { program := "ytkadlfadmjhahaa", sum := "53d0600274c23d65c9899e45693f4c823e3851fff02470ffc0b5c0d5d2af8b0e", func := "pantry/pantrylaw15.TableSeeds", spec := "tableSeeds", unfollowed := true, recurses := true, apart := false, narrowed := true }
def TableSeedsUptoSaid : Prop := tableSeedsUptoRow.holds Try.pinned (OpenSpec.upto tableSeedsSpec)

/-- 'pantrylaw15.TablePlays', WHERE WHAT IT READS IS OF BULK AT MOST 1048576: true; the input reads as it did. -/
def tablePlaysUptoRow : OpenClaim := { program := "ytkadlfadmjhahaa", sum := "53d0600274c23d65c9899e45693f4c823e3851fff02470ffc0b5c0d5d2af8b0e", func := "pantry/pantrylaw15.TablePlays", spec := "tablePlays", unfollowed := true, recurses := true, apart := false, narrowed := true }
def TablePlaysUptoSaid : Prop := tablePlaysUptoRow.holds Try.pinned (OpenSpec.upto tablePlaysSpec)

/-- 'pantrylaw15.TableChains', WHERE WHAT IT READS IS OF BULK AT MOST 1048576: true; the input reads as it did. -/
def tableChainsUptoRow : OpenClaim := { program := "ytkadlfadmjhahaa", sum := "53d0600274c23d65c9899e45693f4c823e3851fff02470ffc0b5c0d5d2af8b0e", func := "pantry/pantrylaw15.TableChains", spec := "tableChains", unfollowed := true, recurses := true, apart := false, narrowed := true }
def TableChainsUptoSaid : Prop := tableChainsUptoRow.holds Try.pinned (OpenSpec.upto tableChainsSpec)

/-- 'pantrylaw15.TableKeeps', WHERE WHAT IT READS IS OF BULK AT MOST 1048576: true; the input reads as it did. -/
def tableKeepsUptoRow : OpenClaim := { program := "ytkadlfadmjhahaa", sum := "53d0600274c23d65c9899e45693f4c823e3851fff02470ffc0b5c0d5d2af8b0e", func := "pantry/pantrylaw15.TableKeeps", spec := "tableKeeps", unfollowed := true, recurses := true, apart := false, narrowed := true }
def TableKeepsUptoSaid : Prop := tableKeepsUptoRow.holds Try.pinned (OpenSpec.upto tableKeepsSpec)

end Rows
end Go.Proofs.Ytkadlfadmjhahaa
