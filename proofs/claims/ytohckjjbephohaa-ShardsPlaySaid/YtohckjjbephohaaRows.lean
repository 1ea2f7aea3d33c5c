/-
  No cell of these rows narrows 'for every input' (looked for: loops, veiled, ifaces, maps, wideKeys, modest, calm, conditions, laid).
  DERIVED. THE GIVEN ROWS OF THIS SEAT. 6 by the template 'for every input the law returns true; each argument reads behind the call as it read before'; 0 by the template 'total and deterministic' (their statements: YtohckjjbephohaaTotals.lean).
  GIVEN WITH THE SEED: the statements are not yours to turn. If you find one false, say at which input.
  Laid BY PROGRAM, IN A SANDBOX (cutbox-rows.mjs): the forced cells as the released guide's own fill.sh prints them over the translation e48e940ea0e597b3… (all of the seat's roots in one cut). By AI agents, Wed Nov 11 2026. No macro, syntax, notation, axiom, sorry.
-/
import Derived.Test.YtohckjjbephohaaChecked
import GoSem.Claim
import GoSem.ClaimJoined
import GoSem.ClaimMapViews
import Derived.JoinedTies
import Derived.KernelRfl
namespace Go.Proofs.Ytohckjjbephohaa
/- THE CELL 'sum', in the pinned program and in every row, IS THE sha256 OF THE DUMP (.gsa) THAT YtohckjjbephohaaProg.lean LOADS. Nothing in Lean hashes anything: it is a label: what it is worth is what the hold of that sum in a sandbox is worth. -/
noncomputable def Try.pinned : Pinned := { name := "ytohckjjbephohaa", sum := "e48e940ea0e597b3156c1b43b609ff76ffb9d8e24fd8a3a9d0e1dbc0117ee7e1", checked := Try.checked }
namespace Rows
def none {H : Type} : Left H := { results := [], args := [] }

/-- 'pantrylaw16.ShardsPlaces': WHATEVER THE INPUT: true; the input reads as it did. -/
def shardsPlacesSpec : ChangeSpec := { name := "shardsPlaces", fn := fun _ => fun
  | [d1, d2, d3] => { results := [.lit (.bool true)], args := [d1, d2, d3] }
  | _ => none }
def shardsPlacesRow : OpenClaim := { program := "ytohckjjbephohaa", sum := "e48e940ea0e597b3156c1b43b609ff76ffb9d8e24fd8a3a9d0e1dbc0117ee7e1", func := "pantry/pantrylaw16.ShardsPlaces", spec := "shardsPlaces", apart := false }
def ShardsPlacesSaid : Prop := shardsPlacesRow.holds Try.pinned (OpenSpec.ofChange shardsPlacesSpec)

/-- ITS FALSE NEIGHBOUR: 'it returns false'. Refute it at one input. -/
def shardsPlacesWrong : ChangeSpec := { name := "shardsPlaces", fn := fun _ => fun
  | [d1, d2, d3] => { results := [.lit (.bool false)], args := [d1, d2, d3] }
  | _ => none }
def ShardsPlacesWrongFalsely : Prop := shardsPlacesRow.holds Try.pinned (OpenSpec.ofChange shardsPlacesWrong)

/-- 'pantrylaw16.ShardsNodes': WHATEVER THE INPUT: true; the input reads as it did. -/
def shardsNodesSpec : ChangeSpec := { name := "shardsNodes", fn := fun _ => fun
  | [d1, d2, d3] => { results := [.lit (.bool true)], args := [d1, d2, d3] }
  | _ => none }
def shardsNodesRow : OpenClaim := { program := "ytohckjjbephohaa", sum := "e48e940ea0e597b3156c1b43b609ff76ffb9d8e24fd8a3a9d0e1dbc0117ee7e1", func := "pantry/pantrylaw16.ShardsNodes", spec := "shardsNodes", apart := false }
def ShardsNodesSaid : Prop := shardsNodesRow.holds Try.pinned (OpenSpec.ofChange shardsNodesSpec)

/-- ITS FALSE NEIGHBOUR: 'it returns false'. Refute it at one input. -/
def shardsNodesWrong : ChangeSpec := { name := "shardsNodes", fn := fun _ => fun
  | [d1, d2, d3] => { results := [.lit (.bool false)], args := [d1, d2, d3] }
  | _ => none }
def ShardsNodesWrongFalsely : Prop := shardsNodesRow.holds Try.pinned (OpenSpec.ofChange shardsNodesWrong)

/-- 'pantrylaw16.ShardsLive': WHATEVER THE INPUT: true; the input reads as it did. -/
def shardsLiveSpec : ChangeSpec := { name := "shardsLive", fn := fun _ => fun
  | [d1, d2, d3] => { results := [.lit (.bool true)], args := [d1, d2, d3] }
  | _ => none }
def shardsLiveRow : OpenClaim := { program := "ytohckjjbephohaa", sum := "e48e940ea0e597b3156c1b43b609ff76ffb9d8e24fd8a3a9d0e1dbc0117ee7e1", func := "pantry/pantrylaw16.ShardsLive", spec := "shardsLive", unfollowed := true, recurses := true, apart := false }
def ShardsLiveSaid : Prop := shardsLiveRow.holds Try.pinned (OpenSpec.ofChange shardsLiveSpec)

/-- ITS FALSE NEIGHBOUR: 'it returns false'. Refute it at one input. -/
def shardsLiveWrong : ChangeSpec := { name := "shardsLive", fn := fun _ => fun
  | [d1, d2, d3] => { results := [.lit (.bool false)], args := [d1, d2, d3] }
  | _ => none }
def ShardsLiveWrongFalsely : Prop := shardsLiveRow.holds Try.pinned (OpenSpec.ofChange shardsLiveWrong)

/-- 'pantrylaw16.ShardsAlike': WHATEVER THE INPUT: true; the input reads as it did. -/
def shardsAlikeSpec : ChangeSpec := { name := "shardsAlike", fn := fun _ => fun
  | [d1, d2, d3] => { results := [.lit (.bool true)], args := [d1, d2, d3] }
  | _ => none }
def shardsAlikeRow : OpenClaim := { program := "ytohckjjbephohaa", sum := "e48e940ea0e597b3156c1b43b609ff76ffb9d8e24fd8a3a9d0e1dbc0117ee7e1", func := "pantry/pantrylaw16.ShardsAlike", spec := "shardsAlike", unfollowed := true, recurses := true, apart := false }
def ShardsAlikeSaid : Prop := shardsAlikeRow.holds Try.pinned (OpenSpec.ofChange shardsAlikeSpec)

/-- ITS FALSE NEIGHBOUR: 'it returns false'. Refute it at one input. -/
def shardsAlikeWrong : ChangeSpec := { name := "shardsAlike", fn := fun _ => fun
  | [d1, d2, d3] => { results := [.lit (.bool false)], args := [d1, d2, d3] }
  | _ => none }
def ShardsAlikeWrongFalsely : Prop := shardsAlikeRow.holds Try.pinned (OpenSpec.ofChange shardsAlikeWrong)

/-- 'pantrylaw16.ShardsPlay': WHATEVER THE INPUT: true; the input reads as it did. -/
def shardsPlaySpec : ChangeSpec := { name := "shardsPlay", fn := fun _ => fun
  | [d1, d2, d3] => { results := [.lit (.bool true)], args := [d1, d2, d3] }
  | _ => none }
def shardsPlayRow : OpenClaim := { program := "ytohckjjbephohaa", sum := "e48e940ea0e597b3156c1b43b609ff76ffb9d8e24fd8a3a9d0e1dbc0117ee7e1", func := "pantry/pantrylaw16.ShardsPlay", spec := "shardsPlay", unfollowed := true, recurses := true, apart := false }
def ShardsPlaySaid : Prop := shardsPlayRow.holds Try.pinned (OpenSpec.ofChange shardsPlaySpec)

/-- ITS FALSE NEIGHBOUR: 'it returns false'. Refute it at one input. -/
def shardsPlayWrong : ChangeSpec := { name := "shardsPlay", fn := fun _ => fun
  | [d1, d2, d3] => { results := [.lit (.bool false)], args := [d1, d2, d3] }
  | _ => none }
def ShardsPlayWrongFalsely : Prop := shardsPlayRow.holds Try.pinned (OpenSpec.ofChange shardsPlayWrong)

/-- 'pantrylaw16.ShardsEvicts': WHATEVER THE INPUT: true; the input reads as it did. -/
def shardsEvictsSpec : ChangeSpec := { name := "shardsEvicts", fn := fun _ => fun
  | [d1, d2, d3, d4] => { results := [.lit (.bool true)], args := [d1, d2, d3, d4] }
  | _ => none }
def shardsEvictsRow : OpenClaim := { program := "ytohckjjbephohaa", sum := "e48e940ea0e597b3156c1b43b609ff76ffb9d8e24fd8a3a9d0e1dbc0117ee7e1", func := "pantry/pantrylaw16.ShardsEvicts", spec := "shardsEvicts", unfollowed := true, recurses := true, apart := false }
def ShardsEvictsSaid : Prop := shardsEvictsRow.holds Try.pinned (OpenSpec.ofChange shardsEvictsSpec)

/-- ITS FALSE NEIGHBOUR: 'it returns false'. Refute it at one input. -/
def shardsEvictsWrong : ChangeSpec := { name := "shardsEvicts", fn := fun _ => fun
  | [d1, d2, d3, d4] => { results := [.lit (.bool false)], args := [d1, d2, d3, d4] }
  | _ => none }
def ShardsEvictsWrongFalsely : Prop := shardsEvictsRow.holds Try.pinned (OpenSpec.ofChange shardsEvictsWrong)

/- THE SECOND FORM. 'bulk': how many values and letters a reading holds, each counted each time it is reached (what is shared counts as often as it is met; a slice's spare places count too). A statement '..UptoSaid' is the law's where the arguments, and the package variables that the reading takes, are together of bulk at most 1048576: NARROWER than '..Said'. Prove '..Said' where nothing that the law and all that it calls make is longer than what came in: it says more and counts as full. Else prove '..UptoSaid'. A law counts once. -/
mutual
def uptoBulk {H : Type} : DataW H → Nat
  | .lit (.string bytes) => bytes.length + 1
  | .lit _ => 1
  | .nil => 1
  | .ptr d => uptoBulk d + 1
  | .slice elems spare => uptoBulkAll elems + uptoBulkAll spare + 1
  | .agg parts => uptoBulkAll parts + 1
  | .iface _ d => uptoBulk d + 1
  | .map entries => uptoBulkEntries entries + 1
  | .held _ => 1
def uptoBulkAll {H : Type} : List (DataW H) → Nat
  | [] => 0
  | d :: r => uptoBulk d + uptoBulkAll r
def uptoBulkEntries {H : Type} : List (Lit × DataW H) → Nat
  | [] => 0
  | x :: r => uptoBulkEntry x + uptoBulkEntries r
def uptoBulkEntry {H : Type} : Lit × DataW H → Nat
  | (.string bytes, d) => bytes.length + uptoBulk d + 1
  | (_, d) => uptoBulk d + 1
 end
def uptoSmall : (H : Type) → List (DataW H) → Bool := fun _ ds => decide (uptoBulkAll ds ≤ 1048576)
def OpenSpec.upto (s : _root_.Go.ChangeSpec) : _root_.Go.OpenSpec := { _root_.Go.OpenSpec.ofChange s with cond := some uptoSmall }

/-- 'pantrylaw16.ShardsPlaces', WHERE WHAT IT READS IS OF BULK AT MOST 1048576: true; the input reads as it did. -/
def shardsPlacesUptoRow : OpenClaim := { program := "ytohckjjbephohaa", sum := "e48e940ea0e597b3156c1b43b609ff76ffb9d8e24fd8a3a9d0e1dbc0117ee7e1", func := "pantry/pantrylaw16.ShardsPlaces", spec := "shardsPlaces", apart := false, narrowed := true }
def ShardsPlacesUptoSaid : Prop := shardsPlacesUptoRow.holds Try.pinned (OpenSpec.upto shardsPlacesSpec)

/-- 'pantrylaw16.ShardsNodes', WHERE WHAT IT READS IS OF BULK AT MOST 1048576: true; the input reads as it did. -/
def shardsNodesUptoRow : OpenClaim := { program := "ytohckjjbephohaa", sum := "e48e940ea0e597b3156c1b43b609ff76ffb9d8e24fd8a3a9d0e1dbc0117ee7e1", func := "pantry/pantrylaw16.ShardsNodes", spec := "shardsNodes", apart := false, narrowed := true }
def ShardsNodesUptoSaid : Prop := shardsNodesUptoRow.holds Try.pinned (OpenSpec.upto shardsNodesSpec)

/-- 'pantrylaw16.ShardsLive', WHERE WHAT IT READS IS OF BULK AT MOST 1048576: true; the input reads as it did. -/
def shardsLiveUptoRow : OpenClaim := { program := "ytohckjjbephohaa", sum := "e48e940ea0e597b3156c1b43b609ff76ffb9d8e24fd8a3a9d0e1dbc0117ee7e1", func := "pantry/pantrylaw16.ShardsLive", spec := "shardsLive", unfollowed := true, recurses := true, apart := false, narrowed := true }
def ShardsLiveUptoSaid : Prop := shardsLiveUptoRow.holds Try.pinned (OpenSpec.upto shardsLiveSpec)

/-- 'pantrylaw16.ShardsAlike', WHERE WHAT IT READS IS OF BULK AT MOST 1048576: true; the input reads as it did. -/
def shardsAlikeUptoRow : OpenClaim := { program := "ytohckjjbephohaa", sum := "e48e940ea0e597b3156c1b43b609ff76ffb9d8e24fd8a3a9d0e1dbc0117ee7e1", func := "pantry/pantrylaw16.ShardsAlike", spec := "shardsAlike", unfollowed := true, recurses := true, apart := false, narrowed := true }
def ShardsAlikeUptoSaid : Prop := shardsAlikeUptoRow.holds Try.pinned (OpenSpec.upto shardsAlikeSpec)

/-- 'pantrylaw16.ShardsPlay', WHERE WHAT IT READS IS OF BULK AT MOST 1048576: true; the input reads as it did. -/
def shardsPlayUptoRow : OpenClaim := { program := "ytohckjjbephohaa", sum := "e48e940ea0e597b3156c1b43b609ff76ffb9d8e24fd8a3a9d0e1dbc0117ee7e1", func := "pantry/pantrylaw16.ShardsPlay", spec := "shardsPlay", unfollowed := true, recurses := true, apart := false, narrowed := true }
def ShardsPlayUptoSaid : Prop := shardsPlayUptoRow.holds Try.pinned (OpenSpec.upto shardsPlaySpec)

/-- 'pantrylaw16.ShardsEvicts', WHERE WHAT IT READS IS OF BULK AT MOST 1048576: true; the input reads as it did. -/
def shardsEvictsUptoRow : OpenClaim := { program := "ytohckjjbephohaa", sum := "e48e940ea0e597b3156c1b43b609ff76ffb9d8e24fd8a3a9d0e1dbc0117ee7e1", func := "pantry/pantrylaw16.ShardsEvicts", spec := "shardsEvicts", unfollowed := true, recurses := true, apart := false, narrowed := true }
def ShardsEvictsUptoSaid : Prop := shardsEvictsUptoRow.holds Try.pinned (OpenSpec.upto shardsEvictsSpec)

end Rows
end Go.Proofs.Ytohckjjbephohaa
