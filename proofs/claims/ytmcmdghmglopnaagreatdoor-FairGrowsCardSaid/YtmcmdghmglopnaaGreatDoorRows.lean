/-
  NARROWER THAN 'FOR EVERY INPUT', by the rows' own cells (each row's printed sentence says how): FairTells: laid · FairRuns: laid · FairEnds: laid · FairGrows: laid · FairWaits: laid · FairTurns: laid.
  DERIVED. THE GIVEN ROWS OF THIS SEAT. 6 by the template 'for every input the law returns true; each argument reads behind the call as it read before'; 0 by the template 'total and deterministic' (their statements: YtmcmdghmglopnaaGreatDoorTotals.lean).
  GIVEN WITH THE SEED: the statements are not yours to turn. If you find one false, say at which input.
  Laid BY PROGRAM, IN A SANDBOX (cutbox-rows.mjs): the forced cells as the released guide's own fill.sh prints them over the translation 86b5f3f3d59f3cda… (all of the seat's roots in one cut). By AI agents, Wed Nov 11 2026. No macro, syntax, notation, axiom, sorry.
-/
import Derived.Test.YtmcmdghmglopnaaGreatDoorChecked
import GoSem.Claim
import GoSem.ClaimJoined
import GoSem.ClaimMapViews
import Derived.JoinedTies
import Derived.KernelRfl
namespace Go.Proofs.YtmcmdghmglopnaaGreatDoor
/- THE CELL 'sum', in the pinned program and in every row, IS THE sha256 OF THE DUMP (.gsa) THAT YtmcmdghmglopnaaGreatDoorProg.lean LOADS. Nothing in Lean hashes anything: it is a label: what it is worth is what the hold of that sum in a sandbox is worth. -/
noncomputable def Tryz.pinned : Pinned := { name := "ytmcmdghmglopnaagreatdoor", sum := "86b5f3f3d59f3cda7b5ca5e4b7faf41eb4cb1d0a2ad19b556e5b62be87c016cd", checked := Tryz.checked }
namespace Rows
def none {H : Type} : Left H := { results := [], args := [] }

/- WHAT THE LISTED PACKAGE-LEVEL VARIABLES READ AS WHEN THE CALL BEGINS. Each datum BY PROGRAM (the guide's laid-datum.mjs) off the statement by which the dump's own 'gosem.cut.vars' lays the variable. In a bare row this is a premise. The card (YtmcmdghmglopnaaGreatDoorCards.lean) ties it to the program's text. -/
def laid_errors_errorType {H : Type} : DataW H := .iface "internal/reflectlite.rtype" (.agg [.ptr (.lit (.string [101, 114, 114, 111, 114]))])

/-- 'pantrylaw25.FairTells': WHATEVER THE INPUT: true; the input reads as it did. -/
def fairTellsSpec : ChangeSpec := { name := "fairTells", fn := fun _ => fun
  | [d1, d2, d3, d4] => { results := [.lit (.bool true)], args := [d1, d2, d3, d4] }
  | _ => none }
def fairTellsRow : OpenClaim := { program := "ytmcmdghmglopnaagreatdoor", sum := "86b5f3f3d59f3cda7b5ca5e4b7faf41eb4cb1d0a2ad19b556e5b62be87c016cd", func := "pantry/pantrylaw25.FairTells", spec := "fairTells", inPlace := ["internal/reflectlite.ValueOf", "(internal/reflectlite.Value).Type", "(internal/reflectlite.Value).IsNil", "internal/reflectlite.TypeOf", "(internal/reflectlite.Value).Elem", "(internal/reflectlite.Value).Set"], unfollowed := true, recurses := true, named := ["errors.errorType"], apart := false, laid := [("errors.errorType", laid_errors_errorType)] }
def FairTellsSaid : Prop := fairTellsRow.holds Tryz.pinned (OpenSpec.ofChange fairTellsSpec)

/-- ITS FALSE NEIGHBOUR: 'it returns false'. Refute it at one input. -/
def fairTellsWrong : ChangeSpec := { name := "fairTells", fn := fun _ => fun
  | [d1, d2, d3, d4] => { results := [.lit (.bool false)], args := [d1, d2, d3, d4] }
  | _ => none }
def FairTellsWrongFalsely : Prop := fairTellsRow.holds Tryz.pinned (OpenSpec.ofChange fairTellsWrong)

/-- 'pantrylaw25.FairRuns': WHATEVER THE INPUT: true; the input reads as it did. -/
def fairRunsSpec : ChangeSpec := { name := "fairRuns", fn := fun _ => fun
  | [d1, d2, d3] => { results := [.lit (.bool true)], args := [d1, d2, d3] }
  | _ => none }
def fairRunsRow : OpenClaim := { program := "ytmcmdghmglopnaagreatdoor", sum := "86b5f3f3d59f3cda7b5ca5e4b7faf41eb4cb1d0a2ad19b556e5b62be87c016cd", func := "pantry/pantrylaw25.FairRuns", spec := "fairRuns", inPlace := ["internal/reflectlite.ValueOf", "(internal/reflectlite.Value).Type", "(internal/reflectlite.Value).IsNil", "internal/reflectlite.TypeOf", "(internal/reflectlite.Value).Elem", "(internal/reflectlite.Value).Set"], unfollowed := true, recurses := true, named := ["errors.errorType"], apart := false, laid := [("errors.errorType", laid_errors_errorType)] }
def FairRunsSaid : Prop := fairRunsRow.holds Tryz.pinned (OpenSpec.ofChange fairRunsSpec)

/-- ITS FALSE NEIGHBOUR: 'it returns false'. Refute it at one input. -/
def fairRunsWrong : ChangeSpec := { name := "fairRuns", fn := fun _ => fun
  | [d1, d2, d3] => { results := [.lit (.bool false)], args := [d1, d2, d3] }
  | _ => none }
def FairRunsWrongFalsely : Prop := fairRunsRow.holds Tryz.pinned (OpenSpec.ofChange fairRunsWrong)

/-- 'pantrylaw25.FairEnds': WHATEVER THE INPUT: true; the input reads as it did. -/
def fairEndsSpec : ChangeSpec := { name := "fairEnds", fn := fun _ => fun
  | [d1, d2, d3] => { results := [.lit (.bool true)], args := [d1, d2, d3] }
  | _ => none }
def fairEndsRow : OpenClaim := { program := "ytmcmdghmglopnaagreatdoor", sum := "86b5f3f3d59f3cda7b5ca5e4b7faf41eb4cb1d0a2ad19b556e5b62be87c016cd", func := "pantry/pantrylaw25.FairEnds", spec := "fairEnds", inPlace := ["internal/reflectlite.ValueOf", "(internal/reflectlite.Value).Type", "(internal/reflectlite.Value).IsNil", "internal/reflectlite.TypeOf", "(internal/reflectlite.Value).Elem", "(internal/reflectlite.Value).Set"], unfollowed := true, recurses := true, named := ["errors.errorType"], apart := false, laid := [("errors.errorType", laid_errors_errorType)] }
def FairEndsSaid : Prop := fairEndsRow.holds Tryz.pinned (OpenSpec.ofChange fairEndsSpec)

/-- ITS FALSE NEIGHBOUR: 'it returns false'. Refute it at one input. -/
def fairEndsWrong : ChangeSpec := { name := "fairEnds", fn := fun _ => fun
  | [d1, d2, d3] => { results := [.lit (.bool false)], args := [d1, d2, d3] }
  | _ => none }
def FairEndsWrongFalsely : Prop := fairEndsRow.holds Tryz.pinned (OpenSpec.ofChange fairEndsWrong)

/-- 'pantrylaw25.FairGrows': WHATEVER THE INPUT: true; the input reads as it did. -/
def fairGrowsSpec : ChangeSpec := { name := "fairGrows", fn := fun _ => fun
  | [d1, d2] => { results := [.lit (.bool true)], args := [d1, d2] }
  | _ => none }
def fairGrowsRow : OpenClaim := { program := "ytmcmdghmglopnaagreatdoor", sum := "86b5f3f3d59f3cda7b5ca5e4b7faf41eb4cb1d0a2ad19b556e5b62be87c016cd", func := "pantry/pantrylaw25.FairGrows", spec := "fairGrows", inPlace := ["internal/reflectlite.ValueOf", "(internal/reflectlite.Value).Type", "(internal/reflectlite.Value).IsNil", "internal/reflectlite.TypeOf", "(internal/reflectlite.Value).Elem", "(internal/reflectlite.Value).Set"], unfollowed := true, recurses := true, named := ["errors.errorType"], apart := false, laid := [("errors.errorType", laid_errors_errorType)] }
def FairGrowsSaid : Prop := fairGrowsRow.holds Tryz.pinned (OpenSpec.ofChange fairGrowsSpec)

/-- ITS FALSE NEIGHBOUR: 'it returns false'. Refute it at one input. -/
def fairGrowsWrong : ChangeSpec := { name := "fairGrows", fn := fun _ => fun
  | [d1, d2] => { results := [.lit (.bool false)], args := [d1, d2] }
  | _ => none }
def FairGrowsWrongFalsely : Prop := fairGrowsRow.holds Tryz.pinned (OpenSpec.ofChange fairGrowsWrong)

/-- 'pantrylaw25.FairWaits': WHATEVER THE INPUT: true; the input reads as it did. -/
def fairWaitsSpec : ChangeSpec := { name := "fairWaits", fn := fun _ => fun
  | [d1, d2] => { results := [.lit (.bool true)], args := [d1, d2] }
  | _ => none }
def fairWaitsRow : OpenClaim := { program := "ytmcmdghmglopnaagreatdoor", sum := "86b5f3f3d59f3cda7b5ca5e4b7faf41eb4cb1d0a2ad19b556e5b62be87c016cd", func := "pantry/pantrylaw25.FairWaits", spec := "fairWaits", inPlace := ["internal/reflectlite.ValueOf", "(internal/reflectlite.Value).Type", "(internal/reflectlite.Value).IsNil", "internal/reflectlite.TypeOf", "(internal/reflectlite.Value).Elem", "(internal/reflectlite.Value).Set"], unfollowed := true, recurses := true, named := ["errors.errorType"], apart := false, laid := [("errors.errorType", laid_errors_errorType)] }
def FairWaitsSaid : Prop := fairWaitsRow.holds Tryz.pinned (OpenSpec.ofChange fairWaitsSpec)

/-- ITS FALSE NEIGHBOUR: 'it returns false'. Refute it at one input. -/
def fairWaitsWrong : ChangeSpec := { name := "fairWaits", fn := fun _ => fun
  | [d1, d2] => { results := [.lit (.bool false)], args := [d1, d2] }
  | _ => none }
def FairWaitsWrongFalsely : Prop := fairWaitsRow.holds Tryz.pinned (OpenSpec.ofChange fairWaitsWrong)

/-- 'pantrylaw25.FairTurns': WHATEVER THE INPUT: true; the input reads as it did. -/
def fairTurnsSpec : ChangeSpec := { name := "fairTurns", fn := fun _ => fun
  | [d1, d2, d3] => { results := [.lit (.bool true)], args := [d1, d2, d3] }
  | _ => none }
def fairTurnsRow : OpenClaim := { program := "ytmcmdghmglopnaagreatdoor", sum := "86b5f3f3d59f3cda7b5ca5e4b7faf41eb4cb1d0a2ad19b556e5b62be87c016cd", func := "pantry/pantrylaw25.FairTurns", spec := "fairTurns", inPlace := ["internal/reflectlite.ValueOf", "(internal/reflectlite.Value).Type", "(internal/reflectlite.Value).IsNil", "internal/reflectlite.TypeOf", "(internal/reflectlite.Value).Elem", "(internal/reflectlite.Value).Set"], unfollowed := true, recurses := true, named := ["errors.errorType"], apart := false, laid := [("errors.errorType", laid_errors_errorType)] }
def FairTurnsSaid : Prop := fairTurnsRow.holds Tryz.pinned (OpenSpec.ofChange fairTurnsSpec)

/-- ITS FALSE NEIGHBOUR: 'it returns false'. Refute it at one input. -/
def fairTurnsWrong : ChangeSpec := { name := "fairTurns", fn := fun _ => fun
  | [d1, d2, d3] => { results := [.lit (.bool false)], args := [d1, d2, d3] }
  | _ => none }
def FairTurnsWrongFalsely : Prop := fairTurnsRow.holds Tryz.pinned (OpenSpec.ofChange fairTurnsWrong)

/- THE SECOND FORM. 'bulk': how many values and letters a reading holds, each counted each time it is reached (what is shared counts as often as it is met; a slice's spare places count too). A statement '..UptoSaid' is the law's where the arguments, and the package variables that the reading takes, are together of bulk at most 1048576: NARROWER than '..Said'. Prove '..Said' where nothing that the law and all that it calls make is longer than what came in: it says more and counts as full. Else prove '..UptoSaid'. A law counts once. -/
mutual
def uptoBulk {H : Type} : DataW H → Nat
  | .lit (.string bytes) => bytes.length + 1
  | .lit _ => 1
  | .nil => 1
  | .ptr d => uptoBulk d + 1
  | .slice elems spare => uptoBulkAll elems + uptoBulkAll spare + 1
  | .agg parts => uptoBulkAll parts + 1
  | .iface _ d => uptoBulk d + 1
  | .map entries => uptoBulkEntries entries + 1
  | .held _ => 1
def uptoBulkAll {H : Type} : List (DataW H) → Nat
  | [] => 0
  | d :: r => uptoBulk d + uptoBulkAll r
def uptoBulkEntries {H : Type} : List (Lit × DataW H) → Nat
  | [] => 0
  | x :: r => uptoBulkEntry x + uptoBulkEntries r
def uptoBulkEntry {H : Type} : Lit × DataW H → Nat
  | (.string bytes, d) => bytes.length + uptoBulk d + 1
  | (_, d) => uptoBulk d + 1
 end
def uptoSmall : (H : Type) → List (DataW H) → Bool := fun _ ds => decide (uptoBulkAll ds ≤ 1048576)
def OpenSpec.upto (s : _root_.Go.ChangeSpec) : _root_.Go.OpenSpec := { _root_.Go.OpenSpec.ofChange s with cond := some uptoSmall }

/-- 'pantrylaw25.FairTells', WHERE WHAT IT READS IS OF BULK AT MOST 1048576: true; the input reads as it did. -/
def fairTellsUptoRow : OpenClaim := { program := "ytmcmdghmglopnaagreatdoor", sum := "86b5f3f3d59f3cda7b5ca5e4b7faf41eb4cb1d0a2ad19b556e5b62be87c016cd", func := "pantry/pantrylaw25.FairTells", spec := "fairTells", inPlace := ["internal/reflectlite.ValueOf", "(internal/reflectlite.Value).Type", "(internal/reflectlite.Value).IsNil", "internal/reflectlite.TypeOf", "(internal/reflectlite.Value).Elem", "(internal/reflectlite.Value).Set"], unfollowed := true, recurses := true, named := ["errors.errorType"], apart := false, laid := [("errors.errorType", laid_errors_errorType)], narrowed := true }
def FairTellsUptoSaid : Prop := fairTellsUptoRow.holds Tryz.pinned (OpenSpec.upto fairTellsSpec)

/-- 'pantrylaw25.FairRuns', WHERE WHAT IT READS IS OF BULK AT MOST 1048576: true; the input reads as it did. -/
def fairRunsUptoRow : OpenClaim := { program := "ytmcmdghmglopnaagreatdoor", sum := "86b5f3f3d59f3cda7b5ca5e4b7faf41eb4cb1d0a2ad19b556e5b62be87c016cd", func := "pantry/pantrylaw25.FairRuns", spec := "fairRuns", inPlace := ["internal/reflectlite.ValueOf", "(internal/reflectlite.Value).Type", "(internal/reflectlite.Value).IsNil", "internal/reflectlite.TypeOf", "(internal/reflectlite.Value).Elem", "(internal/reflectlite.Value).Set"], unfollowed := true, recurses := true, named := ["errors.errorType"], apart := false, laid := [("errors.errorType", laid_errors_errorType)], narrowed := true }
def FairRunsUptoSaid : Prop := fairRunsUptoRow.holds Tryz.pinned (OpenSpec.upto fairRunsSpec)

/-- 'pantrylaw25.FairEnds', WHERE WHAT IT READS IS OF BULK AT MOST 1048576: true; the input reads as it did. -/
def fairEndsUptoRow : OpenClaim := { program := "ytmcmdghmglopnaagreatdoor", sum := "86b5f3f3d59f3cda7b5ca5e4b7faf41eb4cb1d0a2ad19b556e5b62be87c016cd", func := "pantry/pantrylaw25.FairEnds", spec := "fairEnds", inPlace := ["internal/reflectlite.ValueOf", "(internal/reflectlite.Value).Type", "(internal/reflectlite.Value).IsNil", "internal/reflectlite.TypeOf", "(internal/reflectlite.Value).Elem", "(internal/reflectlite.Value).Set"], unfollowed := true, recurses := true, named := ["errors.errorType"], apart := false, laid := [("errors.errorType", laid_errors_errorType)], narrowed := true }
def FairEndsUptoSaid : Prop := fairEndsUptoRow.holds Tryz.pinned (OpenSpec.upto fairEndsSpec)

/-- 'pantrylaw25.FairGrows', WHERE WHAT IT READS IS OF BULK AT MOST 1048576: true; the input reads as it did. -/
def fairGrowsUptoRow : OpenClaim := { program := "ytmcmdghmglopnaagreatdoor", sum := "86b5f3f3d59f3cda7b5ca5e4b7faf41eb4cb1d0a2ad19b556e5b62be87c016cd", func := "pantry/pantrylaw25.FairGrows", spec := "fairGrows", inPlace := ["internal/reflectlite.ValueOf", "(internal/reflectlite.Value).Type", "(internal/reflectlite.Value).IsNil", "internal/reflectlite.TypeOf", "(internal/reflectlite.Value).Elem", "(internal/reflectlite.Value).Set"], unfollowed := true, recurses := true, named := ["errors.errorType"], apart := false, laid := [("errors.errorType", laid_errors_errorType)], narrowed := true }
def FairGrowsUptoSaid : Prop := fairGrowsUptoRow.holds Tryz.pinned (OpenSpec.upto fairGrowsSpec)

/-- 'pantrylaw25.FairWaits', WHERE WHAT IT READS IS OF BULK AT MOST 1048576: true; the input reads as it did. -/
def fairWaitsUptoRow : OpenClaim := { program := "ytmcmdghmglopnaagreatdoor", sum := "86b5f3f3d59f3cda7b5ca5e4b7faf41eb4cb1d0a2ad19b556e5b62be87c016cd", func := "pantry/pantrylaw25.FairWaits", spec := "fairWaits", inPlace := ["internal/reflectlite.ValueOf", "(internal/reflectlite.Value).Type", "(internal/reflectlite.Value).IsNil", "internal/reflectlite.TypeOf", "(internal/reflectlite.Value).Elem", "(internal/reflectlite.Value).Set"], unfollowed := true, recurses := true, named := ["errors.errorType"], apart := false, laid := [("errors.errorType", laid_errors_errorType)], narrowed := true }
def FairWaitsUptoSaid : Prop := fairWaitsUptoRow.holds Tryz.pinned (OpenSpec.upto fairWaitsSpec)

/-- 'pantrylaw25.FairTurns', WHERE WHAT IT READS IS OF BULK AT MOST 1048576: true; the input reads as it did. -/
def fairTurnsUptoRow : OpenClaim := { program := "ytmcmdghmglopnaagreatdoor", sum := "86b5f3f3d59f3cda7b5ca5e4b7faf41eb4cb1d0a2ad19b556e5b62be87c016cd", func := "pantry/pantrylaw25.FairTurns", spec := "fairTurns", inPlace := ["internal/reflectlite.ValueOf", "(internal/reflectlite.Value).Type", "(internal/reflectlite.Value).IsNil", "internal/reflectlite.TypeOf", "(internal/reflectlite.Value).Elem", "(internal/reflectlite.Value).Set"], unfollowed := true, recurses := true, named := ["errors.errorType"], apart := false, laid := [("errors.errorType", laid_errors_errorType)], narrowed := true }
def FairTurnsUptoSaid : Prop := fairTurnsUptoRow.holds Tryz.pinned (OpenSpec.upto fairTurnsSpec)

end Rows
end Go.Proofs.YtmcmdghmglopnaaGreatDoor
