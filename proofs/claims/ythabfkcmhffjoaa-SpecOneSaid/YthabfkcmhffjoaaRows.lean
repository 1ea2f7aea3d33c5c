/-
  No cell of these rows narrows 'for every input' (looked for: loops, veiled, ifaces, maps, wideKeys, modest, calm, conditions, laid).
  DERIVED. THE GIVEN ROWS OF THIS SEAT. 6 by the template 'for every input the law returns true; each argument reads behind the call as it read before'; 0 by the template 'total and deterministic' (their statements: YthabfkcmhffjoaaTotals.lean).
  GIVEN WITH THE SEED: the statements are not yours to turn. If you find one false, say at which input.
  Laid BY PROGRAM, IN A SANDBOX (cutbox-rows.mjs): the forced cells as the released guide's own fill.sh prints them over the translation 3218caa69305d09b… (all of the seat's roots in one cut). By AI agents, Wed Nov 11 2026. No macro, syntax, notation, axiom, sorry.
-/
import Derived.Test.YthabfkcmhffjoaaChecked
import GoSem.Claim
import GoSem.ClaimJoined
import GoSem.ClaimMapViews
import Derived.JoinedTies
import Derived.KernelRfl
namespace Go.Proofs.Ythabfkcmhffjoaa
/- THE CELL 'sum', in the pinned program and in every row, IS THE sha256 OF THE DUMP (.gsa) THAT YthabfkcmhffjoaaProg.lean LOADS. Nothing in Lean hashes anything: it is a label: what it is worth is what the hold of that sum in a sandbox is worth. -/
noncomputable def Try.pinned : Pinned := { name := "ythabfkcmhffjoaa", sum := "3218caa69305d09b4c8c422c769f6da2f2c55d65dc5d9f0617c1fcca3777ee1f", checked := Try.checked }
namespace Rows
def none {H : Type} : Left H := { results := [], args := [] }

/-- 'pantrylaw21.SpecTells': WHATEVER THE INPUT: true; the input reads as it did. -/
def specTellsSpec : ChangeSpec := { name := "specTells", fn := fun _ => fun
  | [d] => { results := [.lit (.bool true)], args := [d] }
  | _ => none }
def specTellsRow : OpenClaim := { program := "ythabfkcmhffjoaa", sum := "3218caa69305d09b4c8c422c769f6da2f2c55d65dc5d9f0617c1fcca3777ee1f", func := "pantry/pantrylaw21.SpecTells", spec := "specTells", unfollowed := true, recurses := true, apart := false }
def SpecTellsSaid : Prop := specTellsRow.holds Try.pinned (OpenSpec.ofChange specTellsSpec)

/-- ITS FALSE NEIGHBOUR: 'it returns false'. Refute it at one input. -/
def specTellsWrong : ChangeSpec := { name := "specTells", fn := fun _ => fun
  | [d] => { results := [.lit (.bool false)], args := [d] }
  | _ => none }
def SpecTellsWrongFalsely : Prop := specTellsRow.holds Try.pinned (OpenSpec.ofChange specTellsWrong)

/-- 'pantrylaw21.SpecAnswers': WHATEVER THE INPUT: true; the input reads as it did. -/
def specAnswersSpec : ChangeSpec := { name := "specAnswers", fn := fun _ => fun
  | [d1, d2, d3, d4] => { results := [.lit (.bool true)], args := [d1, d2, d3, d4] }
  | _ => none }
def specAnswersRow : OpenClaim := { program := "ythabfkcmhffjoaa", sum := "3218caa69305d09b4c8c422c769f6da2f2c55d65dc5d9f0617c1fcca3777ee1f", func := "pantry/pantrylaw21.SpecAnswers", spec := "specAnswers", unfollowed := true, recurses := true, apart := false }
def SpecAnswersSaid : Prop := specAnswersRow.holds Try.pinned (OpenSpec.ofChange specAnswersSpec)

/-- ITS FALSE NEIGHBOUR: 'it returns false'. Refute it at one input. -/
def specAnswersWrong : ChangeSpec := { name := "specAnswers", fn := fun _ => fun
  | [d1, d2, d3, d4] => { results := [.lit (.bool false)], args := [d1, d2, d3, d4] }
  | _ => none }
def SpecAnswersWrongFalsely : Prop := specAnswersRow.holds Try.pinned (OpenSpec.ofChange specAnswersWrong)

/-- 'pantrylaw21.SpecOne': WHATEVER THE INPUT: true; the input reads as it did. -/
def specOneSpec : ChangeSpec := { name := "specOne", fn := fun _ => fun
  | [d1, d2] => { results := [.lit (.bool true)], args := [d1, d2] }
  | _ => none }
def specOneRow : OpenClaim := { program := "ythabfkcmhffjoaa", sum := "3218caa69305d09b4c8c422c769f6da2f2c55d65dc5d9f0617c1fcca3777ee1f", func := "pantry/pantrylaw21.SpecOne", spec := "specOne", unfollowed := true, recurses := true, apart := false }
def SpecOneSaid : Prop := specOneRow.holds Try.pinned (OpenSpec.ofChange specOneSpec)

/-- ITS FALSE NEIGHBOUR: 'it returns false'. Refute it at one input. -/
def specOneWrong : ChangeSpec := { name := "specOne", fn := fun _ => fun
  | [d1, d2] => { results := [.lit (.bool false)], args := [d1, d2] }
  | _ => none }
def SpecOneWrongFalsely : Prop := specOneRow.holds Try.pinned (OpenSpec.ofChange specOneWrong)

/-- 'pantrylaw21.SpecMisses': WHATEVER THE INPUT: true; the input reads as it did. -/
def specMissesSpec : ChangeSpec := { name := "specMisses", fn := fun _ => fun
  | [d] => { results := [.lit (.bool true)], args := [d] }
  | _ => none }
def specMissesRow : OpenClaim := { program := "ythabfkcmhffjoaa", sum := "3218caa69305d09b4c8c422c769f6da2f2c55d65dc5d9f0617c1fcca3777ee1f", func := "pantry/pantrylaw21.SpecMisses", spec := "specMisses", unfollowed := true, recurses := true, apart := false }
def SpecMissesSaid : Prop := specMissesRow.holds Try.pinned (OpenSpec.ofChange specMissesSpec)

/-- ITS FALSE NEIGHBOUR: 'it returns false'. Refute it at one input. -/
def specMissesWrong : ChangeSpec := { name := "specMisses", fn := fun _ => fun
  | [d] => { results := [.lit (.bool false)], args := [d] }
  | _ => none }
def SpecMissesWrongFalsely : Prop := specMissesRow.holds Try.pinned (OpenSpec.ofChange specMissesWrong)

/-- 'pantrylaw21.SpecOnward': WHATEVER THE INPUT: true; the input reads as it did. -/
def specOnwardSpec : ChangeSpec := { name := "specOnward", fn := fun _ => fun
  | [d1, d2] => { results := [.lit (.bool true)], args := [d1, d2] }
  | _ => none }
def specOnwardRow : OpenClaim := { program := "ythabfkcmhffjoaa", sum := "3218caa69305d09b4c8c422c769f6da2f2c55d65dc5d9f0617c1fcca3777ee1f", func := "pantry/pantrylaw21.SpecOnward", spec := "specOnward", unfollowed := true, recurses := true, apart := false }
def SpecOnwardSaid : Prop := specOnwardRow.holds Try.pinned (OpenSpec.ofChange specOnwardSpec)

/-- ITS FALSE NEIGHBOUR: 'it returns false'. Refute it at one input. -/
def specOnwardWrong : ChangeSpec := { name := "specOnward", fn := fun _ => fun
  | [d1, d2] => { results := [.lit (.bool false)], args := [d1, d2] }
  | _ => none }
def SpecOnwardWrongFalsely : Prop := specOnwardRow.holds Try.pinned (OpenSpec.ofChange specOnwardWrong)

/-- 'pantrylaw21.SpecKeys': WHATEVER THE INPUT: true; the input reads as it did. -/
def specKeysSpec : ChangeSpec := { name := "specKeys", fn := fun _ => fun
  | [d] => { results := [.lit (.bool true)], args := [d] }
  | _ => none }
def specKeysRow : OpenClaim := { program := "ythabfkcmhffjoaa", sum := "3218caa69305d09b4c8c422c769f6da2f2c55d65dc5d9f0617c1fcca3777ee1f", func := "pantry/pantrylaw21.SpecKeys", spec := "specKeys", unfollowed := true, recurses := true, apart := false }
def SpecKeysSaid : Prop := specKeysRow.holds Try.pinned (OpenSpec.ofChange specKeysSpec)

/-- ITS FALSE NEIGHBOUR: 'it returns false'. Refute it at one input. -/
def specKeysWrong : ChangeSpec := { name := "specKeys", fn := fun _ => fun
  | [d] => { results := [.lit (.bool false)], args := [d] }
  | _ => none }
def SpecKeysWrongFalsely : Prop := specKeysRow.holds Try.pinned (OpenSpec.ofChange specKeysWrong)

/- THE SECOND FORM. 'bulk': how many values and letters a reading holds, each counted each time it is reached (what is shared counts as often as it is met; a slice's spare places count too). A statement '..UptoSaid' is the law's where the arguments, and the package variables that the reading takes, are together of bulk at most 1048576: NARROWER than '..Said'. Prove '..Said' where nothing that the law and all that it calls make is longer than what came in: it says more and counts as full. Else prove '..UptoSaid'. A law counts once. -/
mutual
def uptoBulk {H : Type} : DataW H → Nat
  | .lit (.string bytes) => bytes.length + 1
  | .lit _ => 1
  | .nil => 1
  | .ptr d => uptoBulk d + 1
  | .slice elems spare => uptoBulkAll elems + uptoBulkAll spare + 1
  | .agg parts => uptoBulkAll parts + 1
  | .iface _ d => uptoBulk d + 1
  | .map entries => uptoBulkEntries entries + 1
  | .held _ => 1
def uptoBulkAll {H : Type} : List (DataW H) → Nat
  | [] => 0
  | d :: r => uptoBulk d + uptoBulkAll r
def uptoBulkEntries {H : Type} : List (Lit × DataW H) → Nat
  | [] => 0
  | x :: r => uptoBulkEntry x + uptoBulkEntries r
def uptoBulkEntry {H : Type} : Lit × DataW H → Nat
  | (.string bytes, d) => bytes.length + uptoBulk d + 1
  | (_, d) => uptoBulk d + 1
 end
def uptoSmall : (H : Type) → List (DataW H) → Bool := fun _ ds => decide (uptoBulkAll ds ≤ 1048576)
def OpenSpec.upto (s : _root_.Go.ChangeSpec) : _root_.Go.OpenSpec := { _root_.Go.OpenSpec.ofChange s with cond := some uptoSmall }

/-- 'pantrylaw21.SpecTells', WHERE WHAT IT READS IS OF BULK AT MOST 1048576: true; the input reads as it did. -/
def specTellsUptoRow : OpenClaim := { program := "ythabfkcmhffjoaa", sum := "3218caa69305d09b4c8c422c769f6da2f2c55d65dc5d9f0617c1fcca3777ee1f", func := "pantry/pantrylaw21.SpecTells", spec := "specTells", unfollowed := true, recurses := true, apart := false, narrowed := true }
def SpecTellsUptoSaid : Prop := specTellsUptoRow.holds Try.pinned (OpenSpec.upto specTellsSpec)

/-- 'pantrylaw21.SpecAnswers', WHERE WHAT IT READS IS OF BULK AT MOST 1048576: true; the input reads as it did. -/
def specAnswersUptoRow : OpenClaim := { program := "ythabfkcmhffjoaa", sum := "3218caa69305d09b4c8c422c769f6da2f2c55d65dc5d9f0617c1fcca3777ee1f", func := "pantry/pantrylaw21.SpecAnswers", spec := "specAnswers", unfollowed := true, recurses := true, apart := false, narrowed := true }
def SpecAnswersUptoSaid : Prop := specAnswersUptoRow.holds Try.pinned (OpenSpec.upto specAnswersSpec)

/-- 'pantrylaw21.SpecOne', WHERE WHAT IT READS IS OF BULK AT MOST 1048576: true; the input reads as it did. -/
def specOneUptoRow : OpenClaim := { program := "ythabfkcmhffjoaa", sum := "3218caa69305d09b4c8c422c769f6da2f2c55d65dc5d9f0617c1fcca3777ee1f", func := "pantry/pantrylaw21.SpecOne", spec := "specOne", unfollowed := true, recurses := true, apart := false, narrowed := true }
def SpecOneUptoSaid : Prop := specOneUptoRow.holds Try.pinned (OpenSpec.upto specOneSpec)

/-- 'pantrylaw21.SpecMisses', WHERE WHAT IT READS IS OF BULK AT MOST 1048576: true; the input reads as it did. -/
def specMissesUptoRow : OpenClaim := { program := "ythabfkcmhffjoaa", sum := "3218caa69305d09b4c8c422c769f6da2f2c55d65dc5d9f0617c1fcca3777ee1f", func := "pantry/pantrylaw21.SpecMisses", spec := "specMisses", unfollowed := true, recurses := true, apart := false, narrowed := true }
def SpecMissesUptoSaid : Prop := specMissesUptoRow.holds Try.pinned (OpenSpec.upto specMissesSpec)

/-- 'pantrylaw21.SpecOnward', WHERE WHAT IT READS IS OF BULK AT MOST 1048576: true; the input reads as it did. -/
def specOnwardUptoRow : OpenClaim := { program := "ythabfkcmhffjoaa", sum := "3218caa69305d09b4c8c422c769f6da2f2c55d65dc5d9f0617c1fcca3777ee1f", func := "pantry/pantrylaw21.SpecOnward", spec := "specOnward", unfollowed := true, recurses := true, apart := false, narrowed := true }
def SpecOnwardUptoSaid : Prop := specOnwardUptoRow.holds Try.pinned (OpenSpec.upto specOnwardSpec)

/-- 'pantrylaw21.SpecKeys', WHERE WHAT IT READS IS OF BULK AT MOST 1048576: true; the input reads as it did. -/
def specKeysUptoRow : OpenClaim := { program := "ythabfkcmhffjoaa", sum := "3218caa69305d09b4c8c422c769f6da2f2c55d65dc5d9f0617c1fcca3777ee1f", func := "pantry/pantrylaw21.SpecKeys", spec := "specKeys", unfollowed := true, recurses := true, apart := false, narrowed := true }
def SpecKeysUptoSaid : Prop := specKeysUptoRow.holds Try.pinned (OpenSpec.upto specKeysSpec)

end Rows
end Go.Proofs.Ythabfkcmhffjoaa
