/-
  No cell of these rows narrows 'for every input' (looked for: loops, veiled, ifaces, maps, wideKeys, modest, calm, conditions, laid).
  DERIVED. THE GIVEN ROWS OF THIS SEAT. 8 by the template 'for every input the law returns true; each argument reads behind the call as it read before'; 0 by the template 'total and deterministic' (their statements: YtemcdjdglcceiaaTotals.lean).
  GIVEN WITH THE SEED: the statements are not yours to turn. If you find one false, say at which input.
  Laid BY PROGRAM, IN A SANDBOX (cutbox-rows.mjs): the forced cells as the released guide's own fill.sh prints them over the translation 89a4b4b3aacd3f64… (all of the seat's roots in one cut). By AI agents, Wed Nov 11 2026. No macro, syntax, notation, axiom, sorry.
-/
import Derived.Test.YtemcdjdglcceiaaChecked
import GoSem.Claim
import GoSem.ClaimJoined
import GoSem.ClaimMapViews
import Derived.JoinedTies
import Derived.KernelRfl
namespace Go.Proofs.Ytemcdjdglcceiaa
/- THE CELL 'sum', in the pinned program and in every row, IS THE sha256 OF THE DUMP (.gsa) THAT YtemcdjdglcceiaaProg.lean LOADS. Nothing in Lean hashes anything: it is a label: what it is worth is what the hold of that sum in a sandbox is worth. -/
noncomputable def Try.pinned : Pinned := { name := "ytemcdjdglcceiaa", sum := "89a4b4b3aacd3f642145ce19b2987e7add84e6d07e31c498d73aa4ec5c5ba4dd", checked := Try.checked }
namespace Rows
def none {H : Type} : Left H := { results := [], args := [] }

/-- 'pantrylaw23.HistTells': WHATEVER THE INPUT: true; the input reads as it did. -/
def histTellsSpec : ChangeSpec := { name := "histTells", fn := fun _ => fun
  | [d] => { results := [.lit (.bool true)], args := [d] }
  | _ => none }
def histTellsRow : OpenClaim := { program := "ytemcdjdglcceiaa", sum := "89a4b4b3aacd3f642145ce19b2987e7add84e6d07e31c498d73aa4ec5c5ba4dd", func := "pantry/pantrylaw23.HistTells", spec := "histTells", apart := false }
def HistTellsSaid : Prop := histTellsRow.holds Try.pinned (OpenSpec.ofChange histTellsSpec)

/-- ITS FALSE NEIGHBOUR: 'it returns false'. Refute it at one input. -/
def histTellsWrong : ChangeSpec := { name := "histTells", fn := fun _ => fun
  | [d] => { results := [.lit (.bool false)], args := [d] }
  | _ => none }
def HistTellsWrongFalsely : Prop := histTellsRow.holds Try.pinned (OpenSpec.ofChange histTellsWrong)

/-- 'pantrylaw23.HistCompletes': WHATEVER THE INPUT: true; the input reads as it did. -/
def histCompletesSpec : ChangeSpec := { name := "histCompletes", fn := fun _ => fun
  | [d] => { results := [.lit (.bool true)], args := [d] }
  | _ => none }
def histCompletesRow : OpenClaim := { program := "ytemcdjdglcceiaa", sum := "89a4b4b3aacd3f642145ce19b2987e7add84e6d07e31c498d73aa4ec5c5ba4dd", func := "pantry/pantrylaw23.HistCompletes", spec := "histCompletes", apart := false }
def HistCompletesSaid : Prop := histCompletesRow.holds Try.pinned (OpenSpec.ofChange histCompletesSpec)

/-- ITS FALSE NEIGHBOUR: 'it returns false'. Refute it at one input. -/
def histCompletesWrong : ChangeSpec := { name := "histCompletes", fn := fun _ => fun
  | [d] => { results := [.lit (.bool false)], args := [d] }
  | _ => none }
def HistCompletesWrongFalsely : Prop := histCompletesRow.holds Try.pinned (OpenSpec.ofChange histCompletesWrong)

/-- 'pantrylaw23.HistOrders': WHATEVER THE INPUT: true; the input reads as it did. -/
def histOrdersSpec : ChangeSpec := { name := "histOrders", fn := fun _ => fun
  | [d] => { results := [.lit (.bool true)], args := [d] }
  | _ => none }
def histOrdersRow : OpenClaim := { program := "ytemcdjdglcceiaa", sum := "89a4b4b3aacd3f642145ce19b2987e7add84e6d07e31c498d73aa4ec5c5ba4dd", func := "pantry/pantrylaw23.HistOrders", spec := "histOrders", apart := false }
def HistOrdersSaid : Prop := histOrdersRow.holds Try.pinned (OpenSpec.ofChange histOrdersSpec)

/-- ITS FALSE NEIGHBOUR: 'it returns false'. Refute it at one input. -/
def histOrdersWrong : ChangeSpec := { name := "histOrders", fn := fun _ => fun
  | [d] => { results := [.lit (.bool false)], args := [d] }
  | _ => none }
def HistOrdersWrongFalsely : Prop := histOrdersRow.holds Try.pinned (OpenSpec.ofChange histOrdersWrong)

/-- 'pantrylaw23.HistCuts': WHATEVER THE INPUT: true; the input reads as it did. -/
def histCutsSpec : ChangeSpec := { name := "histCuts", fn := fun _ => fun
  | [d1, d2] => { results := [.lit (.bool true)], args := [d1, d2] }
  | _ => none }
def histCutsRow : OpenClaim := { program := "ytemcdjdglcceiaa", sum := "89a4b4b3aacd3f642145ce19b2987e7add84e6d07e31c498d73aa4ec5c5ba4dd", func := "pantry/pantrylaw23.HistCuts", spec := "histCuts", apart := false }
def HistCutsSaid : Prop := histCutsRow.holds Try.pinned (OpenSpec.ofChange histCutsSpec)

/-- ITS FALSE NEIGHBOUR: 'it returns false'. Refute it at one input. -/
def histCutsWrong : ChangeSpec := { name := "histCuts", fn := fun _ => fun
  | [d1, d2] => { results := [.lit (.bool false)], args := [d1, d2] }
  | _ => none }
def HistCutsWrongFalsely : Prop := histCutsRow.holds Try.pinned (OpenSpec.ofChange histCutsWrong)

/-- 'pantrylaw23.HistThreads': WHATEVER THE INPUT: true; the input reads as it did. -/
def histThreadsSpec : ChangeSpec := { name := "histThreads", fn := fun _ => fun
  | [d] => { results := [.lit (.bool true)], args := [d] }
  | _ => none }
def histThreadsRow : OpenClaim := { program := "ytemcdjdglcceiaa", sum := "89a4b4b3aacd3f642145ce19b2987e7add84e6d07e31c498d73aa4ec5c5ba4dd", func := "pantry/pantrylaw23.HistThreads", spec := "histThreads", apart := false }
def HistThreadsSaid : Prop := histThreadsRow.holds Try.pinned (OpenSpec.ofChange histThreadsSpec)

/-- ITS FALSE NEIGHBOUR: 'it returns false'. Refute it at one input. -/
def histThreadsWrong : ChangeSpec := { name := "histThreads", fn := fun _ => fun
  | [d] => { results := [.lit (.bool false)], args := [d] }
  | _ => none }
def HistThreadsWrongFalsely : Prop := histThreadsRow.holds Try.pinned (OpenSpec.ofChange histThreadsWrong)

/-- 'pantrylaw23.HistPlaces': WHATEVER THE INPUT: true; the input reads as it did. -/
def histPlacesSpec : ChangeSpec := { name := "histPlaces", fn := fun _ => fun
  | [d] => { results := [.lit (.bool true)], args := [d] }
  | _ => none }
def histPlacesRow : OpenClaim := { program := "ytemcdjdglcceiaa", sum := "89a4b4b3aacd3f642145ce19b2987e7add84e6d07e31c498d73aa4ec5c5ba4dd", func := "pantry/pantrylaw23.HistPlaces", spec := "histPlaces", apart := false }
def HistPlacesSaid : Prop := histPlacesRow.holds Try.pinned (OpenSpec.ofChange histPlacesSpec)

/-- ITS FALSE NEIGHBOUR: 'it returns false'. Refute it at one input. -/
def histPlacesWrong : ChangeSpec := { name := "histPlaces", fn := fun _ => fun
  | [d] => { results := [.lit (.bool false)], args := [d] }
  | _ => none }
def HistPlacesWrongFalsely : Prop := histPlacesRow.holds Try.pinned (OpenSpec.ofChange histPlacesWrong)

/-- 'pantrylaw24.WitnessTells': WHATEVER THE INPUT: true; the input reads as it did. -/
def witnessTellsSpec : ChangeSpec := { name := "witnessTells", fn := fun _ => fun
  | [d1, d2] => { results := [.lit (.bool true)], args := [d1, d2] }
  | _ => none }
def witnessTellsRow : OpenClaim := { program := "ytemcdjdglcceiaa", sum := "89a4b4b3aacd3f642145ce19b2987e7add84e6d07e31c498d73aa4ec5c5ba4dd", func := "pantry/pantrylaw24.WitnessTells", spec := "witnessTells", unfollowed := true, recurses := true, apart := false }
def WitnessTellsSaid : Prop := witnessTellsRow.holds Try.pinned (OpenSpec.ofChange witnessTellsSpec)

/-- ITS FALSE NEIGHBOUR: 'it returns false'. Refute it at one input. -/
def witnessTellsWrong : ChangeSpec := { name := "witnessTells", fn := fun _ => fun
  | [d1, d2] => { results := [.lit (.bool false)], args := [d1, d2] }
  | _ => none }
def WitnessTellsWrongFalsely : Prop := witnessTellsRow.holds Try.pinned (OpenSpec.ofChange witnessTellsWrong)

/-- 'pantrylaw24.WitnessCuts': WHATEVER THE INPUT: true; the input reads as it did. -/
def witnessCutsSpec : ChangeSpec := { name := "witnessCuts", fn := fun _ => fun
  | [d1, d2] => { results := [.lit (.bool true)], args := [d1, d2] }
  | _ => none }
def witnessCutsRow : OpenClaim := { program := "ytemcdjdglcceiaa", sum := "89a4b4b3aacd3f642145ce19b2987e7add84e6d07e31c498d73aa4ec5c5ba4dd", func := "pantry/pantrylaw24.WitnessCuts", spec := "witnessCuts", unfollowed := true, recurses := true, apart := false }
def WitnessCutsSaid : Prop := witnessCutsRow.holds Try.pinned (OpenSpec.ofChange witnessCutsSpec)

/-- ITS FALSE NEIGHBOUR: 'it returns false'. Refute it at one input. -/
def witnessCutsWrong : ChangeSpec := { name := "witnessCuts", fn := fun _ => fun
  | [d1, d2] => { results := [.lit (.bool false)], args := [d1, d2] }
  | _ => none }
def WitnessCutsWrongFalsely : Prop := witnessCutsRow.holds Try.pinned (OpenSpec.ofChange witnessCutsWrong)

/- THE SECOND FORM. 'bulk': how many values and letters a reading holds, each counted each time it is reached (what is shared counts as often as it is met; a slice's spare places count too). A statement '..UptoSaid' is the law's where the arguments, and the package variables that the reading takes, are together of bulk at most 1048576: NARROWER than '..Said'. Prove '..Said' where nothing that the law and all that it calls make is longer than what came in: it says more and counts as full. Else prove '..UptoSaid'. A law counts once. -/
mutual
def uptoBulk {H : Type} : DataW H → Nat
  | .lit (.string bytes) => bytes.length + 1
  | .lit _ => 1
  | .nil => 1
  | .ptr d => uptoBulk d + 1
  | .slice elems spare => uptoBulkAll elems + uptoBulkAll spare + 1
  | .agg parts => uptoBulkAll parts + 1
  | .iface _ d => uptoBulk d + 1
  | .map entries => uptoBulkEntries entries + 1
  | .held _ => 1
def uptoBulkAll {H : Type} : List (DataW H) → Nat
  | [] => 0
  | d :: r => uptoBulk d + uptoBulkAll r
def uptoBulkEntries {H : Type} : List (Lit × DataW H) → Nat
  | [] => 0
  | x :: r => uptoBulkEntry x + uptoBulkEntries r
def uptoBulkEntry {H : Type} : Lit × DataW H → Nat
  | (.string bytes, d) => bytes.length + uptoBulk d + 1
  | (_, d) => uptoBulk d + 1
 end
def uptoSmall : (H : Type) → List (DataW H) → Bool := fun _ ds => decide (uptoBulkAll ds ≤ 1048576)
def OpenSpec.upto (s : _root_.Go.ChangeSpec) : _root_.Go.OpenSpec := { _root_.Go.OpenSpec.ofChange s with cond := some uptoSmall }

/-- 'pantrylaw23.HistTells', WHERE WHAT IT READS IS OF BULK AT MOST 1048576: true; the input reads as it did. -/
def histTellsUptoRow : OpenClaim := { program := "ytemcdjdglcceiaa", sum := "89a4b4b3aacd3f642145ce19b2987e7add84e6d07e31c498d73aa4ec5c5ba4dd", func := "pantry/pantrylaw23.HistTells", spec := "histTells", apart := false, narrowed := true }
def HistTellsUptoSaid : Prop := histTellsUptoRow.holds Try.pinned (OpenSpec.upto histTellsSpec)

/-- 'pantrylaw23.HistCompletes', WHERE WHAT IT READS IS OF BULK AT MOST 1048576: true; the input reads as it did. -/
def histCompletesUptoRow : OpenClaim := { program := "ytemcdjdglcceiaa", sum := "89a4b4b3aacd3f642145ce19b2987e7add84e6d07e31c498d73aa4ec5c5ba4dd", func := "pantry/pantrylaw23.HistCompletes", spec := "histCompletes", apart := false, narrowed := true }
def HistCompletesUptoSaid : Prop := histCompletesUptoRow.holds Try.pinned (OpenSpec.upto histCompletesSpec)

/-- 'pantrylaw23.HistOrders', WHERE WHAT IT READS IS OF BULK AT MOST 1048576: true; the input reads as it did. -/
def histOrdersUptoRow : OpenClaim := { program := "ytemcdjdglcceiaa", sum := "89a4b4b3aacd3f642145ce19b2987e7add84e6d07e31c498d73aa4ec5c5ba4dd", func := "pantry/pantrylaw23.HistOrders", spec := "histOrders", apart := false, narrowed := true }
def HistOrdersUptoSaid : Prop := histOrdersUptoRow.holds Try.pinned (OpenSpec.upto histOrdersSpec)

/-- 'pantrylaw23.HistCuts', WHERE WHAT IT READS IS OF BULK AT MOST 1048576: true; the input reads as it did. -/
def histCutsUptoRow : OpenClaim := { program := "ytemcdjdglcceiaa", sum := "89a4b4b3aacd3f642145ce19b2987e7add84e6d07e31c498d73aa4ec5c5ba4dd", func := "pantry/pantrylaw23.HistCuts", spec := "histCuts", apart := false, narrowed := true }
def HistCutsUptoSaid : Prop := histCutsUptoRow.holds Try.pinned (OpenSpec.upto histCutsSpec)

/-- 'pantrylaw23.HistThreads', WHERE WHAT IT READS IS OF BULK AT MOST 1048576: true; the input reads as it did. -/
def histThreadsUptoRow : OpenClaim := { program := "ytemcdjdglcceiaa", sum := "89a4b4b3aacd3f642145ce19b2987e7add84e6d07e31c498d73aa4ec5c5ba4dd", func := "pantry/pantrylaw23.HistThreads", spec := "histThreads", apart := false, narrowed := true }
def HistThreadsUptoSaid : Prop := histThreadsUptoRow.holds Try.pinned (OpenSpec.upto histThreadsSpec)

/-- 'pantrylaw23.HistPlaces', WHERE WHAT IT READS IS OF BULK AT MOST 1048576: true; the input reads as it did. -/
def histPlacesUptoRow : OpenClaim := { program := "ytemcdjdglcceiaa", sum := "89a4b4b3aacd3f642145ce19b2987e7add84e6d07e31c498d73aa4ec5c5ba4dd", func := "pantry/pantrylaw23.HistPlaces", spec := "histPlaces", apart := false, narrowed := true }
def HistPlacesUptoSaid : Prop := histPlacesUptoRow.holds Try.pinned (OpenSpec.upto histPlacesSpec)

/-- 'pantrylaw24.WitnessTells', WHERE WHAT IT READS IS OF BULK AT MOST 1048576: true; the input reads as it did. -/
def witnessTellsUptoRow : OpenClaim := { program := "ytemcdjdglcceiaa", sum := "89a4b4b3aacd3f642145ce19b2987e7add84e6d07e31c498d73aa4ec5c5ba4dd", func := "pantry/pantrylaw24.WitnessTells", spec := "witnessTells", unfollowed := true, recurses := true, apart := false, narrowed := true }
def WitnessTellsUptoSaid : Prop := witnessTellsUptoRow.holds Try.pinned (OpenSpec.upto witnessTellsSpec)

/-- 'pantrylaw24.WitnessCuts', WHERE WHAT IT READS IS OF BULK AT MOST 1048576: true; the input reads as it did. -/
def witnessCutsUptoRow : OpenClaim := { program := "ytemcdjdglcceiaa", sum := "89a4b4b3aacd3f642145ce19b2987e7add84e6d07e31c498d73aa4ec5c5ba4dd", func := "pantry/pantrylaw24.WitnessCuts", spec := "witnessCuts", unfollowed := true, recurses := true, apart := false, narrowed := true }
def WitnessCutsUptoSaid : Prop := witnessCutsUptoRow.holds Try.pinned (OpenSpec.upto witnessCutsSpec)

end Rows
end Go.Proofs.Ytemcdjdglcceiaa
