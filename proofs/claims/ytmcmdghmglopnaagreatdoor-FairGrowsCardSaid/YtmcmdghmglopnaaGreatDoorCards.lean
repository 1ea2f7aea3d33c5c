/-
  DERIVED. GIVEN WITH THE SEED: THE CARDS: each row of YtmcmdghmglopnaaGreatDoorRows.lean that lists a variable, with what it lists TIED to the program's text (the seventh form; the later family's looks); each row that meets fmt, with fmt's text TOLD by the authors' own Lean function (tested against real Go, not proved from fmt's source: count such statements apart). THE CARD IS WHAT COUNTS. Prove the row's statement (the work); the ties are given (YtmcmdghmglopnaaGreatDoorTie.lean); close each card by the builder's one call (the guide's Derived/Test/ToyasCard.lean, 'card_holds'). Laid BY PROGRAM, IN A SANDBOX (cutbox-door.mjs). By AI agents, Wed Nov 11 2026. No macro, syntax, notation, axiom, sorry.
-/
import Derived.Test.YtmcmdghmglopnaaGreatDoorRows
import GoSem.ClaimSeven
namespace Go.Proofs.YtmcmdghmglopnaaGreatDoor
namespace Rows

/-- THE TIED CARD OF 'pantrylaw25.FairTells'. -/
def fairTellsCard : Claim7 := { stood := { row := fairTellsRow, standIns := [], harness := (true, "3ed687429296ca49706d3e5cd9ae86bef5fd99293733aeb619f923ab38d166bb"), looks := true }, kinds := [], alts := [], laidByText := true, laidKinds := [.handle], laidTests := true, laidLooks := .later }
def FairTellsCardSaid : Prop := Claim7.holds Tryz.pinned (.plain (OpenSpec.ofChange fairTellsSpec)) fairTellsCard

/-- THE TIED CARD OF 'pantrylaw25.FairRuns'. -/
def fairRunsCard : Claim7 := { stood := { row := fairRunsRow, standIns := [], harness := (true, "3ed687429296ca49706d3e5cd9ae86bef5fd99293733aeb619f923ab38d166bb"), looks := true }, kinds := [], alts := [], laidByText := true, laidKinds := [.handle], laidTests := true, laidLooks := .later }
def FairRunsCardSaid : Prop := Claim7.holds Tryz.pinned (.plain (OpenSpec.ofChange fairRunsSpec)) fairRunsCard

/-- THE TIED CARD OF 'pantrylaw25.FairEnds'. -/
def fairEndsCard : Claim7 := { stood := { row := fairEndsRow, standIns := [], harness := (true, "3ed687429296ca49706d3e5cd9ae86bef5fd99293733aeb619f923ab38d166bb"), looks := true }, kinds := [], alts := [], laidByText := true, laidKinds := [.handle], laidTests := true, laidLooks := .later }
def FairEndsCardSaid : Prop := Claim7.holds Tryz.pinned (.plain (OpenSpec.ofChange fairEndsSpec)) fairEndsCard

/-- THE TIED CARD OF 'pantrylaw25.FairGrows'. -/
def fairGrowsCard : Claim7 := { stood := { row := fairGrowsRow, standIns := [], harness := (true, "3ed687429296ca49706d3e5cd9ae86bef5fd99293733aeb619f923ab38d166bb"), looks := true }, kinds := [], alts := [], laidByText := true, laidKinds := [.handle], laidTests := true, laidLooks := .later }
def FairGrowsCardSaid : Prop := Claim7.holds Tryz.pinned (.plain (OpenSpec.ofChange fairGrowsSpec)) fairGrowsCard

/-- THE TIED CARD OF 'pantrylaw25.FairWaits'. -/
def fairWaitsCard : Claim7 := { stood := { row := fairWaitsRow, standIns := [], harness := (true, "3ed687429296ca49706d3e5cd9ae86bef5fd99293733aeb619f923ab38d166bb"), looks := true }, kinds := [], alts := [], laidByText := true, laidKinds := [.handle], laidTests := true, laidLooks := .later }
def FairWaitsCardSaid : Prop := Claim7.holds Tryz.pinned (.plain (OpenSpec.ofChange fairWaitsSpec)) fairWaitsCard

/-- THE TIED CARD OF 'pantrylaw25.FairTurns'. -/
def fairTurnsCard : Claim7 := { stood := { row := fairTurnsRow, standIns := [], harness := (true, "3ed687429296ca49706d3e5cd9ae86bef5fd99293733aeb619f923ab38d166bb"), looks := true }, kinds := [], alts := [], laidByText := true, laidKinds := [.handle], laidTests := true, laidLooks := .later }
def FairTurnsCardSaid : Prop := Claim7.holds Tryz.pinned (.plain (OpenSpec.ofChange fairTurnsSpec)) fairTurnsCard

/-- THE SECOND FORM's CARD OF 'pantrylaw25.FairTells'. -/
def fairTellsUptoCard : Claim7 := { stood := { row := fairTellsUptoRow, standIns := [], harness := (true, "3ed687429296ca49706d3e5cd9ae86bef5fd99293733aeb619f923ab38d166bb"), looks := true }, kinds := [], alts := [], laidByText := true, laidKinds := [.handle], laidTests := true, laidLooks := .later }
def FairTellsUptoCardSaid : Prop := Claim7.holds Tryz.pinned (.plain (OpenSpec.upto fairTellsSpec)) fairTellsUptoCard

/-- THE SECOND FORM's CARD OF 'pantrylaw25.FairRuns'. -/
def fairRunsUptoCard : Claim7 := { stood := { row := fairRunsUptoRow, standIns := [], harness := (true, "3ed687429296ca49706d3e5cd9ae86bef5fd99293733aeb619f923ab38d166bb"), looks := true }, kinds := [], alts := [], laidByText := true, laidKinds := [.handle], laidTests := true, laidLooks := .later }
def FairRunsUptoCardSaid : Prop := Claim7.holds Tryz.pinned (.plain (OpenSpec.upto fairRunsSpec)) fairRunsUptoCard

/-- THE SECOND FORM's CARD OF 'pantrylaw25.FairEnds'. -/
def fairEndsUptoCard : Claim7 := { stood := { row := fairEndsUptoRow, standIns := [], harness := (true, "3ed687429296ca49706d3e5cd9ae86bef5fd99293733aeb619f923ab38d166bb"), looks := true }, kinds := [], alts := [], laidByText := true, laidKinds := [.handle], laidTests := true, laidLooks := .later }
def FairEndsUptoCardSaid : Prop := Claim7.holds Tryz.pinned (.plain (OpenSpec.upto fairEndsSpec)) fairEndsUptoCard

/-- THE SECOND FORM's CARD OF 'pantrylaw25.FairGrows'. -/
def fairGrowsUptoCard : Claim7 := { stood := { row := fairGrowsUptoRow, standIns := [], harness := (true, "3ed687429296ca49706d3e5cd9ae86bef5fd99293733aeb619f923ab38d166bb"), looks := true }, kinds := [], alts := [], laidByText := true, laidKinds := [.handle], laidTests := true, laidLooks := .later }
def FairGrowsUptoCardSaid : Prop := Claim7.holds Tryz.pinned (.plain (OpenSpec.upto fairGrowsSpec)) fairGrowsUptoCard

/-- THE SECOND FORM's CARD OF 'pantrylaw25.FairWaits'. -/
def fairWaitsUptoCard : Claim7 := { stood := { row := fairWaitsUptoRow, standIns := [], harness := (true, "3ed687429296ca49706d3e5cd9ae86bef5fd99293733aeb619f923ab38d166bb"), looks := true }, kinds := [], alts := [], laidByText := true, laidKinds := [.handle], laidTests := true, laidLooks := .later }
def FairWaitsUptoCardSaid : Prop := Claim7.holds Tryz.pinned (.plain (OpenSpec.upto fairWaitsSpec)) fairWaitsUptoCard

/-- THE SECOND FORM's CARD OF 'pantrylaw25.FairTurns'. -/
def fairTurnsUptoCard : Claim7 := { stood := { row := fairTurnsUptoRow, standIns := [], harness := (true, "3ed687429296ca49706d3e5cd9ae86bef5fd99293733aeb619f923ab38d166bb"), looks := true }, kinds := [], alts := [], laidByText := true, laidKinds := [.handle], laidTests := true, laidLooks := .later }
def FairTurnsUptoCardSaid : Prop := Claim7.holds Tryz.pinned (.plain (OpenSpec.upto fairTurnsSpec)) fairTurnsUptoCard
end Rows
end Go.Proofs.YtmcmdghmglopnaaGreatDoor
