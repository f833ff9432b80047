/-
  DERIVED. GIVEN WITH THE SEED: THE CARDS: each row of YtldembadjgibjaaGreatDoorRows.lean that lists a variable, with what it lists TIED to the program's text (the seventh form; the later family's looks); each row that meets fmt, with fmt's text TOLD by the authors' own Lean function (tested against real Go, not proved from fmt's source: count such statements apart). THE CARD IS WHAT COUNTS. Prove the row's statement (the work); the ties are given (YtldembadjgibjaaGreatDoorTie.lean); close each card by the builder's one call (the guide's Derived/Test/ToyasCard.lean, 'card_holds'). Laid BY PROGRAM, IN A SANDBOX (cutbox-door.mjs). By AI agents, Wed Nov 11 2026. No macro, syntax, notation, axiom, sorry.
-/
import Derived.Test.YtldembadjgibjaaGreatDoorRows
import GoSem.ClaimSeven
namespace Go.Proofs.YtldembadjgibjaaGreatDoor
namespace Rows

/-- THE TIED CARD OF 'knapsacklaw13.CascadeInherits'. -/
def cascadeInheritsCard : Claim7 := { stood := { row := cascadeInheritsRow, standIns := [], harness := (true, "bcac2a2ca28dce5f38099a9bcd42391159ce6c266c21705b9e908dd346daa894"), looks := true }, kinds := [], alts := [], laidByText := true, laidKinds := [.data, .data, .data, .data, .data, .pinned], laidTests := true, laidLooks := .later }
def CascadeInheritsCardSaid : Prop := Claim7.holds Tryz.pinned (.plain (OpenSpec.ofChange cascadeInheritsSpec)) cascadeInheritsCard

/-- THE TIED CARD OF 'knapsacklaw13.CascadeApplies'. -/
def cascadeAppliesCard : Claim7 := { stood := { row := cascadeAppliesRow, standIns := [], harness := (true, "bcac2a2ca28dce5f38099a9bcd42391159ce6c266c21705b9e908dd346daa894"), looks := true }, kinds := [], alts := [], laidByText := true, laidKinds := [.data, .data, .data, .data, .pinned], laidTests := true, laidLooks := .later }
def CascadeAppliesCardSaid : Prop := Claim7.holds Tryz.pinned (.plain (OpenSpec.ofChange cascadeAppliesSpec)) cascadeAppliesCard

/-- THE SECOND FORM's CARD OF 'knapsacklaw13.CascadeInherits'. -/
def cascadeInheritsUptoCard : Claim7 := { stood := { row := cascadeInheritsUptoRow, standIns := [], harness := (true, "bcac2a2ca28dce5f38099a9bcd42391159ce6c266c21705b9e908dd346daa894"), looks := true }, kinds := [], alts := [], laidByText := true, laidKinds := [.data, .data, .data, .data, .data, .pinned], laidTests := true, laidLooks := .later }
def CascadeInheritsUptoCardSaid : Prop := Claim7.holds Tryz.pinned (.plain (OpenSpec.upto cascadeInheritsSpec)) cascadeInheritsUptoCard

/-- THE SECOND FORM's CARD OF 'knapsacklaw13.CascadeApplies'. -/
def cascadeAppliesUptoCard : Claim7 := { stood := { row := cascadeAppliesUptoRow, standIns := [], harness := (true, "bcac2a2ca28dce5f38099a9bcd42391159ce6c266c21705b9e908dd346daa894"), looks := true }, kinds := [], alts := [], laidByText := true, laidKinds := [.data, .data, .data, .data, .pinned], laidTests := true, laidLooks := .later }
def CascadeAppliesUptoCardSaid : Prop := Claim7.holds Tryz.pinned (.plain (OpenSpec.upto cascadeAppliesSpec)) cascadeAppliesUptoCard
end Rows
end Go.Proofs.YtldembadjgibjaaGreatDoor
