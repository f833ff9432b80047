/-
  DERIVED. GIVEN WITH THE SEED: THE CARDS: each row of YtflokpokaohikaaGreatDoorRows.lean that lists a variable, with what it lists TIED to the program's text (the seventh form; the later family's looks); each row that meets fmt, with fmt's text TOLD by the authors' own Lean function (tested against real Go, not proved from fmt's source: count such statements apart). THE CARD IS WHAT COUNTS. Prove the row's statement (the work); the ties are given (YtflokpokaohikaaGreatDoorTie.lean); close each card by the builder's one call (the guide's Derived/Test/ToyasCard.lean, 'card_holds'). Laid BY PROGRAM, IN A SANDBOX (cutbox-door.mjs). By AI agents, Wed Nov 11 2026. No macro, syntax, notation, axiom, sorry.
-/
import Derived.Test.YtflokpokaohikaaGreatDoorRows
import GoSem.ClaimSeven
namespace Go.Proofs.YtflokpokaohikaaGreatDoor
namespace Rows

/-- THE TIED CARD OF 'knapsacklaw13.CascadeResolves'. -/
def cascadeResolvesCard : Claim7 := { stood := { row := cascadeResolvesRow, standIns := [], harness := (true, "a563cfe9b716e86025ed844ca5f43635913bd4b705f9ea2b23cdf2d72b144b4d"), looks := true }, kinds := [], alts := [], laidByText := true, laidKinds := [.data, .data], laidTests := true, laidLooks := .later }
def CascadeResolvesCardSaid : Prop := Claim7.holds Tryz.pinned (.plain (OpenSpec.ofChange cascadeResolvesSpec)) cascadeResolvesCard

/-- THE SECOND FORM's CARD OF 'knapsacklaw13.CascadeResolves'. -/
def cascadeResolvesUptoCard : Claim7 := { stood := { row := cascadeResolvesUptoRow, standIns := [], harness := (true, "a563cfe9b716e86025ed844ca5f43635913bd4b705f9ea2b23cdf2d72b144b4d"), looks := true }, kinds := [], alts := [], laidByText := true, laidKinds := [.data, .data], laidTests := true, laidLooks := .later }
def CascadeResolvesUptoCardSaid : Prop := Claim7.holds Tryz.pinned (.plain (OpenSpec.upto cascadeResolvesSpec)) cascadeResolvesUptoCard
end Rows
end Go.Proofs.YtflokpokaohikaaGreatDoor
