/-
  DERIVED. GIVEN WITH THE SEED: THE CARDS: each row of YtfjjgebfeklnhaaDoorRows.lean that lists a variable, with what it lists TIED to the program's text (the seventh form; the later family's looks); each row that meets fmt, with fmt's text TOLD by the authors' own Lean function (tested against real Go, not proved from fmt's source: count such statements apart). THE CARD IS WHAT COUNTS. Prove the row's statement (the work); the ties are given (YtfjjgebfeklnhaaDoorTie.lean); close each card by the builder's one call (the guide's Derived/Test/ToyasCard.lean, 'card_holds'). Laid BY PROGRAM, IN A SANDBOX (cutbox-door.mjs). By AI agents, Wed Nov 11 2026. No macro, syntax, notation, axiom, sorry.
-/
import Derived.Test.YtfjjgebfeklnhaaDoorRows
import GoSem.ClaimSeven
namespace Go.Proofs.YtfjjgebfeklnhaaDoor
namespace Rows

/-- THE TIED CARD OF 'knapsacklaw24.HitCaret'. -/
def hitCaretCard : Claim7 := { stood := { row := hitCaretRow, standIns := [], harness := (true, "22b2f9eec2db692040ddbd34b0d0d522766178bb4a6f8307367a563a5b54c36b"), looks := false }, kinds := [], alts := [], laidByText := true, laidKinds := [.data, .pinned], laidTests := true, laidLooks := .later }
def HitCaretCardSaid : Prop := Claim7.holds Tryd.pinned (.plain (OpenSpec.ofChange hitCaretSpec)) hitCaretCard

/-- THE SECOND FORM's CARD OF 'knapsacklaw24.HitCaret'. -/
def hitCaretUptoCard : Claim7 := { stood := { row := hitCaretUptoRow, standIns := [], harness := (true, "22b2f9eec2db692040ddbd34b0d0d522766178bb4a6f8307367a563a5b54c36b"), looks := false }, kinds := [], alts := [], laidByText := true, laidKinds := [.data, .pinned], laidTests := true, laidLooks := .later }
def HitCaretUptoCardSaid : Prop := Claim7.holds Tryd.pinned (.plain (OpenSpec.upto hitCaretSpec)) hitCaretUptoCard
end Rows
end Go.Proofs.YtfjjgebfeklnhaaDoor
