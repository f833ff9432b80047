/-
  No cell of these rows narrows 'for every input' (looked for: loops, veiled, ifaces, maps, wideKeys, modest, calm, conditions, laid).
  DERIVED. THE GIVEN ROWS OF THIS SEAT. 8 by the template 'for every input the law returns true; each argument reads behind the call as it read before'; 0 by the template 'total and deterministic' (their statements: YtianjcbofgdfdaaTotals.lean).
  GIVEN WITH THE SEED: the statements are not yours to turn. If you find one false, say at which input.
  Laid BY PROGRAM, IN A SANDBOX (cutbox-rows.mjs): the forced cells as the released guide's own fill.sh prints them over the translation 3f79c00afb03c6b7… (all of the seat's roots in one cut). By AI agents, Wed Nov 11 2026. No macro, syntax, notation, axiom, sorry.
-/
import Derived.Test.YtianjcbofgdfdaaChecked
import GoSem.Claim
import GoSem.ClaimJoined
import GoSem.ClaimMapViews
import Derived.JoinedTies
import Derived.KernelRfl
namespace Go.Proofs.Ytianjcbofgdfdaa
/- THE CELL 'sum', in the pinned program and in every row, IS THE sha256 OF THE DUMP (.gsa) THAT YtianjcbofgdfdaaProg.lean LOADS. Nothing in Lean hashes anything: it is a label: what it is worth is what the hold of that sum in a sandbox is worth. -/
noncomputable def Try.pinned : Pinned := { name := "ytianjcbofgdfdaa", sum := "3f79c00afb03c6b79f92e933ada705a0b7b13f50b94802b8a1703de02f575005", checked := Try.checked }
namespace Rows
def none {H : Type} : Left H := { results := [], args := [] }

/-- 'knapsacklaw37.EventOrder': WHATEVER THE INPUT: true; the input reads as it did. -/
def eventOrderSpec : ChangeSpec := { name := "eventOrder", fn := fun _ => fun
  | [d1, d2] => { results := [.lit (.bool true)], args := [d1, d2] }
  | _ => none }
def eventOrderRow : OpenClaim := { program := "ytianjcbofgdfdaa", sum := "3f79c00afb03c6b79f92e933ada705a0b7b13f50b94802b8a1703de02f575005", func := "knapsack/knapsacklaw37.EventOrder", spec := "eventOrder", unfollowed := true, recurses := true, apart := false }
def EventOrderSaid : Prop := eventOrderRow.holds Try.pinned (OpenSpec.ofChange eventOrderSpec)

/-- ITS FALSE NEIGHBOUR: 'it returns false'. Refute it at one input. -/
def eventOrderWrong : ChangeSpec := { name := "eventOrder", fn := fun _ => fun
  | [d1, d2] => { results := [.lit (.bool false)], args := [d1, d2] }
  | _ => none }
def EventOrderWrongFalsely : Prop := eventOrderRow.holds Try.pinned (OpenSpec.ofChange eventOrderWrong)

/-- 'knapsacklaw37.EventOnce': WHATEVER THE INPUT: true; the input reads as it did. -/
def eventOnceSpec : ChangeSpec := { name := "eventOnce", fn := fun _ => fun
  | [d1, d2] => { results := [.lit (.bool true)], args := [d1, d2] }
  | _ => none }
def eventOnceRow : OpenClaim := { program := "ytianjcbofgdfdaa", sum := "3f79c00afb03c6b79f92e933ada705a0b7b13f50b94802b8a1703de02f575005", func := "knapsack/knapsacklaw37.EventOnce", spec := "eventOnce", unfollowed := true, recurses := true, apart := false }
def EventOnceSaid : Prop := eventOnceRow.holds Try.pinned (OpenSpec.ofChange eventOnceSpec)

/-- ITS FALSE NEIGHBOUR: 'it returns false'. Refute it at one input. -/
def eventOnceWrong : ChangeSpec := { name := "eventOnce", fn := fun _ => fun
  | [d1, d2] => { results := [.lit (.bool false)], args := [d1, d2] }
  | _ => none }
def EventOnceWrongFalsely : Prop := eventOnceRow.holds Try.pinned (OpenSpec.ofChange eventOnceWrong)

/-- 'knapsacklaw37.EventLate': WHATEVER THE INPUT: true; the input reads as it did. -/
def eventLateSpec : ChangeSpec := { name := "eventLate", fn := fun _ => fun
  | [d1, d2, d3] => { results := [.lit (.bool true)], args := [d1, d2, d3] }
  | _ => none }
def eventLateRow : OpenClaim := { program := "ytianjcbofgdfdaa", sum := "3f79c00afb03c6b79f92e933ada705a0b7b13f50b94802b8a1703de02f575005", func := "knapsack/knapsacklaw37.EventLate", spec := "eventLate", unfollowed := true, recurses := true, apart := false }
def EventLateSaid : Prop := eventLateRow.holds Try.pinned (OpenSpec.ofChange eventLateSpec)

/-- ITS FALSE NEIGHBOUR: 'it returns false'. Refute it at one input. -/
def eventLateWrong : ChangeSpec := { name := "eventLate", fn := fun _ => fun
  | [d1, d2, d3] => { results := [.lit (.bool false)], args := [d1, d2, d3] }
  | _ => none }
def EventLateWrongFalsely : Prop := eventLateRow.holds Try.pinned (OpenSpec.ofChange eventLateWrong)

/-- 'knapsacklaw37.EventStops': WHATEVER THE INPUT: true; the input reads as it did. -/
def eventStopsSpec : ChangeSpec := { name := "eventStops", fn := fun _ => fun
  | [d1, d2, d3] => { results := [.lit (.bool true)], args := [d1, d2, d3] }
  | _ => none }
def eventStopsRow : OpenClaim := { program := "ytianjcbofgdfdaa", sum := "3f79c00afb03c6b79f92e933ada705a0b7b13f50b94802b8a1703de02f575005", func := "knapsack/knapsacklaw37.EventStops", spec := "eventStops", unfollowed := true, recurses := true, apart := false }
def EventStopsSaid : Prop := eventStopsRow.holds Try.pinned (OpenSpec.ofChange eventStopsSpec)

/-- ITS FALSE NEIGHBOUR: 'it returns false'. Refute it at one input. -/
def eventStopsWrong : ChangeSpec := { name := "eventStops", fn := fun _ => fun
  | [d1, d2, d3] => { results := [.lit (.bool false)], args := [d1, d2, d3] }
  | _ => none }
def EventStopsWrongFalsely : Prop := eventStopsRow.holds Try.pinned (OpenSpec.ofChange eventStopsWrong)

/-- 'knapsacklaw37.EventPrevents': WHATEVER THE INPUT: true; the input reads as it did. -/
def eventPreventsSpec : ChangeSpec := { name := "eventPrevents", fn := fun _ => fun
  | [d1, d2, d3] => { results := [.lit (.bool true)], args := [d1, d2, d3] }
  | _ => none }
def eventPreventsRow : OpenClaim := { program := "ytianjcbofgdfdaa", sum := "3f79c00afb03c6b79f92e933ada705a0b7b13f50b94802b8a1703de02f575005", func := "knapsack/knapsacklaw37.EventPrevents", spec := "eventPrevents", unfollowed := true, recurses := true, apart := false }
def EventPreventsSaid : Prop := eventPreventsRow.holds Try.pinned (OpenSpec.ofChange eventPreventsSpec)

/-- ITS FALSE NEIGHBOUR: 'it returns false'. Refute it at one input. -/
def eventPreventsWrong : ChangeSpec := { name := "eventPrevents", fn := fun _ => fun
  | [d1, d2, d3] => { results := [.lit (.bool false)], args := [d1, d2, d3] }
  | _ => none }
def EventPreventsWrongFalsely : Prop := eventPreventsRow.holds Try.pinned (OpenSpec.ofChange eventPreventsWrong)

/-- 'knapsacklaw37.EventPlays': WHATEVER THE INPUT: true; the input reads as it did. -/
def eventPlaysSpec : ChangeSpec := { name := "eventPlays", fn := fun _ => fun
  | [d1, d2, d3] => { results := [.lit (.bool true)], args := [d1, d2, d3] }
  | _ => none }
def eventPlaysRow : OpenClaim := { program := "ytianjcbofgdfdaa", sum := "3f79c00afb03c6b79f92e933ada705a0b7b13f50b94802b8a1703de02f575005", func := "knapsack/knapsacklaw37.EventPlays", spec := "eventPlays", unfollowed := true, recurses := true, apart := false }
def EventPlaysSaid : Prop := eventPlaysRow.holds Try.pinned (OpenSpec.ofChange eventPlaysSpec)

/-- ITS FALSE NEIGHBOUR: 'it returns false'. Refute it at one input. -/
def eventPlaysWrong : ChangeSpec := { name := "eventPlays", fn := fun _ => fun
  | [d1, d2, d3] => { results := [.lit (.bool false)], args := [d1, d2, d3] }
  | _ => none }
def EventPlaysWrongFalsely : Prop := eventPlaysRow.holds Try.pinned (OpenSpec.ofChange eventPlaysWrong)

/-- 'knapsacklaw37.EventListeners': WHATEVER THE INPUT: true; the input reads as it did. -/
def eventListenersSpec : ChangeSpec := { name := "eventListeners", fn := fun _ => fun
  | [d1, d2, d3] => { results := [.lit (.bool true)], args := [d1, d2, d3] }
  | _ => none }
def eventListenersRow : OpenClaim := { program := "ytianjcbofgdfdaa", sum := "3f79c00afb03c6b79f92e933ada705a0b7b13f50b94802b8a1703de02f575005", func := "knapsack/knapsacklaw37.EventListeners", spec := "eventListeners", unfollowed := true, recurses := true, apart := false }
def EventListenersSaid : Prop := eventListenersRow.holds Try.pinned (OpenSpec.ofChange eventListenersSpec)

/-- ITS FALSE NEIGHBOUR: 'it returns false'. Refute it at one input. -/
def eventListenersWrong : ChangeSpec := { name := "eventListeners", fn := fun _ => fun
  | [d1, d2, d3] => { results := [.lit (.bool false)], args := [d1, d2, d3] }
  | _ => none }
def EventListenersWrongFalsely : Prop := eventListenersRow.holds Try.pinned (OpenSpec.ofChange eventListenersWrong)

/-- 'knapsacklaw37.EventFrozen': WHATEVER THE INPUT: true; the input reads as it did. -/
def eventFrozenSpec : ChangeSpec := { name := "eventFrozen", fn := fun _ => fun
  | [d1, d2, d3] => { results := [.lit (.bool true)], args := [d1, d2, d3] }
  | _ => none }
def eventFrozenRow : OpenClaim := { program := "ytianjcbofgdfdaa", sum := "3f79c00afb03c6b79f92e933ada705a0b7b13f50b94802b8a1703de02f575005", func := "knapsack/knapsacklaw37.EventFrozen", spec := "eventFrozen", unfollowed := true, recurses := true, apart := false }
def EventFrozenSaid : Prop := eventFrozenRow.holds Try.pinned (OpenSpec.ofChange eventFrozenSpec)

/-- ITS FALSE NEIGHBOUR: 'it returns false'. Refute it at one input. -/
def eventFrozenWrong : ChangeSpec := { name := "eventFrozen", fn := fun _ => fun
  | [d1, d2, d3] => { results := [.lit (.bool false)], args := [d1, d2, d3] }
  | _ => none }
def EventFrozenWrongFalsely : Prop := eventFrozenRow.holds Try.pinned (OpenSpec.ofChange eventFrozenWrong)

/- THE SECOND FORM. 'bulk': how many values and letters a reading holds, each counted each time it is reached (what is shared counts as often as it is met; a slice's spare places count too). A statement '..UptoSaid' is the law's where the arguments, and the package variables that the reading takes, are together of bulk at most 1048576: NARROWER than '..Said'. Prove '..Said' where nothing that the law and all that it calls make is longer than what came in: it says more and counts as full. Else prove '..UptoSaid'. A law counts once. -/
mutual
def uptoBulk {H : Type} : DataW H → Nat
  | .lit (.string bytes) => bytes.length + 1
  | .lit _ => 1
  | .nil => 1
  | .ptr d => uptoBulk d + 1
  | .slice elems spare => uptoBulkAll elems + uptoBulkAll spare + 1
  | .agg parts => uptoBulkAll parts + 1
  | .iface _ d => uptoBulk d + 1
  | .map entries => uptoBulkEntries entries + 1
  | .held _ => 1
def uptoBulkAll {H : Type} : List (DataW H) → Nat
  | [] => 0
  | d :: r => uptoBulk d + uptoBulkAll r
def uptoBulkEntries {H : Type} : List (Lit × DataW H) → Nat
  | [] => 0
  | x :: r => uptoBulkEntry x + uptoBulkEntries r
def uptoBulkEntry {H : Type} : Lit × DataW H → Nat
  | (.string bytes, d) => bytes.length + uptoBulk d + 1
  | (_, d) => uptoBulk d + 1
 end
def uptoSmall : (H : Type) → List (DataW H) → Bool := fun _ ds => decide (uptoBulkAll ds ≤ 1048576)
def OpenSpec.upto (s : _root_.Go.ChangeSpec) : _root_.Go.OpenSpec := { _root_.Go.OpenSpec.ofChange s with cond := some uptoSmall }

/-- 'knapsacklaw37.EventOrder', WHERE WHAT IT READS IS OF BULK AT MOST 1048576: true; the input reads as it did. -/
def eventOrderUptoRow : OpenClaim := { program := "ytianjcbofgdfdaa", sum := "3f79c00afb03c6b79f92e933ada705a0b7b13f50b94802b8a1703de02f575005", func := "knapsack/knapsacklaw37.EventOrder", spec := "eventOrder", unfollowed := true, recurses := true, apart := false, narrowed := true }
def EventOrderUptoSaid : Prop := eventOrderUptoRow.holds Try.pinned (OpenSpec.upto eventOrderSpec)

/-- 'knapsacklaw37.EventOnce', WHERE WHAT IT READS IS OF BULK AT MOST 1048576: true; the input reads as it did. -/
def eventOnceUptoRow : OpenClaim := { program := "ytianjcbofgdfdaa", sum := "3f79c00afb03c6b79f92e933ada705a0b7b13f50b94802b8a1703de02f575005", func := "knapsack/knapsacklaw37.EventOnce", spec := "eventOnce", unfollowed := true, recurses := true, apart := false, narrowed := true }
def EventOnceUptoSaid : Prop := eventOnceUptoRow.holds Try.pinned (OpenSpec.upto eventOnceSpec)

/-- 'knapsacklaw37.EventLate', WHERE WHAT IT READS IS OF BULK AT MOST 1048576: true; the input reads as it did. -/
def eventLateUptoRow : OpenClaim := { program := "ytianjcbofgdfdaa", sum := "3f79c00afb03c6b79f92e933ada705a0b7b13f50b94802b8a1703de02f575005", func := "knapsack/knapsacklaw37.EventLate", spec := "eventLate", unfollowed := true, recurses := true, apart := false, narrowed := true }
def EventLateUptoSaid : Prop := eventLateUptoRow.holds Try.pinned (OpenSpec.upto eventLateSpec)

/-- 'knapsacklaw37.EventStops', WHERE WHAT IT READS IS OF BULK AT MOST 1048576: true; the input reads as it did. -/
def eventStopsUptoRow : OpenClaim := { program := "ytianjcbofgdfdaa", sum := "3f79c00afb03c6b79f92e933ada705a0b7b13f50b94802b8a1703de02f575005", func := "knapsack/knapsacklaw37.EventStops", spec := "eventStops", unfollowed := true, recurses := true, apart := false, narrowed := true }
def EventStopsUptoSaid : Prop := eventStopsUptoRow.holds Try.pinned (OpenSpec.upto eventStopsSpec)

/-- 'knapsacklaw37.EventPrevents', WHERE WHAT IT READS IS OF BULK AT MOST 1048576: true; the input reads as it did. -/
def eventPreventsUptoRow : OpenClaim := { program := "ytianjcbofgdfdaa", sum := "3f79c00afb03c6b79f92e933ada705a0b7b13f50b94802b8a1703de02f575005", func := "knapsack/knapsacklaw37.EventPrevents", spec := "eventPrevents", unfollowed := true, recurses := true, apart := false, narrowed := true }
def EventPreventsUptoSaid : Prop := eventPreventsUptoRow.holds Try.pinned (OpenSpec.upto eventPreventsSpec)

/-- 'knapsacklaw37.EventPlays', WHERE WHAT IT READS IS OF BULK AT MOST 1048576: true; the input reads as it did. -/
def eventPlaysUptoRow : OpenClaim := { program := "ytianjcbofgdfdaa", sum := "3f79c00afb03c6b79f92e933ada705a0b7b13f50b94802b8a1703de02f575005", func := "knapsack/knapsacklaw37.EventPlays", spec := "eventPlays", unfollowed := true, recurses := true, apart := false, narrowed := true }
def EventPlaysUptoSaid : Prop := eventPlaysUptoRow.holds Try.pinned (OpenSpec.upto eventPlaysSpec)

/-- 'knapsacklaw37.EventListeners', WHERE WHAT IT READS IS OF BULK AT MOST 1048576: true; the input reads as it did. -/
def eventListenersUptoRow : OpenClaim := { program := "ytianjcbofgdfdaa", sum := "3f79c00afb03c6b79f92e933ada705a0b7b13f50b94802b8a1703de02f575005", func := "knapsack/knapsacklaw37.EventListeners", spec := "eventListeners", unfollowed := true, recurses := true, apart := false, narrowed := true }
def EventListenersUptoSaid : Prop := eventListenersUptoRow.holds Try.pinned (OpenSpec.upto eventListenersSpec)

/-- 'knapsacklaw37.EventFrozen', WHERE WHAT IT READS IS OF BULK AT MOST 1048576: true; the input reads as it did. -/
def eventFrozenUptoRow : OpenClaim := { program := "ytianjcbofgdfdaa", sum := "3f79c00afb03c6b79f92e933ada705a0b7b13f50b94802b8a1703de02f575005", func := "knapsack/knapsacklaw37.EventFrozen", spec := "eventFrozen", unfollowed := true, recurses := true, apart := false, narrowed := true }
def EventFrozenUptoSaid : Prop := eventFrozenUptoRow.holds Try.pinned (OpenSpec.upto eventFrozenSpec)

end Rows
end Go.Proofs.Ytianjcbofgdfdaa
