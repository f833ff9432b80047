/-
  No cell of these rows narrows 'for every input' (looked for: loops, veiled, ifaces, maps, wideKeys, modest, calm, conditions, laid).
  DERIVED. THE GIVEN ROWS OF THIS SEAT. 8 by the template 'for every input the law returns true; each argument reads behind the call as it read before'; 0 by the template 'total and deterministic' (their statements: YtkddkbjgnndflaaTotals.lean).
  GIVEN WITH THE SEED: the statements are not yours to turn. If you find one false, say at which input.
  Laid BY PROGRAM, IN A SANDBOX (cutbox-rows.mjs): the forced cells as the released guide's own fill.sh prints them over the translation f8fcc06274a876b2… (all of the seat's roots in one cut). By AI agents, Wed Nov 11 2026. No macro, syntax, notation, axiom, sorry.
-/
import Derived.Test.YtkddkbjgnndflaaChecked
import GoSem.Claim
import GoSem.ClaimJoined
import GoSem.ClaimMapViews
import Derived.JoinedTies
import Derived.KernelRfl
namespace Go.Proofs.Ytkddkbjgnndflaa
/- THE CELL 'sum', in the pinned program and in every row, IS THE sha256 OF THE DUMP (.gsa) THAT YtkddkbjgnndflaaProg.lean LOADS. Nothing in Lean hashes anything: it is a label: what it is worth is what the hold of that sum in a sandbox is worth. -/
noncomputable def Try.pinned : Pinned := { name := "ytkddkbjgnndflaa", sum := "f8fcc06274a876b2d86cb700d754fd4b16d754820339ad15cb59076180627869", checked := Try.checked }
namespace Rows
def none {H : Type} : Left H := { results := [], args := [] }

/-- 'knapsacklaw04.QueuePlays': WHATEVER THE INPUT: true; the input reads as it did. -/
def queuePlaysSpec : ChangeSpec := { name := "queuePlays", fn := fun _ => fun
  | [d] => { results := [.lit (.bool true)], args := [d] }
  | _ => none }
def queuePlaysRow : OpenClaim := { program := "ytkddkbjgnndflaa", sum := "f8fcc06274a876b2d86cb700d754fd4b16d754820339ad15cb59076180627869", func := "knapsack/knapsacklaw04.QueuePlays", spec := "queuePlays", inPlace := ["slices.overlaps[knapsack/queue.Timer]"], unfollowed := true, recurses := true, apart := false }
def QueuePlaysSaid : Prop := queuePlaysRow.holds Try.pinned (OpenSpec.ofChange queuePlaysSpec)

/-- ITS FALSE NEIGHBOUR: 'it returns false'. Refute it at one input. -/
def queuePlaysWrong : ChangeSpec := { name := "queuePlays", fn := fun _ => fun
  | [d] => { results := [.lit (.bool false)], args := [d] }
  | _ => none }
def QueuePlaysWrongFalsely : Prop := queuePlaysRow.holds Try.pinned (OpenSpec.ofChange queuePlaysWrong)

/-- 'knapsacklaw04.QueueKinds': WHATEVER THE INPUT: true; the input reads as it did. -/
def queueKindsSpec : ChangeSpec := { name := "queueKinds", fn := fun _ => fun
  | [d] => { results := [.lit (.bool true)], args := [d] }
  | _ => none }
def queueKindsRow : OpenClaim := { program := "ytkddkbjgnndflaa", sum := "f8fcc06274a876b2d86cb700d754fd4b16d754820339ad15cb59076180627869", func := "knapsack/knapsacklaw04.QueueKinds", spec := "queueKinds", inPlace := ["slices.overlaps[knapsack/queue.Timer]"], unfollowed := true, recurses := true, apart := false }
def QueueKindsSaid : Prop := queueKindsRow.holds Try.pinned (OpenSpec.ofChange queueKindsSpec)

/-- ITS FALSE NEIGHBOUR: 'it returns false'. Refute it at one input. -/
def queueKindsWrong : ChangeSpec := { name := "queueKinds", fn := fun _ => fun
  | [d] => { results := [.lit (.bool false)], args := [d] }
  | _ => none }
def QueueKindsWrongFalsely : Prop := queueKindsRow.holds Try.pinned (OpenSpec.ofChange queueKindsWrong)

/-- 'knapsacklaw04.QueueClones': WHATEVER THE INPUT: true; the input reads as it did. -/
def queueClonesSpec : ChangeSpec := { name := "queueClones", fn := fun _ => fun
  | [d1, d2] => { results := [.lit (.bool true)], args := [d1, d2] }
  | _ => none }
def queueClonesRow : OpenClaim := { program := "ytkddkbjgnndflaa", sum := "f8fcc06274a876b2d86cb700d754fd4b16d754820339ad15cb59076180627869", func := "knapsack/knapsacklaw04.QueueClones", spec := "queueClones", inPlace := ["slices.overlaps[knapsack/queue.Timer]"], unfollowed := true, recurses := true, apart := false }
def QueueClonesSaid : Prop := queueClonesRow.holds Try.pinned (OpenSpec.ofChange queueClonesSpec)

/-- ITS FALSE NEIGHBOUR: 'it returns false'. Refute it at one input. -/
def queueClonesWrong : ChangeSpec := { name := "queueClones", fn := fun _ => fun
  | [d1, d2] => { results := [.lit (.bool false)], args := [d1, d2] }
  | _ => none }
def QueueClonesWrongFalsely : Prop := queueClonesRow.holds Try.pinned (OpenSpec.ofChange queueClonesWrong)

/-- 'knapsacklaw04.QueueTakes': WHATEVER THE INPUT: true; the input reads as it did. -/
def queueTakesSpec : ChangeSpec := { name := "queueTakes", fn := fun _ => fun
  | [d1, d2] => { results := [.lit (.bool true)], args := [d1, d2] }
  | _ => none }
def queueTakesRow : OpenClaim := { program := "ytkddkbjgnndflaa", sum := "f8fcc06274a876b2d86cb700d754fd4b16d754820339ad15cb59076180627869", func := "knapsack/knapsacklaw04.QueueTakes", spec := "queueTakes", inPlace := ["slices.overlaps[knapsack/queue.Timer]"], unfollowed := true, recurses := true, apart := false }
def QueueTakesSaid : Prop := queueTakesRow.holds Try.pinned (OpenSpec.ofChange queueTakesSpec)

/-- ITS FALSE NEIGHBOUR: 'it returns false'. Refute it at one input. -/
def queueTakesWrong : ChangeSpec := { name := "queueTakes", fn := fun _ => fun
  | [d1, d2] => { results := [.lit (.bool false)], args := [d1, d2] }
  | _ => none }
def QueueTakesWrongFalsely : Prop := queueTakesRow.holds Try.pinned (OpenSpec.ofChange queueTakesWrong)

/-- 'knapsacklaw04.QueueTimerOrder': WHATEVER THE INPUT: true; the input reads as it did. -/
def queueTimerOrderSpec : ChangeSpec := { name := "queueTimerOrder", fn := fun _ => fun
  | [d1, d2] => { results := [.lit (.bool true)], args := [d1, d2] }
  | _ => none }
def queueTimerOrderRow : OpenClaim := { program := "ytkddkbjgnndflaa", sum := "f8fcc06274a876b2d86cb700d754fd4b16d754820339ad15cb59076180627869", func := "knapsack/knapsacklaw04.QueueTimerOrder", spec := "queueTimerOrder", inPlace := ["slices.overlaps[knapsack/queue.Timer]"], unfollowed := true, recurses := true, apart := false }
def QueueTimerOrderSaid : Prop := queueTimerOrderRow.holds Try.pinned (OpenSpec.ofChange queueTimerOrderSpec)

/-- ITS FALSE NEIGHBOUR: 'it returns false'. Refute it at one input. -/
def queueTimerOrderWrong : ChangeSpec := { name := "queueTimerOrder", fn := fun _ => fun
  | [d1, d2] => { results := [.lit (.bool false)], args := [d1, d2] }
  | _ => none }
def QueueTimerOrderWrongFalsely : Prop := queueTimerOrderRow.holds Try.pinned (OpenSpec.ofChange queueTimerOrderWrong)

/-- 'knapsacklaw04.QueueTimerAgain': WHATEVER THE INPUT: true; the input reads as it did. -/
def queueTimerAgainSpec : ChangeSpec := { name := "queueTimerAgain", fn := fun _ => fun
  | [d1, d2, d3] => { results := [.lit (.bool true)], args := [d1, d2, d3] }
  | _ => none }
def queueTimerAgainRow : OpenClaim := { program := "ytkddkbjgnndflaa", sum := "f8fcc06274a876b2d86cb700d754fd4b16d754820339ad15cb59076180627869", func := "knapsack/knapsacklaw04.QueueTimerAgain", spec := "queueTimerAgain", inPlace := ["slices.overlaps[knapsack/queue.Timer]"], unfollowed := true, recurses := true, apart := false }
def QueueTimerAgainSaid : Prop := queueTimerAgainRow.holds Try.pinned (OpenSpec.ofChange queueTimerAgainSpec)

/-- ITS FALSE NEIGHBOUR: 'it returns false'. Refute it at one input. -/
def queueTimerAgainWrong : ChangeSpec := { name := "queueTimerAgain", fn := fun _ => fun
  | [d1, d2, d3] => { results := [.lit (.bool false)], args := [d1, d2, d3] }
  | _ => none }
def QueueTimerAgainWrongFalsely : Prop := queueTimerAgainRow.holds Try.pinned (OpenSpec.ofChange queueTimerAgainWrong)

/-- 'knapsacklaw04.QueueTimes': WHATEVER THE INPUT: true; the input reads as it did. -/
def queueTimesSpec : ChangeSpec := { name := "queueTimes", fn := fun _ => fun
  | [d] => { results := [.lit (.bool true)], args := [d] }
  | _ => none }
def queueTimesRow : OpenClaim := { program := "ytkddkbjgnndflaa", sum := "f8fcc06274a876b2d86cb700d754fd4b16d754820339ad15cb59076180627869", func := "knapsack/knapsacklaw04.QueueTimes", spec := "queueTimes", inPlace := ["slices.overlaps[knapsack/queue.Timer]"], unfollowed := true, recurses := true, apart := false }
def QueueTimesSaid : Prop := queueTimesRow.holds Try.pinned (OpenSpec.ofChange queueTimesSpec)

/-- ITS FALSE NEIGHBOUR: 'it returns false'. Refute it at one input. -/
def queueTimesWrong : ChangeSpec := { name := "queueTimes", fn := fun _ => fun
  | [d] => { results := [.lit (.bool false)], args := [d] }
  | _ => none }
def QueueTimesWrongFalsely : Prop := queueTimesRow.holds Try.pinned (OpenSpec.ofChange queueTimesWrong)

/-- 'knapsacklaw04.QueueTimerClones': WHATEVER THE INPUT: true; the input reads as it did. -/
def queueTimerClonesSpec : ChangeSpec := { name := "queueTimerClones", fn := fun _ => fun
  | [d1, d2] => { results := [.lit (.bool true)], args := [d1, d2] }
  | _ => none }
def queueTimerClonesRow : OpenClaim := { program := "ytkddkbjgnndflaa", sum := "f8fcc06274a876b2d86cb700d754fd4b16d754820339ad15cb59076180627869", func := "knapsack/knapsacklaw04.QueueTimerClones", spec := "queueTimerClones", inPlace := ["slices.overlaps[knapsack/queue.Timer]"], unfollowed := true, recurses := true, apart := false }
def QueueTimerClonesSaid : Prop := queueTimerClonesRow.holds Try.pinned (OpenSpec.ofChange queueTimerClonesSpec)

/-- ITS FALSE NEIGHBOUR: 'it returns false'. Refute it at one input. -/
def queueTimerClonesWrong : ChangeSpec := { name := "queueTimerClones", fn := fun _ => fun
  | [d1, d2] => { results := [.lit (.bool false)], args := [d1, d2] }
  | _ => none }
def QueueTimerClonesWrongFalsely : Prop := queueTimerClonesRow.holds Try.pinned (OpenSpec.ofChange queueTimerClonesWrong)

/- THE SECOND FORM. 'bulk': how many values and letters a reading holds, each counted each time it is reached (what is shared counts as often as it is met; a slice's spare places count too). A statement '..UptoSaid' is the law's where the arguments, and the package variables that the reading takes, are together of bulk at most 1048576: NARROWER than '..Said'. Prove '..Said' where nothing that the law and all that it calls make is longer than what came in: it says more and counts as full. Else prove '..UptoSaid'. A law counts once. -/
mutual
def uptoBulk {H : Type} : DataW H → Nat
  | .lit (.string bytes) => bytes.length + 1
  | .lit _ => 1
  | .nil => 1
  | .ptr d => uptoBulk d + 1
  | .slice elems spare => uptoBulkAll elems + uptoBulkAll spare + 1
  | .agg parts => uptoBulkAll parts + 1
  | .iface _ d => uptoBulk d + 1
  | .map entries => uptoBulkEntries entries + 1
  | .held _ => 1
def uptoBulkAll {H : Type} : List (DataW H) → Nat
  | [] => 0
  | d :: r => uptoBulk d + uptoBulkAll r
def uptoBulkEntries {H : Type} : List (Lit × DataW H) → Nat
  | [] => 0
  | x :: r => uptoBulkEntry x + uptoBulkEntries r
def uptoBulkEntry {H : Type} : Lit × DataW H → Nat
  | (.string bytes, d) => bytes.length + uptoBulk d + 1
  | (_, d) => uptoBulk d + 1
 end
def uptoSmall : (H : Type) → List (DataW H) → Bool := fun _ ds => decide (uptoBulkAll ds ≤ 1048576)
def OpenSpec.upto (s : _root_.Go.ChangeSpec) : _root_.Go.OpenSpec := { _root_.Go.OpenSpec.ofChange s with cond := some uptoSmall }

/-- 'knapsacklaw04.QueuePlays', WHERE WHAT IT READS IS OF BULK AT MOST 1048576: true; the input reads as it did. -/
def queuePlaysUptoRow : OpenClaim := { program := "ytkddkbjgnndflaa", sum := "f8fcc06274a876b2d86cb700d754fd4b16d754820339ad15cb59076180627869", func := "knapsack/knapsacklaw04.QueuePlays", spec := "queuePlays", inPlace := ["slices.overlaps[knapsack/queue.Timer]"], unfollowed := true, recurses := true, apart := false, narrowed := true }
def QueuePlaysUptoSaid : Prop := queuePlaysUptoRow.holds Try.pinned (OpenSpec.upto queuePlaysSpec)

/-- 'knapsacklaw04.QueueKinds', WHERE WHAT IT READS IS OF BULK AT MOST 1048576: true; the input reads as it did. -/
def queueKindsUptoRow : OpenClaim := { program := "ytkddkbjgnndflaa", sum := "f8fcc06274a876b2d86cb700d754fd4b16d754820339ad15cb59076180627869", func := "knapsack/knapsacklaw04.QueueKinds", spec := "queueKinds", inPlace := ["slices.overlaps[knapsack/queue.Timer]"], unfollowed := true, recurses := true, apart := false, narrowed := true }
def QueueKindsUptoSaid : Prop := queueKindsUptoRow.holds Try.pinned (OpenSpec.upto queueKindsSpec)

/-- 'knapsacklaw04.QueueClones', WHERE WHAT IT READS IS OF BULK AT MOST 1048576: true; the input reads as it did. -/
def queueClonesUptoRow : OpenClaim := { program := "ytkddkbjgnndflaa", sum := "f8fcc06274a876b2d86cb700d754fd4b16d754820339ad15cb59076180627869", func := "knapsack/knapsacklaw04.QueueClones", spec := "queueClones", inPlace := ["slices.overlaps[knapsack/queue.Timer]"], unfollowed := true, recurses := true, apart := false, narrowed := true }
def QueueClonesUptoSaid : Prop := queueClonesUptoRow.holds Try.pinned (OpenSpec.upto queueClonesSpec)

/-- 'knapsacklaw04.QueueTakes', WHERE WHAT IT READS IS OF BULK AT MOST 1048576: true; the input reads as it did. -/
def queueTakesUptoRow : OpenClaim := { program := "ytkddkbjgnndflaa", sum := "f8fcc06274a876b2d86cb700d754fd4b16d754820339ad15cb59076180627869", func := "knapsack/knapsacklaw04.QueueTakes", spec := "queueTakes", inPlace := ["slices.overlaps[knapsack/queue.Timer]"], unfollowed := true, recurses := true, apart := false, narrowed := true }
def QueueTakesUptoSaid : Prop := queueTakesUptoRow.holds Try.pinned (OpenSpec.upto queueTakesSpec)

/-- 'knapsacklaw04.QueueTimerOrder', WHERE WHAT IT READS IS OF BULK AT MOST 1048576: true; the input reads as it did. -/
def queueTimerOrderUptoRow : OpenClaim := { program := "ytkddkbjgnndflaa", sum := "f8fcc06274a876b2d86cb700d754fd4b16d754820339ad15cb59076180627869", func := "knapsack/knapsacklaw04.QueueTimerOrder", spec := "queueTimerOrder", inPlace := ["slices.overlaps[knapsack/queue.Timer]"], unfollowed := true, recurses := true, apart := false, narrowed := true }
def QueueTimerOrderUptoSaid : Prop := queueTimerOrderUptoRow.holds Try.pinned (OpenSpec.upto queueTimerOrderSpec)

/-- 'knapsacklaw04.QueueTimerAgain', WHERE WHAT IT READS IS OF BULK AT MOST 1048576: true; the input reads as it did. -/
def queueTimerAgainUptoRow : OpenClaim := { program := "ytkddkbjgnndflaa", sum := "f8fcc06274a876b2d86cb700d754fd4b16d754820339ad15cb59076180627869", func := "knapsack/knapsacklaw04.QueueTimerAgain", spec := "queueTimerAgain", inPlace := ["slices.overlaps[knapsack/queue.Timer]"], unfollowed := true, recurses := true, apart := false, narrowed := true }
def QueueTimerAgainUptoSaid : Prop := queueTimerAgainUptoRow.holds Try.pinned (OpenSpec.upto queueTimerAgainSpec)

/-- 'knapsacklaw04.QueueTimes', WHERE WHAT IT READS IS OF BULK AT MOST 1048576: true; the input reads as it did. -/
def queueTimesUptoRow : OpenClaim := { program := "ytkddkbjgnndflaa", sum := "f8fcc06274a876b2d86cb700d754fd4b16d754820339ad15cb59076180627869", func := "knapsack/knapsacklaw04.QueueTimes", spec := "queueTimes", inPlace := ["slices.overlaps[knapsack/queue.Timer]"], unfollowed := true, recurses := true, apart := false, narrowed := true }
def QueueTimesUptoSaid : Prop := queueTimesUptoRow.holds Try.pinned (OpenSpec.upto queueTimesSpec)

/-- 'knapsacklaw04.QueueTimerClones', WHERE WHAT IT READS IS OF BULK AT MOST 1048576: true; the input reads as it did. -/
def queueTimerClonesUptoRow : OpenClaim := { program := "ytkddkbjgnndflaa", sum := "f8fcc06274a876b2d86cb700d754fd4b16d754820339ad15cb59076180627869", func := "knapsack/knapsacklaw04.QueueTimerClones", spec := "queueTimerClones", inPlace := ["slices.overlaps[knapsack/queue.Timer]"], unfollowed := true, recurses := true, apart := false, narrowed := true }
def QueueTimerClonesUptoSaid : Prop := queueTimerClonesUptoRow.holds Try.pinned (OpenSpec.upto queueTimerClonesSpec)

end Rows
end Go.Proofs.Ytkddkbjgnndflaa
