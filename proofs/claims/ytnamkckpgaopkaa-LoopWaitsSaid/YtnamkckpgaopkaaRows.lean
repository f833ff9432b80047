/-
  No cell of these rows narrows 'for every input' (looked for: loops, veiled, ifaces, maps, wideKeys, modest, calm, conditions, laid).
  DERIVED. THE GIVEN ROWS OF THIS SEAT. 8 by the template 'for every input the law returns true; each argument reads behind the call as it read before'; 0 by the template 'total and deterministic' (their statements: YtnamkckpgaopkaaTotals.lean).
  GIVEN WITH THE SEED: the statements are not yours to turn. If you find one false, say at which input.
  Laid BY PROGRAM, IN A SANDBOX (cutbox-rows.mjs): the forced cells as the released guide's own fill.sh prints them over the translation e3ad192b10b3fb6a… (all of the seat's roots in one cut). By AI agents, Wed Nov 11 2026. No macro, syntax, notation, axiom, sorry.
-/
import Derived.Test.YtnamkckpgaopkaaChecked
import GoSem.Claim
import GoSem.ClaimJoined
import GoSem.ClaimMapViews
import Derived.JoinedTies
import Derived.KernelRfl
namespace Go.Proofs.Ytnamkckpgaopkaa
/- THE CELL 'sum', in the pinned program and in every row, IS THE sha256 OF THE DUMP (.gsa) THAT YtnamkckpgaopkaaProg.lean LOADS. Nothing in Lean hashes anything: it is a label: what it is worth is what the hold of that sum in a sandbox is worth. -/
noncomputable def Try.pinned : Pinned := { name := "ytnamkckpgaopkaa", sum := "e3ad192b10b3fb6a8a4cffc4b9bca993d1f0de0c673175dd882f72444a959516", checked := Try.checked }
namespace Rows
def none {H : Type} : Left H := { results := [], args := [] }

/-- 'knapsacklaw36.LoopFair': WHATEVER THE INPUT: true; the input reads as it did. -/
def loopFairSpec : ChangeSpec := { name := "loopFair", fn := fun _ => fun
  | [d] => { results := [.lit (.bool true)], args := [d] }
  | _ => none }
def loopFairRow : OpenClaim := { program := "ytnamkckpgaopkaa", sum := "e3ad192b10b3fb6a8a4cffc4b9bca993d1f0de0c673175dd882f72444a959516", func := "knapsack/knapsacklaw36.LoopFair", spec := "loopFair", inPlace := ["slices.overlaps[knapsack/queue.Timer]"], unfollowed := true, recurses := true, apart := false }
def LoopFairSaid : Prop := loopFairRow.holds Try.pinned (OpenSpec.ofChange loopFairSpec)

/-- ITS FALSE NEIGHBOUR: 'it returns false'. Refute it at one input. -/
def loopFairWrong : ChangeSpec := { name := "loopFair", fn := fun _ => fun
  | [d] => { results := [.lit (.bool false)], args := [d] }
  | _ => none }
def LoopFairWrongFalsely : Prop := loopFairRow.holds Try.pinned (OpenSpec.ofChange loopFairWrong)

/-- 'knapsacklaw36.LoopTimers': WHATEVER THE INPUT: true; the input reads as it did. -/
def loopTimersSpec : ChangeSpec := { name := "loopTimers", fn := fun _ => fun
  | [d1, d2, d3] => { results := [.lit (.bool true)], args := [d1, d2, d3] }
  | _ => none }
def loopTimersRow : OpenClaim := { program := "ytnamkckpgaopkaa", sum := "e3ad192b10b3fb6a8a4cffc4b9bca993d1f0de0c673175dd882f72444a959516", func := "knapsack/knapsacklaw36.LoopTimers", spec := "loopTimers", inPlace := ["slices.overlaps[knapsack/queue.Timer]"], unfollowed := true, recurses := true, apart := false }
def LoopTimersSaid : Prop := loopTimersRow.holds Try.pinned (OpenSpec.ofChange loopTimersSpec)

/-- ITS FALSE NEIGHBOUR: 'it returns false'. Refute it at one input. -/
def loopTimersWrong : ChangeSpec := { name := "loopTimers", fn := fun _ => fun
  | [d1, d2, d3] => { results := [.lit (.bool false)], args := [d1, d2, d3] }
  | _ => none }
def LoopTimersWrongFalsely : Prop := loopTimersRow.holds Try.pinned (OpenSpec.ofChange loopTimersWrong)

/-- 'knapsacklaw36.LoopRepeats': WHATEVER THE INPUT: true; the input reads as it did. -/
def loopRepeatsSpec : ChangeSpec := { name := "loopRepeats", fn := fun _ => fun
  | [d1, d2, d3] => { results := [.lit (.bool true)], args := [d1, d2, d3] }
  | _ => none }
def loopRepeatsRow : OpenClaim := { program := "ytnamkckpgaopkaa", sum := "e3ad192b10b3fb6a8a4cffc4b9bca993d1f0de0c673175dd882f72444a959516", func := "knapsack/knapsacklaw36.LoopRepeats", spec := "loopRepeats", inPlace := ["slices.overlaps[knapsack/queue.Timer]"], unfollowed := true, recurses := true, apart := false }
def LoopRepeatsSaid : Prop := loopRepeatsRow.holds Try.pinned (OpenSpec.ofChange loopRepeatsSpec)

/-- ITS FALSE NEIGHBOUR: 'it returns false'. Refute it at one input. -/
def loopRepeatsWrong : ChangeSpec := { name := "loopRepeats", fn := fun _ => fun
  | [d1, d2, d3] => { results := [.lit (.bool false)], args := [d1, d2, d3] }
  | _ => none }
def LoopRepeatsWrongFalsely : Prop := loopRepeatsRow.holds Try.pinned (OpenSpec.ofChange loopRepeatsWrong)

/-- 'knapsacklaw36.LoopFrames': WHATEVER THE INPUT: true; the input reads as it did. -/
def loopFramesSpec : ChangeSpec := { name := "loopFrames", fn := fun _ => fun
  | [d1, d2, d3] => { results := [.lit (.bool true)], args := [d1, d2, d3] }
  | _ => none }
def loopFramesRow : OpenClaim := { program := "ytnamkckpgaopkaa", sum := "e3ad192b10b3fb6a8a4cffc4b9bca993d1f0de0c673175dd882f72444a959516", func := "knapsack/knapsacklaw36.LoopFrames", spec := "loopFrames", inPlace := ["slices.overlaps[knapsack/queue.Timer]"], unfollowed := true, recurses := true, apart := false }
def LoopFramesSaid : Prop := loopFramesRow.holds Try.pinned (OpenSpec.ofChange loopFramesSpec)

/-- ITS FALSE NEIGHBOUR: 'it returns false'. Refute it at one input. -/
def loopFramesWrong : ChangeSpec := { name := "loopFrames", fn := fun _ => fun
  | [d1, d2, d3] => { results := [.lit (.bool false)], args := [d1, d2, d3] }
  | _ => none }
def LoopFramesWrongFalsely : Prop := loopFramesRow.holds Try.pinned (OpenSpec.ofChange loopFramesWrong)

/-- 'knapsacklaw36.LoopPlays': WHATEVER THE INPUT: true; the input reads as it did. -/
def loopPlaysSpec : ChangeSpec := { name := "loopPlays", fn := fun _ => fun
  | [d] => { results := [.lit (.bool true)], args := [d] }
  | _ => none }
def loopPlaysRow : OpenClaim := { program := "ytnamkckpgaopkaa", sum := "e3ad192b10b3fb6a8a4cffc4b9bca993d1f0de0c673175dd882f72444a959516", func := "knapsack/knapsacklaw36.LoopPlays", spec := "loopPlays", inPlace := ["slices.overlaps[knapsack/queue.Timer]"], unfollowed := true, recurses := true, apart := false }
def LoopPlaysSaid : Prop := loopPlaysRow.holds Try.pinned (OpenSpec.ofChange loopPlaysSpec)

/-- ITS FALSE NEIGHBOUR: 'it returns false'. Refute it at one input. -/
def loopPlaysWrong : ChangeSpec := { name := "loopPlays", fn := fun _ => fun
  | [d] => { results := [.lit (.bool false)], args := [d] }
  | _ => none }
def LoopPlaysWrongFalsely : Prop := loopPlaysRow.holds Try.pinned (OpenSpec.ofChange loopPlaysWrong)

/-- 'knapsacklaw36.LoopMicrotasks': WHATEVER THE INPUT: true; the input reads as it did. -/
def loopMicrotasksSpec : ChangeSpec := { name := "loopMicrotasks", fn := fun _ => fun
  | [d1, d2] => { results := [.lit (.bool true)], args := [d1, d2] }
  | _ => none }
def loopMicrotasksRow : OpenClaim := { program := "ytnamkckpgaopkaa", sum := "e3ad192b10b3fb6a8a4cffc4b9bca993d1f0de0c673175dd882f72444a959516", func := "knapsack/knapsacklaw36.LoopMicrotasks", spec := "loopMicrotasks", inPlace := ["slices.overlaps[knapsack/queue.Timer]"], unfollowed := true, recurses := true, apart := false }
def LoopMicrotasksSaid : Prop := loopMicrotasksRow.holds Try.pinned (OpenSpec.ofChange loopMicrotasksSpec)

/-- ITS FALSE NEIGHBOUR: 'it returns false'. Refute it at one input. -/
def loopMicrotasksWrong : ChangeSpec := { name := "loopMicrotasks", fn := fun _ => fun
  | [d1, d2] => { results := [.lit (.bool false)], args := [d1, d2] }
  | _ => none }
def LoopMicrotasksWrongFalsely : Prop := loopMicrotasksRow.holds Try.pinned (OpenSpec.ofChange loopMicrotasksWrong)

/-- 'knapsacklaw36.LoopClones': WHATEVER THE INPUT: true; the input reads as it did. -/
def loopClonesSpec : ChangeSpec := { name := "loopClones", fn := fun _ => fun
  | [d1, d2] => { results := [.lit (.bool true)], args := [d1, d2] }
  | _ => none }
def loopClonesRow : OpenClaim := { program := "ytnamkckpgaopkaa", sum := "e3ad192b10b3fb6a8a4cffc4b9bca993d1f0de0c673175dd882f72444a959516", func := "knapsack/knapsacklaw36.LoopClones", spec := "loopClones", inPlace := ["slices.overlaps[knapsack/queue.Timer]"], unfollowed := true, recurses := true, apart := false }
def LoopClonesSaid : Prop := loopClonesRow.holds Try.pinned (OpenSpec.ofChange loopClonesSpec)

/-- ITS FALSE NEIGHBOUR: 'it returns false'. Refute it at one input. -/
def loopClonesWrong : ChangeSpec := { name := "loopClones", fn := fun _ => fun
  | [d1, d2] => { results := [.lit (.bool false)], args := [d1, d2] }
  | _ => none }
def LoopClonesWrongFalsely : Prop := loopClonesRow.holds Try.pinned (OpenSpec.ofChange loopClonesWrong)

/-- 'knapsacklaw36.LoopWaits': WHATEVER THE INPUT: true; the input reads as it did. -/
def loopWaitsSpec : ChangeSpec := { name := "loopWaits", fn := fun _ => fun
  | [d] => { results := [.lit (.bool true)], args := [d] }
  | _ => none }
def loopWaitsRow : OpenClaim := { program := "ytnamkckpgaopkaa", sum := "e3ad192b10b3fb6a8a4cffc4b9bca993d1f0de0c673175dd882f72444a959516", func := "knapsack/knapsacklaw36.LoopWaits", spec := "loopWaits", inPlace := ["slices.overlaps[knapsack/queue.Timer]"], unfollowed := true, recurses := true, apart := false }
def LoopWaitsSaid : Prop := loopWaitsRow.holds Try.pinned (OpenSpec.ofChange loopWaitsSpec)

/-- ITS FALSE NEIGHBOUR: 'it returns false'. Refute it at one input. -/
def loopWaitsWrong : ChangeSpec := { name := "loopWaits", fn := fun _ => fun
  | [d] => { results := [.lit (.bool false)], args := [d] }
  | _ => none }
def LoopWaitsWrongFalsely : Prop := loopWaitsRow.holds Try.pinned (OpenSpec.ofChange loopWaitsWrong)

/- THE SECOND FORM. 'bulk': how many values and letters a reading holds, each counted each time it is reached (what is shared counts as often as it is met; a slice's spare places count too). A statement '..UptoSaid' is the law's where the arguments, and the package variables that the reading takes, are together of bulk at most 1048576: NARROWER than '..Said'. Prove '..Said' where nothing that the law and all that it calls make is longer than what came in: it says more and counts as full. Else prove '..UptoSaid'. A law counts once. -/
mutual
def uptoBulk {H : Type} : DataW H → Nat
  | .lit (.string bytes) => bytes.length + 1
  | .lit _ => 1
  | .nil => 1
  | .ptr d => uptoBulk d + 1
  | .slice elems spare => uptoBulkAll elems + uptoBulkAll spare + 1
  | .agg parts => uptoBulkAll parts + 1
  | .iface _ d => uptoBulk d + 1
  | .map entries => uptoBulkEntries entries + 1
  | .held _ => 1
def uptoBulkAll {H : Type} : List (DataW H) → Nat
  | [] => 0
  | d :: r => uptoBulk d + uptoBulkAll r
def uptoBulkEntries {H : Type} : List (Lit × DataW H) → Nat
  | [] => 0
  | x :: r => uptoBulkEntry x + uptoBulkEntries r
def uptoBulkEntry {H : Type} : Lit × DataW H → Nat
  | (.string bytes, d) => bytes.length + uptoBulk d + 1
  | (_, d) => uptoBulk d + 1
 end
def uptoSmall : (H : Type) → List (DataW H) → Bool := fun _ ds => decide (uptoBulkAll ds ≤ 1048576)
def OpenSpec.upto (s : _root_.Go.ChangeSpec) : _root_.Go.OpenSpec := { _root_.Go.OpenSpec.ofChange s with cond := some uptoSmall }

/-- 'knapsacklaw36.LoopFair', WHERE WHAT IT READS IS OF BULK AT MOST 1048576: true; the input reads as it did. -/
def loopFairUptoRow : OpenClaim := { program := "ytnamkckpgaopkaa", sum := "e3ad192b10b3fb6a8a4cffc4b9bca993d1f0de0c673175dd882f72444a959516", func := "knapsack/knapsacklaw36.LoopFair", spec := "loopFair", inPlace := ["slices.overlaps[knapsack/queue.Timer]"], unfollowed := true, recurses := true, apart := false, narrowed := true }
def LoopFairUptoSaid : Prop := loopFairUptoRow.holds Try.pinned (OpenSpec.upto loopFairSpec)

/-- 'knapsacklaw36.LoopTimers', WHERE WHAT IT READS IS OF BULK AT MOST 1048576: true; the input reads as it did. -/
def loopTimersUptoRow : OpenClaim := { program := "ytnamkckpgaopkaa", sum := "e3ad192b10b3fb6a8a4cffc4b9bca993d1f0de0c673175dd882f72444a959516", func := "knapsack/knapsacklaw36.LoopTimers", spec := "loopTimers", inPlace := ["slices.overlaps[knapsack/queue.Timer]"], unfollowed := true, recurses := true, apart := false, narrowed := true }
def LoopTimersUptoSaid : Prop := loopTimersUptoRow.holds Try.pinned (OpenSpec.upto loopTimersSpec)

/-- 'knapsacklaw36.LoopRepeats', WHERE WHAT IT READS IS OF BULK AT MOST 1048576: true; the input reads as it did. -/
def loopRepeatsUptoRow : OpenClaim := { program := "ytnamkckpgaopkaa", sum := "e3ad192b10b3fb6a8a4cffc4b9bca993d1f0de0c673175dd882f72444a959516", func := "knapsack/knapsacklaw36.LoopRepeats", spec := "loopRepeats", inPlace := ["slices.overlaps[knapsack/queue.Timer]"], unfollowed := true, recurses := true, apart := false, narrowed := true }
def LoopRepeatsUptoSaid : Prop := loopRepeatsUptoRow.holds Try.pinned (OpenSpec.upto loopRepeatsSpec)

/-- 'knapsacklaw36.LoopFrames', WHERE WHAT IT READS IS OF BULK AT MOST 1048576: true; the input reads as it did. -/
def loopFramesUptoRow : OpenClaim := { program := "ytnamkckpgaopkaa", sum := "e3ad192b10b3fb6a8a4cffc4b9bca993d1f0de0c673175dd882f72444a959516", func := "knapsack/knapsacklaw36.LoopFrames", spec := "loopFrames", inPlace := ["slices.overlaps[knapsack/queue.Timer]"], unfollowed := true, recurses := true, apart := false, narrowed := true }
def LoopFramesUptoSaid : Prop := loopFramesUptoRow.holds Try.pinned (OpenSpec.upto loopFramesSpec)

/-- 'knapsacklaw36.LoopPlays', WHERE WHAT IT READS IS OF BULK AT MOST 1048576: true; the input reads as it did. -/
def loopPlaysUptoRow : OpenClaim := { program := "ytnamkckpgaopkaa", sum := "e3ad192b10b3fb6a8a4cffc4b9bca993d1f0de0c673175dd882f72444a959516", func := "knapsack/knapsacklaw36.LoopPlays", spec := "loopPlays", inPlace := ["slices.overlaps[knapsack/queue.Timer]"], unfollowed := true, recurses := true, apart := false, narrowed := true }
def LoopPlaysUptoSaid : Prop := loopPlaysUptoRow.holds Try.pinned (OpenSpec.upto loopPlaysSpec)

/-- 'knapsacklaw36.LoopMicrotasks', WHERE WHAT IT READS IS OF BULK AT MOST 1048576: true; the input reads as it did. -/
def loopMicrotasksUptoRow : OpenClaim := { program := "ytnamkckpgaopkaa", sum := "e3ad192b10b3fb6a8a4cffc4b9bca993d1f0de0c673175dd882f72444a959516", func := "knapsack/knapsacklaw36.LoopMicrotasks", spec := "loopMicrotasks", inPlace := ["slices.overlaps[knapsack/queue.Timer]"], unfollowed := true, recurses := true, apart := false, narrowed := true }
def LoopMicrotasksUptoSaid : Prop := loopMicrotasksUptoRow.holds Try.pinned (OpenSpec.upto loopMicrotasksSpec)

/-- 'knapsacklaw36.LoopClones', WHERE WHAT IT READS IS OF BULK AT MOST 1048576: true; the input reads as it did. -/
def loopClonesUptoRow : OpenClaim := { program := "ytnamkckpgaopkaa", sum := "e3ad192b10b3fb6a8a4cffc4b9bca993d1f0de0c673175dd882f72444a959516", func := "knapsack/knapsacklaw36.LoopClones", spec := "loopClones", inPlace := ["slices.overlaps[knapsack/queue.Timer]"], unfollowed := true, recurses := true, apart := false, narrowed := true }
def LoopClonesUptoSaid : Prop := loopClonesUptoRow.holds Try.pinned (OpenSpec.upto loopClonesSpec)

/-- 'knapsacklaw36.LoopWaits', WHERE WHAT IT READS IS OF BULK AT MOST 1048576: true; the input reads as it did. -/
def loopWaitsUptoRow : OpenClaim := { program := "ytnamkckpgaopkaa", sum := "e3ad192b10b3fb6a8a4cffc4b9bca993d1f0de0c673175dd882f72444a959516", func := "knapsack/knapsacklaw36.LoopWaits", spec := "loopWaits", inPlace := ["slices.overlaps[knapsack/queue.Timer]"], unfollowed := true, recurses := true, apart := false, narrowed := true }
def LoopWaitsUptoSaid : Prop := loopWaitsUptoRow.holds Try.pinned (OpenSpec.upto loopWaitsSpec)

end Rows
end Go.Proofs.Ytnamkckpgaopkaa
