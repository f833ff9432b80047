/-
  No cell of these rows narrows 'for every input' (looked for: loops, veiled, ifaces, maps, wideKeys, modest, calm, conditions, laid).
  DERIVED. THE GIVEN ROWS OF THIS SEAT. 8 by the template 'for every input the law returns true; each argument reads behind the call as it read before'; 0 by the template 'total and deterministic' (their statements: YtcglnjklnlejmaaTotals.lean).
  GIVEN WITH THE SEED: the statements are not yours to turn. If you find one false, say at which input.
  Laid BY PROGRAM, IN A SANDBOX (cutbox-rows.mjs): the forced cells as the released guide's own fill.sh prints them over the translation bf476533f5f5521e… (all of the seat's roots in one cut). By AI agents, Wed Nov 11 2026. No macro, syntax, notation, axiom, sorry.
-/
import Derived.Test.YtcglnjklnlejmaaChecked
import GoSem.Claim
import GoSem.ClaimJoined
import GoSem.ClaimMapViews
import Derived.JoinedTies
import Derived.KernelRfl
namespace Go.Proofs.Ytcglnjklnlejmaa
/- THE CELL 'sum', in the pinned program and in every row, IS THE sha256 OF THE DUMP (.gsa) THAT YtcglnjklnlejmaaProg.lean LOADS. Nothing in Lean hashes anything: it is a label: what it is worth is what the hold of that sum in a sandbox is worth. -/
noncomputable def Try.pinned : Pinned := { name := "ytcglnjklnlejmaa", sum := "bf476533f5f5521e25dc70dc4c408ea83d9aa6bb832c53b80eef36a76a6f2d3b", checked := Try.checked }
namespace Rows
def none {H : Type} : Left H := { results := [], args := [] }

/-- 'knapsacklaw46.StoreSpace': WHATEVER THE INPUT: true; the input reads as it did. -/
def storeSpaceSpec : ChangeSpec := { name := "storeSpace", fn := fun _ => fun
  | [d1, d2, d3] => { results := [.lit (.bool true)], args := [d1, d2, d3] }
  | _ => none }
def storeSpaceRow : OpenClaim := { program := "ytcglnjklnlejmaa", sum := "bf476533f5f5521e25dc70dc4c408ea83d9aa6bb832c53b80eef36a76a6f2d3b", func := "knapsack/knapsacklaw46.StoreSpace", spec := "storeSpace", inPlace := ["internal/bytealg.abigen_runtime_cmpstring", "slices.overlaps[knapsack/api.StoreChange]", "slices.overlaps[knapsack/api.StorePair]"], unfollowed := true, recurses := true, apart := false }
def StoreSpaceSaid : Prop := storeSpaceRow.holds Try.pinned (OpenSpec.ofChange storeSpaceSpec)

/-- ITS FALSE NEIGHBOUR: 'it returns false'. Refute it at one input. -/
def storeSpaceWrong : ChangeSpec := { name := "storeSpace", fn := fun _ => fun
  | [d1, d2, d3] => { results := [.lit (.bool false)], args := [d1, d2, d3] }
  | _ => none }
def StoreSpaceWrongFalsely : Prop := storeSpaceRow.holds Try.pinned (OpenSpec.ofChange storeSpaceWrong)

/-- 'knapsacklaw46.StoreRuns': WHATEVER THE INPUT: true; the input reads as it did. -/
def storeRunsSpec : ChangeSpec := { name := "storeRuns", fn := fun _ => fun
  | [d] => { results := [.lit (.bool true)], args := [d] }
  | _ => none }
def storeRunsRow : OpenClaim := { program := "ytcglnjklnlejmaa", sum := "bf476533f5f5521e25dc70dc4c408ea83d9aa6bb832c53b80eef36a76a6f2d3b", func := "knapsack/knapsacklaw46.StoreRuns", spec := "storeRuns", inPlace := ["internal/bytealg.abigen_runtime_cmpstring", "slices.overlaps[knapsack/api.StoreChange]", "slices.overlaps[knapsack/api.StorePair]"], unfollowed := true, recurses := true, apart := false }
def StoreRunsSaid : Prop := storeRunsRow.holds Try.pinned (OpenSpec.ofChange storeRunsSpec)

/-- ITS FALSE NEIGHBOUR: 'it returns false'. Refute it at one input. -/
def storeRunsWrong : ChangeSpec := { name := "storeRuns", fn := fun _ => fun
  | [d] => { results := [.lit (.bool false)], args := [d] }
  | _ => none }
def StoreRunsWrongFalsely : Prop := storeRunsRow.holds Try.pinned (OpenSpec.ofChange storeRunsWrong)

/-- 'knapsacklaw46.StoreSerial': WHATEVER THE INPUT: true; the input reads as it did. -/
def storeSerialSpec : ChangeSpec := { name := "storeSerial", fn := fun _ => fun
  | [d] => { results := [.lit (.bool true)], args := [d] }
  | _ => none }
def storeSerialRow : OpenClaim := { program := "ytcglnjklnlejmaa", sum := "bf476533f5f5521e25dc70dc4c408ea83d9aa6bb832c53b80eef36a76a6f2d3b", func := "knapsack/knapsacklaw46.StoreSerial", spec := "storeSerial", inPlace := ["internal/bytealg.abigen_runtime_cmpstring", "slices.overlaps[knapsack/api.StoreChange]", "slices.overlaps[knapsack/api.StorePair]"], unfollowed := true, recurses := true, apart := false }
def StoreSerialSaid : Prop := storeSerialRow.holds Try.pinned (OpenSpec.ofChange storeSerialSpec)

/-- ITS FALSE NEIGHBOUR: 'it returns false'. Refute it at one input. -/
def storeSerialWrong : ChangeSpec := { name := "storeSerial", fn := fun _ => fun
  | [d] => { results := [.lit (.bool false)], args := [d] }
  | _ => none }
def StoreSerialWrongFalsely : Prop := storeSerialRow.holds Try.pinned (OpenSpec.ofChange storeSerialWrong)

/-- 'knapsacklaw46.StoreAtomic': WHATEVER THE INPUT: true; the input reads as it did. -/
def storeAtomicSpec : ChangeSpec := { name := "storeAtomic", fn := fun _ => fun
  | [d1, d2, d3] => { results := [.lit (.bool true)], args := [d1, d2, d3] }
  | _ => none }
def storeAtomicRow : OpenClaim := { program := "ytcglnjklnlejmaa", sum := "bf476533f5f5521e25dc70dc4c408ea83d9aa6bb832c53b80eef36a76a6f2d3b", func := "knapsack/knapsacklaw46.StoreAtomic", spec := "storeAtomic", inPlace := ["internal/bytealg.abigen_runtime_cmpstring", "slices.overlaps[knapsack/api.StoreChange]", "slices.overlaps[knapsack/api.StorePair]"], unfollowed := true, recurses := true, apart := false }
def StoreAtomicSaid : Prop := storeAtomicRow.holds Try.pinned (OpenSpec.ofChange storeAtomicSpec)

/-- ITS FALSE NEIGHBOUR: 'it returns false'. Refute it at one input. -/
def storeAtomicWrong : ChangeSpec := { name := "storeAtomic", fn := fun _ => fun
  | [d1, d2, d3] => { results := [.lit (.bool false)], args := [d1, d2, d3] }
  | _ => none }
def StoreAtomicWrongFalsely : Prop := storeAtomicRow.holds Try.pinned (OpenSpec.ofChange storeAtomicWrong)

/-- 'knapsacklaw46.StoreTurns': WHATEVER THE INPUT: true; the input reads as it did. -/
def storeTurnsSpec : ChangeSpec := { name := "storeTurns", fn := fun _ => fun
  | [d] => { results := [.lit (.bool true)], args := [d] }
  | _ => none }
def storeTurnsRow : OpenClaim := { program := "ytcglnjklnlejmaa", sum := "bf476533f5f5521e25dc70dc4c408ea83d9aa6bb832c53b80eef36a76a6f2d3b", func := "knapsack/knapsacklaw46.StoreTurns", spec := "storeTurns", inPlace := ["internal/bytealg.abigen_runtime_cmpstring", "slices.overlaps[knapsack/api.StoreChange]", "slices.overlaps[knapsack/api.StorePair]"], unfollowed := true, recurses := true, apart := false }
def StoreTurnsSaid : Prop := storeTurnsRow.holds Try.pinned (OpenSpec.ofChange storeTurnsSpec)

/-- ITS FALSE NEIGHBOUR: 'it returns false'. Refute it at one input. -/
def storeTurnsWrong : ChangeSpec := { name := "storeTurns", fn := fun _ => fun
  | [d] => { results := [.lit (.bool false)], args := [d] }
  | _ => none }
def StoreTurnsWrongFalsely : Prop := storeTurnsRow.holds Try.pinned (OpenSpec.ofChange storeTurnsWrong)

/-- 'knapsacklaw46.StoreKeys': WHATEVER THE INPUT: true; the input reads as it did. -/
def storeKeysSpec : ChangeSpec := { name := "storeKeys", fn := fun _ => fun
  | [d1, d2, d3] => { results := [.lit (.bool true)], args := [d1, d2, d3] }
  | _ => none }
def storeKeysRow : OpenClaim := { program := "ytcglnjklnlejmaa", sum := "bf476533f5f5521e25dc70dc4c408ea83d9aa6bb832c53b80eef36a76a6f2d3b", func := "knapsack/knapsacklaw46.StoreKeys", spec := "storeKeys", inPlace := ["internal/bytealg.abigen_runtime_cmpstring", "slices.overlaps[knapsack/api.StoreChange]", "slices.overlaps[knapsack/api.StorePair]"], unfollowed := true, recurses := true, apart := false }
def StoreKeysSaid : Prop := storeKeysRow.holds Try.pinned (OpenSpec.ofChange storeKeysSpec)

/-- ITS FALSE NEIGHBOUR: 'it returns false'. Refute it at one input. -/
def storeKeysWrong : ChangeSpec := { name := "storeKeys", fn := fun _ => fun
  | [d1, d2, d3] => { results := [.lit (.bool false)], args := [d1, d2, d3] }
  | _ => none }
def StoreKeysWrongFalsely : Prop := storeKeysRow.holds Try.pinned (OpenSpec.ofChange storeKeysWrong)

/-- 'knapsacklaw46.StoreLeave': WHATEVER THE INPUT: true; the input reads as it did. -/
def storeLeaveSpec : ChangeSpec := { name := "storeLeave", fn := fun _ => fun
  | [d1, d2] => { results := [.lit (.bool true)], args := [d1, d2] }
  | _ => none }
def storeLeaveRow : OpenClaim := { program := "ytcglnjklnlejmaa", sum := "bf476533f5f5521e25dc70dc4c408ea83d9aa6bb832c53b80eef36a76a6f2d3b", func := "knapsack/knapsacklaw46.StoreLeave", spec := "storeLeave", inPlace := ["internal/bytealg.abigen_runtime_cmpstring", "slices.overlaps[knapsack/api.StoreChange]", "slices.overlaps[knapsack/api.StorePair]"], unfollowed := true, recurses := true, apart := false }
def StoreLeaveSaid : Prop := storeLeaveRow.holds Try.pinned (OpenSpec.ofChange storeLeaveSpec)

/-- ITS FALSE NEIGHBOUR: 'it returns false'. Refute it at one input. -/
def storeLeaveWrong : ChangeSpec := { name := "storeLeave", fn := fun _ => fun
  | [d1, d2] => { results := [.lit (.bool false)], args := [d1, d2] }
  | _ => none }
def StoreLeaveWrongFalsely : Prop := storeLeaveRow.holds Try.pinned (OpenSpec.ofChange storeLeaveWrong)

/-- 'knapsacklaw46.StoreValid': WHATEVER THE INPUT: true; the input reads as it did. -/
def storeValidSpec : ChangeSpec := { name := "storeValid", fn := fun _ => fun
  | [d1, d2] => { results := [.lit (.bool true)], args := [d1, d2] }
  | _ => none }
def storeValidRow : OpenClaim := { program := "ytcglnjklnlejmaa", sum := "bf476533f5f5521e25dc70dc4c408ea83d9aa6bb832c53b80eef36a76a6f2d3b", func := "knapsack/knapsacklaw46.StoreValid", spec := "storeValid", inPlace := ["internal/bytealg.abigen_runtime_cmpstring", "slices.overlaps[knapsack/api.StoreChange]", "slices.overlaps[knapsack/api.StorePair]"], unfollowed := true, recurses := true, apart := false }
def StoreValidSaid : Prop := storeValidRow.holds Try.pinned (OpenSpec.ofChange storeValidSpec)

/-- ITS FALSE NEIGHBOUR: 'it returns false'. Refute it at one input. -/
def storeValidWrong : ChangeSpec := { name := "storeValid", fn := fun _ => fun
  | [d1, d2] => { results := [.lit (.bool false)], args := [d1, d2] }
  | _ => none }
def StoreValidWrongFalsely : Prop := storeValidRow.holds Try.pinned (OpenSpec.ofChange storeValidWrong)

/- THE SECOND FORM. 'bulk': how many values and letters a reading holds, each counted each time it is reached (what is shared counts as often as it is met; a slice's spare places count too). A statement '..UptoSaid' is the law's where the arguments, and the package variables that the reading takes, are together of bulk at most 1048576: NARROWER than '..Said'. Prove '..Said' where nothing that the law and all that it calls make is longer than what came in: it says more and counts as full. Else prove '..UptoSaid'. A law counts once. -/
mutual
def uptoBulk {H : Type} : DataW H → Nat
  | .lit (.string bytes) => bytes.length + 1
  | .lit _ => 1
  | .nil => 1
  | .ptr d => uptoBulk d + 1
  | .slice elems spare => uptoBulkAll elems + uptoBulkAll spare + 1
  | .agg parts => uptoBulkAll parts + 1
  | .iface _ d => uptoBulk d + 1
  | .map entries => uptoBulkEntries entries + 1
  | .held _ => 1
def uptoBulkAll {H : Type} : List (DataW H) → Nat
  | [] => 0
  | d :: r => uptoBulk d + uptoBulkAll r
def uptoBulkEntries {H : Type} : List (Lit × DataW H) → Nat
  | [] => 0
  | x :: r => uptoBulkEntry x + uptoBulkEntries r
def uptoBulkEntry {H : Type} : Lit × DataW H → Nat
  | (.string bytes, d) => bytes.length + uptoBulk d + 1
  | (_, d) => uptoBulk d + 1
 end
def uptoSmall : (H : Type) → List (DataW H) → Bool := fun _ ds => decide (uptoBulkAll ds ≤ 1048576)
def OpenSpec.upto (s : _root_.Go.ChangeSpec) : _root_.Go.OpenSpec := { _root_.Go.OpenSpec.ofChange s with cond := some uptoSmall }

/-- 'knapsacklaw46.StoreSpace', WHERE WHAT IT READS IS OF BULK AT MOST 1048576: true; the input reads as it did. -/
def storeSpaceUptoRow : OpenClaim := { program := "ytcglnjklnlejmaa", sum := "bf476533f5f5521e25dc70dc4c408ea83d9aa6bb832c53b80eef36a76a6f2d3b", func := "knapsack/knapsacklaw46.StoreSpace", spec := "storeSpace", inPlace := ["internal/bytealg.abigen_runtime_cmpstring", "slices.overlaps[knapsack/api.StoreChange]", "slices.overlaps[knapsack/api.StorePair]"], unfollowed := true, recurses := true, apart := false, narrowed := true }
def StoreSpaceUptoSaid : Prop := storeSpaceUptoRow.holds Try.pinned (OpenSpec.upto storeSpaceSpec)

/-- 'knapsacklaw46.StoreRuns', WHERE WHAT IT READS IS OF BULK AT MOST 1048576: true; the input reads as it did. -/
def storeRunsUptoRow : OpenClaim := { program := "ytcglnjklnlejmaa", sum := "bf476533f5f5521e25dc70dc4c408ea83d9aa6bb832c53b80eef36a76a6f2d3b", func := "knapsack/knapsacklaw46.StoreRuns", spec := "storeRuns", inPlace := ["internal/bytealg.abigen_runtime_cmpstring", "slices.overlaps[knapsack/api.StoreChange]", "slices.overlaps[knapsack/api.StorePair]"], unfollowed := true, recurses := true, apart := false, narrowed := true }
def StoreRunsUptoSaid : Prop := storeRunsUptoRow.holds Try.pinned (OpenSpec.upto storeRunsSpec)

/-- 'knapsacklaw46.StoreSerial', WHERE WHAT IT READS IS OF BULK AT MOST 1048576: true; the input reads as it did. -/
def storeSerialUptoRow : OpenClaim := { program := "ytcglnjklnlejmaa", sum := "bf476533f5f5521e25dc70dc4c408ea83d9aa6bb832c53b80eef36a76a6f2d3b", func := "knapsack/knapsacklaw46.StoreSerial", spec := "storeSerial", inPlace := ["internal/bytealg.abigen_runtime_cmpstring", "slices.overlaps[knapsack/api.StoreChange]", "slices.overlaps[knapsack/api.StorePair]"], unfollowed := true, recurses := true, apart := false, narrowed := true }
def StoreSerialUptoSaid : Prop := storeSerialUptoRow.holds Try.pinned (OpenSpec.upto storeSerialSpec)

/-- 'knapsacklaw46.StoreAtomic', WHERE WHAT IT READS IS OF BULK AT MOST 1048576: true; the input reads as it did. -/
def storeAtomicUptoRow : OpenClaim := { program := "ytcglnjklnlejmaa", sum := "bf476533f5f5521e25dc70dc4c408ea83d9aa6bb832c53b80eef36a76a6f2d3b", func := "knapsack/knapsacklaw46.StoreAtomic", spec := "storeAtomic", inPlace := ["internal/bytealg.abigen_runtime_cmpstring", "slices.overlaps[knapsack/api.StoreChange]", "slices.overlaps[knapsack/api.StorePair]"], unfollowed := true, recurses := true, apart := false, narrowed := true }
def StoreAtomicUptoSaid : Prop := storeAtomicUptoRow.holds Try.pinned (OpenSpec.upto storeAtomicSpec)

/-- 'knapsacklaw46.StoreTurns', WHERE WHAT IT READS IS OF BULK AT MOST 1048576: true; the input reads as it did. -/
def storeTurnsUptoRow : OpenClaim := { program := "ytcglnjklnlejmaa", sum := "bf476533f5f5521e25dc70dc4c408ea83d9aa6bb832c53b80eef36a76a6f2d3b", func := "knapsack/knapsacklaw46.StoreTurns", spec := "storeTurns", inPlace := ["internal/bytealg.abigen_runtime_cmpstring", "slices.overlaps[knapsack/api.StoreChange]", "slices.overlaps[knapsack/api.StorePair]"], unfollowed := true, recurses := true, apart := false, narrowed := true }
def StoreTurnsUptoSaid : Prop := storeTurnsUptoRow.holds Try.pinned (OpenSpec.upto storeTurnsSpec)

/-- 'knapsacklaw46.StoreKeys', WHERE WHAT IT READS IS OF BULK AT MOST 1048576: true; the input reads as it did. -/
def storeKeysUptoRow : OpenClaim := { program := "ytcglnjklnlejmaa", sum := "bf476533f5f5521e25dc70dc4c408ea83d9aa6bb832c53b80eef36a76a6f2d3b", func := "knapsack/knapsacklaw46.StoreKeys", spec := "storeKeys", inPlace := ["internal/bytealg.abigen_runtime_cmpstring", "slices.overlaps[knapsack/api.StoreChange]", "slices.overlaps[knapsack/api.StorePair]"], unfollowed := true, recurses := true, apart := false, narrowed := true }
def StoreKeysUptoSaid : Prop := storeKeysUptoRow.holds Try.pinned (OpenSpec.upto storeKeysSpec)

/-- 'knapsacklaw46.StoreLeave', WHERE WHAT IT READS IS OF BULK AT MOST 1048576: true; the input reads as it did. -/
def storeLeaveUptoRow : OpenClaim := { program := "ytcglnjklnlejmaa", sum := "bf476533f5f5521e25dc70dc4c408ea83d9aa6bb832c53b80eef36a76a6f2d3b", func := "knapsack/knapsacklaw46.StoreLeave", spec := "storeLeave", inPlace := ["internal/bytealg.abigen_runtime_cmpstring", "slices.overlaps[knapsack/api.StoreChange]", "slices.overlaps[knapsack/api.StorePair]"], unfollowed := true, recurses := true, apart := false, narrowed := true }
def StoreLeaveUptoSaid : Prop := storeLeaveUptoRow.holds Try.pinned (OpenSpec.upto storeLeaveSpec)

/-- 'knapsacklaw46.StoreValid', WHERE WHAT IT READS IS OF BULK AT MOST 1048576: true; the input reads as it did. -/
def storeValidUptoRow : OpenClaim := { program := "ytcglnjklnlejmaa", sum := "bf476533f5f5521e25dc70dc4c408ea83d9aa6bb832c53b80eef36a76a6f2d3b", func := "knapsack/knapsacklaw46.StoreValid", spec := "storeValid", inPlace := ["internal/bytealg.abigen_runtime_cmpstring", "slices.overlaps[knapsack/api.StoreChange]", "slices.overlaps[knapsack/api.StorePair]"], unfollowed := true, recurses := true, apart := false, narrowed := true }
def StoreValidUptoSaid : Prop := storeValidUptoRow.holds Try.pinned (OpenSpec.upto storeValidSpec)

end Rows
end Go.Proofs.Ytcglnjklnlejmaa
