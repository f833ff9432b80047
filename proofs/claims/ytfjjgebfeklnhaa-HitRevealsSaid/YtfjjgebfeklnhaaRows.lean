/-
  NARROWER THAN 'FOR EVERY INPUT', by the rows' own cells (each row's printed sentence says how): HitExtent: loops · HitClamps: loops · HitScrolls: loops · HitReveals: loops.
  DERIVED. THE GIVEN ROWS OF THIS SEAT. 5 by the template 'for every input the law returns true; each argument reads behind the call as it read before'; 0 by the template 'total and deterministic' (their statements: YtfjjgebfeklnhaaTotals.lean).
  GIVEN WITH THE SEED: the statements are not yours to turn. If you find one false, say at which input.
  Laid BY PROGRAM, IN A SANDBOX (cutbox-rows.mjs): the forced cells as the released guide's own fill.sh prints them over the translation 9d1f347d61c46fbd… (all of the seat's roots in one cut). By AI agents, Wed Nov 11 2026. No macro, syntax, notation, axiom, sorry.
-/
import Derived.Test.YtfjjgebfeklnhaaChecked
import GoSem.Claim
import GoSem.ClaimJoined
import GoSem.ClaimMapViews
import Derived.JoinedTies
import Derived.KernelRfl
namespace Go.Proofs.Ytfjjgebfeklnhaa
/- THE CELL 'sum', in the pinned program and in every row, IS THE sha256 OF THE DUMP (.gsa) THAT YtfjjgebfeklnhaaProg.lean LOADS. Nothing in Lean hashes anything: it is a label: what it is worth is what the hold of that sum in a sandbox is worth. -/
noncomputable def Try.pinned : Pinned := { name := "ytfjjgebfeklnhaa", sum := "9d1f347d61c46fbd629c3c669917a379fa6daebc43e54b157b22b92e5e26834e", checked := Try.checked }
namespace Rows
def none {H : Type} : Left H := { results := [], args := [] }

/-- 'knapsacklaw24.HitTop': WHATEVER THE INPUT: true; the input reads as it did. -/
def hitTopSpec : ChangeSpec := { name := "hitTop", fn := fun _ => fun
  | [d1, d2, d3] => { results := [.lit (.bool true)], args := [d1, d2, d3] }
  | _ => none }
def hitTopRow : OpenClaim := { program := "ytfjjgebfeklnhaa", sum := "9d1f347d61c46fbd629c3c669917a379fa6daebc43e54b157b22b92e5e26834e", func := "knapsack/knapsacklaw24.HitTop", spec := "hitTop", unfollowed := true, recurses := true, apart := false }
def HitTopSaid : Prop := hitTopRow.holds Try.pinned (OpenSpec.ofChange hitTopSpec)

/-- ITS FALSE NEIGHBOUR: 'it returns false'. Refute it at one input. -/
def hitTopWrong : ChangeSpec := { name := "hitTop", fn := fun _ => fun
  | [d1, d2, d3] => { results := [.lit (.bool false)], args := [d1, d2, d3] }
  | _ => none }
def HitTopWrongFalsely : Prop := hitTopRow.holds Try.pinned (OpenSpec.ofChange hitTopWrong)

/-- 'knapsacklaw24.HitExtent': WHATEVER THE INPUT: true; the input reads as it did. -/
def hitExtentSpec : ChangeSpec := { name := "hitExtent", fn := fun _ => fun
  | [d] => { results := [.lit (.bool true)], args := [d] }
  | _ => none }
def hitExtentRow : OpenClaim := { program := "ytfjjgebfeklnhaa", sum := "9d1f347d61c46fbd629c3c669917a379fa6daebc43e54b157b22b92e5e26834e", func := "knapsack/knapsacklaw24.HitExtent", spec := "hitExtent", unfollowed := true, recurses := true, loops := true, apart := false }
def HitExtentSaid : Prop := hitExtentRow.holds Try.pinned (OpenSpec.ofChange hitExtentSpec)

/-- ITS FALSE NEIGHBOUR: 'it returns false'. Refute it at one input. -/
def hitExtentWrong : ChangeSpec := { name := "hitExtent", fn := fun _ => fun
  | [d] => { results := [.lit (.bool false)], args := [d] }
  | _ => none }
def HitExtentWrongFalsely : Prop := hitExtentRow.holds Try.pinned (OpenSpec.ofChange hitExtentWrong)

/-- 'knapsacklaw24.HitClamps': WHATEVER THE INPUT: true; the input reads as it did. -/
def hitClampsSpec : ChangeSpec := { name := "hitClamps", fn := fun _ => fun
  | [d1, d2, d3] => { results := [.lit (.bool true)], args := [d1, d2, d3] }
  | _ => none }
def hitClampsRow : OpenClaim := { program := "ytfjjgebfeklnhaa", sum := "9d1f347d61c46fbd629c3c669917a379fa6daebc43e54b157b22b92e5e26834e", func := "knapsack/knapsacklaw24.HitClamps", spec := "hitClamps", unfollowed := true, recurses := true, loops := true, apart := false }
def HitClampsSaid : Prop := hitClampsRow.holds Try.pinned (OpenSpec.ofChange hitClampsSpec)

/-- ITS FALSE NEIGHBOUR: 'it returns false'. Refute it at one input. -/
def hitClampsWrong : ChangeSpec := { name := "hitClamps", fn := fun _ => fun
  | [d1, d2, d3] => { results := [.lit (.bool false)], args := [d1, d2, d3] }
  | _ => none }
def HitClampsWrongFalsely : Prop := hitClampsRow.holds Try.pinned (OpenSpec.ofChange hitClampsWrong)

/-- 'knapsacklaw24.HitScrolls': WHATEVER THE INPUT: true; the input reads as it did. -/
def hitScrollsSpec : ChangeSpec := { name := "hitScrolls", fn := fun _ => fun
  | [d1, d2, d3] => { results := [.lit (.bool true)], args := [d1, d2, d3] }
  | _ => none }
def hitScrollsRow : OpenClaim := { program := "ytfjjgebfeklnhaa", sum := "9d1f347d61c46fbd629c3c669917a379fa6daebc43e54b157b22b92e5e26834e", func := "knapsack/knapsacklaw24.HitScrolls", spec := "hitScrolls", unfollowed := true, recurses := true, loops := true, apart := false }
def HitScrollsSaid : Prop := hitScrollsRow.holds Try.pinned (OpenSpec.ofChange hitScrollsSpec)

/-- ITS FALSE NEIGHBOUR: 'it returns false'. Refute it at one input. -/
def hitScrollsWrong : ChangeSpec := { name := "hitScrolls", fn := fun _ => fun
  | [d1, d2, d3] => { results := [.lit (.bool false)], args := [d1, d2, d3] }
  | _ => none }
def HitScrollsWrongFalsely : Prop := hitScrollsRow.holds Try.pinned (OpenSpec.ofChange hitScrollsWrong)

/-- 'knapsacklaw24.HitReveals': WHATEVER THE INPUT: true; the input reads as it did. -/
def hitRevealsSpec : ChangeSpec := { name := "hitReveals", fn := fun _ => fun
  | [d1, d2, d3] => { results := [.lit (.bool true)], args := [d1, d2, d3] }
  | _ => none }
def hitRevealsRow : OpenClaim := { program := "ytfjjgebfeklnhaa", sum := "9d1f347d61c46fbd629c3c669917a379fa6daebc43e54b157b22b92e5e26834e", func := "knapsack/knapsacklaw24.HitReveals", spec := "hitReveals", unfollowed := true, recurses := true, loops := true, apart := false }
def HitRevealsSaid : Prop := hitRevealsRow.holds Try.pinned (OpenSpec.ofChange hitRevealsSpec)

/-- ITS FALSE NEIGHBOUR: 'it returns false'. Refute it at one input. -/
def hitRevealsWrong : ChangeSpec := { name := "hitReveals", fn := fun _ => fun
  | [d1, d2, d3] => { results := [.lit (.bool false)], args := [d1, d2, d3] }
  | _ => none }
def HitRevealsWrongFalsely : Prop := hitRevealsRow.holds Try.pinned (OpenSpec.ofChange hitRevealsWrong)

/- THE SECOND FORM. 'bulk': how many values and letters a reading holds, each counted each time it is reached (what is shared counts as often as it is met; a slice's spare places count too). A statement '..UptoSaid' is the law's where the arguments, and the package variables that the reading takes, are together of bulk at most 1048576: NARROWER than '..Said'. Prove '..Said' where nothing that the law and all that it calls make is longer than what came in: it says more and counts as full. Else prove '..UptoSaid'. A law counts once. -/
mutual
def uptoBulk {H : Type} : DataW H → Nat
  | .lit (.string bytes) => bytes.length + 1
  | .lit _ => 1
  | .nil => 1
  | .ptr d => uptoBulk d + 1
  | .slice elems spare => uptoBulkAll elems + uptoBulkAll spare + 1
  | .agg parts => uptoBulkAll parts + 1
  | .iface _ d => uptoBulk d + 1
  | .map entries => uptoBulkEntries entries + 1
  | .held _ => 1
def uptoBulkAll {H : Type} : List (DataW H) → Nat
  | [] => 0
  | d :: r => uptoBulk d + uptoBulkAll r
def uptoBulkEntries {H : Type} : List (Lit × DataW H) → Nat
  | [] => 0
  | x :: r => uptoBulkEntry x + uptoBulkEntries r
def uptoBulkEntry {H : Type} : Lit × DataW H → Nat
  | (.string bytes, d) => bytes.length + uptoBulk d + 1
  | (_, d) => uptoBulk d + 1
 end
def uptoSmall : (H : Type) → List (DataW H) → Bool := fun _ ds => decide (uptoBulkAll ds ≤ 1048576)
def OpenSpec.upto (s : _root_.Go.ChangeSpec) : _root_.Go.OpenSpec := { _root_.Go.OpenSpec.ofChange s with cond := some uptoSmall }

/-- 'knapsacklaw24.HitTop', WHERE WHAT IT READS IS OF BULK AT MOST 1048576: true; the input reads as it did. -/
def hitTopUptoRow : OpenClaim := { program := "ytfjjgebfeklnhaa", sum := "9d1f347d61c46fbd629c3c669917a379fa6daebc43e54b157b22b92e5e26834e", func := "knapsack/knapsacklaw24.HitTop", spec := "hitTop", unfollowed := true, recurses := true, apart := false, narrowed := true }
def HitTopUptoSaid : Prop := hitTopUptoRow.holds Try.pinned (OpenSpec.upto hitTopSpec)

/-- 'knapsacklaw24.HitExtent', WHERE WHAT IT READS IS OF BULK AT MOST 1048576: true; the input reads as it did. -/
def hitExtentUptoRow : OpenClaim := { program := "ytfjjgebfeklnhaa", sum := "9d1f347d61c46fbd629c3c669917a379fa6daebc43e54b157b22b92e5e26834e", func := "knapsack/knapsacklaw24.HitExtent", spec := "hitExtent", unfollowed := true, recurses := true, loops := true, apart := false, narrowed := true }
def HitExtentUptoSaid : Prop := hitExtentUptoRow.holds Try.pinned (OpenSpec.upto hitExtentSpec)

/-- 'knapsacklaw24.HitClamps', WHERE WHAT IT READS IS OF BULK AT MOST 1048576: true; the input reads as it did. -/
def hitClampsUptoRow : OpenClaim := { program := "ytfjjgebfeklnhaa", sum := "9d1f347d61c46fbd629c3c669917a379fa6daebc43e54b157b22b92e5e26834e", func := "knapsack/knapsacklaw24.HitClamps", spec := "hitClamps", unfollowed := true, recurses := true, loops := true, apart := false, narrowed := true }
def HitClampsUptoSaid : Prop := hitClampsUptoRow.holds Try.pinned (OpenSpec.upto hitClampsSpec)

/-- 'knapsacklaw24.HitScrolls', WHERE WHAT IT READS IS OF BULK AT MOST 1048576: true; the input reads as it did. -/
def hitScrollsUptoRow : OpenClaim := { program := "ytfjjgebfeklnhaa", sum := "9d1f347d61c46fbd629c3c669917a379fa6daebc43e54b157b22b92e5e26834e", func := "knapsack/knapsacklaw24.HitScrolls", spec := "hitScrolls", unfollowed := true, recurses := true, loops := true, apart := false, narrowed := true }
def HitScrollsUptoSaid : Prop := hitScrollsUptoRow.holds Try.pinned (OpenSpec.upto hitScrollsSpec)

/-- 'knapsacklaw24.HitReveals', WHERE WHAT IT READS IS OF BULK AT MOST 1048576: true; the input reads as it did. -/
def hitRevealsUptoRow : OpenClaim := { program := "ytfjjgebfeklnhaa", sum := "9d1f347d61c46fbd629c3c669917a379fa6daebc43e54b157b22b92e5e26834e", func := "knapsack/knapsacklaw24.HitReveals", spec := "hitReveals", unfollowed := true, recurses := true, loops := true, apart := false, narrowed := true }
def HitRevealsUptoSaid : Prop := hitRevealsUptoRow.holds Try.pinned (OpenSpec.upto hitRevealsSpec)

end Rows
end Go.Proofs.Ytfjjgebfeklnhaa
