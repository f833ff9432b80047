/-
  Regions that draw their order at the wide fence (ahead of a loop over a function), and regions of a round whose callees lay blocks.
-/
import Derived.Test.YtifgjccnhbbadaaKx
import Derived.Test.YtifgjccnhbbadaaKc
import Derived.Lib.QuietBelow
set_option linter.unusedVariables false
namespace Go.K
open Go.RowKit

section
variable {P : Program} {ops : Array Oper} {Q : Exit → Act → World → Prop} {md : Region.Mode} {l n : Nat}
theorem oper_wide (hn : 1 ≤ n) {o : Oper} {a : Act} {w : World} {K K' : Act → World → Prop} (hd : noDefer o = true) (hK : ∀ a w, K a w → K' a w) (h : o.wp P a w K (nrm Q)) : o.wpIn Fence.wide n P a w K' Q := by
  unfold Oper.wp at h
  unfold Oper.wpIn
  refine ⟨fun f _ => trivial, ?_⟩
  have e : Oper.semAt Fence.wide.round a.eval o = execOp a.eval o := Oper.semAt_plain Fence.wide _ _ (noDefer_spec hd)
  rw [e]
  generalize (execOp a.eval o).run P w = r at h ⊢
  cases r with
  | ok x w' =>
    cases x <;> simp only [Oper.upon] at h <;> simp only [Oper.uponIn]
    case value u => exact hK _ _ h
    case skip => exact hK _ _ h
    case defer d => exact hK _ _ h
    case enter f args =>
      refine ⟨fun _ => hn, ?_⟩
      refine callsIn_wide.2 (h.mono fun e w'' he => ?_)
      cases e with
      | returned v => exact hK _ _ he
      | panicked c => exact absurd he.1 (by intro q; cases q)
      | outgrown => exact absurd he nrm_out
    case row r' args =>
      refine ⟨fun _ => hn, ?_⟩
      exact fun c cs _ => let ⟨v, w', q, s⟩ := h c cs; ⟨v, w', hK _ _ q, stepsIn_wide.2 s⟩
  | halt x w' =>
    cases x <;> simp only [Oper.upon] at h
    case panic v => exact absurd h.1 (by intro q; cases q)
theorem any_wide (hn : 1 ≤ n) (hd : ops.all noDefer = true) : ∀ (fuel : Nat) (listed : Array Bool) (a : Act) (w : World), wpAny P md ops (nrm Q) fuel listed a w → wpAnyIn Fence.wide n P md ops Q fuel listed a w
  | 0, _, _, _, h => ⟨h.1, h.2.2⟩
  | fuel + 1, listed, a, w, h => by
    refine ⟨fun q => (h.1 q).2, fun i hi => ?_⟩
    have h1 := h.2 i hi
    unfold wpOp at h1
    unfold wpOpIn
    split
    · rename_i ho
      simp only [ho] at h1
      exact any_wide hn hd fuel _ a w h1
    · rename_i o ho
      simp only [ho] at h1
      have hdo : noDefer o = true := by
        obtain ⟨hlt, he⟩ := Array.getElem?_eq_some_iff.1 ho
        exact Array.all_eq_true.1 hd i hlt |> fun q => by rwa [he] at q
      split
      · rename_i hw
        simp only [hw, if_true] at h1
        rcases h1 with h1 | h1
        · exact oper_wide hn hdo (fun a' w' k => any_wide hn hd fuel _ a' w' k) h1
        · exact absurd h1.2 nrm_out
      · rename_i hw
        simp only [hw] at h1
        exact ⟨fun f _ => trivial, any_wide hn hd fuel _ _ w h1⟩
theorem region_wide (hn : 1 ≤ n) {id : Nat} {a : Act} {w : World} (hd : ops.all noDefer = true) (hm : P.follows .mixedOrders = true) (h : wpAny P .any ops (nrm Q) ops.size (Array.replicate ops.size false) a w.drew) : (Code.region id ops true).wpIn Fence.wide n P Q a w :=
  wpIn_region_any hm (any_wide hn hd _ _ _ _ h)
theorem region_round_below {id : Nat} {a : Act} {w : World} {L : List Oper} (hd : L.toArray.all noDefer = true) (hm : P.follows .mixedOrders = true) (hB : Region.lexB .any L.toArray = true)
    (h : wpQuiet P L.toArray (fun w' => ∃ p : Regrown, w' = Sort.grow (redrawn w p.d) p.os) (fun a' => ∀ w', (∃ p : Regrown, w' = Sort.grow (redrawn w p.d) p.os) → Q .normal a' w') L a) : (Code.region id L.toArray true).wpIn (Fence.wide.inRound l) n P Q a w := by
  simp only [Region.lexB, Bool.and_eq_true] at hB
  refine region_round hd hm (wpAny_of_quiet (C := fun w' => ∃ p : Regrown, w' = Sort.grow (redrawn w p.d) p.os) (Q := fun a' => ∀ w', (∃ p : Regrown, w' = Sort.grow (redrawn w p.d) p.os) → Q .normal a' w') (fun _ w' hw' h => ⟨rfl, h w' hw'⟩) _ _ _ _ ⟨⟨w.drawn + 1, #[]⟩, by rw [Sort.grow_empty]; rfl⟩ ?_)
  have := wpAnyQ_lex (C := fun w' => ∃ p : Regrown, w' = Sort.grow (redrawn w p.d) p.os) (md := .any) hB.1 L 0 (Array.replicate L.length false) a (by simp) (by simpa using hB.2) h
  simpa using this
end
end Go.K
