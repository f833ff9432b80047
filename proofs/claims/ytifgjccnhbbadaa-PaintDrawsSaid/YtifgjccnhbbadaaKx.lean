/-
  Regions that draw their order, inside a round of a loop over a function: the plain theory serves there as well.
-/
import Derived.Test.YtifgjccnhbbadaaKu
import Derived.Test.YtifgjccnhbbadaaKg
import Derived.Deep.Quiet
import Derived.BigQuiet
set_option linter.unusedVariables false
namespace Go.K
open Go.RowKit

def nrm (Q : Exit → Act → World → Prop) : Exit → Act → World → Prop := fun e a w => e = .normal ∧ Q .normal a w
theorem nrm_out {Q : Exit → Act → World → Prop} : ¬ LetsOut (nrm Q) := fun ⟨_, _, h, _⟩ => by cases h
def noDefer (o : Oper) : Bool := match o.op with
  | .defer _ => false
  | _ => true
theorem noDefer_spec {o : Oper} (h : noDefer o = true) : ∀ c, o.op ≠ .defer c := by
  intro c e
  unfold noDefer at h
  rw [e] at h
  cases h

section
variable {P : Program} {ops : Array Oper} {Q : Exit → Act → World → Prop} {md : Region.Mode} {l n : Nat}
theorem oper_round {o : Oper} {a : Act} {w : World} {K K' : Act → World → Prop} (hd : noDefer o = true) (hK : ∀ a w, K a w → K' a w) (h : o.wp P a w K (nrm Q)) : o.wpIn (Fence.wide.inRound l) n P a w K' Q := by
  unfold Oper.wp at h
  unfold Oper.wpIn
  refine ⟨fun f _ => trivial, ?_⟩
  have e : Oper.semAt (Fence.wide.inRound l).round a.eval o = execOp a.eval o := Oper.semAt_some l _ _ (noDefer_spec hd)
  rw [e]
  generalize (execOp a.eval o).run P w = r at h ⊢
  cases r with
  | ok x w' =>
    cases x <;> simp only [Oper.upon] at h <;> simp only [Oper.uponIn]
    case value u => exact hK _ _ h
    case skip => exact hK _ _ h
    case defer d => exact hK _ _ h
    case enter f args =>
      refine ⟨(fun q => by cases q), ?_⟩
      refine CallsIn.inRound l (callsIn_wide.2 (h.mono fun e w'' he => ?_))
      cases e with
      | returned v => exact hK _ _ he
      | panicked c => exact absurd he.1 (by intro q; cases q)
      | outgrown => exact absurd he nrm_out
    case row r' args =>
      refine ⟨(fun q => by cases q), ?_⟩
      exact fun c cs _ => let ⟨v, w', q, s⟩ := h c cs; ⟨v, w', hK _ _ q, stepsIn_wide.2 s⟩
  | halt x w' =>
    cases x <;> simp only [Oper.upon] at h
    case panic v => exact absurd h.1 (by intro q; cases q)
theorem any_round (hd : ops.all noDefer = true) : ∀ (fuel : Nat) (listed : Array Bool) (a : Act) (w : World), wpAny P md ops (nrm Q) fuel listed a w → wpAnyIn (Fence.wide.inRound l) n P md ops Q fuel listed a w
  | 0, _, _, _, h => ⟨h.1, h.2.2⟩
  | fuel + 1, listed, a, w, h => by
    refine ⟨fun q => (h.1 q).2, fun i hi => ?_⟩
    have h1 := h.2 i hi
    unfold wpOp at h1
    unfold wpOpIn
    split
    · rename_i ho
      simp only [ho] at h1
      exact any_round hd fuel _ a w h1
    · rename_i o ho
      simp only [ho] at h1
      have hdo : noDefer o = true := by
        obtain ⟨hlt, he⟩ := Array.getElem?_eq_some_iff.1 ho
        exact Array.all_eq_true.1 hd i hlt |> fun q => by rwa [he] at q
      split
      · rename_i hw
        simp only [hw, if_true] at h1
        rcases h1 with h1 | h1
        · exact oper_round hdo (fun a' w' k => any_round hd fuel _ a' w' k) h1
        · exact absurd h1.2 nrm_out
      · rename_i hw
        simp only [hw] at h1
        exact ⟨fun f _ => trivial, any_round hd fuel _ _ w h1⟩
theorem region_round {id : Nat} {a : Act} {w : World} (hd : ops.all noDefer = true) (hm : P.follows .mixedOrders = true) (h : wpAny P .any ops (nrm Q) ops.size (Array.replicate ops.size false) a w.drew) : (Code.region id ops true).wpIn (Fence.wide.inRound l) n P Q a w :=
  wpIn_region_any hm (any_round hd _ _ _ _ h)
theorem region_round_last {S : World → Prop} {c : Nat} {id : Nat} {a : Act} {w : World} (hd : ops.all noDefer = true) (hm : P.follows .mixedOrders = true) (h : wpLast P ops (nrm Q) S c ops.size (Array.replicate ops.size false) a w.drew) : (Code.region id ops true).wpIn (Fence.wide.inRound l) n P Q a w :=
  region_round hd hm (wpLast.any _ _ _ _ h)
theorem region_round_quiet {id : Nat} {a : Act} {w : World} {L : List Oper} (hd : L.toArray.all noDefer = true) (hm : P.follows .mixedOrders = true) (hB : Region.lexB .any L.toArray = true)
    (h : wpQuiet P L.toArray (fun w' => ∃ n, w' = w.drewN n) (fun a' => ∀ w', (∃ n, w' = w.drewN n) → Q .normal a' w') L a) : (Code.region id L.toArray true).wpIn (Fence.wide.inRound l) n P Q a w := by
  simp only [Region.lexB, Bool.and_eq_true] at hB
  refine region_round hd hm (wpAny_of_quiet (C := fun w' => ∃ n, w' = w.drewN n) (Q := fun a' => ∀ w', (∃ n, w' = w.drewN n) → Q .normal a' w') (fun _ w' hw' h => ⟨rfl, h w' hw'⟩) _ _ _ _ ⟨1, rfl⟩ ?_)
  have := wpAnyQ_lex (C := fun w' => ∃ n, w' = w.drewN n) (md := .any) hB.1 L 0 (Array.replicate L.length false) a (by simp) (by simpa using hB.2) h
  simpa using this
end
end Go.K
