/-
  Contract of Next.
-/
import Derived.Test.YtianjcbofgdfdaaEg
set_option linter.unusedVariables false
set_option linter.unusedSimpArgs false
namespace Go.Proofs.Ytianjcbofgdfdaa
open Go.RowKit Go.K Go.K.Ev

def nextLoop (d : Dp) (l : List Li) : Out :=
  if d.done then ⟨none, d, l⟩ else if d.halt then ⟨none, d.fin, l⟩ else nextK (2 * d.path.length - d.st) d l

theorem next_loop (d : Dp) (l : List Li) : d.next l = nextLoop { d with pas := false } l := by
  unfold Dp.next nextLoop
  by_cases h1 : d.done = true
  · simp [h1]
  · by_cases h2 : d.halt = true
    · simp [h1, h2]
    · simp [h1, h2]
theorem nl_done {d : Dp} {l : List Li} (h : d.done = true) : nextLoop d l = ⟨none, d, l⟩ := by simp [nextLoop, h]
theorem nl_halt {d : Dp} {l : List Li} (h : d.done = false) (h2 : d.halt = true) : nextLoop d l = ⟨none, d.fin, l⟩ := by simp [nextLoop, h, h2]
theorem nl_stop {d : Dp} {l : List Li} (h : d.done = false) (h2 : d.halt = false) (hq : d.q = []) (hs : d.stop = true ∨ 2 * d.path.length ≤ d.st) : nextLoop d l = ⟨none, d.fin, l⟩ := by
  unfold nextLoop
  rw [if_neg (by simp [h]), if_neg (by simp [h2])]
  cases hk : 2 * d.path.length - d.st with
  | zero => simp [nextK, hq, scan]
  | succ k =>
    have hs' : d.stop = true := hs.resolve_right (by omega)
    simp [nextK, hq, scan, hs']
theorem nl_begin {d : Dp} {l : List Li} (h : d.done = false) (h2 : d.halt = false) (hq : d.q = []) (hs : d.stop = false) (hst : d.st < 2 * d.path.length) : nextLoop d l = nextLoop (d.begin l) l := by
  have hb : (d.begin l).done = false ∧ (d.begin l).halt = false ∧ (d.begin l).path = d.path ∧ (d.begin l).st = d.st + 1 := by
    unfold Dp.begin
    split <;> simp [h, h2]
  unfold nextLoop
  rw [if_neg (by simp [h]), if_neg (by simp [h2]), if_neg (by simp [hb.1]), if_neg (by simp [hb.2.1]), hb.2.2.1, hb.2.2.2]
  obtain ⟨k, hk⟩ : ∃ k, 2 * d.path.length - d.st = k + 1 := ⟨2 * d.path.length - d.st - 1, by omega⟩
  rw [hk, show 2 * d.path.length - (d.st + 1) = k by omega]
  obtain ⟨ty, bub, can, path, st, q0, cur, ph, pas, stop, halt, prev, done⟩ := d
  simp only at hq hs
  subst hq hs
  simp [nextK, scan]
theorem nextK_skip (d : Dp) (l : List Li) (id : Int) (q : List Int) (hq : d.q = id :: q) (hf : l.findIdx? (fun x => x.id == id) = none) (k : Nat) : nextK k d l = nextK k { d with q := q } l := by
  have hsc : scan l (id :: q) = scan l q := by simp [scan, hf]
  cases k with
  | zero =>
    simp only [nextK, hq, hsc]
    cases scan l q with
    | none => simp [Dp.fin]
    | some p => obtain ⟨i, id', q'⟩ := p; simp [fire]
  | succ k =>
    simp only [nextK, hq, hsc]
    cases scan l q with
    | none => simp [Dp.fin]
    | some p => obtain ⟨i, id', q'⟩ := p; simp [fire]
theorem nl_skip {d : Dp} {l : List Li} {id : Int} {q : List Int} (h : d.done = false) (h2 : d.halt = false) (hq : d.q = id :: q) (hf : l.findIdx? (fun x => x.id == id) = none) : nextLoop d l = nextLoop { d with q := q } l := by
  unfold nextLoop
  rw [if_neg (by simp [h]), if_neg (by simp [h2]), if_neg (by simp [h]), if_neg (by simp [h2])]
  exact nextK_skip d l id q hq hf _
theorem nl_fire {d : Dp} {l : List Li} {id : Int} {q : List Int} {i : Nat} (h : d.done = false) (h2 : d.halt = false) (hq : d.q = id :: q) (hf : l.findIdx? (fun x => x.id == id) = some i) : nextLoop d l = fire d l i id q := by
  have hsc : scan l (id :: q) = some (i, id, q) := by simp [scan, hf]
  unfold nextLoop
  rw [if_neg (by simp [h]), if_neg (by simp [h2])]
  cases 2 * d.path.length - d.st <;> simp [nextK, hq, hsc]
end Go.Proofs.Ytianjcbofgdfdaa
