/-
  PaintDraws: the plain picture: what a list of items makes of a cell.
-/
import Derived.Test.YtifgjccnhbbadaaNk
import Derived.Laws.Cover4
set_option linter.unusedVariables false
set_option linter.unusedSimpArgs false
namespace Go.Proofs.Ytifgjccnhbbadaa
open Go.RowKit Go.K Go.PlainAid Go.Lib

def inC (i : Im) (c r : Nat) : Bool := hasR (meetR i.r i.c) (8 * c + 4) (16 * r + 8)
/-- where the character j begins -/
def wx (i : Im) : Nat → Int
  | 0 => i.r.x
  | j + 1 => wx i j + chW i.z (rn i.tx j)
def wm (i : Im) (j : Nat) : Int := wx i j + chW i.z (rn i.tx j) / 2
def wy (i : Im) : Int := i.r.y + i.r.h / 2
def spR (x : Int) : Bool := decide (x < 128) && isSp x
def hitW (i : Im) (j : Nat) (c r : Nat) : Bool :=
  decide (0 < chW i.z (rn i.tx j)) && !spR (rn i.tx j) && hasR (meetR i.r i.c) (wm i j) (wy i) && decide (wm i j / 8 = c) && decide (wy i / 16 = r)
def wordR (i : Im) (c r : Nat) (old : Int) : Nat → Int
  | 0 => old
  | j + 1 => if hitW i j c r then rn i.tx j else wordR i c r old j
def itemR (i : Im) (c r : Nat) (old : Int) : Int :=
  if i.kd = 1 ∧ i.co ≠ ⟨#[]⟩ then (if inC i c r then 46 else old)
  else if i.kd = 2 then (if inC i c r then 43 else old)
  else if i.kd = 3 then wordR i c r old (runeCount i.tx) else old
def cellR (l : List Im) (c r : Nat) : Int := l.foldl (fun o i => itemR i c r o) 32
theorem cellR_snoc (l : List Im) (i : Im) (c r : Nat) : cellR (l ++ [i]) c r = itemR i c r (cellR l c r) := by unfold cellR; rw [List.foldl_append]; rfl
theorem wordR_ok (i : Im) (c r : Nat) (old : Int) (h : okRune old) : ∀ n, okRune (wordR i c r old n)
  | 0 => h
  | n + 1 => by
    unfold wordR
    split
    · exact rn_ok _ _
    · exact wordR_ok i c r old h n
theorem itemR_ok (i : Im) (c r : Nat) (old : Int) (h : okRune old) : okRune (itemR i c r old) := by
  unfold itemR
  have h46 : okRune 46 := by unfold okRune; omega
  have h43 : okRune 43 := by unfold okRune; omega
  split
  · split
    · exact h46
    · exact h
  · split
    · split
      · exact h43
      · exact h
    · split
      · exact wordR_ok i c r old h _
      · exact h
theorem cellR_ok (c r : Nat) : ∀ (l : List Im) (o : Int), okRune o → okRune (l.foldl (fun o i => itemR i c r o) o)
  | [], o, h => h
  | i :: l, o, h => cellR_ok c r l _ (itemR_ok i c r o h)
/-- a row of the canvas -/
def rowV (n : Nat) (f : Nat → Int) : List Value := (List.range n).map fun c => .int .i32 (f c)
theorem rowV_len (n : Nat) (f : Nat → Int) : (rowV n f).length = n := by simp [rowV]
theorem rowV_set (n c0 : Nat) (f : Nat → Int) (v : Int) (h : c0 < n) : (rowV n f).set c0 (.int .i32 v) = rowV n (fun c => if c = c0 then v else f c) := by
  apply List.ext_getElem
  · simp [rowV]
  · intro k h1 h2
    simp only [rowV, List.getElem_set, List.getElem_map, List.getElem_range]
    by_cases e : c0 = k
    · rw [if_pos e, if_pos e.symm]
    · rw [if_neg e, if_neg (fun q => e q.symm)]
theorem rowV_congr (n : Nat) (f g : Nat → Int) (h : ∀ c, c < n → f c = g c) : rowV n f = rowV n g := by
  unfold rowV
  apply List.map_congr_left
  intro c hc
  rw [h c (List.mem_range.1 hc)]
theorem rowV_const (n : Nat) : List.replicate n (.int .i32 32) = rowV n (fun _ => 32) := by
  unfold rowV
  rw [List.map_const']
  simp
/-- the spaces among the bytes of a character -/
theorem chr_sp (x : Int) (hx : okRune x) : ∀ k, k < (encodeRune x).length → isSp (bt ⟨(encodeRune x).toArray⟩ k) = spR x := by
  intro k hk
  unfold okRune at hx
  have hhi : ∀ y : Int, 128 ≤ y → isSp y = false := by
    intro y hy
    unfold isSp
    have h9 : (y == 9) = false := by rw [beq_eq_false_iff_ne]; omega
    have h10 : (y == 10) = false := by rw [beq_eq_false_iff_ne]; omega
    have h12 : (y == 12) = false := by rw [beq_eq_false_iff_ne]; omega
    have h13 : (y == 13) = false := by rw [beq_eq_false_iff_ne]; omega
    have h32 : (y == 32) = false := by rw [beq_eq_false_iff_ne]; omega
    rw [h9, h10, h12, h13, h32]; rfl
  rw [bt_list _ k _ (List.getElem?_eq_getElem hk)]
  by_cases h1 : x ≤ 127
  · have e : encodeRune x = [x.toNat.toUInt8] := by unfold encodeRune; rw [encodeRuneZ_one (by omega) (by omega)]; rfl
    have hk0 : k = 0 := by rw [e] at hk; simp at hk; exact hk
    subst hk0
    have e0 : (encodeRune x)[0] = x.toNat.toUInt8 := by simp [e]
    rw [e0, toU8 (by omega) (by omega), Int.toNat_of_nonneg (by omega)]
    unfold spR
    rw [decide_eq_true (by omega), Bool.true_and]
  · have hs : spR x = false := by unfold spR; rw [decide_eq_false (by omega), Bool.false_and]
    rw [hs]
    apply hhi
    have : ∀ b ∈ encodeRune x, 128 ≤ b.toNat := by
      intro b hb
      unfold encodeRune at hb
      by_cases h2 : x ≤ 2047
      · rw [encodeRuneZ_two (by omega) (by omega)] at hb
        simp only [List.map_cons, List.map_nil, List.mem_cons, List.not_mem_nil, or_false] at hb
        rcases hb with rfl | rfl <;> rw [toU8 (by omega) (by omega)] <;> omega
      · by_cases h3 : x ≤ 65535
        · rw [encodeRuneZ_three (by omega)] at hb
          simp only [List.map_cons, List.map_nil, List.mem_cons, List.not_mem_nil, or_false] at hb
          rcases hb with rfl | rfl | rfl <;> rw [toU8 (by omega) (by omega)] <;> omega
        · rw [encodeRuneZ_four (by omega) (by omega)] at hb
          simp only [List.map_cons, List.map_nil, List.mem_cons, List.not_mem_nil, or_false] at hb
          rcases hb with rfl | rfl | rfl | rfl <;> rw [toU8 (by omega) (by omega)] <;> omega
    have := this _ (List.getElem_mem hk)
    omega
end Go.Proofs.Ytifgjccnhbbadaa
