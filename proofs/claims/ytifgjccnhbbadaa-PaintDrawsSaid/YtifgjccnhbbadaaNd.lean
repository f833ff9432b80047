/-
  PaintDraws: the chapter's Size is the model's decode; the characters of a string, repaired; their codes and encodings.
-/
import Derived.Test.YtifgjccnhbbadaaNc
set_option linter.unusedVariables false
set_option linter.unusedSimpArgs false
namespace Go.Proofs.Ytifgjccnhbbadaa
open Go.RowKit Go.K Go.PlainAid Go.Lib

theorem inB_at (s : ByteArray) (i k : Nat) (lo hi : Int) : inB s (i + k) lo hi = true ↔ k < s.size - i ∧ lo ≤ ((s.get! (i + k)).toNat : Int) ∧ ((s.get! (i + k)).toNat : Int) ≤ hi := by
  unfold inB
  by_cases h : i + k < s.size
  · have e : bt s (i + k) = ((s.get! (i + k)).toNat : Int) := by
      have := get_at s (i + k) h
      rw [Nat.add_zero] at this
      rw [← get_bt s (i + k) h, this]
    rw [e]
    simp only [Bool.and_eq_true, decide_eq_true_eq]
    omega
  · have h2 : ¬ k < s.size - i := by omega
    simp [h, h2]
/-- no rune begins at a place -/
abbrev badAt (s : ByteArray) (i : Nat) : Prop := (Utf8.decode s i).1 = 65533 ∧ (Utf8.decode s i).2 = 1
set_option maxRecDepth 100000 in
set_option maxHeartbeats 4000000 in
theorem size_decode (s : ByteArray) (i : Nat) (h : i < s.size) : sizeZ s i = if badAt s i then 0 else ((Utf8.decode s i).2 : Int) := by
  have hb : ∀ k, (s.get! (i + k)).toNat < 256 := fun k => (s.get! (i + k)).toNat_lt
  have b0 := hb 0
  have b1 := hb 1
  have b2 := hb 2
  have b3 := hb 3
  have t1 : tailB s (i + 1) 1 = inB s (i + 1) 128 191 := by simp [tailB]
  have t2 : tailB s (i + 2) 1 = inB s (i + 2) 128 191 := by simp [tailB]
  have t3 : tailB s (i + 2) 2 = (inB s (i + 2) 128 191 && inB s (i + 3) 128 191) := by
    rw [tailB, show List.range 2 = [0, 1] from rfl]
    simp
  have e0 : bt s i = ((s.get! (i + 0)).toNat : Int) := by
    rw [← get_bt s i h, get_at s i h]
  have a0 := fun lo hi => inB_at s i 0 lo hi
  have a1 := fun lo hi => inB_at s i 1 lo hi
  have a2 := fun lo hi => inB_at s i 2 lo hi
  have a3 := fun lo hi => inB_at s i 3 lo hi
  rw [Nat.add_zero] at a0 b0 e0
  show sizeZ s i = if (Utf8.decode s i).1 = 65533 ∧ (Utf8.decode s i).2 = 1 then 0 else ((Utf8.decode s i).2 : Int)
  rw [decode_at]
  unfold sizeZ secB
  rw [t1, t2, t3, e0]
  generalize (s.get! i).toNat = x0 at *
  generalize (s.get! (i + 1)).toNat = x1 at *
  generalize (s.get! (i + 2)).toNat = x2 at *
  generalize (s.get! (i + 3)).toNat = x3 at *
  have hn : 1 ≤ s.size - i := by omega
  generalize s.size - i = n at *
  simp only [Bool.and_eq_true, a0, a1, a2, a3, apply_ite (fun b : Bool => b = true)]
  clear a0 a1 a2 a3 t1 t2 t3 hb e0 h
  unfold decodeN
  by_cases c0 : x0 < 128
  · rw [if_pos (by omega), if_pos c0, if_neg (by simp only; omega)]
    rfl
  · rw [if_neg (by omega), if_neg c0]
    (repeat' split) <;> (try simp only [and_self, not_true_eq_false, not_and, if_true, if_false] at *) <;> omega
end Go.Proofs.Ytifgjccnhbbadaa
