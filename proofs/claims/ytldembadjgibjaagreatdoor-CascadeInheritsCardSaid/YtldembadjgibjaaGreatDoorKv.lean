/-
  The runes of a string: where the j-th one begins, what the first j of them measure, and that a beginning that ends between two runes has the same runes. (Over the model's own decode.)
-/
import Derived.Lib.RuneCount
import Derived.Lib.DecodeN
import Derived.Lib.TrimU
import Derived.Lib.TrimUEq
import Derived.Lib.MapLaws
import Derived.Lib.ValidU
set_option linter.unusedVariables false
set_option linter.unusedSimpArgs false
namespace Go.K
open Go.Lib

/-- the place at which rune number j begins (the string's end, if there are not so many) -/
def posAt (s : ByteArray) : Nat → Nat
  | 0 => 0
  | j + 1 => if posAt s j < s.size then posAt s j + (Utf8.decode s (posAt s j)).2 else posAt s j
/-- what the first j runes measure -/
def cumW (f : Int → Int) (s : ByteArray) : Nat → Int
  | 0 => 0
  | j + 1 => if posAt s j < s.size then cumW f s j + f (Utf8.decode s (posAt s j)).1 else cumW f s j

theorem width_le (s : ByteArray) (p : Nat) (h : p < s.size) : p + (Utf8.decode s p).2 ≤ s.size := by
  have hl : (s.data.toList.drop p).length = s.size - p := by rw [List.length_drop, Array.length_toList]; rfl
  have := decodeL_le (s.data.toList.drop p) (by intro e; rw [e] at hl; simp at hl; omega)
  rw [decodeL_drop, hl] at this
  omega
theorem posAt_le (s : ByteArray) : ∀ j, posAt s j ≤ s.size
  | 0 => Nat.zero_le _
  | j + 1 => by
    rw [posAt]
    split
    · rename_i h; exact width_le s _ h
    · exact posAt_le s j
theorem posAt_succ {s : ByteArray} {j : Nat} (h : posAt s j < s.size) : posAt s (j + 1) = posAt s j + (Utf8.decode s (posAt s j)).2 := by rw [posAt, if_pos h]
theorem cumW_succ {f : Int → Int} {s : ByteArray} {j : Nat} (h : posAt s j < s.size) : cumW f s (j + 1) = cumW f s j + f (Utf8.decode s (posAt s j)).1 := by rw [cumW, if_pos h]
theorem posAt_lt {s : ByteArray} {j : Nat} (h : posAt s j < s.size) : posAt s j < posAt s (j + 1) := by
  have := decode_width_pos s _ h
  rw [posAt_succ h]; omega
theorem posAt_mono (s : ByteArray) : ∀ {i j : Nat}, i ≤ j → posAt s i ≤ posAt s j := by
  intro i j h
  induction h with
  | refl => exact Nat.le_refl _
  | step _ ih =>
    rename_i m _
    refine Nat.le_trans ih ?_
    by_cases q : posAt s m < s.size
    · exact Nat.le_of_lt (posAt_lt q)
    · rw [posAt, if_neg q]; exact Nat.le_refl _
theorem count_from (s : ByteArray) : ∀ fuel j, s.size - posAt s j ≤ fuel → posAt s (j + runeCountFrom s fuel (posAt s j)) = s.size ∧ ∀ i, i < runeCountFrom s fuel (posAt s j) → posAt s (j + i) < s.size
  | 0, j, h => by
    have := posAt_le s j
    rw [runeCountFrom]
    exact ⟨by rw [Nat.add_zero]; omega, fun i hi => absurd hi (Nat.not_lt_zero _)⟩
  | f + 1, j, h => by
    have hle := posAt_le s j
    rw [runeCountFrom]
    by_cases q : posAt s j < s.size
    · have hw := posAt_lt q
      have hs := posAt_succ q
      obtain ⟨h1, h2⟩ := count_from s f (j + 1) (by omega)
      rw [if_pos q, ← hs]
      refine ⟨by rw [← h1]; congr 1; omega, fun i hi => ?_⟩
      cases i with
      | zero => exact q
      | succ i => rw [show j + (i + 1) = j + 1 + i by omega]; exact h2 i (by omega)
    · rw [if_neg q]
      exact ⟨by rw [Nat.add_zero]; omega, fun i hi => absurd hi (Nat.not_lt_zero _)⟩
theorem posAt_n (s : ByteArray) : posAt s (runeCount s) = s.size := by
  have := (count_from s s.size 0 (by simp [posAt])).1
  simpa [posAt, runeCount] using this
theorem posAt_in (s : ByteArray) {j : Nat} (h : j < runeCount s) : posAt s j < s.size := by
  have := (count_from s s.size 0 (by simp [posAt])).2 j (by simpa [posAt, runeCount] using h)
  simpa using this
theorem in_of_pos (s : ByteArray) {j : Nat} (h : posAt s j < s.size) : j < runeCount s := by
  apply Classical.byContradiction
  intro q
  have := posAt_mono s (show runeCount s ≤ j by omega)
  rw [posAt_n] at this
  omega
/-- a loop over the runes: it is at its end exactly where the place is the string's end -/
theorem at_end (s : ByteArray) {j : Nat} (hj : j ≤ runeCount s) (h : ¬ posAt s j < s.size) : j = runeCount s := by
  rcases Nat.lt_or_ge j (runeCount s) with q | q
  · exact absurd (posAt_in s q) h
  · omega

set_option maxHeartbeats 4000000 in
theorem decodeN_cut (n n' b0 b1 b2 b3 c1 c2 c3 : Nat) (hn : n' ≤ n) (h0 : 1 ≤ n') (hw : (decodeN n b0 b1 b2 b3).2 ≤ n') (h1 : 1 < n' → c1 = b1) (h2 : 2 < n' → c2 = b2) (h3 : 3 < n' → c3 = b3) :
    decodeN n' b0 c1 c2 c3 = decodeN n b0 b1 b2 b3 := by
  have e1 : ¬ 1 < n' ∨ c1 = b1 := (Nat.lt_or_ge 1 n').elim (fun q => .inr (h1 q)) (fun q => .inl (by omega))
  have e2 : ¬ 2 < n' ∨ c2 = b2 := (Nat.lt_or_ge 2 n').elim (fun q => .inr (h2 q)) (fun q => .inl (by omega))
  have e3 : ¬ 3 < n' ∨ c3 = b3 := (Nat.lt_or_ge 3 n').elim (fun q => .inr (h3 q)) (fun q => .inl (by omega))
  clear h1 h2 h3
  rcases e1 with e1 | rfl <;> rcases e2 with e2 | rfl <;> rcases e3 with e3 | rfl <;> simp only [decodeN] at hw ⊢ <;> (repeat' split at hw) <;> (repeat' split) <;> first
    | with_reducible rfl
    | (exfalso; simp only at hw; omega)
theorem get_cut (s : ByteArray) (q k : Nat) (hk : k < q) (hq : q ≤ s.size) : (s.extract 0 q).get! k = s.get! k := by
  have e1 : k < (s.extract 0 q).size := by simp [ByteArray.size_extract]; omega
  have e2 : k < s.size := by omega
  have a1 := get_at (s.extract 0 q) k e1
  have a2 := get_at s k e2
  rw [Nat.add_zero] at a1 a2
  rw [a1, a2]
  simp [ByteArray.getElem_eq_getElem_data, ByteArray.data_extract]
theorem decode_cut (s : ByteArray) (q i : Nat) (hq : q ≤ s.size) (hi : i < q) (hw : i + (Utf8.decode s i).2 ≤ q) : Utf8.decode (s.extract 0 q) i = Utf8.decode s i := by
  have hz : (s.extract 0 q).size = q := by simp [ByteArray.size_extract]; omega
  rw [decode_at (s.extract 0 q) i, decode_at s i, hz, get_cut s q i hi hq]
  rw [decode_at s i] at hw
  exact decodeN_cut _ _ _ _ _ _ _ _ _ (by omega) (by omega) (by omega) (fun h => by rw [get_cut s q (i + 1) (by omega) hq]) (fun h => by rw [get_cut s q (i + 2) (by omega) hq]) (fun h => by rw [get_cut s q (i + 3) (by omega) hq])

/-- the beginning that holds the first m runes -/
def pre (s : ByteArray) (m : Nat) : ByteArray := s.extract 0 (posAt s m)
theorem pre_size (s : ByteArray) (m : Nat) : (pre s m).size = posAt s m := by
  have := posAt_le s m
  simp [pre, ByteArray.size_extract]; omega
theorem pre_pos (s : ByteArray) {m : Nat} (hm : m ≤ runeCount s) : ∀ {j : Nat}, j ≤ m → posAt (pre s m) j = posAt s j
  | 0, _ => rfl
  | j + 1, h => by
    have ih := pre_pos s hm (j := j) (by omega)
    have hj : posAt s j < s.size := posAt_in s (by omega)
    have h1 := posAt_lt hj
    have h2 := posAt_mono s h
    have hs := posAt_succ hj
    have e : posAt (pre s m) j < (pre s m).size := by rw [ih, pre_size]; omega
    rw [posAt_succ e, ih, hs]
    rw [pre, decode_cut s _ _ (posAt_le s m) (by omega) (by omega)]
theorem pre_cum (f : Int → Int) (s : ByteArray) {m : Nat} (hm : m ≤ runeCount s) : ∀ {j : Nat}, j ≤ m → cumW f (pre s m) j = cumW f s j
  | 0, _ => rfl
  | j + 1, h => by
    have ih := pre_cum f s hm (j := j) (by omega)
    have hp := pre_pos s hm (j := j) (by omega)
    have hj : posAt s j < s.size := posAt_in s (by omega)
    have h1 := posAt_lt hj
    have h2 := posAt_mono s h
    have hs := posAt_succ hj
    have e : posAt (pre s m) j < (pre s m).size := by rw [hp, pre_size]; omega
    rw [cumW_succ e, cumW_succ hj, ih, hp]
    rw [pre, decode_cut s _ _ (posAt_le s m) (by omega) (by omega)]
theorem pre_count (s : ByteArray) {m : Nat} (hm : m ≤ runeCount s) : runeCount (pre s m) = m := by
  rcases Nat.lt_trichotomy (runeCount (pre s m)) m with q | q | q
  · have h1 := posAt_n (pre s m)
    rw [pre_pos s hm (Nat.le_of_lt q), pre_size] at h1
    have h2 := posAt_in s (show runeCount (pre s m) < runeCount s by omega)
    have h3 := posAt_lt h2
    have h4 := posAt_mono s (show runeCount (pre s m) + 1 ≤ m by omega)
    omega
  · exact q
  · have h1 := posAt_in (pre s m) q
    rw [pre_pos s hm (Nat.le_refl _), pre_size] at h1
    omega
theorem pre_all (s : ByteArray) : pre s (runeCount s) = s := by
  rw [pre, posAt_n]
  exact ByteArray.extract_zero_size
theorem cumW_mono {f : Int → Int} (hf : ∀ r, 0 ≤ f r) (s : ByteArray) : ∀ {i j : Nat}, i ≤ j → cumW f s i ≤ cumW f s j := by
  intro i j h
  induction h with
  | refl => exact Int.le_refl _
  | step _ ih =>
    rename_i m _
    rw [cumW]
    have := hf (Utf8.decode s (posAt s m)).1
    split <;> omega
theorem cumW_le {f : Int → Int} {B : Int} (hB : 0 ≤ B) (hf : ∀ r, f r ≤ B) (s : ByteArray) : ∀ j : Nat, cumW f s j ≤ B * j
  | 0 => by simp [cumW]
  | j + 1 => by
    have ih := cumW_le hB hf s j
    have := hf (Utf8.decode s (posAt s j)).1
    rw [cumW]
    have e : B * ((j + 1 : Nat) : Int) = B * j + B := by rw [Int.natCast_add, Int.mul_add]; simp
    split <;> omega
theorem cumW_nonneg {f : Int → Int} (hf : ∀ r, 0 ≤ f r) (s : ByteArray) (j : Nat) : 0 ≤ cumW f s j := cumW_mono hf s (Nat.zero_le j)
end Go.K
