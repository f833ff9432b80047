/-
  PaintDraws: the runes of a string and their encodings, one after the other (plain).
-/
import Derived.Test.YtifgjccnhbbadaaNd
import Derived.Lib.RuneBytes
set_option linter.unusedVariables false
set_option linter.unusedSimpArgs false
namespace Go.Proofs.Ytifgjccnhbbadaa
open Go.RowKit Go.K Go.PlainAid Go.Lib

def okRune (r : Int) : Prop := (0 ≤ r ∧ r < 55296) ∨ (57343 < r ∧ r ≤ 1114111)
set_option maxHeartbeats 2000000 in
theorem decode_ok (s : ByteArray) (i : Nat) : okRune ((Utf8.decode s i).1 : Nat) := by
  have hb : ∀ k, (s.get! k).toNat < 256 := fun k => (s.get! k).toNat_lt
  have b0 := hb i
  have b1 := hb (i + 1)
  have b2 := hb (i + 2)
  have b3 := hb (i + 3)
  rw [decode_at]
  generalize (s.get! i).toNat = x0 at *
  generalize (s.get! (i + 1)).toNat = x1 at *
  generalize (s.get! (i + 2)).toNat = x2 at *
  generalize (s.get! (i + 3)).toNat = x3 at *
  generalize s.size - i = n
  clear hb
  unfold okRune decodeN
  (repeat' split) <;> simp only <;> omega
/-- rune number j -/
def rn (s : ByteArray) (j : Nat) : Int := ((Utf8.decode s (posAt s j)).1 : Nat)
theorem rn_ok (s : ByteArray) (j : Nat) : okRune (rn s j) := decode_ok s _
/-- the first j runes, encoded -/
def enc (s : ByteArray) : Nat → List UInt8
  | 0 => []
  | j + 1 => enc s j ++ encodeRune (rn s j)
theorem encodeRune_len (r : Int) : 1 ≤ (encodeRune r).length ∧ (encodeRune r).length ≤ 4 := by
  have := encodeRuneZ_length r
  unfold encodeRune
  rw [List.length_map]
  exact this
theorem enc_len (s : ByteArray) : ∀ j, j ≤ (enc s j).length ∧ (enc s j).length ≤ 4 * j
  | 0 => ⟨Nat.le_refl _, Nat.le_refl _⟩
  | j + 1 => by
    have ih := enc_len s j
    have := encodeRune_len (rn s j)
    rw [enc, List.length_append]
    omega
theorem toU8 {x : Int} (h0 : 0 ≤ x) (h1 : x < 256) : x.toNat.toUInt8.toNat = x.toNat := by
  rw [Nat.toUInt8_eq, UInt8.toNat_ofNat']
  omega
set_option maxHeartbeats 4000000 in
theorem dec_enc (r : Int) (hr : okRune r) (B : List UInt8) : decodeL (encodeRune r ++ B) = (r.toNat, (encodeRune r).length) := by
  obtain ⟨n, rfl⟩ := Int.eq_ofNat_of_zero_le (show 0 ≤ r by unfold okRune at hr; omega)
  unfold okRune at hr
  rw [decodeL_N]
  unfold encodeRune
  by_cases h1 : n ≤ 127
  · rw [encodeRuneZ_one (by omega) (by omega)]
    have e0 := toU8 (x := (n : Int)) (by omega) (by omega)
    simp only [List.map_cons, List.map_nil, List.cons_append, List.nil_append, List.getD_cons_zero, e0, List.length_cons, List.length_nil]
    unfold decodeN
    rw [if_pos (by omega)]
  · by_cases h2 : n ≤ 2047
    · rw [encodeRuneZ_two (by omega) (by omega)]
      have e0 := toU8 (x := 192 + (n : Int) / 64) (by omega) (by omega)
      have e1 := toU8 (x := 128 + (n : Int) % 64) (by omega) (by omega)
      simp only [List.map_cons, List.map_nil, List.cons_append, List.nil_append, List.getD_cons_zero, List.getD_cons_succ, e0, e1, List.length_cons, List.length_nil]
      unfold decodeN
      (repeat' split) <;> first | (rw [Prod.mk.injEq]; omega) | omega
    · by_cases h3 : n ≤ 65535
      · rw [encodeRuneZ_three (by omega)]
        have e0 := toU8 (x := 224 + (n : Int) / 4096) (by omega) (by omega)
        have e1 := toU8 (x := 128 + (n : Int) / 64 % 64) (by omega) (by omega)
        have e2 := toU8 (x := 128 + (n : Int) % 64) (by omega) (by omega)
        simp only [List.map_cons, List.map_nil, List.cons_append, List.nil_append, List.getD_cons_zero, List.getD_cons_succ, e0, e1, e2, List.length_cons, List.length_nil]
        unfold decodeN
        (repeat' split) <;> first | (rw [Prod.mk.injEq]; omega) | omega
      · rw [encodeRuneZ_four (by omega) (by omega)]
        have e0 := toU8 (x := 240 + (n : Int) / 262144) (by omega) (by omega)
        have e1 := toU8 (x := 128 + (n : Int) / 4096 % 64) (by omega) (by omega)
        have e2 := toU8 (x := 128 + (n : Int) / 64 % 64) (by omega) (by omega)
        have e3 := toU8 (x := 128 + (n : Int) % 64) (by omega) (by omega)
        simp only [List.map_cons, List.map_nil, List.cons_append, List.nil_append, List.getD_cons_zero, List.getD_cons_succ, e0, e1, e2, e3, List.length_cons, List.length_nil]
        unfold decodeN
        (repeat' split) <;> first | (rw [Prod.mk.injEq]; omega) | omega
/-- a valid sequence is the encoding of what it is read as -/
theorem seg_enc (s : ByteArray) (p : Nat) (h : p < s.size) (hb : ¬ badAt s p) : (s.data.toList.drop p).take (Utf8.decode s p).2 = encodeRune ((Utf8.decode s p).1 : Nat) := by
  have hne : s.data.toList.drop p ≠ [] := by
    intro e
    have := congrArg List.length e
    rw [List.length_drop, Array.length_toList] at this
    have e2 : s.data.size = s.size := rfl
    simp only [List.length_nil] at this
    omega
  have := encode_decode (s.data.toList.drop p) hne (by rw [decodeL_drop]; exact hb)
  rw [decodeL_drop] at this
  exact this.symm
theorem bad_enc : encodeRune 65533 = [239, 191, 189] := by rfl
/-- the repaired string -/
def repS (s : ByteArray) : ByteArray := ⟨(enc s (runeCount s)).toArray⟩
theorem repS_size (s : ByteArray) : (repS s).size = (enc s (runeCount s)).length := List.size_toArray
theorem enc_split (s : ByteArray) : ∀ {j n : Nat}, j < n → ∃ B, enc s n = enc s j ++ (encodeRune (rn s j) ++ B)
  | j, 0, h => absurd h (Nat.not_lt_zero _)
  | j, n + 1, h => by
    rcases Nat.lt_or_ge j n with q | q
    · obtain ⟨B, hB⟩ := enc_split s q
      exact ⟨B ++ encodeRune (rn s n), by rw [enc, hB]; simp [List.append_assoc]⟩
    · obtain rfl : j = n := by omega
      exact ⟨[], by rw [enc]; simp⟩
theorem rep_decode (s : ByteArray) {j : Nat} (hj : j < runeCount s) : Utf8.decode (repS s) (enc s j).length = ((rn s j).toNat, (encodeRune (rn s j)).length) := by
  obtain ⟨B, hB⟩ := enc_split s hj
  rw [← decodeL_drop]
  have e : (repS s).data.toList = enc s j ++ (encodeRune (rn s j) ++ B) := by rw [← hB]; rfl
  rw [e, List.drop_left]
  exact dec_enc _ (rn_ok s j) B
theorem rep_lt (s : ByteArray) {j : Nat} (hj : j < runeCount s) : (enc s j).length < (repS s).size := by
  obtain ⟨B, hB⟩ := enc_split s hj
  have := encodeRune_len (rn s j)
  rw [repS_size, hB, List.length_append, List.length_append]
  omega
/-- where the j-th character of the repaired string begins -/
theorem rep_pos (s : ByteArray) : ∀ {j : Nat}, j ≤ runeCount s → posAt (repS s) j = (enc s j).length
  | 0, _ => rfl
  | j + 1, h => by
    have ih := rep_pos s (j := j) (by omega)
    have hl := rep_lt s (show j < runeCount s by omega)
    rw [posAt_succ (by rw [ih]; exact hl), ih, rep_decode s (by omega), enc, List.length_append]
theorem rep_count (s : ByteArray) : runeCount (repS s) = runeCount s := by
  rcases Nat.lt_trichotomy (runeCount (repS s)) (runeCount s) with q | q | q
  · have h1 := posAt_n (repS s)
    rw [rep_pos s (Nat.le_of_lt q)] at h1
    have := rep_lt s q
    omega
  · exact q
  · have h1 := posAt_in (repS s) q
    rw [rep_pos s (Nat.le_refl _), repS_size] at h1
    omega
theorem rep_rn (s : ByteArray) {j : Nat} (hj : j < runeCount s) : rn (repS s) j = rn s j := by
  have := rn_ok s j
  unfold rn
  rw [rep_pos s (Nat.le_of_lt hj), rep_decode s hj]
  unfold okRune at this
  show ((rn s j).toNat : Int) = rn s j
  omega
end Go.Proofs.Ytifgjccnhbbadaa
