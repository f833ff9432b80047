/-
  PaintDraws: the chapter's Points of a repaired string.
-/
import Derived.Test.YtifgjccnhbbadaaNf
import Derived.Test.YtifgjccnhbbadaaMe
set_option linter.unusedVariables false
set_option linter.unusedSimpArgs false
namespace Go.Proofs.Ytifgjccnhbbadaa
open Go.RowKit Go.K Go.PlainAid Go.Lib

def chr (s : ByteArray) (j : Nat) : ByteArray := ⟨(encodeRune (rn s j)).toArray⟩
def chs (s : ByteArray) : Nat → List Value
  | 0 => []
  | j + 1 => chs s j ++ [.string (chr s j)]
theorem chs_len (s : ByteArray) : ∀ j, (chs s j).length = j
  | 0 => rfl
  | j + 1 => by rw [chs, List.length_append, chs_len s j]; rfl
theorem chs_at (s : ByteArray) : ∀ {j n : Nat}, j < n → (chs s n)[j]? = some (.string (chr s j))
  | j, 0, h => absurd h (Nat.not_lt_zero _)
  | j, n + 1, h => by
    rw [chs]
    by_cases q : j < n
    · rw [List.getElem?_append_left (by rw [chs_len]; exact q)]
      exact chs_at s q
    · have : j = n := by omega
      subst this
      rw [List.getElem?_append_right (by rw [chs_len]; exact Nat.le_refl _), chs_len, Nat.sub_self]
      rfl
theorem rep_seg (s : ByteArray) {j : Nat} (hj : j < runeCount s) : (repS s).extract (enc s j).length ((enc s j).length + (encodeRune (rn s j)).length) = chr s j := by
  obtain ⟨B, hB⟩ := enc_split s hj
  apply ByteArray.ext
  rw [ByteArray.data_extract]
  apply Array.ext'
  rw [Array.toList_extract, List.extract_eq_take_drop]
  show List.take _ (List.drop _ (enc s (runeCount s))) = encodeRune (rn s j)
  rw [hB, List.drop_left, Nat.add_sub_cancel_left, List.take_left]
theorem rep_good (s : ByteArray) {j : Nat} (hj : j < runeCount s) : ¬ badAt (repS s) (enc s j).length := by
  intro hb
  have h := rep_decode s hj
  have h1 := hb.1
  have h2 := hb.2
  rw [h] at h1 h2
  simp only at h1 h2
  have h3 : rn s j = 65533 := by have := (rn_ok s j); unfold okRune at this; omega
  rw [h3] at h2
  exact absurd h2 (by decide)
theorem rep_size (s : ByteArray) {j : Nat} (hj : j < runeCount s) : sizeZ (repS s) (enc s j).length = ((encodeRune (rn s j)).length : Int) := by
  rw [size_decode _ _ (rep_lt s hj), if_neg (rep_good s hj), rep_decode s hj]
def PtRel (s : ByteArray) (w0 : World) (g : Nat) (v3 v4 : Value) (wr : World) : Prop :=
  ∃ j : Nat, g = runeCount s - j ∧ j ≤ runeCount s ∧ v4 = .int .i64 ((enc s j).length : Nat) ∧ wr.ownsRow w0.heap.size 9 1 v3 j (chs s j) ∧ Below w0.heap.size w0 wr
set_option maxRecDepth 100000 in
set_option maxHeartbeats 2000000 in
theorem points_any (s : ByteArray) (w : World) (hs : (repS s).size ≤ 200) : Calls Try.prog 21 #[.string (repS s)] w fun e w' => ∃ v, e = .returned v ∧ w'.ownsRow w.heap.size 9 1 v (runeCount s) (chs s (runeCount s)) ∧ Below w.heap.size w w' := by
  obtain ⟨i0, hi, hz0, hz1, hz2⟩ := info_parts infoStr
  have hnc : runeCount s ≤ (repS s).size := by rw [repS_size]; exact (enc_len s _).1
  have HNC := Lib.hid hnc
  go_enter Try.func21, Try.ntmps21
  go_wp2_with fail
  go_loopg [3, 4] (runeCount s) (PtRel s w)
  case atStart => exact ⟨0, rfl, Nat.zero_le _, rfl, ⟨rfl, .inl ⟨rfl, rfl⟩⟩, Below.refl _ _⟩
  case round =>
    obtain ⟨j, hg, hj, rfl, hown, hb⟩ := hrel
    have Hg := Lib.hid hg
    have HO := Lib.hid hown
    have HB := Lib.hid hb
    clear hg hown hb hnc
    by_cases hp : j < runeCount s
    · have hlt := rep_lt s hp
      have hpI : ((enc s j).length : Int) < ((repS s).size : Int) := by omega
      have hsz := size_any (repS s) (enc s j).length wr hlt (by omega)
      rw [rep_size s hp] at hsz
      have HSZ := Lib.hid hsz
      obtain ⟨k, hk⟩ : ∃ k, (encodeRune (rn s j)).length = k := ⟨_, rfl⟩
      have hk1 := (encodeRune_len (rn s j)).1
      have hk4 := (encodeRune_len (rn s j)).2
      have hen : (enc s (j + 1)).length = (enc s j).length + k := by rw [enc, List.length_append, hk]
      have hseg := rep_seg s hp
      have hle : (enc s j).length + k ≤ (repS s).size := by
        have h1 := rep_pos s (j := j + 1) (by omega)
        rw [hen] at h1
        rw [← h1]
        exact posAt_le _ _
      rw [hk] at HSZ hk1 hk4 hseg
      have hw1 := wrapS (a := ((enc s j).length : Int) + k) (by omega) (by omega)
      have hm : max (k : Int) 1 = k := by omega
      have hsl : (((enc s j).length : Int) + k) ≤ ((repS s).size : Int) := by omega
      have HEN := Lib.hid hen
      have HSEG := Lib.hid hseg
      clear hsz hk hen hseg
      go_wp2_with (first
        | (go_at_call 31; refine HSZ.out.mono ?_; rintro e w' ⟨rfl, hw'⟩; rw [hw']; clear hw')
        | (at_builtin; refine wpList_append_own _ rfl _ _ 35 rfl w.heap.size 9 i0 (.string ByteArray.empty) 1 16 Try.underlying35 hi hz0 hz1 hz2 rfl (by decide) _ _ _ rfl (HO.out.alloc _) ⟨wr.heap.size, 0, none⟩ 1 1 [.string ((repS s).extract (enc s j).length ((enc s j).length + k))] rfl rfl ?c1 ?c2 ?c3 ?c4 ?c5 ?_))
      case c1 =>
        intro j' u hj'
        match j', hj' with
        | 0, hj' => simp at hj'; subst hj'; simp [Addr.add]
      case c2 => intro u hu; simp at hu; rw [hu]; rfl
      case c3 => have := HNC.out; unfold maxLen; omega
      case c4 => have := HNC.out; omega
      case c5 => have := HB.out.size; simp; omega
      intro v' w2 hown' hgrow _
      have HO2 := Lib.hid hown'
      have HB2 := Lib.hid ((HB.out.alloc HB.out.size _).grown hgrow (by have := HB.out.size; simp; omega) (fun k hk => (HO.out.lt k hk).1))
      clear hown' hgrow
      go_wp2_with fail
      go_roundg (runeCount s - (j + 1))
      case measure => have := Hg.out; omega
      case rel => exact ⟨j + 1, rfl, by omega, by rw [HEN.out, Int.natCast_add], by have := HO2.out; rw [HSEG.out] at this; exact this, HB2.out⟩
    · have hje : j = runeCount s := by omega
      subst hje
      have hpI : ¬ ((enc s (runeCount s)).length : Int) < ((repS s).size : Int) := by rw [repS_size]; omega
      go_wp2_with fail
      exact bodyPost_ret (results_tmp Try.results21 _ _ _) rfl ⟨_, rfl, HO.out, HB.out⟩
end Go.Proofs.Ytifgjccnhbbadaa
