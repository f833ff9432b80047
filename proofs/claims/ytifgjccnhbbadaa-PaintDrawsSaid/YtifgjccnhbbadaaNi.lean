/-
  PaintDraws: the chapter's Space and Fields of one character.
-/
import Derived.Test.YtifgjccnhbbadaaNh
set_option linter.unusedVariables false
set_option linter.unusedSimpArgs false
namespace Go.Proofs.Ytifgjccnhbbadaa
open Go.RowKit Go.K Go.PlainAid Go.Lib

theorem spaceR_any (c : Int) (w : World) : Calls Try.prog 34 #[.int .u8 c] w fun e w' => e = .returned (.bool (isSp c)) ∧ w' = w := by
  by_cases h0 : c = 9
  · subst h0
    go_enter Try.func34, Try.ntmps34
    go_wp2_with fail
    exact bodyPost_ret (results_tmp Try.results34 _ _ _) rfl ⟨rfl, rfl⟩
  · skip
    by_cases h1 : c = 10
    · subst h1
      go_enter Try.func34, Try.ntmps34
      go_wp2_with fail
      exact bodyPost_ret (results_tmp Try.results34 _ _ _) rfl ⟨rfl, rfl⟩
    · skip
      by_cases h2 : c = 12
      · subst h2
        go_enter Try.func34, Try.ntmps34
        go_wp2_with fail
        exact bodyPost_ret (results_tmp Try.results34 _ _ _) rfl ⟨rfl, rfl⟩
      · skip
        by_cases h3 : c = 13
        · subst h3
          go_enter Try.func34, Try.ntmps34
          go_wp2_with fail
          exact bodyPost_ret (results_tmp Try.results34 _ _ _) rfl ⟨rfl, rfl⟩
        · skip
          by_cases h4 : c = 32
          · subst h4
            go_enter Try.func34, Try.ntmps34
            go_wp2_with fail
            exact bodyPost_ret (results_tmp Try.results34 _ _ _) rfl ⟨rfl, rfl⟩
          · skip
            go_enter Try.func34, Try.ntmps34
            go_wp2_with fail
            exact bodyPost_ret (results_tmp Try.results34 _ _ _) rfl ⟨rfl, rfl⟩

def FdRel (u : ByteArray) (b : Bool) (w : World) (g : Nat) (v3 v4 v5 : Value) (wr : World) : Prop :=
  ∃ j : Nat, g = u.size - j ∧ j ≤ u.size ∧ v3 = .slice none 0 0 ∧ v4 = .string (if b then ⟨#[]⟩ else u.extract 0 j) ∧ v5 = .int .i64 j ∧ wr = w
theorem ext_empty (u : ByteArray) : u.extract 0 0 = ⟨#[]⟩ := by
  apply ByteArray.ext
  rw [ByteArray.data_extract]
  simp
theorem ext_step (u : ByteArray) (j : Nat) (h : j < u.size) : u.extract 0 j ++ u.extract j (j + 1) = u.extract 0 (j + 1) := by
  apply ByteArray.ext
  rw [ByteArray.data_append, ByteArray.data_extract, ByteArray.data_extract, ByteArray.data_extract, Array.extract_append_extract]
  congr 1 <;> omega
set_option maxRecDepth 100000 in
set_option maxHeartbeats 2000000 in
/-- no byte is a space, or the one byte is one -/
theorem fields_any (u : ByteArray) (b : Bool) (w : World) (h0 : 0 < u.size) (h4 : u.size ≤ 4) (hb : ∀ j, j < u.size → isSp (bt u j) = b) : Calls Try.prog 25 #[.string u] w fun e w' => ∃ v n c, e = .returned (.slice v n c) ∧ n = (if b then 0 else 1) ∧ Below w.heap.size w w' := by
  obtain ⟨i0, hi, hz0, hz1, hz2⟩ := info_parts infoStr
  have HBT := Lib.hid hb
  have hgb := get_bt u
  clear hb
  go_enter Try.func25, Try.ntmps25
  go_wp2_with fail
  go_loopg [3, 4, 5] u.size (FdRel u b w)
  case atStart => exact ⟨0, rfl, Nat.zero_le _, rfl, by rw [ext_empty]; cases b <;> rfl, rfl, rfl⟩
  case round =>
    obtain ⟨j, hg, hj, rfl, rfl, rfl, hw⟩ := hrel
    subst hw
    have Hg := Lib.hid hg
    clear hg
    by_cases hp : j < u.size
    · have hpI : (j : Int) < (u.size : Int) := by omega
      have hsp := spaceR_any (bt u j) wr
      rw [HBT.out j hp] at hsp
      have HSP := Lib.hid hsp
      have hw1 := wrapS (a := (j : Int) + 1) (by omega) (by omega)
      have hsl : ((j : Int) + 1) ≤ (u.size : Int) := by omega
      clear hsp
      cases b with
      | true =>
        go_wp2_with (first | (go_at_call 34; refine HSP.out.mono ?_; rintro e w' ⟨rfl, hw'⟩; rw [hw']; clear hw'))
        go_roundg (u.size - (j + 1))
        case measure => have := Hg.out; omega
        case rel => exact ⟨j + 1, rfl, by omega, rfl, rfl, by rw [Int.natCast_add]; rfl, rfl⟩
      | false =>
        go_wp2_with (first | (go_at_call 34; refine HSP.out.mono ?_; rintro e w' ⟨rfl, hw'⟩; rw [hw']; clear hw'))
        go_roundg (u.size - (j + 1))
        case measure => have := Hg.out; omega
        case rel => exact ⟨j + 1, rfl, by omega, rfl, rfl, by rw [Int.natCast_add]; rfl, rfl⟩
    · have hje : j = u.size := by omega
      subst hje
      have hpI : ¬ (u.size : Int) < (u.size : Int) := by omega
      cases b with
      | true =>
        go_wp2_with fail
        exact bodyPost_ret (results_tmp Try.results25 _ _ _) rfl ⟨_, _, ⟨_, rfl⟩, rfl, Below.refl _ _⟩
      | false =>
        have hall : u.extract 0 u.size = u := ByteArray.extract_zero_size
        have hem : u.toList.isEmpty = false := by
          rw [Lib.toList_data]
          cases hl : u.data.toList with
          | nil => have : u.size = u.data.toList.length := Array.length_toList.symm; rw [hl] at this; exact absurd (this ▸ h0) (by decide)
          | cons _ _ => rfl
        go_wp2_with fail
        refine bodyPost_ret (results_tmp Try.results25 _ _ _) rfl ⟨_, _, ⟨_, rfl⟩, rfl, ?_⟩
        first
          | exact ((Below.refl _ _).alloc (Nat.le_refl _) _).alloc (by simp) _
          | exact below_drewN (((Below.refl _ _).alloc (Nat.le_refl _) _).alloc (by simp) _)
end Go.Proofs.Ytifgjccnhbbadaa
