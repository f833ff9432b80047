/-
  PaintDraws: the chapter's Code.
-/
import Derived.Test.YtifgjccnhbbadaaNg
import Derived.Deep.QuietTactic
import Derived.BigQuiet
set_option linter.unusedVariables false
set_option linter.unusedSimpArgs false
namespace Go.Proofs.Ytifgjccnhbbadaa
open Go.RowKit Go.K Go.PlainAid Go.Lib

theorem mask_all : (List.range 256).all (fun x => decide (bits .and .u8 (x : Nat) 31 = (x : Nat) % 32 ∧ bits .and .u8 (x : Nat) 63 = (x : Nat) % 64 ∧ bits .and .u8 (x : Nat) 15 = (x : Nat) % 16 ∧ bits .and .u8 (x : Nat) 7 = (x : Nat) % 8)) = true := by kernel_rfl
theorem mask (x : Int) (h0 : 0 ≤ x) (h1 : x < 256) : bits .and .u8 x 31 = x % 32 ∧ bits .and .u8 x 63 = x % 64 ∧ bits .and .u8 x 15 = x % 16 ∧ bits .and .u8 x 7 = x % 8 := by
  obtain ⟨n, rfl⟩ := Int.eq_ofNat_of_zero_le h0
  have h := List.all_eq_true.1 mask_all n (List.mem_range.2 (by omega))
  exact of_decide_eq_true h
theorem w64 {x : Int} (h0 : 0 ≤ x) (h1 : x ≤ 100000000) : wrap64 x = x := by unfold wrap64; omega
theorem bt_list (l : List UInt8) (i : Nat) (x : UInt8) (h : l[i]? = some x) : bt ⟨l.toArray⟩ i = (x.toNat : Int) := by
  have hi := (List.getElem?_eq_some_iff.1 h).1
  unfold bt
  have hs : i < (⟨l.toArray⟩ : ByteArray).size := by show i < l.toArray.size; rw [List.size_toArray]; exact hi
  rw [dif_pos hs]
  have e : (⟨l.toArray⟩ : ByteArray)[i]'hs = x := by
    show l.toArray[i]'(by rw [List.size_toArray]; exact hi) = x
    rw [List.getElem_toArray]
    exact (List.getElem?_eq_some_iff.1 h).2
  rw [e]
theorem code1 (s : ByteArray) (w : World) (hs : s.size = 1) : Calls Try.prog 24 #[.string s] w fun e w' => e = .returned (.int .i64 (wrap64 (bt s 0))) ∧ Below w.heap.size w w' := by
  have hb := get_bt s
  have h1I : (s.size : Int) = 1 := by omega
  have h0 : (0:Int) < (s.size : Int) := by omega
  go_enter Try.func24, Try.ntmps24
  go_wp2_with fail
  exact bodyPost_ret (results_tmp Try.results24 _ _ _) rfl ⟨rfl, Below.refl _ _⟩
theorem code2 (s : ByteArray) (w : World) (hs : s.size = 2) : Calls Try.prog 24 #[.string s] w fun e w' => e = .returned (.int .i64 (wrap64 (wrap64 (wrap64 (bits .and .u8 (bt s 0) 31) * 64) + wrap64 (bits .and .u8 (bt s 1) 63)))) ∧ Below w.heap.size w w' := by
  have hb := get_bt s
  have h1I : (s.size : Int) = 2 := by omega
  have h0 : (0:Int) < (s.size : Int) := by omega
  have h1 : (1:Int) < (s.size : Int) := by omega
  go_enter Try.func24, Try.ntmps24
  go_wp2_with fail
  go_quiet (fail)
  go_wp2_with fail
  exact bodyPost_ret (results_tmp Try.results24 _ _ _) rfl ⟨rfl, below_drewN (Below.refl _ _)⟩
theorem code3 (s : ByteArray) (w : World) (hs : s.size = 3) : Calls Try.prog 24 #[.string s] w fun e w' => e = .returned (.int .i64 (wrap64 (wrap64 (wrap64 (wrap64 (bits .and .u8 (bt s 0) 15) * 4096) + wrap64 (wrap64 (bits .and .u8 (bt s 1) 63) * 64)) + wrap64 (bits .and .u8 (bt s 2) 63)))) ∧ Below w.heap.size w w' := by
  have hb := get_bt s
  have h1I : (s.size : Int) = 3 := by omega
  have h0 : (0:Int) < (s.size : Int) := by omega
  have h1 : (1:Int) < (s.size : Int) := by omega
  have h2 : (2:Int) < (s.size : Int) := by omega
  go_enter Try.func24, Try.ntmps24
  go_wp2_with fail
  go_quiet (fail)
  go_wp2_with fail
  exact bodyPost_ret (results_tmp Try.results24 _ _ _) rfl ⟨rfl, below_drewN (Below.refl _ _)⟩
theorem code4 (s : ByteArray) (w : World) (hs : s.size = 4) : Calls Try.prog 24 #[.string s] w fun e w' => e = .returned (.int .i64 (wrap64 (wrap64 (wrap64 (wrap64 (wrap64 (bits .and .u8 (bt s 0) 7) * 262144) + wrap64 (wrap64 (bits .and .u8 (bt s 1) 63) * 4096)) + wrap64 (wrap64 (bits .and .u8 (bt s 2) 63) * 64)) + wrap64 (bits .and .u8 (bt s 3) 63)))) ∧ Below w.heap.size w w' := by
  have hb := get_bt s
  have h1I : (s.size : Int) = 4 := by omega
  have h0 : (0:Int) < (s.size : Int) := by omega
  have h1 : (1:Int) < (s.size : Int) := by omega
  have h2 : (2:Int) < (s.size : Int) := by omega
  have h3 : (3:Int) < (s.size : Int) := by omega
  go_enter Try.func24, Try.ntmps24
  go_wp2_with fail
  go_quiet (fail)
  go_wp2_with fail
  exact bodyPost_ret (results_tmp Try.results24 _ _ _) rfl ⟨rfl, below_drewN (Below.refl _ _)⟩
/-- the number of a character -/
theorem code_any (r : Int) (w : World) (hr : okRune r) : Calls Try.prog 24 #[.string ⟨(encodeRune r).toArray⟩] w fun e w' => e = .returned (.int .i64 r) ∧ Below w.heap.size w w' := by
  have hr' := hr
  unfold okRune at hr
  have hsz : (⟨(encodeRune r).toArray⟩ : ByteArray).size = (encodeRune r).length := List.size_toArray
  by_cases h1 : r ≤ 127
  · have e : encodeRune r = [r.toNat.toUInt8] := by unfold encodeRune; rw [encodeRuneZ_one (by omega) (by omega)]; rfl
    rw [e] at hsz ⊢
    refine (code1 _ w hsz).mono ?_
    rintro e w' ⟨rfl, hb⟩
    refine ⟨?_, hb⟩
    rw [bt_list _ 0 _ rfl, toU8 (by omega) (by omega), w64 (by omega) (by omega), Int.toNat_of_nonneg (by omega)]
  · by_cases h2 : r ≤ 2047
    · have e : encodeRune r = [(192 + r / 64).toNat.toUInt8, (128 + r % 64).toNat.toUInt8] := by unfold encodeRune; rw [encodeRuneZ_two (by omega) (by omega)]; rfl
      rw [e] at hsz ⊢
      refine (code2 _ w hsz).mono ?_
      rintro e w' ⟨rfl, hb⟩
      refine ⟨?_, hb⟩
      rw [bt_list _ 0 _ rfl, bt_list _ 1 _ rfl, toU8 (by omega) (by omega), toU8 (by omega) (by omega), Int.toNat_of_nonneg (by omega), Int.toNat_of_nonneg (by omega), (mask _ (by omega) (by omega)).1, (mask _ (by omega) (by omega)).2.1]
      simp only [wrap64]
      congr 2; omega
    · by_cases h3 : r ≤ 65535
      · have e : encodeRune r = [(224 + r / 4096).toNat.toUInt8, (128 + r / 64 % 64).toNat.toUInt8, (128 + r % 64).toNat.toUInt8] := by unfold encodeRune; rw [encodeRuneZ_three (by omega)]; rfl
        rw [e] at hsz ⊢
        refine (code3 _ w hsz).mono ?_
        rintro e w' ⟨rfl, hb⟩
        refine ⟨?_, hb⟩
        rw [bt_list _ 0 _ rfl, bt_list _ 1 _ rfl, bt_list _ 2 _ rfl, toU8 (by omega) (by omega), toU8 (by omega) (by omega), toU8 (by omega) (by omega), Int.toNat_of_nonneg (by omega), Int.toNat_of_nonneg (by omega), Int.toNat_of_nonneg (by omega), (mask _ (by omega) (by omega)).2.2.1, (mask _ (by omega) (by omega)).2.1, (mask _ (by omega) (by omega)).2.1]
        simp only [wrap64]
        congr 2; omega
      · have e : encodeRune r = [(240 + r / 262144).toNat.toUInt8, (128 + r / 4096 % 64).toNat.toUInt8, (128 + r / 64 % 64).toNat.toUInt8, (128 + r % 64).toNat.toUInt8] := by unfold encodeRune; rw [encodeRuneZ_four (by omega) (by omega)]; rfl
        rw [e] at hsz ⊢
        refine (code4 _ w hsz).mono ?_
        rintro e w' ⟨rfl, hb⟩
        refine ⟨?_, hb⟩
        rw [bt_list _ 0 _ rfl, bt_list _ 1 _ rfl, bt_list _ 2 _ rfl, bt_list _ 3 _ rfl, toU8 (by omega) (by omega), toU8 (by omega) (by omega), toU8 (by omega) (by omega), toU8 (by omega) (by omega), Int.toNat_of_nonneg (by omega), Int.toNat_of_nonneg (by omega), Int.toNat_of_nonneg (by omega), Int.toNat_of_nonneg (by omega), (mask _ (by omega) (by omega)).2.2.2, (mask _ (by omega) (by omega)).2.1, (mask _ (by omega) (by omega)).2.1, (mask _ (by omega) (by omega)).2.1]
        simp only [wrap64]
        congr 2; omega
end Go.Proofs.Ytifgjccnhbbadaa
