/-
  PaintDraws: small functions: within, Up, floor, parts, IsSpace.
-/
import Derived.Test.YtifgjccnhbbadaaNa
set_option linter.unusedVariables false
set_option linter.unusedSimpArgs false
namespace Go.Proofs.Ytifgjccnhbbadaa
open Go.RowKit Go.K

theorem wrapS {a : Int} (h1 : -(2 ^ 62) ≤ a) (h2 : a ≤ 2 ^ 62) : IntKind.i64.wrap a = a := by
  simp [IntKind.wrap, IntKind.bits, IntKind.signed, Int.bmod]; omega
theorem within_any (a : R4) (i j : Int) (w : World) (ha : Bd 1000000000 a) : Calls Try.prog 28 #[rv a, .int .i64 i, .int .i64 j] w fun e w' => e = .returned (.bool (hasR a i j)) ∧ Below w.heap.size w w' := by
  obtain ⟨x, y, ww, hh⟩ := a
  obtain ⟨ha1, ha2, ha3, ha4, ha5, ha6, ha7, ha8⟩ := ha
  simp only at ha1 ha2 ha3 ha4 ha5 ha6 ha7 ha8
  have w1 := wrapS (a := x + ww) (by omega) (by omega)
  have w2 := wrapS (a := y + hh) (by omega) (by omega)
  have hb : Below w.heap.size w (w.alloc (.cells #[.int .i64 x, .int .i64 y, .int .i64 ww, .int .i64 hh] 31)) := (Below.refl _ _).alloc (Nat.le_refl _) _
  have HB := Lib.hid hb
  clear ha1 ha2 ha3 ha4 ha5 ha6 ha7 ha8 hb
  by_cases h1 : x ≤ i <;> by_cases h2 : i < x + ww <;> by_cases h3 : y ≤ j <;> by_cases h4 : j < y + hh
  all_goals
    have hr : hasR ⟨x, y, ww, hh⟩ i j = (decide (x ≤ i) && decide (i < x + ww) && decide (y ≤ j) && decide (j < y + hh)) := rfl
    rw [hr]
    simp only [h1, h2, h3, h4, decide_true, decide_false, Bool.and_true, Bool.and_false, Bool.false_and]
    clear hr
    go_enter Try.func28, Try.ntmps28
    go_wp2_with fail
    exact bodyPost_ret (results_tmp Try.results28 _ _ _) rfl ⟨rfl, HB.out⟩
theorem up_any (n d : Int) (w : World) (hn : 0 ≤ n ∧ n ≤ 1000) (hd : d = 8 ∨ d = 16) : Calls Try.prog 8 #[.int .i64 n, .int .i64 d] w fun e w' => e = .returned (.int .i64 ((n + d - 1) / d)) ∧ w' = w := by
  have w1 := wrapS (a := n + d) (by omega) (by omega)
  have w2 := wrapS (a := n + d - 1) (by omega) (by omega)
  have w3 : (n + d - 1).tdiv d = (n + d - 1) / d := Int.tdiv_eq_ediv_of_nonneg (by omega)
  have w4 := wrapS (a := (n + d - 1) / d) (by rcases hd with rfl | rfl <;> omega) (by rcases hd with rfl | rfl <;> omega)
  rcases hd with rfl | rfl
  all_goals
    go_enter Try.func8, Try.ntmps8
    go_wp2_with fail
    exact bodyPost_ret (results_tmp Try.results8 _ _ _) rfl ⟨rfl, rfl⟩
theorem floor_any (n d : Int) (w : World) (hn : -100000 ≤ n ∧ n ≤ 100000) (hd : d = 2 ∨ d = 8 ∨ d = 16) : Calls Try.prog 20 #[.int .i64 n, .int .i64 d] w fun e w' => e = .returned (.int .i64 (n / d)) ∧ w' = w := by
  by_cases h : n < 0
  · have w1 := wrapS (a := -n) (by omega) (by omega)
    have w2 := wrapS (a := -n + d) (by omega) (by omega)
    have w3 := wrapS (a := -n + d - 1) (by omega) (by omega)
    have w4 : (-n + d - 1).tdiv d = (-n + d - 1) / d := Int.tdiv_eq_ediv_of_nonneg (by omega)
    have w5 := wrapS (a := (-n + d - 1) / d) (by rcases hd with rfl | rfl | rfl <;> omega) (by rcases hd with rfl | rfl | rfl <;> omega)
    have w6 := wrapS (a := -((-n + d - 1) / d)) (by rcases hd with rfl | rfl | rfl <;> omega) (by rcases hd with rfl | rfl | rfl <;> omega)
    have w7 : n / d = -((-n + d - 1) / d) := by rcases hd with rfl | rfl | rfl <;> omega
    rw [w7]
    clear w7
    rcases hd with rfl | rfl | rfl
    all_goals
      go_enter Try.func20, Try.ntmps20
      go_wp2_with fail
      exact bodyPost_ret (results_tmp Try.results20 _ _ _) rfl ⟨rfl, rfl⟩
  · have w4 : n.tdiv d = n / d := Int.tdiv_eq_ediv_of_nonneg (by omega)
    have w5 := wrapS (a := n / d) (by rcases hd with rfl | rfl | rfl <;> omega) (by rcases hd with rfl | rfl | rfl <;> omega)
    rcases hd with rfl | rfl | rfl
    all_goals
      go_enter Try.func20, Try.ntmps20
      go_wp2_with fail
      exact bodyPost_ret (results_tmp Try.results20 _ _ _) rfl ⟨rfl, rfl⟩
theorem parts_any (n d : Int) (w : World) (hn : n ≤ 1000) (hd : d = 8 ∨ d = 16) : Calls Try.prog 15 #[.int .i64 n, .int .i64 d] w fun e w' => e = .returned (.int .i64 ((max n 0 + d - 1) / d)) ∧ w' = w := by
  have m1 : ∀ a b : Int, (if a < b then b else a) = max a b := by intro a b; split <;> omega
  have m2 : ∀ a b : Int, (if b < a then b else a) = min a b := by intro a b; split <;> omega
  have e0 : min (max n 0) 4096 = max n 0 := by omega
  obtain ⟨z, hz⟩ : ∃ z, max n 0 = z := ⟨_, rfl⟩
  have hzb : 0 ≤ z ∧ z ≤ 1000 := by omega
  rw [hz] at e0 ⊢
  have HZ := Lib.hid hz
  have w1 := wrapS (a := z + d) (by omega) (by omega)
  have w2 := wrapS (a := z + d - 1) (by omega) (by omega)
  have w3 : (z + d - 1).tdiv d = (z + d - 1) / d := Int.tdiv_eq_ediv_of_nonneg (by omega)
  have w4 := wrapS (a := (z + d - 1) / d) (by rcases hd with rfl | rfl <;> omega) (by rcases hd with rfl | rfl <;> omega)
  rcases hd with rfl | rfl
  all_goals
    go_enter Try.func15, Try.ntmps15
    go_wp2_with fail
    exact bodyPost_ret (results_tmp Try.results15 _ _ _) rfl ⟨rfl, rfl⟩
def isSp (c : Int) : Bool := c == 9 || c == 10 || c == 12 || c == 13 || c == 32
theorem space_run (c : Int) (w : World) : (callFunc 43 #[.string ⟨#[9, 10, 12, 13, 32]⟩, .int .u8 c]).run Try.prog w = .ok (.value (.int .i64 (firstIdx ⟨#[9, 10, 12, 13, 32]⟩ c.toNat.toUInt8))) w := by
  rw [run_callFunc_extern Try.func43 (by kernel_rfl) (by kernel_rfl) (by kernel_rfl) (e := Extern.BytealgIndexByte.indexByte) (by kernel_rfl), run_indexByte_string]
  rfl
theorem space_first (c : Int) (hc : 0 ≤ c ∧ c ≤ 255) : decide (0 ≤ firstIdx ⟨#[9, 10, 12, 13, 32]⟩ c.toNat.toUInt8) = isSp c := by
  obtain ⟨n, rfl⟩ := Int.eq_ofNat_of_zero_le hc.1
  have hn : n < 256 := by omega
  have key : ∀ n : Fin 256, decide (0 ≤ firstIdx ⟨#[9, 10, 12, 13, 32]⟩ ((n.val : Int)).toNat.toUInt8) = isSp (n.val : Int) := by decide +kernel
  exact key ⟨n, hn⟩
set_option maxRecDepth 10000 in
theorem space_any (c : Int) (w : World) (hc : 0 ≤ c ∧ c ≤ 255) : Calls Try.prog 30 #[.int .u8 c] w fun e w' => e = .returned (.bool (isSp c)) ∧ w' = w := by
  have hs := space_first c hc
  obtain ⟨v, hv⟩ : ∃ v, firstIdx ⟨#[9, 10, 12, 13, 32]⟩ c.toNat.toUInt8 = v := ⟨_, rfl⟩
  have hr := fun w => space_run c w
  rw [hv] at hs
  simp only [hv] at hr
  rw [← hs]
  clear hs hv hc
  go_enter Try.func30, Try.ntmps30
  go_wp2
  exact bodyPost_ret (results_tmp Try.results30 _ _ _) rfl ⟨rfl, rfl⟩
end Go.Proofs.Ytifgjccnhbbadaa
