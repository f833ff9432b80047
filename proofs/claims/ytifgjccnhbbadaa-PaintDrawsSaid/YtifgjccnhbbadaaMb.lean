/-
  The chapter's meet, and the small functions of the law.
-/
import Derived.Test.YtifgjccnhbbadaaMa
set_option linter.unusedVariables false
set_option linter.unusedSimpArgs false
namespace Go.Proofs.Ytifgjccnhbbadaa
open Go.RowKit Go.K

set_option maxHeartbeats 2000000 in
theorem flat_any (a : R4) (w : World) : Calls Try.prog 12 #[rv a] w fun e w' => e = .returned (rv a) ∧ Below w.heap.size w w' := by
  obtain ⟨a0, a1, a2, a3⟩ := a
  go_enter Try.func12, Try.ntmps12
  go_wp2_with fail
  refine bodyPost_ret (v := .agg #[.int .i64 a0, .int .i64 a1, .int .i64 a2, .int .i64 a3]) (by simp [results, Try.results12, go_sem]) rfl ⟨rfl, ?_⟩
  exact ((Below.refl _ _).alloc (Nat.le_refl _) _).alloc (by simp) _

set_option maxHeartbeats 2000000 in
theorem rect_any (a : R4) (w : World) : Calls Try.prog 26 #[rv a] w fun e w' => e = .returned (rv a) ∧ Below w.heap.size w w' := by
  obtain ⟨a0, a1, a2, a3⟩ := a
  go_enter Try.func26, Try.ntmps26
  go_wp2_with fail
  refine bodyPost_ret (v := .agg #[.int .i64 a0, .int .i64 a1, .int .i64 a2, .int .i64 a3]) (by simp [results, Try.results26, go_sem]) rfl ⟨rfl, ?_⟩
  exact ((Below.refl _ _).alloc (Nat.le_refl _) _).alloc (by simp) _

set_option maxHeartbeats 2000000 in
theorem has_any (a : R4) (i j : Int) (w : World) (ha : Bd 1000000000 a) : Calls Try.prog 11 #[rv a, .int .i64 i, .int .i64 j] w fun e w' => e = .returned (.bool (hasR a i j)) ∧ Below w.heap.size w w' := by
  obtain ⟨a0, a1, a2, a3⟩ := a
  obtain ⟨p0, p1, p2, p3, p4, p5, p6, p7⟩ := ha
  simp only at *
  obtain ⟨r, hr⟩ : ∃ r, hasR ⟨a0, a1, a2, a3⟩ i j = r := ⟨_, rfl⟩
  have HR := Lib.hid hr
  rw [hr]
  clear hr
  go_enter Try.func11, Try.ntmps11
  by_cases h0 : a0 ≤ i <;> by_cases h1 : i < a0 + a2 <;> by_cases h2 : a1 ≤ j <;> by_cases h3 : j < a1 + a3
  all_goals
    go_wp2_with fail
  all_goals
    have hr := HR.out
    simp only [hasR, h0, h1, h2, h3, decide_true, decide_false, Bool.and_true, Bool.and_false, Bool.false_and, Bool.true_and] at hr
    refine bodyPost_ret (v := .bool r) (by simp [results, Try.results11, go_sem, ← hr, h0, h1, h2, h3]) rfl ⟨rfl, ?_⟩
    exact (Below.refl _ _).alloc (Nat.le_refl _) _

set_option maxHeartbeats 2000000 in
theorem refMeet_any (a b : R4) (w : World) (ha : Bd 1000000000 a) (hb : Bd 1000000000 b) :
    Calls Try.prog 19 #[rv a, rv b] w fun e w' => e = .returned (rv (meetC a b)) ∧ Below w.heap.size w w' := by
  obtain ⟨a0, a1, a2, a3⟩ := a
  obtain ⟨b0, b1, b2, b3⟩ := b
  obtain ⟨p0, p1, p2, p3, p4, p5, p6, p7⟩ := ha
  obtain ⟨q0, q1, q2, q3, q4, q5, q6, q7⟩ := hb
  simp only at *
  go_enter Try.func19, Try.ntmps19
  go_upto_region 1 with fail
  go_quiet (fail)
  obtain ⟨x, hx⟩ : ∃ x, (if a0 < b0 then b0 else a0) = x := ⟨_, rfl⟩
  obtain ⟨y, hy⟩ : ∃ y, (if a1 < b1 then b1 else a1) = y := ⟨_, rfl⟩
  have ex : x = max a0 b0 := by rw [← hx]; split <;> omega
  have ey : y = max a1 b1 := by rw [← hy]; split <;> omega
  rw [hx, hy]
  have x1 : -1000000000 ≤ x := by omega
  have x2 : x ≤ 1000000000 := by omega
  have y1 : -1000000000 ≤ y := by omega
  have y2 : y ≤ 1000000000 := by omega
  have EX := Lib.hid ex
  have EY := Lib.hid ey
  clear hx hy ex ey
  go_upto_region 2 with fail
  go_quiet (fail)
  obtain ⟨m1, hm1⟩ : ∃ m, (if b0 + b2 < a0 + a2 then b0 + b2 else a0 + a2) = m := ⟨_, rfl⟩
  obtain ⟨m2, hm2⟩ : ∃ m, (if b1 + b3 < a1 + a3 then b1 + b3 else a1 + a3) = m := ⟨_, rfl⟩
  have em1 : m1 = min (a0 + a2) (b0 + b2) := by rw [← hm1]; split <;> omega
  have em2 : m2 = min (a1 + a3) (b1 + b3) := by rw [← hm2]; split <;> omega
  rw [hm1, hm2]
  obtain ⟨ww, hw⟩ : ∃ ww, m1 - x = ww := ⟨_, rfl⟩
  obtain ⟨hh, hh'⟩ : ∃ hh, m2 - y = hh := ⟨_, rfl⟩
  have ew : ww = min (a0 + a2) (b0 + b2) - max a0 b0 := by rw [← hw, ← EX.out, em1]
  have eh : hh = min (a1 + a3) (b1 + b3) - max a1 b1 := by rw [← hh', ← EY.out, em2]
  rw [hw, hh']
  clear hm1 hm2 em1 em2
  have hres : meetC ⟨a0, a1, a2, a3⟩ ⟨b0, b1, b2, b3⟩ = if ww ≤ 0 ∨ hh ≤ 0 ∨ a2 ≤ 0 ∨ a3 ≤ 0 ∨ b2 ≤ 0 ∨ b3 ≤ 0 then .zero else ⟨x, y, ww, hh⟩ := by
    unfold meetC; rw [ew, eh, EX.out, EY.out]
  have HR := Lib.hid hres
  clear hw hh' ew eh hres
  by_cases h2 : ww ≤ 0 ∨ hh ≤ 0 ∨ a2 ≤ 0 ∨ a3 ≤ 0 ∨ b2 ≤ 0 ∨ b3 ≤ 0
  · go_wp2_with fail
    all_goals first
      | (exfalso; omega)
      | skip
    all_goals
      rw [HR.out, if_pos h2]
      refine bodyPost_ret (v := .agg #[.int .i64 0, .int .i64 0, .int .i64 0, .int .i64 0]) (by simp [results, Try.results19, go_sem]) rfl ⟨rfl, ?_⟩
      exact set4_below (below_drewN ((((Below.refl _ _).alloc (Nat.le_refl _) _).alloc (by simp) _).alloc (by simp; omega) _)) (by omega) _ _ _ _
  · have e4 : decide (ww ≤ 0) = false := by simp; omega
    have e5 : decide (hh ≤ 0) = false := by simp; omega
    have e0 : decide (a2 ≤ 0) = false := by simp; omega
    have e1 : decide (a3 ≤ 0) = false := by simp; omega
    have e2 : decide (b2 ≤ 0) = false := by simp; omega
    have e3 : decide (b3 ≤ 0) = false := by simp; omega
    go_wp2_with fail
    rw [HR.out, if_neg h2]
    refine bodyPost_ret (v := .agg #[.int .i64 x, .int .i64 y, .int .i64 ww, .int .i64 hh]) (by simp [results, Try.results19, go_sem]) rfl ⟨rfl, ?_⟩
    exact set4_below (below_drewN ((((Below.refl _ _).alloc (Nat.le_refl _) _).alloc (by simp) _).alloc (by simp; omega) _)) (by omega) _ _ _ _
end Go.Proofs.Ytifgjccnhbbadaa
