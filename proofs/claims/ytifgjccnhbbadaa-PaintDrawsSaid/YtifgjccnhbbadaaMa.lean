/-
  Rectangles in plain words, and what the program's and the chapter's functions on them answer.
-/
import Derived.Test.YtifgjccnhbbadaaProg
import Derived.Test.YtifgjccnhbbadaaKo
import Derived.Laws.Externs
import Derived.LoopN
import Derived.StillTailTactics
import Derived.BigRegion
import Derived.BigQuiet
import Derived.Deep.RegionHeld3
import Derived.Deep.QuietTactic
import Derived.Deep.DeepCutAuto
import Derived.Deep.LoopGhost
import Derived.Lib.QuietBelow
set_option linter.unusedVariables false
set_option linter.unusedSimpArgs false
namespace Go.Proofs.Ytifgjccnhbbadaa
open Go.RowKit Go.K

structure R4 where
  x : Int
  y : Int
  w : Int
  h : Int
deriving DecidableEq
def R4.zero : R4 := ⟨0,0,0,0⟩
def meetR (a b : R4) : R4 :=
  if a.w ≤ 0 ∨ a.h ≤ 0 ∨ b.w ≤ 0 ∨ b.h ≤ 0 then .zero else
  if min (a.x + a.w) (b.x + b.w) - max a.x b.x ≤ 0 ∨ min (a.y + a.h) (b.y + b.h) - max a.y b.y ≤ 0 then .zero else
  ⟨max a.x b.x, max a.y b.y, min (a.x + a.w) (b.x + b.w) - max a.x b.x, min (a.y + a.h) (b.y + b.h) - max a.y b.y⟩
def meetC (a b : R4) : R4 :=
  if min (a.x + a.w) (b.x + b.w) - max a.x b.x ≤ 0 ∨ min (a.y + a.h) (b.y + b.h) - max a.y b.y ≤ 0 ∨ a.w ≤ 0 ∨ a.h ≤ 0 ∨ b.w ≤ 0 ∨ b.h ≤ 0 then .zero else
  ⟨max a.x b.x, max a.y b.y, min (a.x + a.w) (b.x + b.w) - max a.x b.x, min (a.y + a.h) (b.y + b.h) - max a.y b.y⟩
def hasR (r : R4) (x y : Int) : Bool := decide (r.x ≤ x) && decide (x < r.x + r.w) && decide (r.y ≤ y) && decide (y < r.y + r.h)
theorem meet_same (a b : R4) : meetC a b = meetR a b := by
  unfold meetC meetR
  by_cases h1 : a.w ≤ 0 ∨ a.h ≤ 0 ∨ b.w ≤ 0 ∨ b.h ≤ 0
  · rw [if_pos h1, if_pos (.inr (.inr h1))]
  · rw [if_neg h1]
    by_cases h2 : min (a.x + a.w) (b.x + b.w) - max a.x b.x ≤ 0 ∨ min (a.y + a.h) (b.y + b.h) - max a.y b.y ≤ 0
    · rw [if_pos h2, if_pos (by rcases h2 with h | h; exact .inl h; exact .inr (.inl h))]
    · rw [if_neg h2, if_neg (by omega)]
theorem meet_comm (a b : R4) : meetR b a = meetR a b := by
  unfold meetR
  rw [Int.max_comm b.x, Int.max_comm b.y, Int.min_comm (b.x + b.w), Int.min_comm (b.y + b.h)]
  by_cases h1 : a.w ≤ 0 ∨ a.h ≤ 0 ∨ b.w ≤ 0 ∨ b.h ≤ 0
  · rw [if_pos h1, if_pos (by omega)]
  · rw [if_neg h1, if_neg (by omega)]
theorem meet_idem (a b : R4) : meetR (meetR a b) a = meetR a b := by
  by_cases h1 : a.w ≤ 0 ∨ a.h ≤ 0 ∨ b.w ≤ 0 ∨ b.h ≤ 0
  · have e : meetR a b = .zero := by unfold meetR; rw [if_pos h1]
    rw [e]; unfold meetR; rw [if_pos (.inl (Int.le_refl _))]
  · by_cases h2 : min (a.x + a.w) (b.x + b.w) - max a.x b.x ≤ 0 ∨ min (a.y + a.h) (b.y + b.h) - max a.y b.y ≤ 0
    · have e : meetR a b = .zero := by unfold meetR; rw [if_neg h1, if_pos h2]
      rw [e]; unfold meetR; rw [if_pos (.inl (Int.le_refl _))]
    · have e : meetR a b = ⟨max a.x b.x, max a.y b.y, min (a.x + a.w) (b.x + b.w) - max a.x b.x, min (a.y + a.h) (b.y + b.h) - max a.y b.y⟩ := by unfold meetR; rw [if_neg h1, if_neg h2]
      rw [e]
      have e2 : max (max a.x b.x) a.x = max a.x b.x := by omega
      have e3 : max (max a.y b.y) a.y = max a.y b.y := by omega
      have e4 : min (max a.x b.x + (min (a.x + a.w) (b.x + b.w) - max a.x b.x)) (a.x + a.w) = min (a.x + a.w) (b.x + b.w) := by omega
      have e5 : min (max a.y b.y + (min (a.y + a.h) (b.y + b.h) - max a.y b.y)) (a.y + a.h) = min (a.y + a.h) (b.y + b.h) := by omega
      unfold meetR
      simp only [e2, e3, e4, e5]
      rw [if_neg (by omega), if_neg h2]
theorem has_iff (r : R4) (x y : Int) : hasR r x y = true ↔ r.x ≤ x ∧ x < r.x + r.w ∧ r.y ≤ y ∧ y < r.y + r.h := by
  simp only [hasR, Bool.and_eq_true, decide_eq_true_eq]; omega
theorem has_meet (a b : R4) (i j : Int) : hasR (meetR a b) i j = (hasR a i j && hasR b i j) := by
  rw [Bool.eq_iff_iff, Bool.and_eq_true, has_iff, has_iff, has_iff]
  unfold meetR
  split
  · constructor
    · rintro ⟨h1, h2, h3, h4⟩; simp only [R4.zero] at h1 h2 h3 h4; omega
    · rintro ⟨⟨h1, h2, h3, h4⟩, ⟨g1, g2, g3, g4⟩⟩; omega
  · split
    · constructor
      · rintro ⟨h1, h2, h3, h4⟩; simp only [R4.zero] at h1 h2 h3 h4; omega
      · rintro ⟨⟨h1, h2, h3, h4⟩, ⟨g1, g2, g3, g4⟩⟩; omega
    · constructor
      · rintro ⟨h1, h2, h3, h4⟩; simp only at h1 h2 h3 h4; omega
      · rintro ⟨⟨h1, h2, h3, h4⟩, ⟨g1, g2, g3, g4⟩⟩; simp only; omega

abbrev rv (r : R4) : Value := .agg #[.int .i64 r.x, .int .i64 r.y, .int .i64 r.w, .int .i64 r.h]
theorem set4_below {B b : Nat} {w w2 : World} (h : Below B w w2) (hb : B ≤ b) (u0 u1 u2 u3 : Value) : Below B w ((((w2.setCell ⟨b, 0, none⟩ u0).setCell ⟨b, 1, none⟩ u1).setCell ⟨b, 2, none⟩ u2).setCell ⟨b, 3, none⟩ u3) :=
  (((h.setCell (p := ⟨b, 0, none⟩) hb u0).setCell (p := ⟨b, 1, none⟩) hb u1).setCell (p := ⟨b, 2, none⟩) hb u2).setCell (p := ⟨b, 3, none⟩) hb u3
theorem below_drewN {B n : Nat} {w w2 : World} (h : Below B w w2) : Below B w (w2.drewN n) := ⟨h.os, h.tape, h.output, h.size, h.block⟩
def Bd (n : Int) (r : R4) : Prop := -n ≤ r.x ∧ r.x ≤ n ∧ -n ≤ r.y ∧ r.y ≤ n ∧ -n ≤ r.w ∧ r.w ≤ n ∧ -n ≤ r.h ∧ r.h ≤ n

set_option maxHeartbeats 2000000 in
theorem meet_any (a b : R4) (w : World) (ha : Bd 1000000000 a) (hb : Bd 1000000000 b) :
    Calls Try.prog 10 #[rv a, rv b] w fun e w' => e = .returned (rv (meetR a b)) ∧ Below w.heap.size w w' := by
  obtain ⟨a0, a1, a2, a3⟩ := a
  obtain ⟨b0, b1, b2, b3⟩ := b
  obtain ⟨p0, p1, p2, p3, p4, p5, p6, p7⟩ := ha
  obtain ⟨q0, q1, q2, q3, q4, q5, q6, q7⟩ := hb
  simp only at *
  by_cases h1 : a2 ≤ 0 ∨ a3 ≤ 0 ∨ b2 ≤ 0 ∨ b3 ≤ 0
  · have hres : meetR ⟨a0, a1, a2, a3⟩ ⟨b0, b1, b2, b3⟩ = .zero := by unfold meetR; rw [if_pos h1]
    have HR := Lib.hid hres
    clear hres
    go_enter Try.func10, Try.ntmps10
    go_upto_region 3 with fail
    all_goals first
      | (exfalso; omega)
      | skip
    all_goals
      rw [HR.out]
      refine bodyPost_ret (v := .agg #[.int .i64 0, .int .i64 0, .int .i64 0, .int .i64 0]) (by simp [results, Try.results10, go_sem]) rfl ⟨rfl, ?_⟩
      exact ((Below.refl _ _).alloc (Nat.le_refl _) _).alloc (by simp) _ |>.alloc (by simp; omega) _
  · have e0 : decide (a2 ≤ 0) = false := by simp; omega
    have e1 : decide (a3 ≤ 0) = false := by simp; omega
    have e2 : decide (b2 ≤ 0) = false := by simp; omega
    have e3 : decide (b3 ≤ 0) = false := by simp; omega
    go_enter Try.func10, Try.ntmps10
    go_upto_region 3 with fail
    go_quiet (fail)
    obtain ⟨x, hx⟩ : ∃ x, (if a0 < b0 then b0 else a0) = x := ⟨_, rfl⟩
    obtain ⟨y, hy⟩ : ∃ y, (if a1 < b1 then b1 else a1) = y := ⟨_, rfl⟩
    have ex : x = max a0 b0 := by rw [← hx]; split <;> omega
    have ey : y = max a1 b1 := by rw [← hy]; split <;> omega
    rw [hx, hy]
    have x1 : -1000000000 ≤ x := by omega
    have x2 : x ≤ 1000000000 := by omega
    have y1 : -1000000000 ≤ y := by omega
    have y2 : y ≤ 1000000000 := by omega
    have EX := Lib.hid ex
    have EY := Lib.hid ey
    clear hx hy ex ey
    go_upto_region 4 with fail
    go_quiet (fail)
    obtain ⟨m1, hm1⟩ : ∃ m, (if b0 + b2 < a0 + a2 then b0 + b2 else a0 + a2) = m := ⟨_, rfl⟩
    obtain ⟨m2, hm2⟩ : ∃ m, (if b1 + b3 < a1 + a3 then b1 + b3 else a1 + a3) = m := ⟨_, rfl⟩
    have em1 : m1 = min (a0 + a2) (b0 + b2) := by rw [← hm1]; split <;> omega
    have em2 : m2 = min (a1 + a3) (b1 + b3) := by rw [← hm2]; split <;> omega
    rw [hm1, hm2]
    obtain ⟨ww, hw⟩ : ∃ ww, m1 - x = ww := ⟨_, rfl⟩
    obtain ⟨hh, hh'⟩ : ∃ hh, m2 - y = hh := ⟨_, rfl⟩
    have ew : ww = min (a0 + a2) (b0 + b2) - max a0 b0 := by rw [← hw, ← EX.out, em1]
    have eh : hh = min (a1 + a3) (b1 + b3) - max a1 b1 := by rw [← hh', ← EY.out, em2]
    rw [hw, hh']
    clear hm1 hm2 em1 em2
    have hres : meetR ⟨a0, a1, a2, a3⟩ ⟨b0, b1, b2, b3⟩ = if ww ≤ 0 ∨ hh ≤ 0 then .zero else ⟨x, y, ww, hh⟩ := by
      unfold meetR; rw [if_neg h1, ew, eh, EX.out, EY.out]
    have HR := Lib.hid hres
    clear hw hh' ew eh hres
    by_cases h2 : ww ≤ 0 ∨ hh ≤ 0
    · go_wp2_with fail
      all_goals first
        | (exfalso; omega)
        | skip
      all_goals
        rw [HR.out, if_pos h2]
        refine bodyPost_ret (v := .agg #[.int .i64 0, .int .i64 0, .int .i64 0, .int .i64 0]) (by simp [results, Try.results10, go_sem]) rfl ⟨rfl, ?_⟩
        exact set4_below (below_drewN ((((Below.refl _ _).alloc (Nat.le_refl _) _).alloc (by simp) _).alloc (by simp; omega) _)) (by omega) _ _ _ _
    · have e4 : decide (ww ≤ 0) = false := by simp; omega
      have e5 : decide (hh ≤ 0) = false := by simp; omega
      go_wp2_with fail
      rw [HR.out, if_neg h2]
      refine bodyPost_ret (v := .agg #[.int .i64 x, .int .i64 y, .int .i64 ww, .int .i64 hh]) (by simp [results, Try.results10, go_sem]) rfl ⟨rfl, ?_⟩
      exact set4_below (below_drewN ((((Below.refl _ _).alloc (Nat.le_refl _) _).alloc (by simp) _).alloc (by simp; omega) _)) (by omega) _ _ _ _
end Go.Proofs.Ytifgjccnhbbadaa
