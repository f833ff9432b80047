/-
  PaintDraws: the widths of characters (Units, limit, Char).
-/
import Derived.Test.YtifgjccnhbbadaaMc
import Derived.Test.YtifgjccnhbbadaaKv
import Derived.WalkKit
import Derived.Laws.RangeString
import Derived.Laws.RangeAny
import Derived.LoopTactic
set_option linter.unusedVariables false
set_option linter.unusedSimpArgs false
namespace Go.Proofs.Ytifgjccnhbbadaa
open Go.RowKit Go.K

/-- a character's width in sixteenths of the font size -/
def units (r : Int) : Int :=
  if r < 32 ∨ r > 1114111 ∨ (r ≥ 127 ∧ r ≤ 159) ∨ (r ≥ 768 ∧ r ≤ 879) then 0
  else if r ≥ 4352 then 16
  else if r = 32 ∨ r = 160 ∨ r = 33 ∨ r = 39 ∨ r = 44 ∨ r = 46 ∨ r = 58 ∨ r = 59 ∨ r = 73 ∨ r = 105 ∨ r = 106 ∨ r = 108 ∨ r = 124 then 4
  else if r = 34 ∨ r = 40 ∨ r = 41 ∨ r = 42 ∨ r = 45 ∨ r = 47 ∨ r = 91 ∨ r = 92 ∨ r = 93 ∨ r = 94 ∨ r = 102 ∨ r = 114 ∨ r = 116 ∨ r = 123 ∨ r = 125 then 6
  else if r = 37 ∨ r = 64 ∨ r = 77 ∨ r = 87 ∨ r = 109 ∨ r = 119 then 14
  else if r ≥ 65 ∧ r ≤ 90 then 10 else 8
theorem units_in (r : Int) : 0 ≤ units r ∧ units r ≤ 16 := by
  unfold units
  repeat' split
  all_goals omega
def lim (n : Int) : Int := min (max n 0) 1048576
theorem lim_in (n : Int) : 0 ≤ lim n ∧ lim n ≤ 1048576 := by unfold lim; omega
/-- a character's width in pixels -/
def chW (sz r : Int) : Int := (units r * lim sz + 15) / 16
theorem prod_in {u l : Int} (hu : 0 ≤ u ∧ u ≤ 16) (hl : 0 ≤ l ∧ l ≤ 1048576) : 0 ≤ u * l ∧ u * l ≤ 16777216 := by
  refine ⟨Int.mul_nonneg hu.1 hl.1, ?_⟩
  have := Int.mul_le_mul hu.2 hl.2 hl.1 (by decide)
  omega
theorem chW_in (sz r : Int) : 0 ≤ chW sz r ∧ chW sz r ≤ 1048577 := by
  have := prod_in (units_in r) (lim_in sz)
  unfold chW
  omega
set_option maxRecDepth 100000 in
set_option maxHeartbeats 4000000 in
theorem units_any (r : Int) (w : World) : Calls Try.prog 32 #[.int .i32 r] w fun e w' => e = .returned (.int .i64 (units r)) ∧ w' = w := by
  go_enter Try.func32, Try.ntmps32
  go_wp2_with fail
  all_goals
    refine bodyPost_ret (results_tmp Try.results32 _ _ _) rfl ⟨?_, rfl⟩
    refine congrArg (fun n => Ending.returned (.int .i64 n)) ?_
    try simp at *
    unfold units
    (repeat' split) <;> omega
theorem lim_any (n : Int) (w : World) : Calls Try.prog 33 #[.int .i64 n] w fun e w' => e = .returned (.int .i64 (lim n)) ∧ w' = w := by
  have m1 : ∀ a b : Int, (if a < b then b else a) = max a b := by intro a b; split <;> omega
  have m2 : ∀ a b : Int, (if b < a then b else a) = min a b := by intro a b; split <;> omega
  go_enter Try.func33, Try.ntmps33
  go_wp2_with fail
  exact bodyPost_ret (results_tmp Try.results33 _ _ _) rfl ⟨rfl, rfl⟩
set_option maxHeartbeats 1000000 in
theorem char_any (r sz : Int) (w : World) : Calls Try.prog 23 #[.int .i32 r, .int .i64 sz] w fun e w' => e = .returned (.int .i64 (chW sz r)) ∧ w' = w := by
  obtain ⟨u, hu⟩ : ∃ u, units r = u := ⟨_, rfl⟩
  obtain ⟨l, hl⟩ : ∃ l, lim sz = l := ⟨_, rfl⟩
  have hp := prod_in (units_in r) (lim_in sz)
  have hU := Lib.hid (units_any r)
  have hL := Lib.hid (lim_any sz)
  unfold chW
  rw [hu, hl] at hp ⊢
  rw [hu] at hU
  rw [hl] at hL
  clear hu hl
  have w1 : IntKind.i64.wrap (u * l) = u * l := by
    generalize u * l = p at hp
    simp [IntKind.wrap, IntKind.bits, IntKind.signed, Int.bmod]; omega
  have w2 : IntKind.i64.wrap (u * l + 15) = u * l + 15 := by
    generalize u * l = p at hp
    simp [IntKind.wrap, IntKind.bits, IntKind.signed, Int.bmod]; omega
  have w3 : (u * l + 15).tdiv 16 = (u * l + 15) / 16 := Int.tdiv_eq_ediv_of_nonneg (by omega)
  have w4 : IntKind.i64.wrap ((u * l + 15) / 16) = (u * l + 15) / 16 := by
    generalize u * l = p at hp
    simp [IntKind.wrap, IntKind.bits, IntKind.signed, Int.bmod]; omega
  go_enter Try.func23, Try.ntmps23
  go_wp2_with (first
    | (go_at_call 32; refine (hU.out _).mono ?_; rintro e w' ⟨rfl, rfl⟩)
    | (go_at_call 33; refine (hL.out _).mono ?_; rintro e w' ⟨rfl, rfl⟩)
    | fail)
  exact bodyPost_ret (results_tmp Try.results23 _ _ _) rfl ⟨rfl, rfl⟩
end Go.Proofs.Ytifgjccnhbbadaa
