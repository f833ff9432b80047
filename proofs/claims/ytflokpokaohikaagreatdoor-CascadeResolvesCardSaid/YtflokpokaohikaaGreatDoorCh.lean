/-
  CascadeResolves: the walk of the law.
-/
import Derived.Test.YtflokpokaohikaaGreatDoorCg
set_option linter.unusedVariables false
set_option linter.unusedSimpArgs false
namespace Go.Proofs.YtflokpokaohikaaGreatDoor
open Go.RowKit Go.K Go.Maps
set_option maxRecDepth 100000 in
set_option maxHeartbeats 2000000 in
theorem law_go (w : World) (k v b : Int) (hv : i32b v) (hb : i32b b) : Calls Tryz.prog 3 #[.int .i64 k, .int .i32 v, .int .i32 b] w fun e w' => e = .returned (.bool true) ∧ Below w.heap.size w w' := by
  have HW := Lib.hid awake_c
  have H0 := Lib.hid (St.start w (Below.refl _ _))
  obtain ⟨m1, m2⟩ := mulb hb hv
  have HR := Lib.hid fun w => resolve_c w k v b m1 m2
  have wv : IntKind.i64.wrap v = v := by obtain ⟨a1, a2⟩ := hv; simp [IntKind.wrap, IntKind.bits, IntKind.signed, Int.bmod]; omega
  have wb : IntKind.i64.wrap b = b := by obtain ⟨a1, a2⟩ := hb; simp [IntKind.wrap, IntKind.bits, IntKind.signed, Int.bmod]; omega
  by_cases k1 : k = 1
  · subst k1
    have hr : resv 1 v b = (v, true) := rfl
    simp only [hr] at HR
    clear hr
    go_enter Tryz.func3, Tryz.ntmps3
    go_wp2_with (first
      | (go_at_call 4; refine (HW.out _).mono ?_; rintro e W' ⟨rfl, hb⟩; have H6 := Lib.hid (H0.out.of_below hb); clear hb)
      | (go_at_call 5; refine (HR.out _).mono ?_; rintro e W7 ⟨rfl, hb⟩; have H7 := Lib.hid (H6.out.of_below hb); clear hb)
      | fail)
    exact bodyPost_ret (results_tmp Tryz.results3 _ _ _) rfl ⟨rfl, H7.out.bel⟩
  · by_cases k2 : k = 2
    · subst k2
      have hr : resv 2 v b = ((b * v).tdiv 10000, true) := rfl
      simp only [hr] at HR
      clear hr k1
      obtain ⟨r1, r2, r3⟩ := rest_law b v
      have hm : IntKind.i64.wrap (b * v) = b * v := by simp [IntKind.wrap, IntKind.bits, IntKind.signed, Int.bmod]; omega
      have hm2 : IntKind.i64.wrap ((b * v).tdiv 10000 * 10000) = (b * v).tdiv 10000 * 10000 := by
        generalize (b * v).tdiv 10000 = n at *
        simp [IntKind.wrap, IntKind.bits, IntKind.signed, Int.bmod]; omega
      have hm3 : IntKind.i64.wrap (b * v - (b * v).tdiv 10000 * 10000) = b * v - (b * v).tdiv 10000 * 10000 := by
        generalize b * v - (b * v).tdiv 10000 * 10000 = n at *
        simp [IntKind.wrap, IntKind.bits, IntKind.signed, Int.bmod]; omega
      revert hm hm2 hm3 r1 r2 r3 HR
      generalize (b * v).tdiv 10000 = n
      intro HR
      intro r1 r2 r3 hm hm2 hm3
      have ht : (b * v - n * 10000 == 0 || decide (n * 10000 < b * v) == (decide (0 < b) == decide (0 < v))) = true := by
        rcases r3 with q | q
        · simp [q]
        · have e : decide (n * 10000 < b * v) = decide (b * v - n * 10000 > 0) := decide_eq_decide.2 (by omega)
          rw [e, q]
          simp
      have HT := Lib.hid ht
      clear ht
      go_enter Tryz.func3, Tryz.ntmps3
      go_wp2_with (first
        | (go_at_call 4; refine (HW.out _).mono ?_; rintro e W' ⟨rfl, hb⟩; have H6 := Lib.hid (H0.out.of_below hb); clear hb)
        | (go_at_call 5; refine (HR.out _).mono ?_; rintro e W7 ⟨rfl, hb⟩; have H7 := Lib.hid (H6.out.of_below hb); clear hb)
        | fail)
      all_goals first
        | exact bodyPost_ret (results_tmp Tryz.results3 _ _ _) rfl ⟨rfl, H7.out.bel⟩
        | (rw [HT.out]; exact bodyPost_ret (results_tmp Tryz.results3 _ _ _) rfl ⟨rfl, H7.out.bel⟩)
    · have hr : resv k v b = (0, false) := by rw [resv, if_neg k1, if_neg k2]
      simp only [hr] at HR
      clear hr
      go_enter Tryz.func3, Tryz.ntmps3
      go_wp2_with (first
        | (go_at_call 4; refine (HW.out _).mono ?_; rintro e W' ⟨rfl, hb⟩; have H6 := Lib.hid (H0.out.of_below hb); clear hb)
        | (go_at_call 5; refine (HR.out _).mono ?_; rintro e W7 ⟨rfl, hb⟩; have H7 := Lib.hid (H6.out.of_below hb); clear hb)
        | fail)
      exact bodyPost_ret (results_tmp Tryz.results3 _ _ _) rfl ⟨rfl, H7.out.bel⟩
end Go.Proofs.YtflokpokaohikaaGreatDoor
