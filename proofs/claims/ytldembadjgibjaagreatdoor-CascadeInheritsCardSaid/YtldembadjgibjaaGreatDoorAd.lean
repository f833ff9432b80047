/-
  Cascade: measure.
-/
import Derived.Test.YtldembadjgibjaaGreatDoorAc
import Derived.Test.YtldembadjgibjaaGreatDoorKc
set_option linter.unusedVariables false
set_option linter.unusedSimpArgs false
namespace Go.Proofs.YtldembadjgibjaaGreatDoor
open Go.RowKit Go.K Go.PlainAid Go.Lib

/-- a value: kind, number, word -/
structure Va where
  kd : Int
  nm : Int
  wd : List UInt8
deriving DecidableEq
def Va.cells (v : Va) : Array Value := #[.int .i64 v.kd, .int .i64 v.nm, .string (S v.wd)]
def bit (T b : Int) : Bool := bits .and .i64 T b != 0
def measM (T : Int) (l : List UInt8) : Va × Bool :=
  if (decM l).2.2 = false ∨ ((decM l).1 < 0 ∧ bit T 32 = true) then (⟨0, 0, []⟩, false)
  else if (decM l).2.1 = [] ∧ bit T 8 = true then (⟨2, (decM l).1, []⟩, !bit T 16 || (decM l).1.tmod 1000 == 0)
  else if (decM l).2.1 = [112, 120] ∨ ((decM l).2.1 = [] ∧ (decM l).1 = 0) then (⟨3, (decM l).1, []⟩, bit T 2)
  else if (decM l).2.1 = [101, 109] then (⟨4, (decM l).1, []⟩, bit T 2)
  else if (decM l).2.1 = [37] then (⟨5, (decM l).1, []⟩, bit T 4)
  else (⟨0, 0, []⟩, false)
theorem l_beq {a b : List UInt8} (h : ¬ a = b) : (a == b) = false := by rw [beq_eq_false_iff_ne]; exact h
theorem l_emp {a : List UInt8} (h : ¬ a = []) : a.isEmpty = false := by cases a with
  | nil => exact absurd rfl h
  | cons _ _ => rfl
set_option maxRecDepth 100000 in
set_option maxHeartbeats 4000000 in
theorem measure_any (T : Int) (l : List UInt8) (hl : l.length ≤ 100000) (w : World) : Calls Tryz.prog 82 #[.string (S l), .int .i64 T] w fun e w' => e = .returned (.tuple #[.agg (measM T l).1.cells, .bool (measM T l).2]) ∧ Below w.heap.size w w' := by
  have hd := fun w => decimal_any l hl w
  obtain ⟨⟨vv, vb⟩, hv⟩ : ∃ m, measM T l = m := ⟨_, rfl⟩
  rw [hv]
  obtain ⟨⟨n, r, ok⟩, hdm⟩ : ∃ d, decM l = d := ⟨_, rfl⟩
  unfold measM at hv
  simp only [hdm] at hd hv
  clear hdm
  obtain ⟨a2, h2⟩ : ∃ a, bits .and .i64 T 2 = a := ⟨_, rfl⟩
  obtain ⟨a4, h4⟩ : ∃ a, bits .and .i64 T 4 = a := ⟨_, rfl⟩
  obtain ⟨a8, h8⟩ : ∃ a, bits .and .i64 T 8 = a := ⟨_, rfl⟩
  obtain ⟨a16, h16⟩ : ∃ a, bits .and .i64 T 16 = a := ⟨_, rfl⟩
  obtain ⟨a32, h32⟩ : ∃ a, bits .and .i64 T 32 = a := ⟨_, rfl⟩
  unfold bit at hv
  simp only [h2, h4, h8, h16, h32] at hv
  have HV := Lib.hid hv
  have H := Lib.hid ((St.start w (Below.refl _ w)).new #[.int .i64 0, .int .i64 0, .string ⟨#[]⟩] 68)
  have HD := Lib.hid hd
  clear hd hv
  cases ok with
  | false =>
    have q : (vv, vb) = ((⟨0, 0, []⟩ : Va), false) := by rw [← HV.out]; simp []
    obtain ⟨rfl, rfl⟩ := Prod.mk.inj q
    clear q HV
    go_enter Tryz.func82, Tryz.ntmps82
    go_wp2_with (go_at_call 116; refine (HD.out _).mono ?_; rintro e w1 ⟨rfl, hb1⟩; have H1 := Lib.hid (H.out.of_below hb1); have d0 := H1.out.cell 0; have d1 := H1.out.cell 1; have d2 := H1.out.cell 2; have f0 := H1.out.free 0; have f1 := H1.out.free 1; have f2 := H1.out.free 2; have hlt := H1.out.blk.1.lt; simp at d0 d1 d2)
    have H9 := Lib.hid (((H1.out.set 0 (.int .i64 0)).set 1 (.int .i64 0)).set 2 (.string ⟨#[]⟩))
    simp only [List.setIfInBounds_toArray, List.set_cons_zero, List.set_cons_succ] at H9
    obtain ⟨w9, e9⟩ : ∃ w9, ((w1.setCell ⟨w.heap.size, 0, none⟩ (.int .i64 0)).setCell ⟨w.heap.size, 1, none⟩ (.int .i64 0)).setCell ⟨w.heap.size, 2, none⟩ (.string ⟨#[]⟩) = w9 := ⟨_, rfl⟩
    rw [e9] at H9
    rw [e9]
    have z0 := H9.out.cell 0
    have z1 := H9.out.cell 1
    have z2 := H9.out.cell 2
    simp at z0 z1 z2
    refine bodyPost_ret (v := .tuple #[.agg #[.int .i64 0, .int .i64 0, .string ⟨#[]⟩], .bool false]) (by simp [results, Tryz.results82, go_sem, z0, z1, z2]) rfl ⟨by simp [Va.cells], H9.out.bel⟩
  | true =>
    by_cases hn : n < 0
    · by_cases ha : a32 = 0
      · have hnn : ¬ n = 0 := by omega
        by_cases hr : r = []
        · subst hr
          by_cases h8 : a8 = 0
          · have hn0 : ¬ n = 0 := by omega
            skip
            · have hnb : (n == 0) = false := by simpa using hn0
              have q : (vv, vb) = ((⟨0, 0, []⟩ : Va), false) := by rw [← HV.out]; simp [hn, ha, h8, hn0]
              obtain ⟨rfl, rfl⟩ := Prod.mk.inj q
              clear q HV
              go_enter Tryz.func82, Tryz.ntmps82
              go_wp2_with (go_at_call 116; refine (HD.out _).mono ?_; rintro e w1 ⟨rfl, hb1⟩; have H1 := Lib.hid (H.out.of_below hb1); have d0 := H1.out.cell 0; have d1 := H1.out.cell 1; have d2 := H1.out.cell 2; have f0 := H1.out.free 0; have f1 := H1.out.free 1; have f2 := H1.out.free 2; have hlt := H1.out.blk.1.lt; simp at d0 d1 d2)
              have H9 := Lib.hid (((H1.out.set 0 (.int .i64 0)).set 1 (.int .i64 0)).set 2 (.string ⟨#[]⟩))
              simp only [List.setIfInBounds_toArray, List.set_cons_zero, List.set_cons_succ] at H9
              obtain ⟨w9, e9⟩ : ∃ w9, ((w1.setCell ⟨w.heap.size, 0, none⟩ (.int .i64 0)).setCell ⟨w.heap.size, 1, none⟩ (.int .i64 0)).setCell ⟨w.heap.size, 2, none⟩ (.string ⟨#[]⟩) = w9 := ⟨_, rfl⟩
              rw [e9] at H9
              rw [e9]
              have z0 := H9.out.cell 0
              have z1 := H9.out.cell 1
              have z2 := H9.out.cell 2
              simp at z0 z1 z2
              refine bodyPost_ret (v := .tuple #[.agg #[.int .i64 0, .int .i64 0, .string ⟨#[]⟩], .bool false]) (by simp [results, Tryz.results82, go_sem, z0, z1, z2]) rfl ⟨by simp [Va.cells], H9.out.bel⟩
          · have h8b : (a8 == 0) = false := by simpa using h8
            by_cases h16 : a16 = 0
            · skip
              have q : (vv, vb) = ((⟨2, n, []⟩ : Va), true) := by rw [← HV.out]; simp [hn, ha, h8, h16]
              obtain ⟨rfl, rfl⟩ := Prod.mk.inj q
              clear q HV
              go_enter Tryz.func82, Tryz.ntmps82
              go_wp2_with (go_at_call 116; refine (HD.out _).mono ?_; rintro e w1 ⟨rfl, hb1⟩; have H1 := Lib.hid (H.out.of_below hb1); have d0 := H1.out.cell 0; have d1 := H1.out.cell 1; have d2 := H1.out.cell 2; have f0 := H1.out.free 0; have f1 := H1.out.free 1; have f2 := H1.out.free 2; have hlt := H1.out.blk.1.lt; simp at d0 d1 d2)
              have H9 := Lib.hid (((H1.out.set 0 (.int .i64 2)).set 1 (.int .i64 n)).set 2 (.string ⟨#[]⟩))
              simp only [List.setIfInBounds_toArray, List.set_cons_zero, List.set_cons_succ] at H9
              obtain ⟨w9, e9⟩ : ∃ w9, ((w1.setCell ⟨w.heap.size, 0, none⟩ (.int .i64 2)).setCell ⟨w.heap.size, 1, none⟩ (.int .i64 n)).setCell ⟨w.heap.size, 2, none⟩ (.string ⟨#[]⟩) = w9 := ⟨_, rfl⟩
              rw [e9] at H9
              rw [e9]
              have z0 := H9.out.cell 0
              have z1 := H9.out.cell 1
              have z2 := H9.out.cell 2
              simp at z0 z1 z2
              refine bodyPost_ret (v := .tuple #[.agg #[.int .i64 2, .int .i64 n, .string ⟨#[]⟩], .bool true]) (by simp [results, Tryz.results82, go_sem, z0, z1, z2]) rfl ⟨by simp [Va.cells], H9.out.bel⟩
            · have h16b : (a16 == 0) = false := by simpa using h16
              have q : (vv, vb) = ((⟨2, n, []⟩ : Va), (n.tmod 1000 == 0)) := by rw [← HV.out]; simp [hn, ha, h8, h16]
              obtain ⟨rfl, rfl⟩ := Prod.mk.inj q
              clear q HV
              go_enter Tryz.func82, Tryz.ntmps82
              go_wp2_with (go_at_call 116; refine (HD.out _).mono ?_; rintro e w1 ⟨rfl, hb1⟩; have H1 := Lib.hid (H.out.of_below hb1); have d0 := H1.out.cell 0; have d1 := H1.out.cell 1; have d2 := H1.out.cell 2; have f0 := H1.out.free 0; have f1 := H1.out.free 1; have f2 := H1.out.free 2; have hlt := H1.out.blk.1.lt; simp at d0 d1 d2)
              have H9 := Lib.hid (((H1.out.set 0 (.int .i64 2)).set 1 (.int .i64 n)).set 2 (.string ⟨#[]⟩))
              simp only [List.setIfInBounds_toArray, List.set_cons_zero, List.set_cons_succ] at H9
              obtain ⟨w9, e9⟩ : ∃ w9, ((w1.setCell ⟨w.heap.size, 0, none⟩ (.int .i64 2)).setCell ⟨w.heap.size, 1, none⟩ (.int .i64 n)).setCell ⟨w.heap.size, 2, none⟩ (.string ⟨#[]⟩) = w9 := ⟨_, rfl⟩
              rw [e9] at H9
              rw [e9]
              have z0 := H9.out.cell 0
              have z1 := H9.out.cell 1
              have z2 := H9.out.cell 2
              simp at z0 z1 z2
              refine bodyPost_ret (v := .tuple #[.agg #[.int .i64 2, .int .i64 n, .string ⟨#[]⟩], .bool (n.tmod 1000 == 0)]) (by simp [results, Tryz.results82, go_sem, z0, z1, z2]) rfl ⟨by simp [Va.cells], H9.out.bel⟩
        · have hrb := l_emp hr
          by_cases hpx : r = [112, 120]
          · subst hpx
            have q : (vv, vb) = ((⟨3, n, []⟩ : Va), (a2 != 0)) := by rw [← HV.out]; simp [hn, ha]
            obtain ⟨rfl, rfl⟩ := Prod.mk.inj q
            clear q HV
            go_enter Tryz.func82, Tryz.ntmps82
            go_wp2_with (go_at_call 116; refine (HD.out _).mono ?_; rintro e w1 ⟨rfl, hb1⟩; have H1 := Lib.hid (H.out.of_below hb1); have d0 := H1.out.cell 0; have d1 := H1.out.cell 1; have d2 := H1.out.cell 2; have f0 := H1.out.free 0; have f1 := H1.out.free 1; have f2 := H1.out.free 2; have hlt := H1.out.blk.1.lt; simp at d0 d1 d2)
            have H9 := Lib.hid (((H1.out.set 0 (.int .i64 3)).set 1 (.int .i64 n)).set 2 (.string ⟨#[]⟩))
            simp only [List.setIfInBounds_toArray, List.set_cons_zero, List.set_cons_succ] at H9
            obtain ⟨w9, e9⟩ : ∃ w9, ((w1.setCell ⟨w.heap.size, 0, none⟩ (.int .i64 3)).setCell ⟨w.heap.size, 1, none⟩ (.int .i64 n)).setCell ⟨w.heap.size, 2, none⟩ (.string ⟨#[]⟩) = w9 := ⟨_, rfl⟩
            rw [e9] at H9
            rw [e9]
            have z0 := H9.out.cell 0
            have z1 := H9.out.cell 1
            have z2 := H9.out.cell 2
            simp at z0 z1 z2
            refine bodyPost_ret (v := .tuple #[.agg #[.int .i64 3, .int .i64 n, .string ⟨#[]⟩], .bool (a2 != 0)]) (by simp [results, Tryz.results82, go_sem, z0, z1, z2]) rfl ⟨by simp [Va.cells], H9.out.bel⟩
          · have hpxb := l_beq hpx
            by_cases hem : r = [101, 109]
            · subst hem
              have q : (vv, vb) = ((⟨4, n, []⟩ : Va), (a2 != 0)) := by rw [← HV.out]; simp [hn, ha]
              obtain ⟨rfl, rfl⟩ := Prod.mk.inj q
              clear q HV
              go_enter Tryz.func82, Tryz.ntmps82
              go_wp2_with (go_at_call 116; refine (HD.out _).mono ?_; rintro e w1 ⟨rfl, hb1⟩; have H1 := Lib.hid (H.out.of_below hb1); have d0 := H1.out.cell 0; have d1 := H1.out.cell 1; have d2 := H1.out.cell 2; have f0 := H1.out.free 0; have f1 := H1.out.free 1; have f2 := H1.out.free 2; have hlt := H1.out.blk.1.lt; simp at d0 d1 d2)
              have H9 := Lib.hid (((H1.out.set 0 (.int .i64 4)).set 1 (.int .i64 n)).set 2 (.string ⟨#[]⟩))
              simp only [List.setIfInBounds_toArray, List.set_cons_zero, List.set_cons_succ] at H9
              obtain ⟨w9, e9⟩ : ∃ w9, ((w1.setCell ⟨w.heap.size, 0, none⟩ (.int .i64 4)).setCell ⟨w.heap.size, 1, none⟩ (.int .i64 n)).setCell ⟨w.heap.size, 2, none⟩ (.string ⟨#[]⟩) = w9 := ⟨_, rfl⟩
              rw [e9] at H9
              rw [e9]
              have z0 := H9.out.cell 0
              have z1 := H9.out.cell 1
              have z2 := H9.out.cell 2
              simp at z0 z1 z2
              refine bodyPost_ret (v := .tuple #[.agg #[.int .i64 4, .int .i64 n, .string ⟨#[]⟩], .bool (a2 != 0)]) (by simp [results, Tryz.results82, go_sem, z0, z1, z2]) rfl ⟨by simp [Va.cells], H9.out.bel⟩
            · have hemb := l_beq hem
              by_cases hpc : r = [37]
              · subst hpc
                have q : (vv, vb) = ((⟨5, n, []⟩ : Va), (a4 != 0)) := by rw [← HV.out]; simp [hn, ha]
                obtain ⟨rfl, rfl⟩ := Prod.mk.inj q
                clear q HV
                go_enter Tryz.func82, Tryz.ntmps82
                go_wp2_with (go_at_call 116; refine (HD.out _).mono ?_; rintro e w1 ⟨rfl, hb1⟩; have H1 := Lib.hid (H.out.of_below hb1); have d0 := H1.out.cell 0; have d1 := H1.out.cell 1; have d2 := H1.out.cell 2; have f0 := H1.out.free 0; have f1 := H1.out.free 1; have f2 := H1.out.free 2; have hlt := H1.out.blk.1.lt; simp at d0 d1 d2)
                have H9 := Lib.hid (((H1.out.set 0 (.int .i64 5)).set 1 (.int .i64 n)).set 2 (.string ⟨#[]⟩))
                simp only [List.setIfInBounds_toArray, List.set_cons_zero, List.set_cons_succ] at H9
                obtain ⟨w9, e9⟩ : ∃ w9, ((w1.setCell ⟨w.heap.size, 0, none⟩ (.int .i64 5)).setCell ⟨w.heap.size, 1, none⟩ (.int .i64 n)).setCell ⟨w.heap.size, 2, none⟩ (.string ⟨#[]⟩) = w9 := ⟨_, rfl⟩
                rw [e9] at H9
                rw [e9]
                have z0 := H9.out.cell 0
                have z1 := H9.out.cell 1
                have z2 := H9.out.cell 2
                simp at z0 z1 z2
                refine bodyPost_ret (v := .tuple #[.agg #[.int .i64 5, .int .i64 n, .string ⟨#[]⟩], .bool (a4 != 0)]) (by simp [results, Tryz.results82, go_sem, z0, z1, z2]) rfl ⟨by simp [Va.cells], H9.out.bel⟩
              · have hpcb := l_beq hpc
                have q : (vv, vb) = ((⟨0, 0, []⟩ : Va), false) := by rw [← HV.out]; simp [hn, ha, hr, hpx, hem, hpc]
                obtain ⟨rfl, rfl⟩ := Prod.mk.inj q
                clear q HV
                go_enter Tryz.func82, Tryz.ntmps82
                go_wp2_with (go_at_call 116; refine (HD.out _).mono ?_; rintro e w1 ⟨rfl, hb1⟩; have H1 := Lib.hid (H.out.of_below hb1); have d0 := H1.out.cell 0; have d1 := H1.out.cell 1; have d2 := H1.out.cell 2; have f0 := H1.out.free 0; have f1 := H1.out.free 1; have f2 := H1.out.free 2; have hlt := H1.out.blk.1.lt; simp at d0 d1 d2)
                have H9 := Lib.hid (((H1.out.set 0 (.int .i64 0)).set 1 (.int .i64 0)).set 2 (.string ⟨#[]⟩))
                simp only [List.setIfInBounds_toArray, List.set_cons_zero, List.set_cons_succ] at H9
                obtain ⟨w9, e9⟩ : ∃ w9, ((w1.setCell ⟨w.heap.size, 0, none⟩ (.int .i64 0)).setCell ⟨w.heap.size, 1, none⟩ (.int .i64 0)).setCell ⟨w.heap.size, 2, none⟩ (.string ⟨#[]⟩) = w9 := ⟨_, rfl⟩
                rw [e9] at H9
                rw [e9]
                have z0 := H9.out.cell 0
                have z1 := H9.out.cell 1
                have z2 := H9.out.cell 2
                simp at z0 z1 z2
                refine bodyPost_ret (v := .tuple #[.agg #[.int .i64 0, .int .i64 0, .string ⟨#[]⟩], .bool false]) (by simp [results, Tryz.results82, go_sem, z0, z1, z2]) rfl ⟨by simp [Va.cells], H9.out.bel⟩
      · have hab : (a32 == 0) = false := by simpa using ha
        have q : (vv, vb) = ((⟨0, 0, []⟩ : Va), false) := by rw [← HV.out]; simp [hn, ha]
        obtain ⟨rfl, rfl⟩ := Prod.mk.inj q
        clear q HV
        go_enter Tryz.func82, Tryz.ntmps82
        go_wp2_with (go_at_call 116; refine (HD.out _).mono ?_; rintro e w1 ⟨rfl, hb1⟩; have H1 := Lib.hid (H.out.of_below hb1); have d0 := H1.out.cell 0; have d1 := H1.out.cell 1; have d2 := H1.out.cell 2; have f0 := H1.out.free 0; have f1 := H1.out.free 1; have f2 := H1.out.free 2; have hlt := H1.out.blk.1.lt; simp at d0 d1 d2)
        have H9 := Lib.hid (((H1.out.set 0 (.int .i64 0)).set 1 (.int .i64 0)).set 2 (.string ⟨#[]⟩))
        simp only [List.setIfInBounds_toArray, List.set_cons_zero, List.set_cons_succ] at H9
        obtain ⟨w9, e9⟩ : ∃ w9, ((w1.setCell ⟨w.heap.size, 0, none⟩ (.int .i64 0)).setCell ⟨w.heap.size, 1, none⟩ (.int .i64 0)).setCell ⟨w.heap.size, 2, none⟩ (.string ⟨#[]⟩) = w9 := ⟨_, rfl⟩
        rw [e9] at H9
        rw [e9]
        have z0 := H9.out.cell 0
        have z1 := H9.out.cell 1
        have z2 := H9.out.cell 2
        simp at z0 z1 z2
        refine bodyPost_ret (v := .tuple #[.agg #[.int .i64 0, .int .i64 0, .string ⟨#[]⟩], .bool false]) (by simp [results, Tryz.results82, go_sem, z0, z1, z2]) rfl ⟨by simp [Va.cells], H9.out.bel⟩
    · 
      by_cases hr : r = []
      · subst hr
        by_cases h8 : a8 = 0
        · by_cases hn0 : n = 0
          · subst hn0
            have q : (vv, vb) = ((⟨3, 0, []⟩ : Va), (a2 != 0)) := by rw [← HV.out]; simp [h8]
            obtain ⟨rfl, rfl⟩ := Prod.mk.inj q
            clear q HV
            go_enter Tryz.func82, Tryz.ntmps82
            go_wp2_with (go_at_call 116; refine (HD.out _).mono ?_; rintro e w1 ⟨rfl, hb1⟩; have H1 := Lib.hid (H.out.of_below hb1); have d0 := H1.out.cell 0; have d1 := H1.out.cell 1; have d2 := H1.out.cell 2; have f0 := H1.out.free 0; have f1 := H1.out.free 1; have f2 := H1.out.free 2; have hlt := H1.out.blk.1.lt; simp at d0 d1 d2)
            have H9 := Lib.hid (((H1.out.set 0 (.int .i64 3)).set 1 (.int .i64 0)).set 2 (.string ⟨#[]⟩))
            simp only [List.setIfInBounds_toArray, List.set_cons_zero, List.set_cons_succ] at H9
            obtain ⟨w9, e9⟩ : ∃ w9, ((w1.setCell ⟨w.heap.size, 0, none⟩ (.int .i64 3)).setCell ⟨w.heap.size, 1, none⟩ (.int .i64 0)).setCell ⟨w.heap.size, 2, none⟩ (.string ⟨#[]⟩) = w9 := ⟨_, rfl⟩
            rw [e9] at H9
            rw [e9]
            have z0 := H9.out.cell 0
            have z1 := H9.out.cell 1
            have z2 := H9.out.cell 2
            simp at z0 z1 z2
            refine bodyPost_ret (v := .tuple #[.agg #[.int .i64 3, .int .i64 0, .string ⟨#[]⟩], .bool (a2 != 0)]) (by simp [results, Tryz.results82, go_sem, z0, z1, z2]) rfl ⟨by simp [Va.cells], H9.out.bel⟩
          · have hnb : (n == 0) = false := by simpa using hn0
            have q : (vv, vb) = ((⟨0, 0, []⟩ : Va), false) := by rw [← HV.out]; simp [hn, h8, hn0]
            obtain ⟨rfl, rfl⟩ := Prod.mk.inj q
            clear q HV
            go_enter Tryz.func82, Tryz.ntmps82
            go_wp2_with (go_at_call 116; refine (HD.out _).mono ?_; rintro e w1 ⟨rfl, hb1⟩; have H1 := Lib.hid (H.out.of_below hb1); have d0 := H1.out.cell 0; have d1 := H1.out.cell 1; have d2 := H1.out.cell 2; have f0 := H1.out.free 0; have f1 := H1.out.free 1; have f2 := H1.out.free 2; have hlt := H1.out.blk.1.lt; simp at d0 d1 d2)
            have H9 := Lib.hid (((H1.out.set 0 (.int .i64 0)).set 1 (.int .i64 0)).set 2 (.string ⟨#[]⟩))
            simp only [List.setIfInBounds_toArray, List.set_cons_zero, List.set_cons_succ] at H9
            obtain ⟨w9, e9⟩ : ∃ w9, ((w1.setCell ⟨w.heap.size, 0, none⟩ (.int .i64 0)).setCell ⟨w.heap.size, 1, none⟩ (.int .i64 0)).setCell ⟨w.heap.size, 2, none⟩ (.string ⟨#[]⟩) = w9 := ⟨_, rfl⟩
            rw [e9] at H9
            rw [e9]
            have z0 := H9.out.cell 0
            have z1 := H9.out.cell 1
            have z2 := H9.out.cell 2
            simp at z0 z1 z2
            refine bodyPost_ret (v := .tuple #[.agg #[.int .i64 0, .int .i64 0, .string ⟨#[]⟩], .bool false]) (by simp [results, Tryz.results82, go_sem, z0, z1, z2]) rfl ⟨by simp [Va.cells], H9.out.bel⟩
        · have h8b : (a8 == 0) = false := by simpa using h8
          by_cases h16 : a16 = 0
          · skip
            have q : (vv, vb) = ((⟨2, n, []⟩ : Va), true) := by rw [← HV.out]; simp [hn, h8, h16]
            obtain ⟨rfl, rfl⟩ := Prod.mk.inj q
            clear q HV
            go_enter Tryz.func82, Tryz.ntmps82
            go_wp2_with (go_at_call 116; refine (HD.out _).mono ?_; rintro e w1 ⟨rfl, hb1⟩; have H1 := Lib.hid (H.out.of_below hb1); have d0 := H1.out.cell 0; have d1 := H1.out.cell 1; have d2 := H1.out.cell 2; have f0 := H1.out.free 0; have f1 := H1.out.free 1; have f2 := H1.out.free 2; have hlt := H1.out.blk.1.lt; simp at d0 d1 d2)
            have H9 := Lib.hid (((H1.out.set 0 (.int .i64 2)).set 1 (.int .i64 n)).set 2 (.string ⟨#[]⟩))
            simp only [List.setIfInBounds_toArray, List.set_cons_zero, List.set_cons_succ] at H9
            obtain ⟨w9, e9⟩ : ∃ w9, ((w1.setCell ⟨w.heap.size, 0, none⟩ (.int .i64 2)).setCell ⟨w.heap.size, 1, none⟩ (.int .i64 n)).setCell ⟨w.heap.size, 2, none⟩ (.string ⟨#[]⟩) = w9 := ⟨_, rfl⟩
            rw [e9] at H9
            rw [e9]
            have z0 := H9.out.cell 0
            have z1 := H9.out.cell 1
            have z2 := H9.out.cell 2
            simp at z0 z1 z2
            refine bodyPost_ret (v := .tuple #[.agg #[.int .i64 2, .int .i64 n, .string ⟨#[]⟩], .bool true]) (by simp [results, Tryz.results82, go_sem, z0, z1, z2]) rfl ⟨by simp [Va.cells], H9.out.bel⟩
          · have h16b : (a16 == 0) = false := by simpa using h16
            have ht : n.tmod 1000 = n % 1000 := Int.tmod_eq_emod_of_nonneg (by omega)
            have q : (vv, vb) = ((⟨2, n, []⟩ : Va), (n % 1000 == 0)) := by rw [← HV.out]; simp [hn, h8, h16, ht]
            obtain ⟨rfl, rfl⟩ := Prod.mk.inj q
            clear q HV
            go_enter Tryz.func82, Tryz.ntmps82
            go_wp2_with (go_at_call 116; refine (HD.out _).mono ?_; rintro e w1 ⟨rfl, hb1⟩; have H1 := Lib.hid (H.out.of_below hb1); have d0 := H1.out.cell 0; have d1 := H1.out.cell 1; have d2 := H1.out.cell 2; have f0 := H1.out.free 0; have f1 := H1.out.free 1; have f2 := H1.out.free 2; have hlt := H1.out.blk.1.lt; simp at d0 d1 d2)
            have H9 := Lib.hid (((H1.out.set 0 (.int .i64 2)).set 1 (.int .i64 n)).set 2 (.string ⟨#[]⟩))
            simp only [List.setIfInBounds_toArray, List.set_cons_zero, List.set_cons_succ] at H9
            obtain ⟨w9, e9⟩ : ∃ w9, ((w1.setCell ⟨w.heap.size, 0, none⟩ (.int .i64 2)).setCell ⟨w.heap.size, 1, none⟩ (.int .i64 n)).setCell ⟨w.heap.size, 2, none⟩ (.string ⟨#[]⟩) = w9 := ⟨_, rfl⟩
            rw [e9] at H9
            rw [e9]
            have z0 := H9.out.cell 0
            have z1 := H9.out.cell 1
            have z2 := H9.out.cell 2
            simp at z0 z1 z2
            refine bodyPost_ret (v := .tuple #[.agg #[.int .i64 2, .int .i64 n, .string ⟨#[]⟩], .bool (n % 1000 == 0)]) (by simp [results, Tryz.results82, go_sem, z0, z1, z2]) rfl ⟨by simp [Va.cells], H9.out.bel⟩
      · have hrb := l_emp hr
        by_cases hpx : r = [112, 120]
        · subst hpx
          have q : (vv, vb) = ((⟨3, n, []⟩ : Va), (a2 != 0)) := by rw [← HV.out]; simp [hn]
          obtain ⟨rfl, rfl⟩ := Prod.mk.inj q
          clear q HV
          go_enter Tryz.func82, Tryz.ntmps82
          go_wp2_with (go_at_call 116; refine (HD.out _).mono ?_; rintro e w1 ⟨rfl, hb1⟩; have H1 := Lib.hid (H.out.of_below hb1); have d0 := H1.out.cell 0; have d1 := H1.out.cell 1; have d2 := H1.out.cell 2; have f0 := H1.out.free 0; have f1 := H1.out.free 1; have f2 := H1.out.free 2; have hlt := H1.out.blk.1.lt; simp at d0 d1 d2)
          have H9 := Lib.hid (((H1.out.set 0 (.int .i64 3)).set 1 (.int .i64 n)).set 2 (.string ⟨#[]⟩))
          simp only [List.setIfInBounds_toArray, List.set_cons_zero, List.set_cons_succ] at H9
          obtain ⟨w9, e9⟩ : ∃ w9, ((w1.setCell ⟨w.heap.size, 0, none⟩ (.int .i64 3)).setCell ⟨w.heap.size, 1, none⟩ (.int .i64 n)).setCell ⟨w.heap.size, 2, none⟩ (.string ⟨#[]⟩) = w9 := ⟨_, rfl⟩
          rw [e9] at H9
          rw [e9]
          have z0 := H9.out.cell 0
          have z1 := H9.out.cell 1
          have z2 := H9.out.cell 2
          simp at z0 z1 z2
          refine bodyPost_ret (v := .tuple #[.agg #[.int .i64 3, .int .i64 n, .string ⟨#[]⟩], .bool (a2 != 0)]) (by simp [results, Tryz.results82, go_sem, z0, z1, z2]) rfl ⟨by simp [Va.cells], H9.out.bel⟩
        · have hpxb := l_beq hpx
          by_cases hem : r = [101, 109]
          · subst hem
            have q : (vv, vb) = ((⟨4, n, []⟩ : Va), (a2 != 0)) := by rw [← HV.out]; simp [hn]
            obtain ⟨rfl, rfl⟩ := Prod.mk.inj q
            clear q HV
            go_enter Tryz.func82, Tryz.ntmps82
            go_wp2_with (go_at_call 116; refine (HD.out _).mono ?_; rintro e w1 ⟨rfl, hb1⟩; have H1 := Lib.hid (H.out.of_below hb1); have d0 := H1.out.cell 0; have d1 := H1.out.cell 1; have d2 := H1.out.cell 2; have f0 := H1.out.free 0; have f1 := H1.out.free 1; have f2 := H1.out.free 2; have hlt := H1.out.blk.1.lt; simp at d0 d1 d2)
            have H9 := Lib.hid (((H1.out.set 0 (.int .i64 4)).set 1 (.int .i64 n)).set 2 (.string ⟨#[]⟩))
            simp only [List.setIfInBounds_toArray, List.set_cons_zero, List.set_cons_succ] at H9
            obtain ⟨w9, e9⟩ : ∃ w9, ((w1.setCell ⟨w.heap.size, 0, none⟩ (.int .i64 4)).setCell ⟨w.heap.size, 1, none⟩ (.int .i64 n)).setCell ⟨w.heap.size, 2, none⟩ (.string ⟨#[]⟩) = w9 := ⟨_, rfl⟩
            rw [e9] at H9
            rw [e9]
            have z0 := H9.out.cell 0
            have z1 := H9.out.cell 1
            have z2 := H9.out.cell 2
            simp at z0 z1 z2
            refine bodyPost_ret (v := .tuple #[.agg #[.int .i64 4, .int .i64 n, .string ⟨#[]⟩], .bool (a2 != 0)]) (by simp [results, Tryz.results82, go_sem, z0, z1, z2]) rfl ⟨by simp [Va.cells], H9.out.bel⟩
          · have hemb := l_beq hem
            by_cases hpc : r = [37]
            · subst hpc
              have q : (vv, vb) = ((⟨5, n, []⟩ : Va), (a4 != 0)) := by rw [← HV.out]; simp [hn]
              obtain ⟨rfl, rfl⟩ := Prod.mk.inj q
              clear q HV
              go_enter Tryz.func82, Tryz.ntmps82
              go_wp2_with (go_at_call 116; refine (HD.out _).mono ?_; rintro e w1 ⟨rfl, hb1⟩; have H1 := Lib.hid (H.out.of_below hb1); have d0 := H1.out.cell 0; have d1 := H1.out.cell 1; have d2 := H1.out.cell 2; have f0 := H1.out.free 0; have f1 := H1.out.free 1; have f2 := H1.out.free 2; have hlt := H1.out.blk.1.lt; simp at d0 d1 d2)
              have H9 := Lib.hid (((H1.out.set 0 (.int .i64 5)).set 1 (.int .i64 n)).set 2 (.string ⟨#[]⟩))
              simp only [List.setIfInBounds_toArray, List.set_cons_zero, List.set_cons_succ] at H9
              obtain ⟨w9, e9⟩ : ∃ w9, ((w1.setCell ⟨w.heap.size, 0, none⟩ (.int .i64 5)).setCell ⟨w.heap.size, 1, none⟩ (.int .i64 n)).setCell ⟨w.heap.size, 2, none⟩ (.string ⟨#[]⟩) = w9 := ⟨_, rfl⟩
              rw [e9] at H9
              rw [e9]
              have z0 := H9.out.cell 0
              have z1 := H9.out.cell 1
              have z2 := H9.out.cell 2
              simp at z0 z1 z2
              refine bodyPost_ret (v := .tuple #[.agg #[.int .i64 5, .int .i64 n, .string ⟨#[]⟩], .bool (a4 != 0)]) (by simp [results, Tryz.results82, go_sem, z0, z1, z2]) rfl ⟨by simp [Va.cells], H9.out.bel⟩
            · have hpcb := l_beq hpc
              have q : (vv, vb) = ((⟨0, 0, []⟩ : Va), false) := by rw [← HV.out]; simp [hn, hr, hpx, hem, hpc]
              obtain ⟨rfl, rfl⟩ := Prod.mk.inj q
              clear q HV
              go_enter Tryz.func82, Tryz.ntmps82
              go_wp2_with (go_at_call 116; refine (HD.out _).mono ?_; rintro e w1 ⟨rfl, hb1⟩; have H1 := Lib.hid (H.out.of_below hb1); have d0 := H1.out.cell 0; have d1 := H1.out.cell 1; have d2 := H1.out.cell 2; have f0 := H1.out.free 0; have f1 := H1.out.free 1; have f2 := H1.out.free 2; have hlt := H1.out.blk.1.lt; simp at d0 d1 d2)
              have H9 := Lib.hid (((H1.out.set 0 (.int .i64 0)).set 1 (.int .i64 0)).set 2 (.string ⟨#[]⟩))
              simp only [List.setIfInBounds_toArray, List.set_cons_zero, List.set_cons_succ] at H9
              obtain ⟨w9, e9⟩ : ∃ w9, ((w1.setCell ⟨w.heap.size, 0, none⟩ (.int .i64 0)).setCell ⟨w.heap.size, 1, none⟩ (.int .i64 0)).setCell ⟨w.heap.size, 2, none⟩ (.string ⟨#[]⟩) = w9 := ⟨_, rfl⟩
              rw [e9] at H9
              rw [e9]
              have z0 := H9.out.cell 0
              have z1 := H9.out.cell 1
              have z2 := H9.out.cell 2
              simp at z0 z1 z2
              refine bodyPost_ret (v := .tuple #[.agg #[.int .i64 0, .int .i64 0, .string ⟨#[]⟩], .bool false]) (by simp [results, Tryz.results82, go_sem, z0, z1, z2]) rfl ⟨by simp [Va.cells], H9.out.bel⟩
end Go.Proofs.YtldembadjgibjaaGreatDoor
