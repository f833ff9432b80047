/-
  Cascade: length, long of the computer.
-/
import Derived.Test.YtldembadjgibjaaGreatDoorAz
set_option linter.unusedVariables false
set_option linter.unusedSimpArgs false
namespace Go.Proofs.YtldembadjgibjaaGreatDoor
open Go.RowKit Go.K Go.PlainAid Go.Lib Go.Maps Go.WideMaps

theorem tdv_b (a c : Int) (hc : 0 < c) (hc2 : c ≤ 1000000) (h0 : -4000000000000000000 ≤ a) (h1 : a ≤ 4000000000000000000) : -4000000000000000000 ≤ a.tdiv c ∧ a.tdiv c ≤ 4000000000000000000 := by
  rw [tdv a c hc]
  split
  · have := Int.ediv_nonneg (a := a) (b := c) (by assumption) (by omega)
    have := Int.ediv_le_self c (by assumption : 0 ≤ a)
    omega
  · have := Int.ediv_nonneg (a := -a) (b := c) (by omega) (by omega)
    have := Int.ediv_le_self c (by omega : 0 ≤ -a)
    omega
theorem limZ_in (n lo hi : Int) (h : lo ≤ hi) : lo ≤ limZ n lo hi ∧ limZ n lo hi ≤ hi := by unfold limZ; omega
set_option maxRecDepth 100000 in
set_option maxHeartbeats 4000000 in
theorem length_any {w : World} {bc bm n : Nat} {sz : Int} {lk : Lk} (C : Comp w bc bm n sz lk) (hs0 : 0 ≤ sz) (hs1 : sz ≤ 1000000) (v : Va) (hv : VOk v) :
    Calls Tryz.prog 56 #[.pointer (some ⟨bc, 0, none⟩), .agg v.cells] w fun e w' => e = .returned (.agg #[.int .i64 (lenM sz v).1, .int .i64 (lenM sz v).2]) ∧ Below w.heap.size w w' := by
  obtain ⟨vk, vn, vw⟩ := v
  have hn0 := hv.n0
  have hn1 := hv.n1
  unfold lenM
  simp only [Va.cells] at hn0 hn1 ⊢
  have H0 := Lib.hid (((St.start w (Below.refl _ w)).new #[.int .i64 vk, .int .i64 vn, .string (S vw)] 68).new #[.int .i64 0, .int .i64 0] 24)
  rw [show (w.alloc (.cells #[.int .i64 vk, .int .i64 vn, .string (S vw)] 68)).heap.size = w.heap.size + 1 from by simp] at H0
  have HC := Lib.hid ((C.below ((Below.refl _ _).alloc (Nat.le_refl _) (.cells #[.int .i64 vk, .int .i64 vn, .string (S vw)] 68))).below ((Below.refl _ _).alloc (Nat.le_refl _) (.cells #[.int .i64 0, .int .i64 0] 24)))
  have HLM := Lib.hid limit_any
  have hbc := C.blk.lt
  clear hv C
  obtain ⟨W, hW⟩ : ∃ z, (w.alloc (.cells #[.int .i64 vk, .int .i64 vn, .string (S vw)] 68)).alloc (.cells #[.int .i64 0, .int .i64 0] 24) = z := ⟨_, rfl⟩
  by_cases hk : vk = 3
  · rw [if_pos hk]
    obtain ⟨q0, q1⟩ := tdv_b vn 1000 (by decide) (by decide) (by omega) (by omega)
    obtain ⟨d, hd⟩ : ∃ d, vn.tdiv 1000 = d := ⟨_, rfl⟩
    rw [hd] at q0 q1
    rw [hd]
    have g1 := wrapS (a := d) (by omega) (by omega)
    subst hk
    go_enter Tryz.func56, Tryz.ntmps56
    go_upto_region 1 with fail
    rw [hW] at H0 HC
    try rw [hW]
    clear hW
    have d0 := H0.out.cell 0
    have d1 := H0.out.cell 1
    have f0 := H0.out.free 0
    have f1 := H0.out.free 1
    have v0 := H0.out.swap.cell 0
    have v1 := H0.out.swap.cell 1
    have v2 := H0.out.swap.cell 2
    have p1 := HC.out.blk.cell 1
    simp at d0 d1 v0 v1 v2 p1
    go_wp2_with (go_at_call 55; refine (HLM.out _ _ _ _).mono ?_; rintro e w2 ⟨rfl, hw2⟩; rw [hw2]; clear hw2)
    have H9 := Lib.hid ((H0.out.set 0 (.int .i64 1)).set 1 (.int .i64 (limZ d (-1048576) 1048576)))
    simp only [List.setIfInBounds_toArray, List.set_cons_zero, List.set_cons_succ] at H9
    obtain ⟨w9, e9⟩ : ∃ z, (W.setCell ⟨w.heap.size + 1, 0, none⟩ (.int .i64 1)).setCell ⟨w.heap.size + 1, 1, none⟩ (.int .i64 (limZ d (-1048576) 1048576)) = z := ⟨_, rfl⟩
    rw [e9] at H9
    rw [e9]
    have z0 := H9.out.cell 0
    have z1 := H9.out.cell 1
    simp at z0 z1
    refine bodyPost_ret (v := .agg #[.int .i64 1, .int .i64 (limZ d (-1048576) 1048576)]) (by simp [results, Tryz.results56, go_sem, z0, z1]) rfl ⟨rfl, H9.out.bel⟩
  rw [if_neg hk]
  have n3 : (vk == 3) = false := by rw [beq_eq_false_iff_ne]; exact hk
  clear hk
  by_cases hk : vk = 4
  · rw [if_pos hk]
    obtain ⟨m, hm⟩ : ∃ d, sz * vn = d := ⟨_, rfl⟩
    have hmb : -1000000000000000000 ≤ m ∧ m ≤ 1000000000000000000 := by
      rw [← hm]
      have a1 := Int.mul_le_mul_of_nonneg_left hn1 hs0
      have a2 := Int.mul_le_mul_of_nonneg_left hn0 hs0
      omega
    obtain ⟨q0, q1⟩ := tdv_b m 1000 (by decide) (by decide) (by omega) (by omega)
    rw [hm]
    obtain ⟨d, hd⟩ : ∃ d, m.tdiv 1000 = d := ⟨_, rfl⟩
    rw [hd] at q0 q1
    rw [hd]
    have g0 := wrapS (a := m) (by omega) (by omega)
    have g1 := wrapS (a := d) (by omega) (by omega)
    subst hk
    go_enter Tryz.func56, Tryz.ntmps56
    go_upto_region 1 with fail
    rw [hW] at H0 HC
    try rw [hW]
    clear hW
    have d0 := H0.out.cell 0
    have d1 := H0.out.cell 1
    have f0 := H0.out.free 0
    have f1 := H0.out.free 1
    have v0 := H0.out.swap.cell 0
    have v1 := H0.out.swap.cell 1
    have v2 := H0.out.swap.cell 2
    have p1 := HC.out.blk.cell 1
    simp at d0 d1 v0 v1 v2 p1
    go_upto_region 5 with fail
    go_still_tail 8, (by kernel_rfl)
    change wpList _ _ _ _ _ W.drew
    have H1 := Lib.hid H0.out.drew
    obtain ⟨Wd, hWd⟩ : ∃ z, W.drew = z := ⟨_, rfl⟩
    rw [hWd] at H1
    rw [hWd]
    clear hWd d0 d1 f0 f1 v0 v1 v2 p1 H0 HC
    have d0 := H1.out.cell 0
    have d1 := H1.out.cell 1
    have f0 := H1.out.free 0
    have f1 := H1.out.free 1
    simp at d0 d1
    go_wp2_with (go_at_call 55; refine (HLM.out _ _ _ _).mono ?_; rintro e w2 ⟨rfl, hw2⟩; rw [hw2]; clear hw2)
    have H9 := Lib.hid ((H1.out.set 0 (.int .i64 1)).set 1 (.int .i64 (limZ d (-1048576) 1048576)))
    simp only [List.setIfInBounds_toArray, List.set_cons_zero, List.set_cons_succ] at H9
    obtain ⟨w9, e9⟩ : ∃ z, (Wd.setCell ⟨w.heap.size + 1, 0, none⟩ (.int .i64 1)).setCell ⟨w.heap.size + 1, 1, none⟩ (.int .i64 (limZ d (-1048576) 1048576)) = z := ⟨_, rfl⟩
    rw [e9] at H9
    rw [e9]
    have z0 := H9.out.cell 0
    have z1 := H9.out.cell 1
    simp at z0 z1
    refine bodyPost_ret (v := .agg #[.int .i64 1, .int .i64 (limZ d (-1048576) 1048576)]) (by simp [results, Tryz.results56, go_sem, z0, z1]) rfl ⟨rfl, H9.out.bel⟩
  rw [if_neg hk]
  have n4 : (vk == 4) = false := by rw [beq_eq_false_iff_ne]; exact hk
  clear hk
  by_cases hk : vk = 5
  · rw [if_pos hk]
    obtain ⟨q0, q1⟩ := tdv_b vn 10 (by decide) (by decide) (by omega) (by omega)
    obtain ⟨d, hd⟩ : ∃ d, vn.tdiv 10 = d := ⟨_, rfl⟩
    rw [hd] at q0 q1
    rw [hd]
    have g1 := wrapS (a := d) (by omega) (by omega)
    subst hk
    go_enter Tryz.func56, Tryz.ntmps56
    go_upto_region 1 with fail
    rw [hW] at H0 HC
    try rw [hW]
    clear hW
    have d0 := H0.out.cell 0
    have d1 := H0.out.cell 1
    have f0 := H0.out.free 0
    have f1 := H0.out.free 1
    have v0 := H0.out.swap.cell 0
    have v1 := H0.out.swap.cell 1
    have v2 := H0.out.swap.cell 2
    have p1 := HC.out.blk.cell 1
    simp at d0 d1 v0 v1 v2 p1
    go_wp2_with (go_at_call 55; refine (HLM.out _ _ _ _).mono ?_; rintro e w2 ⟨rfl, hw2⟩; rw [hw2]; clear hw2)
    have H9 := Lib.hid ((H0.out.set 0 (.int .i64 2)).set 1 (.int .i64 (limZ d (-10000000) 10000000)))
    simp only [List.setIfInBounds_toArray, List.set_cons_zero, List.set_cons_succ] at H9
    obtain ⟨w9, e9⟩ : ∃ z, (W.setCell ⟨w.heap.size + 1, 0, none⟩ (.int .i64 2)).setCell ⟨w.heap.size + 1, 1, none⟩ (.int .i64 (limZ d (-10000000) 10000000)) = z := ⟨_, rfl⟩
    rw [e9] at H9
    rw [e9]
    have z0 := H9.out.cell 0
    have z1 := H9.out.cell 1
    simp at z0 z1
    refine bodyPost_ret (v := .agg #[.int .i64 2, .int .i64 (limZ d (-10000000) 10000000)]) (by simp [results, Tryz.results56, go_sem, z0, z1]) rfl ⟨rfl, H9.out.bel⟩
  rw [if_neg hk]
  have n5 : (vk == 5) = false := by rw [beq_eq_false_iff_ne]; exact hk
  clear hk
  go_enter Tryz.func56, Tryz.ntmps56
  go_upto_region 1 with fail
  rw [hW] at H0 HC
  try rw [hW]
  clear hW
  have d0 := H0.out.cell 0
  have d1 := H0.out.cell 1
  have f0 := H0.out.free 0
  have f1 := H0.out.free 1
  have v0 := H0.out.swap.cell 0
  have v1 := H0.out.swap.cell 1
  have v2 := H0.out.swap.cell 2
  have p1 := HC.out.blk.cell 1
  simp at d0 d1 v0 v1 v2 p1
  go_wp2_with (go_at_call 55; refine (HLM.out _ _ _ _).mono ?_; rintro e w2 ⟨rfl, hw2⟩; rw [hw2]; clear hw2)
  have H9 := Lib.hid ((H0.out.set 0 (.int .i64 0)).set 1 (.int .i64 (0)))
  simp only [List.setIfInBounds_toArray, List.set_cons_zero, List.set_cons_succ] at H9
  obtain ⟨w9, e9⟩ : ∃ z, (W.setCell ⟨w.heap.size + 1, 0, none⟩ (.int .i64 0)).setCell ⟨w.heap.size + 1, 1, none⟩ (.int .i64 (0)) = z := ⟨_, rfl⟩
  rw [e9] at H9
  rw [e9]
  have z0 := H9.out.cell 0
  have z1 := H9.out.cell 1
  simp at z0 z1
  refine bodyPost_ret (v := .agg #[.int .i64 0, .int .i64 (0)]) (by simp [results, Tryz.results56, go_sem, z0, z1]) rfl ⟨rfl, H9.out.bel⟩
set_option maxRecDepth 100000 in
set_option maxHeartbeats 4000000 in
theorem long_any {w : World} {bc bm n : Nat} {sz : Int} {lk : Lk} (C : Comp w bc bm n sz lk) (hs0 : 0 ≤ sz) (hs1 : sz ≤ 1000000) (s : List UInt8) (hs : s.length ≤ 100000) (hv : VOk (getM lk s).1) (p st : Int × Int) :
    Calls Tryz.prog 32 #[.pointer (some ⟨bc, 0, none⟩), .string (S s), .agg #[.int .i64 p.1, .int .i64 p.2], .agg #[.int .i64 st.1, .int .i64 st.2]] w fun e w' => e = .returned (.agg #[.int .i64 (longM lk sz s p st).1, .int .i64 (longM lk sz s p st).2]) ∧ Below w.heap.size w w' := by
  obtain ⟨p1, p2⟩ := p
  obtain ⟨t1, t2⟩ := st
  have H0 := ((((St.start w (Below.refl _ w)).new #[.int .i64 p1, .int .i64 p2] 24).new #[.int .i64 t1, .int .i64 t2] 24).new #[.int .i64 0, .int .i64 0] 24)
  have e1 : (w.alloc (.cells #[.int .i64 p1, .int .i64 p2] 24)).heap.size = w.heap.size + 1 := by simp
  have e2 : ((w.alloc (.cells #[.int .i64 p1, .int .i64 p2] 24)).alloc (.cells #[.int .i64 t1, .int .i64 t2] 24)).heap.size = w.heap.size + 1 + 1 := by simp
  rw [e1, e2] at H0
  have HC0 := ((C.below ((Below.refl _ _).alloc (Nat.le_refl _) (.cells #[.int .i64 p1, .int .i64 p2] 24))).below ((Below.refl _ _).alloc (Nat.le_refl _) (.cells #[.int .i64 t1, .int .i64 t2] 24))).below ((Below.refl _ _).alloc (Nat.le_refl _) (.cells #[.int .i64 0, .int .i64 0] 24))
  have hg := fun (w : World) (C : Comp w bc bm n sz lk) => get_any C s hs
  have hl := fun (w : World) (C : Comp w bc bm n sz lk) => length_any C hs0 hs1 (getM lk s).1 hv
  unfold longM
  obtain ⟨⟨⟨gk, gn, gw⟩, gh⟩, hG⟩ : ∃ g, getM lk s = g := ⟨_, rfl⟩
  simp only [hG] at hg hl ⊢
  simp only [Va.cells] at hg hl
  obtain ⟨⟨l1, l2⟩, hL⟩ : ∃ z, lenM sz ⟨gk, gn, gw⟩ = z := ⟨_, rfl⟩
  simp only [hL] at hl ⊢
  have HG := Lib.hid hg
  have HL := Lib.hid hl
  have H := Lib.hid H0
  have HC := Lib.hid HC0
  clear hg hl H0 HC0 C hG hL e1 e2 hv
  obtain ⟨W, hW⟩ : ∃ z, ((w.alloc (.cells #[.int .i64 p1, .int .i64 p2] 24)).alloc (.cells #[.int .i64 t1, .int .i64 t2] 24)).alloc (.cells #[.int .i64 0, .int .i64 0] 24) = z := ⟨_, rfl⟩
  rw [hW] at H HC
  by_cases h1 : gh = 1
  · subst h1
    rw [if_pos rfl]
    go_enter Tryz.func32, Tryz.ntmps32
    go_upto_region 1 with fail
    try rw [hW]
    clear hW
    go_upto_region 3 with (go_at_call 34; refine (HG.out _ HC.out).mono ?_; rintro e w1 ⟨rfl, hb1⟩; have H1 := Lib.hid ((H.out.of_below hb1).new #[.int .i64 gk, .int .i64 gn, .string (S gw)] 68); have HC1 := Lib.hid ((HC.out.below hb1).below ((Below.refl _ _).alloc (Nat.le_refl _) (.cells #[.int .i64 gk, .int .i64 gn, .string (S gw)] 68))); clear hb1)
    obtain ⟨W1, hW1⟩ : ∃ z, w1.alloc (.cells #[.int .i64 gk, .int .i64 gn, .string (S gw)] 68) = z := ⟨_, rfl⟩
    rw [hW1] at H1 HC1
    rw [hW1]
    obtain ⟨b9, hb9⟩ : ∃ z, w1.heap.size = z := ⟨_, rfl⟩
    rw [hb9] at H1
    simp only [hb9]
    clear hW1 hb9 H HC
    have H2 := Lib.hid (St.sh [_, _, _, _] [1, 2, 3, 0] (by decide) H1.out)
    have d0 := H2.out.cell 0
    have d1 := H2.out.cell 1
    have f0 := H2.out.free 0
    have f1 := H2.out.free 1
    have t0 := H2.out.swap.cell 0
    have tt1 := H2.out.swap.cell 1
    have p0 := (H2.out.blkm (.tail _ (.tail _ (.head _)))).cell 0
    have pp1 := (H2.out.blkm (.tail _ (.tail _ (.head _)))).cell 1
    have x0 := (H2.out.blkm (.tail _ (.tail _ (.tail _ (.head _))))).cell 0
    have x1 := (H2.out.blkm (.tail _ (.tail _ (.tail _ (.head _))))).cell 1
    have x2 := (H2.out.blkm (.tail _ (.tail _ (.tail _ (.head _))))).cell 2
    simp at d0 d1 t0 tt1 p0 pp1 x0 x1 x2
    go_wp2_with fail
    have H9 := Lib.hid (((H2.out).set 0 (.int .i64 p1)).set 1 (.int .i64 p2))
    simp only [List.setIfInBounds_toArray, List.set_cons_zero, List.set_cons_succ] at H9
    obtain ⟨w9, e9⟩ : ∃ z, (W1.setCell ⟨w.heap.size + 1 + 1, 0, none⟩ (.int .i64 p1)).setCell ⟨w.heap.size + 1 + 1, 1, none⟩ (.int .i64 p2) = z := ⟨_, rfl⟩
    rw [e9] at H9
    rw [e9]
    have z0 := H9.out.cell 0
    have z1 := H9.out.cell 1
    simp at z0 z1
    refine bodyPost_ret (v := .agg #[.int .i64 p1, .int .i64 p2]) (by simp [results, Tryz.results32, go_sem, z0, z1]) rfl ⟨rfl, H9.out.bel⟩
  rw [if_neg h1]
  have b1 : (gh == 1) = false := by rw [beq_eq_false_iff_ne]; exact h1
  by_cases h3 : gh = 3
  · subst h3
    rw [if_pos rfl]
    clear h1 b1
    go_enter Tryz.func32, Tryz.ntmps32
    go_upto_region 1 with fail
    try rw [hW]
    clear hW
    go_upto_region 3 with (go_at_call 34; refine (HG.out _ HC.out).mono ?_; rintro e w1 ⟨rfl, hb1⟩; have H1 := Lib.hid ((H.out.of_below hb1).new #[.int .i64 gk, .int .i64 gn, .string (S gw)] 68); have HC1 := Lib.hid ((HC.out.below hb1).below ((Below.refl _ _).alloc (Nat.le_refl _) (.cells #[.int .i64 gk, .int .i64 gn, .string (S gw)] 68))); clear hb1)
    obtain ⟨W1, hW1⟩ : ∃ z, w1.alloc (.cells #[.int .i64 gk, .int .i64 gn, .string (S gw)] 68) = z := ⟨_, rfl⟩
    rw [hW1] at H1 HC1
    rw [hW1]
    obtain ⟨b9, hb9⟩ : ∃ z, w1.heap.size = z := ⟨_, rfl⟩
    rw [hb9] at H1
    simp only [hb9]
    clear hW1 hb9 H HC
    have H2 := Lib.hid (St.sh [_, _, _, _] [1, 2, 3, 0] (by decide) H1.out)
    have d0 := H2.out.cell 0
    have d1 := H2.out.cell 1
    have f0 := H2.out.free 0
    have f1 := H2.out.free 1
    have t0 := H2.out.swap.cell 0
    have tt1 := H2.out.swap.cell 1
    have p0 := (H2.out.blkm (.tail _ (.tail _ (.head _)))).cell 0
    have pp1 := (H2.out.blkm (.tail _ (.tail _ (.head _)))).cell 1
    have x0 := (H2.out.blkm (.tail _ (.tail _ (.tail _ (.head _))))).cell 0
    have x1 := (H2.out.blkm (.tail _ (.tail _ (.tail _ (.head _))))).cell 1
    have x2 := (H2.out.blkm (.tail _ (.tail _ (.tail _ (.head _))))).cell 2
    simp at d0 d1 t0 tt1 p0 pp1 x0 x1 x2
    go_wp2_with (go_at_call 56; refine (HL.out _ HC1.out).mono ?_; rintro e w3 ⟨rfl, hb3⟩; have H3 := Lib.hid (H2.out.of_below hb3); clear hb3 d0 d1 f0 f1; have d0 := H3.out.cell 0; have d1 := H3.out.cell 1; have f0 := H3.out.free 0; have f1 := H3.out.free 1; simp at d0 d1)
    have H9 := Lib.hid (((H3.out).set 0 (.int .i64 l1)).set 1 (.int .i64 l2))
    simp only [List.setIfInBounds_toArray, List.set_cons_zero, List.set_cons_succ] at H9
    obtain ⟨w9, e9⟩ : ∃ z, (w3.setCell ⟨w.heap.size + 1 + 1, 0, none⟩ (.int .i64 l1)).setCell ⟨w.heap.size + 1 + 1, 1, none⟩ (.int .i64 l2) = z := ⟨_, rfl⟩
    rw [e9] at H9
    rw [e9]
    have z0 := H9.out.cell 0
    have z1 := H9.out.cell 1
    simp at z0 z1
    refine bodyPost_ret (v := .agg #[.int .i64 l1, .int .i64 l2]) (by simp [results, Tryz.results32, go_sem, z0, z1]) rfl ⟨rfl, H9.out.bel⟩
  · rw [if_neg h3]
    have b3 : (gh == 3) = false := by rw [beq_eq_false_iff_ne]; exact h3
    go_enter Tryz.func32, Tryz.ntmps32
    go_upto_region 1 with fail
    try rw [hW]
    clear hW
    go_upto_region 3 with (go_at_call 34; refine (HG.out _ HC.out).mono ?_; rintro e w1 ⟨rfl, hb1⟩; have H1 := Lib.hid ((H.out.of_below hb1).new #[.int .i64 gk, .int .i64 gn, .string (S gw)] 68); have HC1 := Lib.hid ((HC.out.below hb1).below ((Below.refl _ _).alloc (Nat.le_refl _) (.cells #[.int .i64 gk, .int .i64 gn, .string (S gw)] 68))); clear hb1)
    obtain ⟨W1, hW1⟩ : ∃ z, w1.alloc (.cells #[.int .i64 gk, .int .i64 gn, .string (S gw)] 68) = z := ⟨_, rfl⟩
    rw [hW1] at H1 HC1
    rw [hW1]
    obtain ⟨b9, hb9⟩ : ∃ z, w1.heap.size = z := ⟨_, rfl⟩
    rw [hb9] at H1
    simp only [hb9]
    clear hW1 hb9 H HC
    have H2 := Lib.hid (St.sh [_, _, _, _] [1, 2, 3, 0] (by decide) H1.out)
    have d0 := H2.out.cell 0
    have d1 := H2.out.cell 1
    have f0 := H2.out.free 0
    have f1 := H2.out.free 1
    have t0 := H2.out.swap.cell 0
    have tt1 := H2.out.swap.cell 1
    have p0 := (H2.out.blkm (.tail _ (.tail _ (.head _)))).cell 0
    have pp1 := (H2.out.blkm (.tail _ (.tail _ (.head _)))).cell 1
    have x0 := (H2.out.blkm (.tail _ (.tail _ (.tail _ (.head _))))).cell 0
    have x1 := (H2.out.blkm (.tail _ (.tail _ (.tail _ (.head _))))).cell 1
    have x2 := (H2.out.blkm (.tail _ (.tail _ (.tail _ (.head _))))).cell 2
    simp at d0 d1 t0 tt1 p0 pp1 x0 x1 x2
    go_wp2_with fail
    have H9 := Lib.hid (((H2.out).set 0 (.int .i64 t1)).set 1 (.int .i64 t2))
    simp only [List.setIfInBounds_toArray, List.set_cons_zero, List.set_cons_succ] at H9
    obtain ⟨w9, e9⟩ : ∃ z, (W1.setCell ⟨w.heap.size + 1 + 1, 0, none⟩ (.int .i64 t1)).setCell ⟨w.heap.size + 1 + 1, 1, none⟩ (.int .i64 t2) = z := ⟨_, rfl⟩
    rw [e9] at H9
    rw [e9]
    have z0 := H9.out.cell 0
    have z1 := H9.out.cell 1
    simp at z0 z1
    refine bodyPost_ret (v := .agg #[.int .i64 t1, .int .i64 t2]) (by simp [results, Tryz.results32, go_sem, z0, z1]) rfl ⟨rfl, H9.out.bel⟩
end Go.Proofs.YtldembadjgibjaaGreatDoor
