/-
  Push and Request of the chapter's loop.
-/
import Derived.Test.YtnamkckpgaopkaaXc
set_option linter.unusedVariables false
set_option linter.unusedSimpArgs false
namespace Go.Proofs.Ytnamkckpgaopkaa
open Go.RowKit Go.K

theorem info3 : (Try.prog.info? 3).map (fun i => (i.zero, i.size, i.bytes)) = some (some (.int .i64 0), 1, 8) := by kernel_rfl
theorem el60 : El Try.prog 60 3 1 8 := by
  obtain ⟨i, hi, h1, h2, h3⟩ := info_parts info3
  exact ⟨by kernel_rfl, ⟨i, _, hi, h1, h2, h3, rfl⟩, by decide⟩
def rpushS (R : RL) (src k n : Int) : RL := { R with ord := R.ord + 1, tasks := R.tasks ++ [⟨(srcN src : Int), R.ord + 1, k, n⟩] }
set_option maxRecDepth 100000 in
set_option maxHeartbeats 1000000 in
theorem rpush_st {w0 w : World} {L : List As} {b : Nat} {R : RL} (src k n : Int) (h : St w0 w (rlO b R :: L)) (hn : R.tasks.length ≤ 100000) (ho : 0 ≤ R.ord) (ho2 : R.ord ≤ 1000000000000) :
    Calls Try.prog 41 #[.pointer (some ⟨b, 0, none⟩), .int .i64 src, .int .i64 k, .int .i64 n] w (RetSt (.tuple #[]) w0 (rlO b (rpushS R src k n) :: L)) := by
  obtain ⟨p, h⟩ := rl_open h
  have H0 := Lib.hid h
  clear h
  obtain ⟨RR, hRR⟩ : ∃ RR, rpushS R src k n = RR := ⟨_, rfl⟩
  rw [hRR]
  have HRR := Lib.hid hRR
  clear hRR
  obtain ⟨sx, hsx⟩ : ∃ sx, (srcN src : Int) = sx := ⟨_, rfl⟩
  by_cases h1 : src < 0
  · have hs : sx = 4 := by rw [← hsx]; simp [srcN, h1]
    subst hs
    go_enter Try.func41, Try.ntmps41
    obtain ⟨-, c1, -⟩ := rl_c H0.out
    have f1 := H0.out.free 1
    go_upto_region 3 with fail
    have h1 := H0.out.set 1 (.int .i64 (R.ord + 1))
    rw [rset_ord] at h1
    obtain ⟨W1, hW1⟩ : ∃ W1, w.setCell ⟨b, 1, none⟩ (.int .i64 (R.ord + 1)) = W1 := ⟨_, rfl⟩
    rw [hW1] at h1
    rw [hW1]
    have H2 := Lib.hid (foc_rrt (R := { R with ord := R.ord + 1 }) (p := p) (show St w0 W1 (rlL b { R with ord := R.ord + 1 } p ++ L) from h1).drew)
    clear hW1 h1 c1 f1
    have hS : (fun w' : World => w'.cell? ⟨b, 7, none⟩ = some (.slice (p 0).1 R.tasks.length (p 0).2) ∧ w'.cell? ⟨b, 1, none⟩ = some (.int .i64 (R.ord + 1))) W1.drew := by
      have q := H2.out.blkm (b := b) (.head _)
      refine ⟨?_, ?_⟩
      · rw [q.cell]; rfl
      · rw [q.cell]; rfl
    have hxs := (H2.out.swap.sl).alloc (.cells #[.int .i64 4, .int .i64 (R.ord + 1), .int .i64 k, .int .i64 n] 109)
    have r2 := rd_built_at W1.drew #[.int .i64 4, .int .i64 (R.ord + 1), .int .i64 k, .int .i64 n] 109 4 1 W1.heap.size rfl rfl (by simp [Value.oneCell'])
    have H4 := Lib.hid (H2.out.alloc (.cells #[.int .i64 4, .int .i64 (R.ord + 1), .int .i64 k, .int .i64 n] 109))
    refine wpLast.region (S := (fun w' : World => w'.cell? ⟨b, 7, none⟩ = some (.slice (p 0).1 R.tasks.length (p 0).2) ∧ w'.cell? ⟨b, 1, none⟩ = some (.int .i64 (R.ord + 1)))) (c := 17) (by kernel_rfl) ?_
    refine' wpLast.take (i := 0) (v := _) rfl (by kernel_rfl) (fun _ _ _ h => h) (by kernel_rfl) _ _ _ _ (by kernel_rfl) (by kernel_rfl) (Or.inl ⟨by rfl, ?hy0⟩) hS ?rest0
    case hy0 => (intro w' hSw; obtain ⟨k0, k1⟩ := hSw; go_simp; try with_reducible rfl)
    try simp only [Act.put, List.setIfInBounds_toArray, List.set_cons_zero, List.set_cons_succ]
    refine' wpLast.take (i := 1) (v := _) rfl (by kernel_rfl) (fun _ _ _ h => h) (by kernel_rfl) _ _ _ _ (by kernel_rfl) (by kernel_rfl) (Or.inl ⟨by rfl, ?hy1⟩) hS ?rest1
    case hy1 => (intro w' hSw; obtain ⟨k0, k1⟩ := hSw; go_simp; try with_reducible rfl)
    try simp only [Act.put, List.setIfInBounds_toArray, List.set_cons_zero, List.set_cons_succ]
    refine' wpLast.take (i := 2) (v := _) rfl (by kernel_rfl) (fun _ _ _ h => h) (by kernel_rfl) _ _ _ _ (by kernel_rfl) (by kernel_rfl) (Or.inl ⟨by rfl, ?hy2⟩) hS ?rest2
    case hy2 => (intro w' hSw; obtain ⟨k0, k1⟩ := hSw; go_simp; try with_reducible rfl)
    try simp only [Act.put, List.setIfInBounds_toArray, List.set_cons_zero, List.set_cons_succ]
    refine' wpLast.take (i := 3) (v := _) rfl (by kernel_rfl) (fun _ _ _ h => h) (by kernel_rfl) _ _ _ _ (by kernel_rfl) (by kernel_rfl) (Or.inl ⟨by rfl, ?hy3⟩) hS ?rest3
    case hy3 => (intro w' hSw; obtain ⟨k0, k1⟩ := hSw; go_simp; try with_reducible rfl)
    try simp only [Act.put, List.setIfInBounds_toArray, List.set_cons_zero, List.set_cons_succ]
    refine' wpLast.take (i := 4) (v := _) rfl (by kernel_rfl) (fun _ _ _ h => h) (by kernel_rfl) _ _ _ _ (by kernel_rfl) (by kernel_rfl) (Or.inl ⟨by rfl, ?hy4⟩) hS ?rest4
    case hy4 => (intro w' hSw; obtain ⟨k0, k1⟩ := hSw; go_simp; try with_reducible rfl)
    try simp only [Act.put, List.setIfInBounds_toArray, List.set_cons_zero, List.set_cons_succ]
    refine' wpLast.take (i := 5) (v := _) rfl (by kernel_rfl) (fun _ _ _ h => h) (by kernel_rfl) _ _ _ _ (by kernel_rfl) (by kernel_rfl) (Or.inl ⟨by rfl, ?hy5⟩) hS ?rest5
    case hy5 => (intro w' hSw; obtain ⟨k0, k1⟩ := hSw; go_simp; try with_reducible rfl)
    try simp only [Act.put, List.setIfInBounds_toArray, List.set_cons_zero, List.set_cons_succ]
    refine' wpLast.take (i := 6) (v := _) rfl (by kernel_rfl) (fun _ _ _ h => h) (by kernel_rfl) _ _ _ _ (by kernel_rfl) (by kernel_rfl) (Or.inl ⟨by rfl, ?hy6⟩) hS ?rest6
    case hy6 => (intro w' hSw; obtain ⟨k0, k1⟩ := hSw; go_simp; try with_reducible rfl)
    try simp only [Act.put, List.setIfInBounds_toArray, List.set_cons_zero, List.set_cons_succ]
    refine' wpLast.take (i := 7) (v := _) rfl (by kernel_rfl) (fun _ _ _ h => h) (by kernel_rfl) _ _ _ _ (by kernel_rfl) (by kernel_rfl) (Or.inl ⟨by rfl, ?hy7⟩) hS ?rest7
    case hy7 => (intro w' hSw; obtain ⟨k0, k1⟩ := hSw; go_simp; try with_reducible rfl)
    try simp only [Act.put, List.setIfInBounds_toArray, List.set_cons_zero, List.set_cons_succ]
    refine' wpLast.take (i := 8) (v := _) rfl (by kernel_rfl) (fun _ _ _ h => h) (by kernel_rfl) _ _ _ _ (by kernel_rfl) (by kernel_rfl) (Or.inl ⟨by rfl, ?hy8⟩) hS ?rest8
    case hy8 => (intro w' hSw; obtain ⟨k0, k1⟩ := hSw; go_simp; try with_reducible rfl)
    try simp only [Act.put, List.setIfInBounds_toArray, List.set_cons_zero, List.set_cons_succ]
    refine' wpLast.take (i := 9) (v := _) rfl (by kernel_rfl) (fun _ _ _ h => h) (by kernel_rfl) _ _ _ _ (by kernel_rfl) (by kernel_rfl) (Or.inl ⟨by rfl, ?hy9⟩) hS ?rest9
    case hy9 => (intro w' hSw; obtain ⟨k0, k1⟩ := hSw; go_simp; try with_reducible rfl)
    try simp only [Act.put, List.setIfInBounds_toArray, List.set_cons_zero, List.set_cons_succ]
    refine' wpLast.take (i := 10) (v := _) rfl (by kernel_rfl) (fun _ _ _ h => h) (by kernel_rfl) _ _ _ _ (by kernel_rfl) (by kernel_rfl) (Or.inl ⟨by rfl, ?hy10⟩) hS ?rest10
    case hy10 => (intro w' hSw; obtain ⟨k0, k1⟩ := hSw; go_simp; try with_reducible rfl)
    try simp only [Act.put, List.setIfInBounds_toArray, List.set_cons_zero, List.set_cons_succ]
    refine' wpLast.take (i := 11) (v := _) rfl (by kernel_rfl) (fun _ _ _ h => h) (by kernel_rfl) _ _ _ _ (by kernel_rfl) (by kernel_rfl) (Or.inl ⟨by rfl, ?hy11⟩) hS ?rest11
    case hy11 => (intro w' hSw; obtain ⟨k0, k1⟩ := hSw; go_simp; try with_reducible rfl)
    try simp only [Act.put, List.setIfInBounds_toArray, List.set_cons_zero, List.set_cons_succ]
    refine' wpLast.take (i := 12) (v := _) rfl (by kernel_rfl) (fun _ _ _ h => h) (by kernel_rfl) _ _ _ _ (by kernel_rfl) (by kernel_rfl) (Or.inl ⟨by rfl, ?hy12⟩) hS ?rest12
    case hy12 => (intro w' hSw; obtain ⟨k0, k1⟩ := hSw; go_simp; try with_reducible rfl)
    try simp only [Act.put, List.setIfInBounds_toArray, List.set_cons_zero, List.set_cons_succ]
    refine wpLast.one (i := 13) rfl (by kernel_rfl) ?_
    intro K' hK; have HK' := Lib.hid hK; clear hK
    go_simp
    have hS2 : (fun w' : World => w'.cell? ⟨b, 7, none⟩ = some (.slice (p 0).1 R.tasks.length (p 0).2) ∧ w'.cell? ⟨b, 1, none⟩ = some (.int .i64 (R.ord + 1))) (W1.drew.alloc (.cells #[.int .i64 4, .int .i64 (R.ord + 1), .int .i64 k, .int .i64 n] 109)) := by
      have q := H4.out.blkm (b := b) (.head _)
      refine ⟨?_, ?_⟩
      · rw [q.cell]; rfl
      · rw [q.cell]; rfl
    refine HK'.out _ _ ⟨fun _ => hS2, ?_⟩
    clear HK' K'
    try simp only [Act.put, List.setIfInBounds_toArray, List.set_cons_zero, List.set_cons_succ]
    refine wpLast.one (i := 14) rfl (by kernel_rfl) ?_
    intro K' hK; have HK' := Lib.hid hK; clear hK
    refine step_append_any (by rfl) _ _ 66 (by rfl) elRT (p 0).1 R.tasks.length (p 0).2 _ (by rfl) hxs _ 1 _ _ (by rfl) r2 (by omega) (by omega) ?_
    intro s2 c2 w4 p1 p2 p3
    have H6 := Lib.hid (H4.out.swap.row_step p1 p2 p3).swap
    have hS3 : (fun w' : World => w'.cell? ⟨b, 7, none⟩ = some (.slice (p 0).1 R.tasks.length (p 0).2) ∧ w'.cell? ⟨b, 1, none⟩ = some (.int .i64 (R.ord + 1))) w4 := by
      have q := H6.out.blkm (b := b) (.head _)
      refine ⟨?_, ?_⟩
      · rw [q.cell]; rfl
      · rw [q.cell]; rfl
    have kf := H6.out.free 7
    have k9 := hS3.1
    refine HK'.out _ _ ⟨fun _ => hS3, ?_⟩
    clear HK' K' hS hS2 p1 p2 p3
    try simp only [Act.put, List.setIfInBounds_toArray, List.set_cons_zero, List.set_cons_succ]
    refine wpLast.one (i := 15) rfl (by kernel_rfl) ?_
    intro K' hK; have HK' := Lib.hid hK; clear hK
    go_simp
    refine HK'.out _ _ ⟨fun _ => hS3, ?_⟩
    clear HK' K'
    try simp only [Act.put, List.setIfInBounds_toArray, List.set_cons_zero, List.set_cons_succ]
    refine wpLast.one (i := 16) rfl (by kernel_rfl) ?_
    intro K' hK; have HK' := Lib.hid hK; clear hK
    go_simp
    refine HK'.out _ _ ⟨fun _ => hS3, ?_⟩
    clear HK' K'
    try simp only [Act.put, List.setIfInBounds_toArray, List.set_cons_zero, List.set_cons_succ]
    refine wpLast.one (i := 17) rfl (by kernel_rfl) ?_
    intro K' hK; have HK' := Lib.hid hK; clear hK
    go_simp
    refine HK'.out _ _ ⟨fun h => absurd rfl h, ?_⟩
    clear HK' K' hS3
    try simp only [Act.put, List.setIfInBounds_toArray, List.set_cons_zero, List.set_cons_succ]
    refine wpLast.done (by kernel_rfl) ?_
    have H7 := Lib.hid (H6.out.set 7 (.slice s2 (R.tasks.length + 1) c2))
    obtain ⟨W7, hW7⟩ : ∃ W7, w4.setCell ⟨b, 7, none⟩ (.slice s2 (R.tasks.length + 1) c2) = W7 := ⟨_, rfl⟩
    rw [hW7] at H7
    rw [hW7]
    clear hW7 k9 kf hxs r2
    go_wp2_with fail
    go_end0
    refine ⟨rfl, ?_⟩
    rw [← HRR.out, rpushS, hsx]
    exact rl_shut (unf_rrt (R := { R with ord := R.ord + 1 }) (n := R.tasks.length + 1) (R.tasks ++ [⟨4, R.ord + 1, k, n⟩]) (by simp) (by rw [flat_append, flat_one]; exact H7.out))
  · by_cases h5 : 4 < src
    · have hs : sx = 4 := by rw [← hsx]; simp only [srcN]; rw [if_pos (by omega)]; rfl
      subst hs
      go_enter Try.func41, Try.ntmps41
      obtain ⟨-, c1, -⟩ := rl_c H0.out
      have f1 := H0.out.free 1
      go_upto_region 3 with fail
      have h1 := H0.out.set 1 (.int .i64 (R.ord + 1))
      rw [rset_ord] at h1
      obtain ⟨W1, hW1⟩ : ∃ W1, w.setCell ⟨b, 1, none⟩ (.int .i64 (R.ord + 1)) = W1 := ⟨_, rfl⟩
      rw [hW1] at h1
      rw [hW1]
      have H2 := Lib.hid (foc_rrt (R := { R with ord := R.ord + 1 }) (p := p) (show St w0 W1 (rlL b { R with ord := R.ord + 1 } p ++ L) from h1).drew)
      clear hW1 h1 c1 f1
      have hS : (fun w' : World => w'.cell? ⟨b, 7, none⟩ = some (.slice (p 0).1 R.tasks.length (p 0).2) ∧ w'.cell? ⟨b, 1, none⟩ = some (.int .i64 (R.ord + 1))) W1.drew := by
        have q := H2.out.blkm (b := b) (.head _)
        refine ⟨?_, ?_⟩
        · rw [q.cell]; rfl
        · rw [q.cell]; rfl
      have hxs := (H2.out.swap.sl).alloc (.cells #[.int .i64 4, .int .i64 (R.ord + 1), .int .i64 k, .int .i64 n] 109)
      have r2 := rd_built_at W1.drew #[.int .i64 4, .int .i64 (R.ord + 1), .int .i64 k, .int .i64 n] 109 4 1 W1.heap.size rfl rfl (by simp [Value.oneCell'])
      have H4 := Lib.hid (H2.out.alloc (.cells #[.int .i64 4, .int .i64 (R.ord + 1), .int .i64 k, .int .i64 n] 109))
      refine wpLast.region (S := (fun w' : World => w'.cell? ⟨b, 7, none⟩ = some (.slice (p 0).1 R.tasks.length (p 0).2) ∧ w'.cell? ⟨b, 1, none⟩ = some (.int .i64 (R.ord + 1)))) (c := 17) (by kernel_rfl) ?_
      refine' wpLast.take (i := 0) (v := _) rfl (by kernel_rfl) (fun _ _ _ h => h) (by kernel_rfl) _ _ _ _ (by kernel_rfl) (by kernel_rfl) (Or.inl ⟨by rfl, ?hy0b⟩) hS ?rest0b
      case hy0b => (intro w' hSw; obtain ⟨k0, k1⟩ := hSw; go_simp; try with_reducible rfl)
      try simp only [Act.put, List.setIfInBounds_toArray, List.set_cons_zero, List.set_cons_succ]
      refine' wpLast.take (i := 1) (v := _) rfl (by kernel_rfl) (fun _ _ _ h => h) (by kernel_rfl) _ _ _ _ (by kernel_rfl) (by kernel_rfl) (Or.inl ⟨by rfl, ?hy1b⟩) hS ?rest1b
      case hy1b => (intro w' hSw; obtain ⟨k0, k1⟩ := hSw; go_simp; try with_reducible rfl)
      try simp only [Act.put, List.setIfInBounds_toArray, List.set_cons_zero, List.set_cons_succ]
      refine' wpLast.take (i := 2) (v := _) rfl (by kernel_rfl) (fun _ _ _ h => h) (by kernel_rfl) _ _ _ _ (by kernel_rfl) (by kernel_rfl) (Or.inl ⟨by rfl, ?hy2b⟩) hS ?rest2b
      case hy2b => (intro w' hSw; obtain ⟨k0, k1⟩ := hSw; go_simp; try with_reducible rfl)
      try simp only [Act.put, List.setIfInBounds_toArray, List.set_cons_zero, List.set_cons_succ]
      refine' wpLast.take (i := 3) (v := _) rfl (by kernel_rfl) (fun _ _ _ h => h) (by kernel_rfl) _ _ _ _ (by kernel_rfl) (by kernel_rfl) (Or.inl ⟨by rfl, ?hy3b⟩) hS ?rest3b
      case hy3b => (intro w' hSw; obtain ⟨k0, k1⟩ := hSw; go_simp; try with_reducible rfl)
      try simp only [Act.put, List.setIfInBounds_toArray, List.set_cons_zero, List.set_cons_succ]
      refine' wpLast.take (i := 4) (v := _) rfl (by kernel_rfl) (fun _ _ _ h => h) (by kernel_rfl) _ _ _ _ (by kernel_rfl) (by kernel_rfl) (Or.inl ⟨by rfl, ?hy4b⟩) hS ?rest4b
      case hy4b => (intro w' hSw; obtain ⟨k0, k1⟩ := hSw; go_simp; try with_reducible rfl)
      try simp only [Act.put, List.setIfInBounds_toArray, List.set_cons_zero, List.set_cons_succ]
      refine' wpLast.take (i := 5) (v := _) rfl (by kernel_rfl) (fun _ _ _ h => h) (by kernel_rfl) _ _ _ _ (by kernel_rfl) (by kernel_rfl) (Or.inl ⟨by rfl, ?hy5b⟩) hS ?rest5b
      case hy5b => (intro w' hSw; obtain ⟨k0, k1⟩ := hSw; go_simp; try with_reducible rfl)
      try simp only [Act.put, List.setIfInBounds_toArray, List.set_cons_zero, List.set_cons_succ]
      refine' wpLast.take (i := 6) (v := _) rfl (by kernel_rfl) (fun _ _ _ h => h) (by kernel_rfl) _ _ _ _ (by kernel_rfl) (by kernel_rfl) (Or.inl ⟨by rfl, ?hy6b⟩) hS ?rest6b
      case hy6b => (intro w' hSw; obtain ⟨k0, k1⟩ := hSw; go_simp; try with_reducible rfl)
      try simp only [Act.put, List.setIfInBounds_toArray, List.set_cons_zero, List.set_cons_succ]
      refine' wpLast.take (i := 7) (v := _) rfl (by kernel_rfl) (fun _ _ _ h => h) (by kernel_rfl) _ _ _ _ (by kernel_rfl) (by kernel_rfl) (Or.inl ⟨by rfl, ?hy7b⟩) hS ?rest7b
      case hy7b => (intro w' hSw; obtain ⟨k0, k1⟩ := hSw; go_simp; try with_reducible rfl)
      try simp only [Act.put, List.setIfInBounds_toArray, List.set_cons_zero, List.set_cons_succ]
      refine' wpLast.take (i := 8) (v := _) rfl (by kernel_rfl) (fun _ _ _ h => h) (by kernel_rfl) _ _ _ _ (by kernel_rfl) (by kernel_rfl) (Or.inl ⟨by rfl, ?hy8b⟩) hS ?rest8b
      case hy8b => (intro w' hSw; obtain ⟨k0, k1⟩ := hSw; go_simp; try with_reducible rfl)
      try simp only [Act.put, List.setIfInBounds_toArray, List.set_cons_zero, List.set_cons_succ]
      refine' wpLast.take (i := 9) (v := _) rfl (by kernel_rfl) (fun _ _ _ h => h) (by kernel_rfl) _ _ _ _ (by kernel_rfl) (by kernel_rfl) (Or.inl ⟨by rfl, ?hy9b⟩) hS ?rest9b
      case hy9b => (intro w' hSw; obtain ⟨k0, k1⟩ := hSw; go_simp; try with_reducible rfl)
      try simp only [Act.put, List.setIfInBounds_toArray, List.set_cons_zero, List.set_cons_succ]
      refine' wpLast.take (i := 10) (v := _) rfl (by kernel_rfl) (fun _ _ _ h => h) (by kernel_rfl) _ _ _ _ (by kernel_rfl) (by kernel_rfl) (Or.inl ⟨by rfl, ?hy10b⟩) hS ?rest10b
      case hy10b => (intro w' hSw; obtain ⟨k0, k1⟩ := hSw; go_simp; try with_reducible rfl)
      try simp only [Act.put, List.setIfInBounds_toArray, List.set_cons_zero, List.set_cons_succ]
      refine' wpLast.take (i := 11) (v := _) rfl (by kernel_rfl) (fun _ _ _ h => h) (by kernel_rfl) _ _ _ _ (by kernel_rfl) (by kernel_rfl) (Or.inl ⟨by rfl, ?hy11b⟩) hS ?rest11b
      case hy11b => (intro w' hSw; obtain ⟨k0, k1⟩ := hSw; go_simp; try with_reducible rfl)
      try simp only [Act.put, List.setIfInBounds_toArray, List.set_cons_zero, List.set_cons_succ]
      refine' wpLast.take (i := 12) (v := _) rfl (by kernel_rfl) (fun _ _ _ h => h) (by kernel_rfl) _ _ _ _ (by kernel_rfl) (by kernel_rfl) (Or.inl ⟨by rfl, ?hy12b⟩) hS ?rest12b
      case hy12b => (intro w' hSw; obtain ⟨k0, k1⟩ := hSw; go_simp; try with_reducible rfl)
      try simp only [Act.put, List.setIfInBounds_toArray, List.set_cons_zero, List.set_cons_succ]
      refine wpLast.one (i := 13) rfl (by kernel_rfl) ?_
      intro K' hK; have HK' := Lib.hid hK; clear hK
      go_simp
      have hS2 : (fun w' : World => w'.cell? ⟨b, 7, none⟩ = some (.slice (p 0).1 R.tasks.length (p 0).2) ∧ w'.cell? ⟨b, 1, none⟩ = some (.int .i64 (R.ord + 1))) (W1.drew.alloc (.cells #[.int .i64 4, .int .i64 (R.ord + 1), .int .i64 k, .int .i64 n] 109)) := by
        have q := H4.out.blkm (b := b) (.head _)
        refine ⟨?_, ?_⟩
        · rw [q.cell]; rfl
        · rw [q.cell]; rfl
      refine HK'.out _ _ ⟨fun _ => hS2, ?_⟩
      clear HK' K'
      try simp only [Act.put, List.setIfInBounds_toArray, List.set_cons_zero, List.set_cons_succ]
      refine wpLast.one (i := 14) rfl (by kernel_rfl) ?_
      intro K' hK; have HK' := Lib.hid hK; clear hK
      refine step_append_any (by rfl) _ _ 66 (by rfl) elRT (p 0).1 R.tasks.length (p 0).2 _ (by rfl) hxs _ 1 _ _ (by rfl) r2 (by omega) (by omega) ?_
      intro s2 c2 w4 p1 p2 p3
      have H6 := Lib.hid (H4.out.swap.row_step p1 p2 p3).swap
      have hS3 : (fun w' : World => w'.cell? ⟨b, 7, none⟩ = some (.slice (p 0).1 R.tasks.length (p 0).2) ∧ w'.cell? ⟨b, 1, none⟩ = some (.int .i64 (R.ord + 1))) w4 := by
        have q := H6.out.blkm (b := b) (.head _)
        refine ⟨?_, ?_⟩
        · rw [q.cell]; rfl
        · rw [q.cell]; rfl
      have kf := H6.out.free 7
      have k9 := hS3.1
      refine HK'.out _ _ ⟨fun _ => hS3, ?_⟩
      clear HK' K' hS hS2 p1 p2 p3
      try simp only [Act.put, List.setIfInBounds_toArray, List.set_cons_zero, List.set_cons_succ]
      refine wpLast.one (i := 15) rfl (by kernel_rfl) ?_
      intro K' hK; have HK' := Lib.hid hK; clear hK
      go_simp
      refine HK'.out _ _ ⟨fun _ => hS3, ?_⟩
      clear HK' K'
      try simp only [Act.put, List.setIfInBounds_toArray, List.set_cons_zero, List.set_cons_succ]
      refine wpLast.one (i := 16) rfl (by kernel_rfl) ?_
      intro K' hK; have HK' := Lib.hid hK; clear hK
      go_simp
      refine HK'.out _ _ ⟨fun _ => hS3, ?_⟩
      clear HK' K'
      try simp only [Act.put, List.setIfInBounds_toArray, List.set_cons_zero, List.set_cons_succ]
      refine wpLast.one (i := 17) rfl (by kernel_rfl) ?_
      intro K' hK; have HK' := Lib.hid hK; clear hK
      go_simp
      refine HK'.out _ _ ⟨fun h => absurd rfl h, ?_⟩
      clear HK' K' hS3
      try simp only [Act.put, List.setIfInBounds_toArray, List.set_cons_zero, List.set_cons_succ]
      refine wpLast.done (by kernel_rfl) ?_
      have H7 := Lib.hid (H6.out.set 7 (.slice s2 (R.tasks.length + 1) c2))
      obtain ⟨W7, hW7⟩ : ∃ W7, w4.setCell ⟨b, 7, none⟩ (.slice s2 (R.tasks.length + 1) c2) = W7 := ⟨_, rfl⟩
      rw [hW7] at H7
      rw [hW7]
      clear hW7 k9 kf hxs r2
      go_wp2_with fail
      go_end0
      refine ⟨rfl, ?_⟩
      rw [← HRR.out, rpushS, hsx]
      exact rl_shut (unf_rrt (R := { R with ord := R.ord + 1 }) (n := R.tasks.length + 1) (R.tasks ++ [⟨4, R.ord + 1, k, n⟩]) (by simp) (by rw [flat_append, flat_one]; exact H7.out))
    · have hs : src = sx := by rw [← hsx]; simp only [srcN]; rw [if_neg (by omega)]; omega
      have HSX := Lib.hid hsx
      subst hs
      clear hsx
      go_enter Try.func41, Try.ntmps41
      obtain ⟨-, c1, -⟩ := rl_c H0.out
      have f1 := H0.out.free 1
      go_upto_region 3 with fail
      have h1 := H0.out.set 1 (.int .i64 (R.ord + 1))
      rw [rset_ord] at h1
      obtain ⟨W1, hW1⟩ : ∃ W1, w.setCell ⟨b, 1, none⟩ (.int .i64 (R.ord + 1)) = W1 := ⟨_, rfl⟩
      rw [hW1] at h1
      rw [hW1]
      have H2 := Lib.hid (foc_rrt (R := { R with ord := R.ord + 1 }) (p := p) (show St w0 W1 (rlL b { R with ord := R.ord + 1 } p ++ L) from h1).drew)
      clear hW1 h1 c1 f1
      have hS : (fun w' : World => w'.cell? ⟨b, 7, none⟩ = some (.slice (p 0).1 R.tasks.length (p 0).2) ∧ w'.cell? ⟨b, 1, none⟩ = some (.int .i64 (R.ord + 1))) W1.drew := by
        have q := H2.out.blkm (b := b) (.head _)
        refine ⟨?_, ?_⟩
        · rw [q.cell]; rfl
        · rw [q.cell]; rfl
      have hxs := (H2.out.swap.sl).alloc (.cells #[.int .i64 src, .int .i64 (R.ord + 1), .int .i64 k, .int .i64 n] 109)
      have r2 := rd_built_at W1.drew #[.int .i64 src, .int .i64 (R.ord + 1), .int .i64 k, .int .i64 n] 109 4 1 W1.heap.size rfl rfl (by simp [Value.oneCell'])
      have H4 := Lib.hid (H2.out.alloc (.cells #[.int .i64 src, .int .i64 (R.ord + 1), .int .i64 k, .int .i64 n] 109))
      refine wpLast.region (S := (fun w' : World => w'.cell? ⟨b, 7, none⟩ = some (.slice (p 0).1 R.tasks.length (p 0).2) ∧ w'.cell? ⟨b, 1, none⟩ = some (.int .i64 (R.ord + 1)))) (c := 17) (by kernel_rfl) ?_
      refine' wpLast.take (i := 0) (v := _) rfl (by kernel_rfl) (fun _ _ _ h => h) (by kernel_rfl) _ _ _ _ (by kernel_rfl) (by kernel_rfl) (Or.inl ⟨by rfl, ?hy0c⟩) hS ?rest0c
      case hy0c => (intro w' hSw; obtain ⟨k0, k1⟩ := hSw; go_simp; try with_reducible rfl)
      try simp only [Act.put, List.setIfInBounds_toArray, List.set_cons_zero, List.set_cons_succ]
      refine' wpLast.take (i := 1) (v := _) rfl (by kernel_rfl) (fun _ _ _ h => h) (by kernel_rfl) _ _ _ _ (by kernel_rfl) (by kernel_rfl) (Or.inl ⟨by rfl, ?hy1c⟩) hS ?rest1c
      case hy1c => (intro w' hSw; obtain ⟨k0, k1⟩ := hSw; go_simp; try with_reducible rfl)
      try simp only [Act.put, List.setIfInBounds_toArray, List.set_cons_zero, List.set_cons_succ]
      refine' wpLast.take (i := 2) (v := _) rfl (by kernel_rfl) (fun _ _ _ h => h) (by kernel_rfl) _ _ _ _ (by kernel_rfl) (by kernel_rfl) (Or.inl ⟨by rfl, ?hy2c⟩) hS ?rest2c
      case hy2c => (intro w' hSw; obtain ⟨k0, k1⟩ := hSw; go_simp; try with_reducible rfl)
      try simp only [Act.put, List.setIfInBounds_toArray, List.set_cons_zero, List.set_cons_succ]
      refine' wpLast.take (i := 3) (v := _) rfl (by kernel_rfl) (fun _ _ _ h => h) (by kernel_rfl) _ _ _ _ (by kernel_rfl) (by kernel_rfl) (Or.inl ⟨by rfl, ?hy3c⟩) hS ?rest3c
      case hy3c => (intro w' hSw; obtain ⟨k0, k1⟩ := hSw; go_simp; try with_reducible rfl)
      try simp only [Act.put, List.setIfInBounds_toArray, List.set_cons_zero, List.set_cons_succ]
      refine' wpLast.take (i := 4) (v := _) rfl (by kernel_rfl) (fun _ _ _ h => h) (by kernel_rfl) _ _ _ _ (by kernel_rfl) (by kernel_rfl) (Or.inl ⟨by rfl, ?hy4c⟩) hS ?rest4c
      case hy4c => (intro w' hSw; obtain ⟨k0, k1⟩ := hSw; go_simp; try with_reducible rfl)
      try simp only [Act.put, List.setIfInBounds_toArray, List.set_cons_zero, List.set_cons_succ]
      refine' wpLast.take (i := 5) (v := _) rfl (by kernel_rfl) (fun _ _ _ h => h) (by kernel_rfl) _ _ _ _ (by kernel_rfl) (by kernel_rfl) (Or.inl ⟨by rfl, ?hy5c⟩) hS ?rest5c
      case hy5c => (intro w' hSw; obtain ⟨k0, k1⟩ := hSw; go_simp; try with_reducible rfl)
      try simp only [Act.put, List.setIfInBounds_toArray, List.set_cons_zero, List.set_cons_succ]
      refine' wpLast.take (i := 6) (v := _) rfl (by kernel_rfl) (fun _ _ _ h => h) (by kernel_rfl) _ _ _ _ (by kernel_rfl) (by kernel_rfl) (Or.inl ⟨by rfl, ?hy6c⟩) hS ?rest6c
      case hy6c => (intro w' hSw; obtain ⟨k0, k1⟩ := hSw; go_simp; try with_reducible rfl)
      try simp only [Act.put, List.setIfInBounds_toArray, List.set_cons_zero, List.set_cons_succ]
      refine' wpLast.take (i := 7) (v := _) rfl (by kernel_rfl) (fun _ _ _ h => h) (by kernel_rfl) _ _ _ _ (by kernel_rfl) (by kernel_rfl) (Or.inl ⟨by rfl, ?hy7c⟩) hS ?rest7c
      case hy7c => (intro w' hSw; obtain ⟨k0, k1⟩ := hSw; go_simp; try with_reducible rfl)
      try simp only [Act.put, List.setIfInBounds_toArray, List.set_cons_zero, List.set_cons_succ]
      refine' wpLast.take (i := 8) (v := _) rfl (by kernel_rfl) (fun _ _ _ h => h) (by kernel_rfl) _ _ _ _ (by kernel_rfl) (by kernel_rfl) (Or.inl ⟨by rfl, ?hy8c⟩) hS ?rest8c
      case hy8c => (intro w' hSw; obtain ⟨k0, k1⟩ := hSw; go_simp; try with_reducible rfl)
      try simp only [Act.put, List.setIfInBounds_toArray, List.set_cons_zero, List.set_cons_succ]
      refine' wpLast.take (i := 9) (v := _) rfl (by kernel_rfl) (fun _ _ _ h => h) (by kernel_rfl) _ _ _ _ (by kernel_rfl) (by kernel_rfl) (Or.inl ⟨by rfl, ?hy9c⟩) hS ?rest9c
      case hy9c => (intro w' hSw; obtain ⟨k0, k1⟩ := hSw; go_simp; try with_reducible rfl)
      try simp only [Act.put, List.setIfInBounds_toArray, List.set_cons_zero, List.set_cons_succ]
      refine' wpLast.take (i := 10) (v := _) rfl (by kernel_rfl) (fun _ _ _ h => h) (by kernel_rfl) _ _ _ _ (by kernel_rfl) (by kernel_rfl) (Or.inl ⟨by rfl, ?hy10c⟩) hS ?rest10c
      case hy10c => (intro w' hSw; obtain ⟨k0, k1⟩ := hSw; go_simp; try with_reducible rfl)
      try simp only [Act.put, List.setIfInBounds_toArray, List.set_cons_zero, List.set_cons_succ]
      refine' wpLast.take (i := 11) (v := _) rfl (by kernel_rfl) (fun _ _ _ h => h) (by kernel_rfl) _ _ _ _ (by kernel_rfl) (by kernel_rfl) (Or.inl ⟨by rfl, ?hy11c⟩) hS ?rest11c
      case hy11c => (intro w' hSw; obtain ⟨k0, k1⟩ := hSw; go_simp; try with_reducible rfl)
      try simp only [Act.put, List.setIfInBounds_toArray, List.set_cons_zero, List.set_cons_succ]
      refine' wpLast.take (i := 12) (v := _) rfl (by kernel_rfl) (fun _ _ _ h => h) (by kernel_rfl) _ _ _ _ (by kernel_rfl) (by kernel_rfl) (Or.inl ⟨by rfl, ?hy12c⟩) hS ?rest12c
      case hy12c => (intro w' hSw; obtain ⟨k0, k1⟩ := hSw; go_simp; try with_reducible rfl)
      try simp only [Act.put, List.setIfInBounds_toArray, List.set_cons_zero, List.set_cons_succ]
      refine wpLast.one (i := 13) rfl (by kernel_rfl) ?_
      intro K' hK; have HK' := Lib.hid hK; clear hK
      go_simp
      have hS2 : (fun w' : World => w'.cell? ⟨b, 7, none⟩ = some (.slice (p 0).1 R.tasks.length (p 0).2) ∧ w'.cell? ⟨b, 1, none⟩ = some (.int .i64 (R.ord + 1))) (W1.drew.alloc (.cells #[.int .i64 src, .int .i64 (R.ord + 1), .int .i64 k, .int .i64 n] 109)) := by
        have q := H4.out.blkm (b := b) (.head _)
        refine ⟨?_, ?_⟩
        · rw [q.cell]; rfl
        · rw [q.cell]; rfl
      refine HK'.out _ _ ⟨fun _ => hS2, ?_⟩
      clear HK' K'
      try simp only [Act.put, List.setIfInBounds_toArray, List.set_cons_zero, List.set_cons_succ]
      refine wpLast.one (i := 14) rfl (by kernel_rfl) ?_
      intro K' hK; have HK' := Lib.hid hK; clear hK
      refine step_append_any (by rfl) _ _ 66 (by rfl) elRT (p 0).1 R.tasks.length (p 0).2 _ (by rfl) hxs _ 1 _ _ (by rfl) r2 (by omega) (by omega) ?_
      intro s2 c2 w4 p1 p2 p3
      have H6 := Lib.hid (H4.out.swap.row_step p1 p2 p3).swap
      have hS3 : (fun w' : World => w'.cell? ⟨b, 7, none⟩ = some (.slice (p 0).1 R.tasks.length (p 0).2) ∧ w'.cell? ⟨b, 1, none⟩ = some (.int .i64 (R.ord + 1))) w4 := by
        have q := H6.out.blkm (b := b) (.head _)
        refine ⟨?_, ?_⟩
        · rw [q.cell]; rfl
        · rw [q.cell]; rfl
      have kf := H6.out.free 7
      have k9 := hS3.1
      refine HK'.out _ _ ⟨fun _ => hS3, ?_⟩
      clear HK' K' hS hS2 p1 p2 p3
      try simp only [Act.put, List.setIfInBounds_toArray, List.set_cons_zero, List.set_cons_succ]
      refine wpLast.one (i := 15) rfl (by kernel_rfl) ?_
      intro K' hK; have HK' := Lib.hid hK; clear hK
      go_simp
      refine HK'.out _ _ ⟨fun _ => hS3, ?_⟩
      clear HK' K'
      try simp only [Act.put, List.setIfInBounds_toArray, List.set_cons_zero, List.set_cons_succ]
      refine wpLast.one (i := 16) rfl (by kernel_rfl) ?_
      intro K' hK; have HK' := Lib.hid hK; clear hK
      go_simp
      refine HK'.out _ _ ⟨fun _ => hS3, ?_⟩
      clear HK' K'
      try simp only [Act.put, List.setIfInBounds_toArray, List.set_cons_zero, List.set_cons_succ]
      refine wpLast.one (i := 17) rfl (by kernel_rfl) ?_
      intro K' hK; have HK' := Lib.hid hK; clear hK
      go_simp
      refine HK'.out _ _ ⟨fun h => absurd rfl h, ?_⟩
      clear HK' K' hS3
      try simp only [Act.put, List.setIfInBounds_toArray, List.set_cons_zero, List.set_cons_succ]
      refine wpLast.done (by kernel_rfl) ?_
      have H7 := Lib.hid (H6.out.set 7 (.slice s2 (R.tasks.length + 1) c2))
      obtain ⟨W7, hW7⟩ : ∃ W7, w4.setCell ⟨b, 7, none⟩ (.slice s2 (R.tasks.length + 1) c2) = W7 := ⟨_, rfl⟩
      rw [hW7] at H7
      rw [hW7]
      clear hW7 k9 kf hxs r2
      go_wp2_with fail
      go_end0
      refine ⟨rfl, ?_⟩
      rw [← HRR.out, rpushS, HSX.out]
      exact rl_shut (unf_rrt (R := { R with ord := R.ord + 1 }) (n := R.tasks.length + 1) (R.tasks ++ [⟨src, R.ord + 1, k, n⟩]) (by simp) (by rw [flat_append, flat_one]; exact H7.out))
def rreqS (R : RL) : RL := { R with last := R.last + 1, shots := R.shots ++ [R.last + 1] }
set_option maxRecDepth 100000 in
set_option maxHeartbeats 1000000 in
theorem rreq_st {w0 w : World} {L : List As} {b : Nat} {R : RL} (h : St w0 w (rlO b R :: L)) (hn : R.shots.length ≤ 100000) (hl : 0 ≤ R.last) (hl2 : R.last ≤ 1000000000000) :
    Calls Try.prog 44 #[.pointer (some ⟨b, 0, none⟩)] w (RetSt (.int .i64 (R.last + 1)) w0 (rlO b (rreqS R) :: L)) := by
  obtain ⟨p, h⟩ := rl_open h
  have H0 := Lib.hid h
  clear h
  obtain ⟨-, -, -, c3, -⟩ := rl_c H0.out
  have f3 := H0.out.free 3
  go_enter Try.func44, Try.ntmps44
  go_upto_region 2 with fail
  have h1 := H0.out.set 3 (.int .i64 (R.last + 1))
  rw [rset_last] at h1
  obtain ⟨W1, hW1⟩ : ∃ W1, w.setCell ⟨b, 3, none⟩ (.int .i64 (R.last + 1)) = W1 := ⟨_, rfl⟩
  rw [hW1] at h1
  rw [hW1]
  have H2 := Lib.hid (foc_rrh (R := { R with last := R.last + 1 }) (p := p) (show St w0 W1 (rlL b { R with last := R.last + 1 } p ++ L) from h1).drew)
  clear hW1 h1 c3 f3
  have hS : (fun w' : World => w'.cell? ⟨b, 9, none⟩ = some (.slice (p 2).1 R.shots.length (p 2).2) ∧ w'.cell? ⟨b, 3, none⟩ = some (.int .i64 (R.last + 1))) W1.drew := by
    have q := H2.out.blkm (b := b) (.head _)
    refine ⟨?_, ?_⟩
    · rw [q.cell]; rfl
    · rw [q.cell]; rfl
  have hxs := (H2.out.swap.sl).alloc (.cells #[.int .i64 (R.last + 1)] 3)
  have r2 := rd_built_at W1.drew #[.int .i64 (R.last + 1)] 3 1 1 W1.heap.size rfl rfl (by simp [Value.oneCell'])
  have H4 := Lib.hid (H2.out.alloc (.cells #[.int .i64 (R.last + 1)] 3))
  refine wpLast.region (S := (fun w' : World => w'.cell? ⟨b, 9, none⟩ = some (.slice (p 2).1 R.shots.length (p 2).2) ∧ w'.cell? ⟨b, 3, none⟩ = some (.int .i64 (R.last + 1)))) (c := 13) (by kernel_rfl) ?_
  refine' wpLast.take (i := 0) (v := _) rfl (by kernel_rfl) (fun _ _ _ h => h) (by kernel_rfl) _ _ _ _ (by kernel_rfl) (by kernel_rfl) (Or.inl ⟨by rfl, ?hy0⟩) hS ?rest0
  case hy0 => (intro w' hSw; obtain ⟨k0, k1⟩ := hSw; go_simp; try with_reducible rfl)
  try simp only [Act.put, List.setIfInBounds_toArray, List.set_cons_zero, List.set_cons_succ]
  refine' wpLast.take (i := 1) (v := _) rfl (by kernel_rfl) (fun _ _ _ h => h) (by kernel_rfl) _ _ _ _ (by kernel_rfl) (by kernel_rfl) (Or.inl ⟨by rfl, ?hy1⟩) hS ?rest1
  case hy1 => (intro w' hSw; obtain ⟨k0, k1⟩ := hSw; go_simp; try with_reducible rfl)
  try simp only [Act.put, List.setIfInBounds_toArray, List.set_cons_zero, List.set_cons_succ]
  refine' wpLast.take (i := 2) (v := _) rfl (by kernel_rfl) (fun _ _ _ h => h) (by kernel_rfl) _ _ _ _ (by kernel_rfl) (by kernel_rfl) (Or.inl ⟨by rfl, ?hy2⟩) hS ?rest2
  case hy2 => (intro w' hSw; obtain ⟨k0, k1⟩ := hSw; go_simp; try with_reducible rfl)
  try simp only [Act.put, List.setIfInBounds_toArray, List.set_cons_zero, List.set_cons_succ]
  refine' wpLast.take (i := 3) (v := _) rfl (by kernel_rfl) (fun _ _ _ h => h) (by kernel_rfl) _ _ _ _ (by kernel_rfl) (by kernel_rfl) (Or.inl ⟨by rfl, ?hy3⟩) hS ?rest3
  case hy3 => (intro w' hSw; obtain ⟨k0, k1⟩ := hSw; go_simp; try with_reducible rfl)
  try simp only [Act.put, List.setIfInBounds_toArray, List.set_cons_zero, List.set_cons_succ]
  refine' wpLast.take (i := 4) (v := _) rfl (by kernel_rfl) (fun _ _ _ h => h) (by kernel_rfl) _ _ _ _ (by kernel_rfl) (by kernel_rfl) (Or.inl ⟨by rfl, ?hy4⟩) hS ?rest4
  case hy4 => (intro w' hSw; obtain ⟨k0, k1⟩ := hSw; go_simp; try with_reducible rfl)
  try simp only [Act.put, List.setIfInBounds_toArray, List.set_cons_zero, List.set_cons_succ]
  refine' wpLast.take (i := 5) (v := _) rfl (by kernel_rfl) (fun _ _ _ h => h) (by kernel_rfl) _ _ _ _ (by kernel_rfl) (by kernel_rfl) (Or.inl ⟨by rfl, ?hy5⟩) hS ?rest5
  case hy5 => (intro w' hSw; obtain ⟨k0, k1⟩ := hSw; go_simp; try with_reducible rfl)
  try simp only [Act.put, List.setIfInBounds_toArray, List.set_cons_zero, List.set_cons_succ]
  refine' wpLast.take (i := 6) (v := _) rfl (by kernel_rfl) (fun _ _ _ h => h) (by kernel_rfl) _ _ _ _ (by kernel_rfl) (by kernel_rfl) (Or.inl ⟨by rfl, ?hy6⟩) hS ?rest6
  case hy6 => (intro w' hSw; obtain ⟨k0, k1⟩ := hSw; go_simp; try with_reducible rfl)
  try simp only [Act.put, List.setIfInBounds_toArray, List.set_cons_zero, List.set_cons_succ]
  refine' wpLast.take (i := 7) (v := _) rfl (by kernel_rfl) (fun _ _ _ h => h) (by kernel_rfl) _ _ _ _ (by kernel_rfl) (by kernel_rfl) (Or.inl ⟨by rfl, ?hy7⟩) hS ?rest7
  case hy7 => (intro w' hSw; obtain ⟨k0, k1⟩ := hSw; go_simp; try with_reducible rfl)
  try simp only [Act.put, List.setIfInBounds_toArray, List.set_cons_zero, List.set_cons_succ]
  refine' wpLast.take (i := 8) (v := _) rfl (by kernel_rfl) (fun _ _ _ h => h) (by kernel_rfl) _ _ _ _ (by kernel_rfl) (by kernel_rfl) (Or.inl ⟨by rfl, ?hy8⟩) hS ?rest8
  case hy8 => (intro w' hSw; obtain ⟨k0, k1⟩ := hSw; go_simp; try with_reducible rfl)
  try simp only [Act.put, List.setIfInBounds_toArray, List.set_cons_zero, List.set_cons_succ]
  refine wpLast.one (i := 9) rfl (by kernel_rfl) ?_
  intro K' hK; have HK' := Lib.hid hK; clear hK
  go_simp
  have hS2 : (fun w' : World => w'.cell? ⟨b, 9, none⟩ = some (.slice (p 2).1 R.shots.length (p 2).2) ∧ w'.cell? ⟨b, 3, none⟩ = some (.int .i64 (R.last + 1))) (W1.drew.alloc (.cells #[.int .i64 (R.last + 1)] 3)) := by
    have q := H4.out.blkm (b := b) (.head _)
    refine ⟨?_, ?_⟩
    · rw [q.cell]; rfl
    · rw [q.cell]; rfl
  refine HK'.out _ _ ⟨fun _ => hS2, ?_⟩
  clear HK' K'
  try simp only [Act.put, List.setIfInBounds_toArray, List.set_cons_zero, List.set_cons_succ]
  refine wpLast.one (i := 10) rfl (by kernel_rfl) ?_
  intro K' hK; have HK' := Lib.hid hK; clear hK
  refine step_append_any (by rfl) _ _ 60 (by rfl) el60 (p 2).1 R.shots.length (p 2).2 _ (by rfl) hxs _ 1 _ _ (by rfl) r2 (by omega) (by omega) ?_
  intro s2 c2 w4 p1 p2 p3
  have H6 := Lib.hid (H4.out.swap.row_step p1 p2 p3).swap
  have hS3 : (fun w' : World => w'.cell? ⟨b, 9, none⟩ = some (.slice (p 2).1 R.shots.length (p 2).2) ∧ w'.cell? ⟨b, 3, none⟩ = some (.int .i64 (R.last + 1))) w4 := by
    have q := H6.out.blkm (b := b) (.head _)
    refine ⟨?_, ?_⟩
    · rw [q.cell]; rfl
    · rw [q.cell]; rfl
  have kf := H6.out.free 9
  have k9 := hS3.1
  refine HK'.out _ _ ⟨fun _ => hS3, ?_⟩
  clear HK' K' hS hS2 p1 p2 p3
  try simp only [Act.put, List.setIfInBounds_toArray, List.set_cons_zero, List.set_cons_succ]
  refine wpLast.one (i := 11) rfl (by kernel_rfl) ?_
  intro K' hK; have HK' := Lib.hid hK; clear hK
  go_simp
  refine HK'.out _ _ ⟨fun _ => hS3, ?_⟩
  clear HK' K'
  try simp only [Act.put, List.setIfInBounds_toArray, List.set_cons_zero, List.set_cons_succ]
  refine wpLast.one (i := 12) rfl (by kernel_rfl) ?_
  intro K' hK; have HK' := Lib.hid hK; clear hK
  go_simp
  refine HK'.out _ _ ⟨fun _ => hS3, ?_⟩
  clear HK' K'
  try simp only [Act.put, List.setIfInBounds_toArray, List.set_cons_zero, List.set_cons_succ]
  refine wpLast.one (i := 13) rfl (by kernel_rfl) ?_
  intro K' hK; have HK' := Lib.hid hK; clear hK
  go_simp
  refine HK'.out _ _ ⟨fun h => absurd rfl h, ?_⟩
  clear HK' K' hS3
  try simp only [Act.put, List.setIfInBounds_toArray, List.set_cons_zero, List.set_cons_succ]
  refine wpLast.done (by kernel_rfl) ?_
  have H7 := Lib.hid (H6.out.set 9 (.slice s2 (R.shots.length + 1) c2))
  obtain ⟨W7, hW7⟩ : ∃ W7, w4.setCell ⟨b, 9, none⟩ (.slice s2 (R.shots.length + 1) c2) = W7 := ⟨_, rfl⟩
  rw [hW7] at H7
  rw [hW7]
  clear hW7 k9 kf hxs r2
  have c3 : W7.cell? ⟨b, 3, none⟩ = some (.int .i64 (R.last + 1)) := by rw [H7.out.blk.1.cell]; rfl
  go_wp2_with fail
  go_ret
  refine ⟨rfl, ?_⟩
  exact rl_shut (unf_rrh (R := { R with last := R.last + 1 }) (n := R.shots.length + 1) (R.shots ++ [R.last + 1]) (by simp) (by rw [flat_append, flat_one]; exact H7.out))

end Go.Proofs.Ytnamkckpgaopkaa
