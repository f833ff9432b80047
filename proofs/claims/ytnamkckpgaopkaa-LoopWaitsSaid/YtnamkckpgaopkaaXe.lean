/-
  SetTimer of the chapter's loop.
-/
import Derived.Test.YtnamkckpgaopkaaXd
set_option linter.unusedVariables false
set_option linter.unusedSimpArgs false
namespace Go.Proofs.Ytnamkckpgaopkaa
open Go.RowKit Go.K

def rsetS (R : RL) (d e fn : Int) : RL := { R with next := R.next + 1, tms := R.tms ++ [⟨R.next + 1, R.now + bound d, R.next + 1, bound e, fn, true⟩] }
set_option maxRecDepth 100000 in
set_option maxHeartbeats 1000000 in
theorem rset_st {w0 w : World} {L : List As} {b : Nat} {R : RL} (delay every fn : Int) (h : St w0 w (rlO b R :: L)) (hn : R.tms.length ≤ 100000) (hx : 0 ≤ R.next) (hx2 : R.next < 4294967296) (h0 : 0 ≤ R.now) (h1 : R.now ≤ 1152921504606846976) :
    Calls Try.prog 42 #[.pointer (some ⟨b, 0, none⟩), .int .i64 delay, .int .i64 every, .int .i64 fn] w (RetSt (.int .i64 (R.next + 1)) w0 (rlO b (rsetS R delay every fn) :: L)) := by
  unfold rsetS
  obtain ⟨D, hD⟩ : ∃ D, bound delay = D := ⟨_, rfl⟩
  obtain ⟨E, hE⟩ : ∃ E, bound every = E := ⟨_, rfl⟩
  have B1 := Lib.hid (rbound delay)
  have B2 := Lib.hid (rbound every)
  rw [hD] at B1
  rw [hE] at B2
  rw [hD, hE]
  have hD0 : 0 ≤ D ∧ D ≤ 1099511627776 := by rw [← hD, bound]; omega
  obtain ⟨hDa, hDb⟩ := hD0
  obtain ⟨p, h⟩ := rl_open h
  have H0 := Lib.hid h
  clear h hD hE
  obtain ⟨-, -, c2, -⟩ := rl_c H0.out
  have f2 := H0.out.free 2
  go_enter Try.func42, Try.ntmps42
  go_upto_region 2 with fail
  have h1 := H0.out.set 2 (.int .i64 (R.next + 1))
  rw [rset_next] at h1
  obtain ⟨W1, hW1⟩ : ∃ W1, w.setCell ⟨b, 2, none⟩ (.int .i64 (R.next + 1)) = W1 := ⟨_, rfl⟩
  rw [hW1] at h1
  rw [hW1]
  have H2 := Lib.hid (foc_rrm (R := { R with next := R.next + 1 }) (p := p) (show St w0 W1 (rlL b { R with next := R.next + 1 } p ++ L) from h1).drew)
  clear hW1 h1 c2 f2
  have hwd : IntKind.i64.wrap (R.now + D) = R.now + D := by rw [IntKind.wrap_i64]; omega
  have hS : (fun w' : World => w'.cell? ⟨b, 10, none⟩ = some (.slice (p 3).1 R.tms.length (p 3).2) ∧ w'.cell? ⟨b, 2, none⟩ = some (.int .i64 (R.next + 1)) ∧ w'.cell? ⟨b, 0, none⟩ = some (.int .i64 R.now)) W1.drew := by
    have q := H2.out.blkm (b := b) (.head _)
    refine ⟨?_, ?_, ?_⟩
    · rw [q.cell]; rfl
    · rw [q.cell]; rfl
    · rw [q.cell]; rfl
  have hxs := (H2.out.swap.sl).alloc (.cells #[.int .i64 (R.next + 1), .int .i64 (R.now + D), .int .i64 (R.next + 1), .int .i64 E, .int .i64 fn, .bool true] 107)
  have r2 := rd_built_at W1.drew #[.int .i64 (R.next + 1), .int .i64 (R.now + D), .int .i64 (R.next + 1), .int .i64 E, .int .i64 fn, .bool true] 107 6 1 W1.heap.size rfl rfl (by simp [Value.oneCell'])
  have H4 := Lib.hid (H2.out.alloc (.cells #[.int .i64 (R.next + 1), .int .i64 (R.now + D), .int .i64 (R.next + 1), .int .i64 E, .int .i64 fn, .bool true] 107))
  refine wpLast.region (S := (fun w' : World => w'.cell? ⟨b, 10, none⟩ = some (.slice (p 3).1 R.tms.length (p 3).2) ∧ w'.cell? ⟨b, 2, none⟩ = some (.int .i64 (R.next + 1)) ∧ w'.cell? ⟨b, 0, none⟩ = some (.int .i64 R.now))) (c := 28) (by kernel_rfl) ?_
  refine' wpLast.take (i := 0) (v := _) rfl (by kernel_rfl) (fun _ _ _ h => h) (by kernel_rfl) _ _ _ _ (by kernel_rfl) (by kernel_rfl) (Or.inl ⟨by rfl, ?hy0⟩) hS ?rest0
  case hy0 => (intro w' hSw; obtain ⟨k0, k1, k2⟩ := hSw; go_simp; try with_reducible rfl)
  try simp only [Act.put, List.setIfInBounds_toArray, List.set_cons_zero, List.set_cons_succ]
  refine' wpLast.take (i := 1) (v := _) rfl (by kernel_rfl) (fun _ _ _ h => h) (by kernel_rfl) _ _ _ _ (by kernel_rfl) (by kernel_rfl) (Or.inl ⟨by rfl, ?hy1⟩) hS ?rest1
  case hy1 => (intro w' hSw; obtain ⟨k0, k1, k2⟩ := hSw; go_simp; try with_reducible rfl)
  try simp only [Act.put, List.setIfInBounds_toArray, List.set_cons_zero, List.set_cons_succ]
  refine' wpLast.take (i := 2) (v := _) rfl (by kernel_rfl) (fun _ _ _ h => h) (by kernel_rfl) _ _ _ _ (by kernel_rfl) (by kernel_rfl) (Or.inl ⟨by rfl, ?hy2⟩) hS ?rest2
  case hy2 => (intro w' hSw; obtain ⟨k0, k1, k2⟩ := hSw; go_simp; try with_reducible rfl)
  try simp only [Act.put, List.setIfInBounds_toArray, List.set_cons_zero, List.set_cons_succ]
  refine' wpLast.take (i := 3) (v := _) rfl (by kernel_rfl) (fun _ _ _ h => h) (by kernel_rfl) _ _ _ _ (by kernel_rfl) (by kernel_rfl) (Or.inl ⟨by rfl, ?hy3⟩) hS ?rest3
  case hy3 => (intro w' hSw; obtain ⟨k0, k1, k2⟩ := hSw; go_simp; try with_reducible rfl)
  try simp only [Act.put, List.setIfInBounds_toArray, List.set_cons_zero, List.set_cons_succ]
  refine' wpLast.take (i := 4) (v := _) rfl (by kernel_rfl) (fun _ _ _ h => h) (by kernel_rfl) _ _ _ _ (by kernel_rfl) (by kernel_rfl) (Or.inl ⟨by rfl, ?hy4⟩) hS ?rest4
  case hy4 => (intro w' hSw; obtain ⟨k0, k1, k2⟩ := hSw; go_simp; try with_reducible rfl)
  try simp only [Act.put, List.setIfInBounds_toArray, List.set_cons_zero, List.set_cons_succ]
  refine' wpLast.take (i := 5) (v := _) rfl (by kernel_rfl) (fun _ _ _ h => h) (by kernel_rfl) _ _ _ _ (by kernel_rfl) (by kernel_rfl) (Or.inl ⟨by rfl, ?hy5⟩) hS ?rest5
  case hy5 => (intro w' hSw; obtain ⟨k0, k1, k2⟩ := hSw; go_simp; try with_reducible rfl)
  try simp only [Act.put, List.setIfInBounds_toArray, List.set_cons_zero, List.set_cons_succ]
  refine' wpLast.take (i := 6) (v := _) rfl (by kernel_rfl) (fun _ _ _ h => h) (by kernel_rfl) _ _ _ _ (by kernel_rfl) (by kernel_rfl) (Or.inl ⟨by rfl, ?hy6⟩) hS ?rest6
  case hy6 => (intro w' hSw; obtain ⟨k0, k1, k2⟩ := hSw; go_simp; try with_reducible rfl)
  try simp only [Act.put, List.setIfInBounds_toArray, List.set_cons_zero, List.set_cons_succ]
  refine' wpLast.take (i := 7) (v := _) rfl (by kernel_rfl) (fun _ _ _ h => h) (by kernel_rfl) _ _ _ _ (by kernel_rfl) (by kernel_rfl) (Or.inl ⟨by rfl, ?hy7⟩) hS ?rest7
  case hy7 => (intro w' hSw; obtain ⟨k0, k1, k2⟩ := hSw; go_simp; try with_reducible rfl)
  try simp only [Act.put, List.setIfInBounds_toArray, List.set_cons_zero, List.set_cons_succ]
  refine' wpLast.take (i := 8) (v := _) rfl (by kernel_rfl) (fun _ _ _ h => h) (by kernel_rfl) _ _ _ _ (by kernel_rfl) (by kernel_rfl) (Or.inl ⟨by rfl, ?hy8⟩) hS ?rest8
  case hy8 => (intro w' hSw; obtain ⟨k0, k1, k2⟩ := hSw; go_simp; try with_reducible rfl)
  try simp only [Act.put, List.setIfInBounds_toArray, List.set_cons_zero, List.set_cons_succ]
  refine' wpLast.take (i := 9) (v := _) rfl (by kernel_rfl) (fun _ _ _ h => h) (by kernel_rfl) _ _ _ _ (by kernel_rfl) (by kernel_rfl) (Or.inl ⟨by rfl, ?hy9⟩) hS ?rest9
  case hy9 => (intro w' hSw; obtain ⟨k0, k1, k2⟩ := hSw; go_simp; try with_reducible rfl)
  try simp only [Act.put, List.setIfInBounds_toArray, List.set_cons_zero, List.set_cons_succ]
  refine' wpLast.take (i := 10) (v := _) rfl (by kernel_rfl) (fun _ _ _ h => h) (by kernel_rfl) _ _ _ _ (by kernel_rfl) (by kernel_rfl) (Or.inl ⟨by rfl, ?hy10⟩) hS ?rest10
  case hy10 => (intro w' hSw; obtain ⟨k0, k1, k2⟩ := hSw; go_simp; try with_reducible rfl)
  try simp only [Act.put, List.setIfInBounds_toArray, List.set_cons_zero, List.set_cons_succ]
  refine' wpLast.take (i := 11) (v := _) rfl (by kernel_rfl) (fun _ _ _ h => h) (by kernel_rfl) _ _ _ _ (by kernel_rfl) (by kernel_rfl) (Or.inl ⟨by rfl, ?hy11⟩) hS ?rest11
  case hy11 => (intro w' hSw; obtain ⟨k0, k1, k2⟩ := hSw; go_simp; try with_reducible rfl)
  try simp only [Act.put, List.setIfInBounds_toArray, List.set_cons_zero, List.set_cons_succ]
  refine' wpLast.take (i := 12) (v := _) rfl (by kernel_rfl) (fun _ _ _ h => h) (by kernel_rfl) _ _ _ _ (by kernel_rfl) (by kernel_rfl) (Or.inl ⟨by rfl, ?hy12⟩) hS ?rest12
  case hy12 => (intro w' hSw; obtain ⟨k0, k1, k2⟩ := hSw; go_simp; try with_reducible rfl)
  try simp only [Act.put, List.setIfInBounds_toArray, List.set_cons_zero, List.set_cons_succ]
  refine' wpLast.take (i := 13) (v := _) rfl (by kernel_rfl) (fun _ _ _ h => h) (by kernel_rfl) _ _ _ _ (by kernel_rfl) (by kernel_rfl) (Or.inl ⟨by rfl, ?hy13⟩) hS ?rest13
  case hy13 => (intro w' hSw; obtain ⟨k0, k1, k2⟩ := hSw; go_simp; try with_reducible rfl)
  try simp only [Act.put, List.setIfInBounds_toArray, List.set_cons_zero, List.set_cons_succ]
  refine' wpLast.take (i := 16) (v := _) rfl (by kernel_rfl) (fun _ _ _ h => h) (by kernel_rfl) _ _ _ _ (by kernel_rfl) (by kernel_rfl) (Or.inl ⟨by rfl, ?hy16⟩) hS ?rest16
  case hy16 => (intro w' hSw; obtain ⟨k0, k1, k2⟩ := hSw; go_simp; try with_reducible rfl)
  try simp only [Act.put, List.setIfInBounds_toArray, List.set_cons_zero, List.set_cons_succ]
  refine' wpLast.take (i := 17) (v := _) rfl (by kernel_rfl) (fun _ _ _ h => h) (by kernel_rfl) _ _ _ _ (by kernel_rfl) (by kernel_rfl) (Or.inl ⟨by rfl, ?hy17⟩) hS ?rest17
  case hy17 => (intro w' hSw; obtain ⟨k0, k1, k2⟩ := hSw; go_simp; try with_reducible rfl)
  try simp only [Act.put, List.setIfInBounds_toArray, List.set_cons_zero, List.set_cons_succ]
  refine' wpLast.take (i := 18) (v := _) rfl (by kernel_rfl) (fun _ _ _ h => h) (by kernel_rfl) _ _ _ _ (by kernel_rfl) (by kernel_rfl) (Or.inl ⟨by rfl, ?hy18⟩) hS ?rest18
  case hy18 => (intro w' hSw; obtain ⟨k0, k1, k2⟩ := hSw; go_simp; try with_reducible rfl)
  try simp only [Act.put, List.setIfInBounds_toArray, List.set_cons_zero, List.set_cons_succ]
  refine' wpLast.take (i := 19) (v := _) rfl (by kernel_rfl) (fun _ _ _ h => h) (by kernel_rfl) _ _ _ _ (by kernel_rfl) (by kernel_rfl) (Or.inl ⟨by rfl, ?hy19⟩) hS ?rest19
  case hy19 => (intro w' hSw; obtain ⟨k0, k1, k2⟩ := hSw; go_simp; try with_reducible rfl)
  try simp only [Act.put, List.setIfInBounds_toArray, List.set_cons_zero, List.set_cons_succ]
  refine' wpLast.take (i := 20) (v := _) rfl (by kernel_rfl) (fun _ _ _ h => h) (by kernel_rfl) _ _ _ _ (by kernel_rfl) (by kernel_rfl) (Or.inl ⟨by rfl, ?hy20⟩) hS ?rest20
  case hy20 => (intro w' hSw; obtain ⟨k0, k1, k2⟩ := hSw; go_simp; try with_reducible rfl)
  try simp only [Act.put, List.setIfInBounds_toArray, List.set_cons_zero, List.set_cons_succ]
  refine' wpLast.take (i := 22) (v := _) rfl (by kernel_rfl) (fun _ _ _ h => h) (by kernel_rfl) _ _ _ _ (by kernel_rfl) (by kernel_rfl) (Or.inl ⟨by rfl, ?hy22⟩) hS ?rest22
  case hy22 => (intro w' hSw; obtain ⟨k0, k1, k2⟩ := hSw; go_simp; try with_reducible rfl)
  try simp only [Act.put, List.setIfInBounds_toArray, List.set_cons_zero, List.set_cons_succ]
  refine wpLast.one (i := 14) rfl (by kernel_rfl) ?_
  intro K' hK; have HK' := Lib.hid hK; clear hK
  refine wp_call (by rfl) (by rfl) Try.func67 (by kernel_rfl) (by kernel_rfl) (by kernel_rfl) (B1.out _) ?_
  rintro e w4 ⟨rfl, rfl⟩
  refine ⟨_, rfl, ?_⟩
  refine HK'.out _ _ ⟨fun _ => hS, ?_⟩
  clear HK' K'
  try simp only [Act.put, List.setIfInBounds_toArray, List.set_cons_zero, List.set_cons_succ]
  refine' wpLast.take (i := 15) (v := (.int .i64 (R.now + D))) rfl (by kernel_rfl) (fun _ _ _ h => h) (by kernel_rfl) _ _ _ _ (by kernel_rfl) (by kernel_rfl) (Or.inl ⟨by rfl, ?hy15⟩) hS ?rest15
  case hy15 => (intro w' hSw; obtain ⟨k0, k1, k2⟩ := hSw; go_simp; try with_reducible rfl)
  try simp only [Act.put, List.setIfInBounds_toArray, List.set_cons_zero, List.set_cons_succ]
  refine wpLast.one (i := 21) rfl (by kernel_rfl) ?_
  intro K' hK; have HK' := Lib.hid hK; clear hK
  refine wp_call (by rfl) (by rfl) Try.func67 (by kernel_rfl) (by kernel_rfl) (by kernel_rfl) (B2.out _) ?_
  rintro e w4 ⟨rfl, rfl⟩
  refine ⟨_, rfl, ?_⟩
  refine HK'.out _ _ ⟨fun _ => hS, ?_⟩
  clear HK' K'
  try simp only [Act.put, List.setIfInBounds_toArray, List.set_cons_zero, List.set_cons_succ]
  refine' wpLast.take (i := 23) (v := _) rfl (by kernel_rfl) (fun _ _ _ h => h) (by kernel_rfl) _ _ _ _ (by kernel_rfl) (by kernel_rfl) (Or.inl ⟨by rfl, ?hy23⟩) hS ?rest23
  case hy23 => (intro w' hSw; obtain ⟨k0, k1, k2⟩ := hSw; go_simp; try with_reducible rfl)
  try simp only [Act.put, List.setIfInBounds_toArray, List.set_cons_zero, List.set_cons_succ]
  refine wpLast.one (i := 24) rfl (by kernel_rfl) ?_
  intro K' hK; have HK' := Lib.hid hK; clear hK
  go_simp
  have hS2 : (fun w' : World => w'.cell? ⟨b, 10, none⟩ = some (.slice (p 3).1 R.tms.length (p 3).2) ∧ w'.cell? ⟨b, 2, none⟩ = some (.int .i64 (R.next + 1)) ∧ w'.cell? ⟨b, 0, none⟩ = some (.int .i64 R.now)) (W1.drew.alloc (.cells #[.int .i64 (R.next + 1), .int .i64 (R.now + D), .int .i64 (R.next + 1), .int .i64 E, .int .i64 fn, .bool true] 107)) := by
    have q := H4.out.blkm (b := b) (.head _)
    refine ⟨?_, ?_, ?_⟩
    · rw [q.cell]; rfl
    · rw [q.cell]; rfl
    · rw [q.cell]; rfl
  refine HK'.out _ _ ⟨fun _ => hS2, ?_⟩
  clear HK' K'
  try simp only [Act.put, List.setIfInBounds_toArray, List.set_cons_zero, List.set_cons_succ]
  refine wpLast.one (i := 25) rfl (by kernel_rfl) ?_
  intro K' hK; have HK' := Lib.hid hK; clear hK
  refine step_append_any (by rfl) _ _ 67 (by rfl) elRM (p 3).1 R.tms.length (p 3).2 _ (by rfl) hxs _ 1 _ _ (by rfl) r2 (by omega) (by omega) ?_
  intro s2 c2 w4 p1 p2 p3
  have H6 := Lib.hid (H4.out.swap.row_step p1 p2 p3).swap
  have hS3 : (fun w' : World => w'.cell? ⟨b, 10, none⟩ = some (.slice (p 3).1 R.tms.length (p 3).2) ∧ w'.cell? ⟨b, 2, none⟩ = some (.int .i64 (R.next + 1)) ∧ w'.cell? ⟨b, 0, none⟩ = some (.int .i64 R.now)) w4 := by
    have q := H6.out.blkm (b := b) (.head _)
    refine ⟨?_, ?_, ?_⟩
    · rw [q.cell]; rfl
    · rw [q.cell]; rfl
    · rw [q.cell]; rfl
  have kf := H6.out.free 10
  have k9 := hS3.1
  refine HK'.out _ _ ⟨fun _ => hS3, ?_⟩
  clear HK' K' hS hS2 p1 p2 p3
  try simp only [Act.put, List.setIfInBounds_toArray, List.set_cons_zero, List.set_cons_succ]
  refine wpLast.one (i := 26) rfl (by kernel_rfl) ?_
  intro K' hK; have HK' := Lib.hid hK; clear hK
  go_simp
  refine HK'.out _ _ ⟨fun _ => hS3, ?_⟩
  clear HK' K'
  try simp only [Act.put, List.setIfInBounds_toArray, List.set_cons_zero, List.set_cons_succ]
  refine wpLast.one (i := 27) rfl (by kernel_rfl) ?_
  intro K' hK; have HK' := Lib.hid hK; clear hK
  go_simp
  refine HK'.out _ _ ⟨fun _ => hS3, ?_⟩
  clear HK' K'
  try simp only [Act.put, List.setIfInBounds_toArray, List.set_cons_zero, List.set_cons_succ]
  refine wpLast.one (i := 28) rfl (by kernel_rfl) ?_
  intro K' hK; have HK' := Lib.hid hK; clear hK
  go_simp
  refine HK'.out _ _ ⟨fun h => absurd rfl h, ?_⟩
  clear HK' K' hS3
  try simp only [Act.put, List.setIfInBounds_toArray, List.set_cons_zero, List.set_cons_succ]
  refine wpLast.done (by kernel_rfl) ?_
  have H7 := Lib.hid (H6.out.set 10 (.slice s2 (R.tms.length + 1) c2))
  obtain ⟨W7, hW7⟩ : ∃ W7, w4.setCell ⟨b, 10, none⟩ (.slice s2 (R.tms.length + 1) c2) = W7 := ⟨_, rfl⟩
  rw [hW7] at H7
  rw [hW7]
  clear hW7 k9 kf hxs r2
  have c2 : W7.cell? ⟨b, 2, none⟩ = some (.int .i64 (R.next + 1)) := by rw [H7.out.blk.1.cell]; rfl
  go_wp2_with fail
  go_ret
  refine ⟨rfl, ?_⟩
  exact rl_shut (unf_rrm (R := { R with next := R.next + 1 }) (n := R.tms.length + 1) (R.tms ++ [⟨R.next + 1, R.now + D, R.next + 1, E, fn, true⟩]) (by simp) (by rw [flat_append, flat_one]; exact H7.out))

end Go.Proofs.Ytnamkckpgaopkaa
