/-
  Request and call of a State.
-/
import Derived.Test.YtnamkckpgaopkaaLk
import Derived.Test.YtnamkckpgaopkaaLc
set_option linter.unusedVariables false
set_option linter.unusedSimpArgs false
namespace Go.Proofs.Ytnamkckpgaopkaa
open Go.RowKit Go.K

theorem st_in {w0 w : World} {A : As} {X L : List As} (h : St w0 w (A :: (X ++ L))) : St w0 w (X ++ (A :: L)) := h.perm List.perm_middle.symm
theorem st_out {w0 w : World} {A : As} {X L : List As} (h : St w0 w (X ++ (A :: L))) : St w0 w (A :: (X ++ L)) := h.perm List.perm_middle
theorem st_drop1 {w0 w : World} {A : As} {X L : List As} (h : St w0 w (X ++ (A :: L))) : St w0 w (X ++ L) := (st_out h).drop

def reqS (S : LS) (fn : Int) : LS := { S with last := S.last + 1, shots := S.shots ++ [⟨S.last + 1, fn⟩] }
set_option maxRecDepth 100000 in
set_option maxHeartbeats 1000000 in
theorem req_st {w0 w : World} {L : List As} {b : Nat} {S : LS} (fn : Int) (h : St w0 w (stO b S :: L)) (hn : S.shots.length ≤ 100000) (hl : 0 ≤ S.last) (hl2 : S.last ≤ 1000000000000) :
    Calls Try.prog 18 #[.pointer (some ⟨b, 0, none⟩), .agg #[.int .i64 3, .int .i64 fn, .string { data := #[] }, .int .i64 0]] w (RetSt (.int .i64 (S.last + 1)) w0 (stO b (reqS S fn) :: L)) := by
  obtain ⟨p, G, hb, h⟩ := st_open h
  have HB := Lib.hid (show BagOk (reqS S fn) G from ⟨hb.calls, hb.jobs⟩)
  have hw1 : IntKind.i64.wrap (S.last + 1) = S.last + 1 := by rw [IntKind.wrap_i64]; omega
  have h0 := st_in (h.new #[.int .i64 3, .int .i64 fn, .string { data := #[] }, .int .i64 0] 46)
  have H0 := Lib.hid h0
  clear hb h h0
  go_enter Try.func18, Try.ntmps18
  go_upto_region 1 with fail
  obtain ⟨m, hm⟩ : ∃ m, w.heap.size = m := ⟨_, rfl⟩
  obtain ⟨W, hW⟩ : ∃ W, w.alloc (.cells #[.int .i64 3, .int .i64 fn, .string { data := #[] }, .int .i64 0] 46) = W := ⟨_, rfl⟩
  rw [hW, hm] at H0
  rw [hW]
  try simp only [hm]
  clear hW hm
  obtain ⟨-, -, -, c12, -⟩ := st_c H0.out
  have f12 := H0.out.free 12
  go_upto_region 2 with fail
  have h1 := H0.out.set 12 (.int .i64 (S.last + 1))
  rw [set_last] at h1
  obtain ⟨W1, hW1⟩ : ∃ W1, W.setCell ⟨b, 12, none⟩ (.int .i64 (S.last + 1)) = W1 := ⟨_, rfl⟩
  rw [hW1] at h1
  rw [hW1]
  have H1 := Lib.hid (show St w0 W1 (stL b { S with last := S.last + 1 } p G ++ (As.cells m #[.int .i64 3, .int .i64 fn, .string { data := #[] }, .int .i64 0] 46 :: L)) from h1)
  clear hW1 h1 c12 f12
  have H2 := Lib.hid (foc_h H1.out.drew)
  have hS : (fun w' : World => w'.cell? ⟨b, 11, none⟩ = some (.slice (p 8).1 S.shots.length (p 8).2) ∧ w'.cell? ⟨b, 12, none⟩ = some (.int .i64 (S.last + 1)) ∧ w'.cell? ⟨m, 0, none⟩ = some (.int .i64 3) ∧ w'.cell? ⟨m, 1, none⟩ = some (.int .i64 fn) ∧ w'.cell? ⟨m, 2, none⟩ = some (.string { data := #[] }) ∧ w'.cell? ⟨m, 3, none⟩ = some (.int .i64 0)) W1.drew := by
    have q := H2.out.blkm (b := b) (.head _)
    have r := H2.out.blkm (b := m) (.tail _ (.tail _ (.tail _ (.tail _ (.tail _ (.tail _ (.tail _ (.tail _ (.tail _ (.tail _ (.tail _ (.head _))))))))))))
    refine ⟨?_, ?_, ?_, ?_, ?_, ?_⟩
    · rw [q.cell]; rfl
    · rw [q.cell]; rfl
    · rw [r.cell]; rfl
    · rw [r.cell]; rfl
    · rw [r.cell]; rfl
    · rw [r.cell]; rfl
  have hxs := (H2.out.swap.sl).alloc (.cells #[.int .i64 (S.last + 1), .int .i64 3, .int .i64 fn, .string { data := #[] }, .int .i64 0] 63)
  have r2 := rd_built_at W1.drew #[.int .i64 (S.last + 1), .int .i64 3, .int .i64 fn, .string { data := #[] }, .int .i64 0] 63 5 1 W1.heap.size rfl rfl (by simp [Value.oneCell'])
  have H4 := Lib.hid (H2.out.alloc (.cells #[.int .i64 (S.last + 1), .int .i64 3, .int .i64 fn, .string { data := #[] }, .int .i64 0] 63))
  refine wpLast.region (S := (fun w' : World => w'.cell? ⟨b, 11, none⟩ = some (.slice (p 8).1 S.shots.length (p 8).2) ∧ w'.cell? ⟨b, 12, none⟩ = some (.int .i64 (S.last + 1)) ∧ w'.cell? ⟨m, 0, none⟩ = some (.int .i64 3) ∧ w'.cell? ⟨m, 1, none⟩ = some (.int .i64 fn) ∧ w'.cell? ⟨m, 2, none⟩ = some (.string { data := #[] }) ∧ w'.cell? ⟨m, 3, none⟩ = some (.int .i64 0))) (c := 15) (by kernel_rfl) ?_
  refine' wpLast.take (i := 0) (v := _) rfl (by kernel_rfl) (fun _ _ _ h => h) (by kernel_rfl) _ _ _ _ (by kernel_rfl) (by kernel_rfl) (Or.inl ⟨by rfl, ?hy0⟩) hS ?rest0
  case hy0 => (intro w' hSw; obtain ⟨k8, k9, k0, k1, k2, k3⟩ := hSw; go_simp; try with_reducible rfl)
  try (first | rw [Go.put_some] | rw [Go.put_none])
  try dsimp only [List.set_cons_zero, List.set_cons_succ]
  refine' wpLast.take (i := 1) (v := _) rfl (by kernel_rfl) (fun _ _ _ h => h) (by kernel_rfl) _ _ _ _ (by kernel_rfl) (by kernel_rfl) (Or.inl ⟨by rfl, ?hy1⟩) hS ?rest1
  case hy1 => (intro w' hSw; obtain ⟨k8, k9, k0, k1, k2, k3⟩ := hSw; go_simp; try with_reducible rfl)
  try (first | rw [Go.put_some] | rw [Go.put_none])
  try dsimp only [List.set_cons_zero, List.set_cons_succ]
  refine' wpLast.take (i := 2) (v := _) rfl (by kernel_rfl) (fun _ _ _ h => h) (by kernel_rfl) _ _ _ _ (by kernel_rfl) (by kernel_rfl) (Or.inl ⟨by rfl, ?hy2⟩) hS ?rest2
  case hy2 => (intro w' hSw; obtain ⟨k8, k9, k0, k1, k2, k3⟩ := hSw; go_simp; try with_reducible rfl)
  try (first | rw [Go.put_some] | rw [Go.put_none])
  try dsimp only [List.set_cons_zero, List.set_cons_succ]
  refine' wpLast.take (i := 3) (v := _) rfl (by kernel_rfl) (fun _ _ _ h => h) (by kernel_rfl) _ _ _ _ (by kernel_rfl) (by kernel_rfl) (Or.inl ⟨by rfl, ?hy3⟩) hS ?rest3
  case hy3 => (intro w' hSw; obtain ⟨k8, k9, k0, k1, k2, k3⟩ := hSw; go_simp; try with_reducible rfl)
  try (first | rw [Go.put_some] | rw [Go.put_none])
  try dsimp only [List.set_cons_zero, List.set_cons_succ]
  refine' wpLast.take (i := 4) (v := _) rfl (by kernel_rfl) (fun _ _ _ h => h) (by kernel_rfl) _ _ _ _ (by kernel_rfl) (by kernel_rfl) (Or.inl ⟨by rfl, ?hy4⟩) hS ?rest4
  case hy4 => (intro w' hSw; obtain ⟨k8, k9, k0, k1, k2, k3⟩ := hSw; go_simp; try with_reducible rfl)
  try (first | rw [Go.put_some] | rw [Go.put_none])
  try dsimp only [List.set_cons_zero, List.set_cons_succ]
  refine' wpLast.take (i := 5) (v := _) rfl (by kernel_rfl) (fun _ _ _ h => h) (by kernel_rfl) _ _ _ _ (by kernel_rfl) (by kernel_rfl) (Or.inl ⟨by rfl, ?hy5⟩) hS ?rest5
  case hy5 => (intro w' hSw; obtain ⟨k8, k9, k0, k1, k2, k3⟩ := hSw; go_simp; try with_reducible rfl)
  try (first | rw [Go.put_some] | rw [Go.put_none])
  try dsimp only [List.set_cons_zero, List.set_cons_succ]
  refine' wpLast.take (i := 6) (v := _) rfl (by kernel_rfl) (fun _ _ _ h => h) (by kernel_rfl) _ _ _ _ (by kernel_rfl) (by kernel_rfl) (Or.inl ⟨by rfl, ?hy6⟩) hS ?rest6
  case hy6 => (intro w' hSw; obtain ⟨k8, k9, k0, k1, k2, k3⟩ := hSw; go_simp; try with_reducible rfl)
  try (first | rw [Go.put_some] | rw [Go.put_none])
  try dsimp only [List.set_cons_zero, List.set_cons_succ]
  refine' wpLast.take (i := 7) (v := _) rfl (by kernel_rfl) (fun _ _ _ h => h) (by kernel_rfl) _ _ _ _ (by kernel_rfl) (by kernel_rfl) (Or.inl ⟨by rfl, ?hy7⟩) hS ?rest7
  case hy7 => (intro w' hSw; obtain ⟨k8, k9, k0, k1, k2, k3⟩ := hSw; go_simp; try with_reducible rfl)
  try (first | rw [Go.put_some] | rw [Go.put_none])
  try dsimp only [List.set_cons_zero, List.set_cons_succ]
  refine' wpLast.take (i := 8) (v := _) rfl (by kernel_rfl) (fun _ _ _ h => h) (by kernel_rfl) _ _ _ _ (by kernel_rfl) (by kernel_rfl) (Or.inl ⟨by rfl, ?hy8⟩) hS ?rest8
  case hy8 => (intro w' hSw; obtain ⟨k8, k9, k0, k1, k2, k3⟩ := hSw; go_simp; try with_reducible rfl)
  try (first | rw [Go.put_some] | rw [Go.put_none])
  try dsimp only [List.set_cons_zero, List.set_cons_succ]
  refine' wpLast.take (i := 9) (v := _) rfl (by kernel_rfl) (fun _ _ _ h => h) (by kernel_rfl) _ _ _ _ (by kernel_rfl) (by kernel_rfl) (Or.inl ⟨by rfl, ?hy9⟩) hS ?rest9
  case hy9 => (intro w' hSw; obtain ⟨k8, k9, k0, k1, k2, k3⟩ := hSw; go_simp; try with_reducible rfl)
  try (first | rw [Go.put_some] | rw [Go.put_none])
  try dsimp only [List.set_cons_zero, List.set_cons_succ]
  refine' wpLast.take (i := 10) (v := _) rfl (by kernel_rfl) (fun _ _ _ h => h) (by kernel_rfl) _ _ _ _ (by kernel_rfl) (by kernel_rfl) (Or.inl ⟨by rfl, ?hy10⟩) hS ?rest10
  case hy10 => (intro w' hSw; obtain ⟨k8, k9, k0, k1, k2, k3⟩ := hSw; go_simp; try with_reducible rfl)
  try (first | rw [Go.put_some] | rw [Go.put_none])
  try dsimp only [List.set_cons_zero, List.set_cons_succ]
  refine wpLast.one (i := 11) rfl (by kernel_rfl) ?_
  intro K' hK; have HK' := Lib.hid hK; clear hK
  go_simp
  have hS2 : (fun w' : World => w'.cell? ⟨b, 11, none⟩ = some (.slice (p 8).1 S.shots.length (p 8).2) ∧ w'.cell? ⟨b, 12, none⟩ = some (.int .i64 (S.last + 1)) ∧ w'.cell? ⟨m, 0, none⟩ = some (.int .i64 3) ∧ w'.cell? ⟨m, 1, none⟩ = some (.int .i64 fn) ∧ w'.cell? ⟨m, 2, none⟩ = some (.string { data := #[] }) ∧ w'.cell? ⟨m, 3, none⟩ = some (.int .i64 0)) (W1.drew.alloc (.cells #[.int .i64 (S.last + 1), .int .i64 3, .int .i64 fn, .string { data := #[] }, .int .i64 0] 63)) := by
    have q := H4.out.blkm (b := b) (.head _)
    have r := H4.out.blkm (b := m) (.tail _ (.tail _ (.tail _ (.tail _ (.tail _ (.tail _ (.tail _ (.tail _ (.tail _ (.tail _ (.tail _ (.head _))))))))))))
    refine ⟨?_, ?_, ?_, ?_, ?_, ?_⟩
    · rw [q.cell]; rfl
    · rw [q.cell]; rfl
    · rw [r.cell]; rfl
    · rw [r.cell]; rfl
    · rw [r.cell]; rfl
    · rw [r.cell]; rfl
  refine HK'.out _ _ ⟨fun _ => hS2, ?_⟩
  clear HK' K'
  try (first | rw [Go.put_some] | rw [Go.put_none])
  try dsimp only [List.set_cons_zero, List.set_cons_succ]
  refine wpLast.one (i := 12) rfl (by kernel_rfl) ?_
  intro K' hK; have HK' := Lib.hid hK; clear hK
  refine step_append_any (by rfl) _ _ 35 (by rfl) elH (p 8).1 S.shots.length (p 8).2 _ (by rfl) hxs _ 1 _ _ (by rfl) r2 (by omega) (by omega) ?_
  intro s2 c2 w4 p1 p2 p3
  have H6 := Lib.hid (H4.out.swap.row_step p1 p2 p3).swap
  have hS3 : (fun w' : World => w'.cell? ⟨b, 11, none⟩ = some (.slice (p 8).1 S.shots.length (p 8).2) ∧ w'.cell? ⟨b, 12, none⟩ = some (.int .i64 (S.last + 1)) ∧ w'.cell? ⟨m, 0, none⟩ = some (.int .i64 3) ∧ w'.cell? ⟨m, 1, none⟩ = some (.int .i64 fn) ∧ w'.cell? ⟨m, 2, none⟩ = some (.string { data := #[] }) ∧ w'.cell? ⟨m, 3, none⟩ = some (.int .i64 0)) w4 := by
    have q := H6.out.blkm (b := b) (.head _)
    have r := H6.out.blkm (b := m) (.tail _ (.tail _ (.tail _ (.tail _ (.tail _ (.tail _ (.tail _ (.tail _ (.tail _ (.tail _ (.tail _ (.head _))))))))))))
    refine ⟨?_, ?_, ?_, ?_, ?_, ?_⟩
    · rw [q.cell]; rfl
    · rw [q.cell]; rfl
    · rw [r.cell]; rfl
    · rw [r.cell]; rfl
    · rw [r.cell]; rfl
    · rw [r.cell]; rfl
  have kf := H6.out.free 11
  have k9 := hS3.1
  refine HK'.out _ _ ⟨fun _ => hS3, ?_⟩
  clear HK' K' hS hS2 p1 p2 p3
  try (first | rw [Go.put_some] | rw [Go.put_none])
  try dsimp only [List.set_cons_zero, List.set_cons_succ]
  refine wpLast.one (i := 13) rfl (by kernel_rfl) ?_
  intro K' hK; have HK' := Lib.hid hK; clear hK
  go_simp
  refine HK'.out _ _ ⟨fun _ => hS3, ?_⟩
  clear HK' K'
  try (first | rw [Go.put_some] | rw [Go.put_none])
  try dsimp only [List.set_cons_zero, List.set_cons_succ]
  refine wpLast.one (i := 14) rfl (by kernel_rfl) ?_
  intro K' hK; have HK' := Lib.hid hK; clear hK
  go_simp
  refine HK'.out _ _ ⟨fun _ => hS3, ?_⟩
  clear HK' K'
  try (first | rw [Go.put_some] | rw [Go.put_none])
  try dsimp only [List.set_cons_zero, List.set_cons_succ]
  refine wpLast.one (i := 15) rfl (by kernel_rfl) ?_
  intro K' hK; have HK' := Lib.hid hK; clear hK
  go_simp
  refine HK'.out _ _ ⟨fun h => absurd rfl h, ?_⟩
  clear HK' K' hS3
  try (first | rw [Go.put_some] | rw [Go.put_none])
  try dsimp only [List.set_cons_zero, List.set_cons_succ]
  refine wpLast.done (by kernel_rfl) ?_
  have H7 := Lib.hid (H6.out.set 11 (.slice s2 (S.shots.length + 1) c2))
  have c12 : (w4.setCell ⟨b, 11, none⟩ (.slice s2 (S.shots.length + 1) c2)).cell? ⟨b, 12, none⟩ = some (.int .i64 (S.last + 1)) := by rw [H7.out.blk.1.cell]; rfl
  obtain ⟨W7, hW7⟩ : ∃ W7, w4.setCell ⟨b, 11, none⟩ (.slice s2 (S.shots.length + 1) c2) = W7 := ⟨_, rfl⟩
  rw [hW7] at H7 c12
  rw [hW7]
  clear hW7 k9 kf hxs r2
  go_wp2_with fail
  go_ret
  refine ⟨rfl, st_shut HB.out (p := upd p 8 (s2, c2)) ?_⟩
  have h8 := unf_h (S := { S with last := S.last + 1 }) (n := S.shots.length + 1) (S.shots ++ [⟨S.last + 1, fn⟩]) (by simp) (by rw [flat_append, flat_one]; exact H7.out)
  exact st_drop1 h8

set_option maxHeartbeats 400000 in
theorem call_st {w0 w : World} {L : List As} {b : Nat} {S : LS} (id : Int) (h : St w0 w (stO b S :: L)) (hn : S.calls.length ≤ 100000) :
    Calls Try.prog 35 #[.pointer (some ⟨b, 0, none⟩), .int .i64 id] w fun e w' => e = .returned (.int .i64 (ixC S.calls id)) ∧ Below w.heap.size w w' := by
  obtain ⟨p, G, hb, h⟩ := st_open h
  obtain ⟨-, -, c10, -⟩ := st_s h
  have hlt := h.blk.1.lt
  have HS := Lib.hid (((foc_c h).swap.sl).alloc (.cells #[.int .i64 id] 3)).rd
  clear h hb
  go_enter Try.func35, Try.ntmps35
  go_wp2_with fail
  refine (idxC (p 7).1 S.calls.length (p 7).2 S.calls id w.heap.size _ HS.out rfl (by simp) (by omega)).mono ?_
  rintro e w1 ⟨rfl, hb⟩
  have HB := Lib.hid hb
  clear hb
  go_wp2_with fail
  go_ret
  exact ⟨rfl, ((Below.refl _ _).alloc (Nat.le_refl _) _).trans (HB.out.mono (by simp))⟩

end Go.Proofs.Ytnamkckpgaopkaa
