/-
  SetTimer of a State.
-/
import Derived.Test.YtnamkckpgaopkaaLm
import Derived.Test.YtnamkckpgaopkaaKb
set_option linter.unusedVariables false
set_option linter.unusedSimpArgs false
namespace Go.Proofs.Ytnamkckpgaopkaa
open Go.RowKit Go.K

theorem st_rcm {w0 w : World} {L : List As} {sz n c : Nat} {s : Option Addr} {xs : List Value} (h : St w0 w L) (hm : As.rdr sz s n c xs ∈ L) : Rc w sz s n c xs := by
  obtain ⟨F, hF⟩ := h.mem hm
  exact hF.2
theorem st_bag {w0 w : World} {L : List As} {b : Nat} {S : LS} {p : Pt} {G : List Bx} {s : Option Addr} {n c : Nat} {xs : List Value} (h : St w0 w (stL b S p G ++ (As.row 46 4 s n c xs :: L))) (hn : n ≤ 1000) : St w0 w (stL b S p (⟨s, n, c, xs⟩ :: G) ++ L) := by
  have h1 : St w0 w (As.row 46 4 s n c xs :: As.bg G :: (([As.cells b (stc S p) 37, rq S p 0, rq S p 1, rq S p 2, rq S p 3, rq S p 4, rj S p, rt S p, rc S p, rh S p] : List As) ++ L)) :=
    St.sh [_, _, _, _, _, _, _, _, _, _, _, _] [11, 10, 0, 1, 2, 3, 4, 5, 6, 7, 8, 9] (by decide) h
  exact St.sh [_, _, _, _, _, _, _, _, _, _, _] [1, 2, 3, 4, 5, 6, 7, 8, 9, 10, 0] (by decide) (bg_add h1 hn)
def bound (n : Int) : Int := min (max n 0) 1099511627776
def SetPost (S : LS) (delay every fn : Int) (an : Nat) (b : Nat) (w0 : World) (L : List As) (E : Ending) (w' : World) : Prop :=
  E = .returned (.int .i64 (S.nx + 1)) ∧ ∃ i a c, Found S.tm ⟨S.nx + 1, S.now + bound delay, S.nx + 1⟩ i ∧
    St w0 w' (stO b { S with tm := insAt S.tm i ⟨S.nx + 1, S.now + bound delay, S.nx + 1⟩, nx := S.nx + 1, calls := S.calls ++ [⟨S.nx + 1, bound every, 3, fn, a, an, c⟩] } :: L)
set_option maxRecDepth 100000 in
set_option maxHeartbeats 1000000 in
theorem set_st {w0 w : World} {L : List As} {b : Nat} {S : LS} (delay every fn : Int) (a : Option Addr) (an ac : Nat) (xs : List Value) (h : St w0 w (stO b S :: As.rdr 4 a an ac xs :: L)) (han : an ≤ 1000)
    (hn : S.calls.length ≤ 100000) (hm2 : S.tm.length ≤ 100000) (hx : 0 ≤ S.nx) (hx2 : S.nx < 4294967296) (h0 : 0 ≤ S.now) (h1 : S.now ≤ 1152921504606846976) :
    Calls Try.prog 14 #[.pointer (some ⟨b, 0, none⟩), .int .i64 delay, .int .i64 every, .agg #[.int .i64 3, .int .i64 fn, .string { data := #[] }, .int .i64 0], .slice a an ac] w (SetPost S delay every fn an b w0 (As.rdr 4 a an ac xs :: L)) := by
  unfold SetPost
  obtain ⟨D, hD⟩ : ∃ D, bound delay = D := ⟨_, rfl⟩
  obtain ⟨E, hE⟩ : ∃ E, bound every = E := ⟨_, rfl⟩
  rw [hD, hE]
  have hD0 : 0 ≤ D ∧ D ≤ 1099511627776 := by rw [← hD, bound]; omega
  obtain ⟨hDa, hDb⟩ := hD0
  have m1 : ∀ a b : Int, (if a < b then b else a) = max a b := fun a b => by split <;> omega
  have m2 : ∀ a b : Int, (if b < a then b else a) = min a b := fun a b => by split <;> omega
  have HD := Lib.hid (show min (max delay 0) 1099511627776 = D from hD)
  have HE := Lib.hid (show min (max every 0) 1099511627776 = E from hE)
  obtain ⟨p, G, hb, h2⟩ := st_open h
  have HB := Lib.hid hb
  have H0 := Lib.hid (st_in (h2.new #[.int .i64 3, .int .i64 fn, .string { data := #[] }, .int .i64 0] 46))
  clear hD hE hb h h2
  go_enter Try.func14, Try.ntmps14
  go_upto_region 1 with fail
  obtain ⟨m, hm⟩ : ∃ m, w.heap.size = m := ⟨_, rfl⟩
  obtain ⟨W, hW⟩ : ∃ W, w.alloc (.cells #[.int .i64 3, .int .i64 fn, .string { data := #[] }, .int .i64 0] 46) = W := ⟨_, rfl⟩
  rw [hW, hm] at H0
  rw [hW]
  try simp only [hm]
  clear hW hm
  obtain ⟨c0, -⟩ := st_c H0.out
  go_upto_region 3 with fail
  simp only [HD.out, HE.out]
  have hwd : IntKind.i64.wrap (S.now + D) = S.now + D := by rw [IntKind.wrap_i64]; omega
  go_still_tail 9, (by kernel_rfl)
  change wpList _ _ _ _ _ W.drew
  clear c0
  go_upto_region 4 with (go_at_call 33; refine (tadd_st (S.now + D) (foc_t H0.out.drew) hm2 hx hx2).mono ?_; rintro e w3 ⟨rfl, i, hf, h3⟩; have HF := Lib.hid hf; have H3 := Lib.hid (unf_t h3); clear h3 hf)
  obtain ⟨p3, h3⟩ := H3.out
  have H3' := Lib.hid (foc_c h3)
  clear h3
  have HA3 := Lib.hid (st_rcm H3'.out.drew (.tail _ (.tail _ (.tail _ (.tail _ (.tail _ (.tail _ (.tail _ (.tail _ (.tail _ (.tail _ (.tail _ (.tail _ (.head _))))))))))))))
  have H3d := Lib.hid H3'.out.drew
  have hS : (fun w' : World => w'.cell? ⟨b, 10, none⟩ = some (.slice (p3 7).1 S.calls.length (p3 7).2) ∧ w'.cell? ⟨m, 0, none⟩ = some (.int .i64 3) ∧ w'.cell? ⟨m, 1, none⟩ = some (.int .i64 fn) ∧ w'.cell? ⟨m, 2, none⟩ = some (.string { data := #[] }) ∧ w'.cell? ⟨m, 3, none⟩ = some (.int .i64 0)) w3.drew := by
    have q := H3d.out.blkm (b := b) (.head _)
    have r := H3d.out.blkm (b := m) (.tail _ (.tail _ (.tail _ (.tail _ (.tail _ (.tail _ (.tail _ (.tail _ (.tail _ (.tail _ (.tail _ (.head _))))))))))))
    refine ⟨?_, ?_, ?_, ?_, ?_⟩
    · rw [q.cell]; rfl
    · rw [r.cell]; rfl
    · rw [r.cell]; rfl
    · rw [r.cell]; rfl
    · rw [r.cell]; rfl
  clear H3 H3' H0 m1 m2
  refine wpLast.region (S := (fun w' : World => w'.cell? ⟨b, 10, none⟩ = some (.slice (p3 7).1 S.calls.length (p3 7).2) ∧ w'.cell? ⟨m, 0, none⟩ = some (.int .i64 3) ∧ w'.cell? ⟨m, 1, none⟩ = some (.int .i64 fn) ∧ w'.cell? ⟨m, 2, none⟩ = some (.string { data := #[] }) ∧ w'.cell? ⟨m, 3, none⟩ = some (.int .i64 0))) (c := 15) (by kernel_rfl) ?_
  refine' wpLast.take (i := 0) (v := _) rfl (by kernel_rfl) (fun _ _ _ h => h) (by kernel_rfl) _ _ _ _ (by kernel_rfl) (by kernel_rfl) (Or.inl ⟨by rfl, ?hy0⟩) hS ?rest0
  case hy0 => (intro w' hSw; obtain ⟨k8, k0, k1, k2, k3⟩ := hSw; go_simp; try with_reducible rfl)
  try simp only [Act.put, List.setIfInBounds_toArray, List.set_cons_zero, List.set_cons_succ]
  refine' wpLast.take (i := 1) (v := _) rfl (by kernel_rfl) (fun _ _ _ h => h) (by kernel_rfl) _ _ _ _ (by kernel_rfl) (by kernel_rfl) (Or.inl ⟨by rfl, ?hy1⟩) hS ?rest1
  case hy1 => (intro w' hSw; obtain ⟨k8, k0, k1, k2, k3⟩ := hSw; go_simp; try with_reducible rfl)
  try simp only [Act.put, List.setIfInBounds_toArray, List.set_cons_zero, List.set_cons_succ]
  refine' wpLast.take (i := 2) (v := _) rfl (by kernel_rfl) (fun _ _ _ h => h) (by kernel_rfl) _ _ _ _ (by kernel_rfl) (by kernel_rfl) (Or.inl ⟨by rfl, ?hy2⟩) hS ?rest2
  case hy2 => (intro w' hSw; obtain ⟨k8, k0, k1, k2, k3⟩ := hSw; go_simp; try with_reducible rfl)
  try simp only [Act.put, List.setIfInBounds_toArray, List.set_cons_zero, List.set_cons_succ]
  refine' wpLast.take (i := 3) (v := _) rfl (by kernel_rfl) (fun _ _ _ h => h) (by kernel_rfl) _ _ _ _ (by kernel_rfl) (by kernel_rfl) (Or.inl ⟨by rfl, ?hy3⟩) hS ?rest3
  case hy3 => (intro w' hSw; obtain ⟨k8, k0, k1, k2, k3⟩ := hSw; go_simp; try with_reducible rfl)
  try simp only [Act.put, List.setIfInBounds_toArray, List.set_cons_zero, List.set_cons_succ]
  refine' wpLast.take (i := 4) (v := _) rfl (by kernel_rfl) (fun _ _ _ h => h) (by kernel_rfl) _ _ _ _ (by kernel_rfl) (by kernel_rfl) (Or.inl ⟨by rfl, ?hy4⟩) hS ?rest4
  case hy4 => (intro w' hSw; obtain ⟨k8, k0, k1, k2, k3⟩ := hSw; go_simp; try with_reducible rfl)
  try simp only [Act.put, List.setIfInBounds_toArray, List.set_cons_zero, List.set_cons_succ]
  refine' wpLast.take (i := 5) (v := _) rfl (by kernel_rfl) (fun _ _ _ h => h) (by kernel_rfl) _ _ _ _ (by kernel_rfl) (by kernel_rfl) (Or.inl ⟨by rfl, ?hy5⟩) hS ?rest5
  case hy5 => (intro w' hSw; obtain ⟨k8, k0, k1, k2, k3⟩ := hSw; go_simp; try with_reducible rfl)
  try simp only [Act.put, List.setIfInBounds_toArray, List.set_cons_zero, List.set_cons_succ]
  refine' wpLast.take (i := 6) (v := _) rfl (by kernel_rfl) (fun _ _ _ h => h) (by kernel_rfl) _ _ _ _ (by kernel_rfl) (by kernel_rfl) (Or.inl ⟨by rfl, ?hy6⟩) hS ?rest6
  case hy6 => (intro w' hSw; obtain ⟨k8, k0, k1, k2, k3⟩ := hSw; go_simp; try with_reducible rfl)
  try simp only [Act.put, List.setIfInBounds_toArray, List.set_cons_zero, List.set_cons_succ]
  refine' wpLast.take (i := 7) (v := _) rfl (by kernel_rfl) (fun _ _ _ h => h) (by kernel_rfl) _ _ _ _ (by kernel_rfl) (by kernel_rfl) (Or.inl ⟨by rfl, ?hy7⟩) hS ?rest7
  case hy7 => (intro w' hSw; obtain ⟨k8, k0, k1, k2, k3⟩ := hSw; go_simp; try with_reducible rfl)
  try simp only [Act.put, List.setIfInBounds_toArray, List.set_cons_zero, List.set_cons_succ]
  refine' wpLast.take (i := 8) (v := _) rfl (by kernel_rfl) (fun _ _ _ h => h) (by kernel_rfl) _ _ _ _ (by kernel_rfl) (by kernel_rfl) (Or.inl ⟨by rfl, ?hy8⟩) hS ?rest8
  case hy8 => (intro w' hSw; obtain ⟨k8, k0, k1, k2, k3⟩ := hSw; go_simp; try with_reducible rfl)
  try simp only [Act.put, List.setIfInBounds_toArray, List.set_cons_zero, List.set_cons_succ]
  refine wpLast.one (i := 9) rfl (by kernel_rfl) ?_
  intro K' hK; have HK' := Lib.hid hK; clear hK
  refine wp_call (by rfl) (by rfl) Try.func34 (by kernel_rfl) (by kernel_rfl) (by kernel_rfl) (cloneV a an ac xs _ HA3.out.rd HA3.out.nil (by omega)) ?_
  rintro e w4 ⟨s4, c4, rfl, g1, g2, g3⟩
  have H4 := Lib.hid (H3d.out.row_new g1 g2 g3)
  clear g1 g2 g3
  have hS4 : (fun w' : World => w'.cell? ⟨b, 10, none⟩ = some (.slice (p3 7).1 S.calls.length (p3 7).2) ∧ w'.cell? ⟨m, 0, none⟩ = some (.int .i64 3) ∧ w'.cell? ⟨m, 1, none⟩ = some (.int .i64 fn) ∧ w'.cell? ⟨m, 2, none⟩ = some (.string { data := #[] }) ∧ w'.cell? ⟨m, 3, none⟩ = some (.int .i64 0)) w4 := by
    have q := H4.out.blkm (b := b) (.tail _ (.head _))
    have r := H4.out.blkm (b := m) (.tail _ (.tail _ (.tail _ (.tail _ (.tail _ (.tail _ (.tail _ (.tail _ (.tail _ (.tail _ (.tail _ (.tail _ (.head _)))))))))))))
    refine ⟨?_, ?_, ?_, ?_, ?_⟩
    · rw [q.cell]; rfl
    · rw [r.cell]; rfl
    · rw [r.cell]; rfl
    · rw [r.cell]; rfl
    · rw [r.cell]; rfl
  refine ⟨_, rfl, ?_⟩
  refine HK'.out _ _ ⟨fun _ => hS4, ?_⟩
  clear HK' K' hS
  try simp only [Act.put, List.setIfInBounds_toArray, List.set_cons_zero, List.set_cons_succ]
  refine' wpLast.take (i := 10) (v := _) rfl (by kernel_rfl) (fun _ _ _ h => h) (by kernel_rfl) _ _ _ _ (by kernel_rfl) (by kernel_rfl) (Or.inl ⟨by rfl, ?hy10⟩) hS4 ?rest10
  case hy10 => (intro w' hSw; obtain ⟨k8, k0, k1, k2, k3⟩ := hSw; go_simp; try with_reducible rfl)
  try simp only [Act.put, List.setIfInBounds_toArray, List.set_cons_zero, List.set_cons_succ]
  refine wpLast.one (i := 11) rfl (by kernel_rfl) ?_
  intro K' hK; have HK' := Lib.hid hK; clear hK
  go_simp
  have H5 := Lib.hid (H4.out.alloc (.cells #[.int .i64 (S.nx + 1), .int .i64 E, .int .i64 3, .int .i64 fn, .string { data := #[] }, .int .i64 0, .slice s4 an c4] 48))
  have hS5 : (fun w' : World => w'.cell? ⟨b, 10, none⟩ = some (.slice (p3 7).1 S.calls.length (p3 7).2) ∧ w'.cell? ⟨m, 0, none⟩ = some (.int .i64 3) ∧ w'.cell? ⟨m, 1, none⟩ = some (.int .i64 fn) ∧ w'.cell? ⟨m, 2, none⟩ = some (.string { data := #[] }) ∧ w'.cell? ⟨m, 3, none⟩ = some (.int .i64 0)) (w4.alloc (.cells #[.int .i64 (S.nx + 1), .int .i64 E, .int .i64 3, .int .i64 fn, .string { data := #[] }, .int .i64 0, .slice s4 an c4] 48)) := by
    have q := H5.out.blkm (b := b) (.tail _ (.head _))
    have r := H5.out.blkm (b := m) (.tail _ (.tail _ (.tail _ (.tail _ (.tail _ (.tail _ (.tail _ (.tail _ (.tail _ (.tail _ (.tail _ (.tail _ (.head _)))))))))))))
    refine ⟨?_, ?_, ?_, ?_, ?_⟩
    · rw [q.cell]; rfl
    · rw [r.cell]; rfl
    · rw [r.cell]; rfl
    · rw [r.cell]; rfl
    · rw [r.cell]; rfl
  refine HK'.out _ _ ⟨fun _ => hS5, ?_⟩
  clear HK' K' hS4
  try simp only [Act.put, List.setIfInBounds_toArray, List.set_cons_zero, List.set_cons_succ]
  refine wpLast.one (i := 12) rfl (by kernel_rfl) ?_
  intro K' hK; have HK' := Lib.hid hK; clear hK
  have hxs := H5.out.front2.sl
  have r2 := rd_built_at w4 #[.int .i64 (S.nx + 1), .int .i64 E, .int .i64 3, .int .i64 fn, .string { data := #[] }, .int .i64 0, .slice s4 an c4] 48 7 1 w4.heap.size rfl rfl (by simp [Value.oneCell'])
  refine step_append_any (by rfl) _ _ 34 (by rfl) elC (p3 7).1 S.calls.length (p3 7).2 _ (by rfl) hxs _ 1 _ _ (by rfl) r2 (by omega) (by omega) ?_
  intro s6 c6 w6 q1 q2 q3
  have H6 := Lib.hid (H5.out.front2.row_step q1 q2 q3)
  have hS6 : (fun w' : World => w'.cell? ⟨b, 10, none⟩ = some (.slice (p3 7).1 S.calls.length (p3 7).2) ∧ w'.cell? ⟨m, 0, none⟩ = some (.int .i64 3) ∧ w'.cell? ⟨m, 1, none⟩ = some (.int .i64 fn) ∧ w'.cell? ⟨m, 2, none⟩ = some (.string { data := #[] }) ∧ w'.cell? ⟨m, 3, none⟩ = some (.int .i64 0)) w6 := by
    have q := H6.out.blkm (b := b) (.tail _ (.tail _ (.head _)))
    have r := H6.out.blkm (b := m) (.tail _ (.tail _ (.tail _ (.tail _ (.tail _ (.tail _ (.tail _ (.tail _ (.tail _ (.tail _ (.tail _ (.tail _ (.head _)))))))))))))
    refine ⟨?_, ?_, ?_, ?_, ?_⟩
    · rw [q.cell]; rfl
    · rw [r.cell]; rfl
    · rw [r.cell]; rfl
    · rw [r.cell]; rfl
    · rw [r.cell]; rfl
  have kf := H6.out.front2.free 10
  have k9 := hS6.1
  refine HK'.out _ _ ⟨fun _ => hS6, ?_⟩
  clear HK' K' hS5 q1 q2 q3 hxs r2
  try simp only [Act.put, List.setIfInBounds_toArray, List.set_cons_zero, List.set_cons_succ]
  refine wpLast.one (i := 13) rfl (by kernel_rfl) ?_
  intro K' hK; have HK' := Lib.hid hK; clear hK
  go_simp
  refine HK'.out _ _ ⟨fun _ => hS6, ?_⟩
  clear HK' K'
  try simp only [Act.put, List.setIfInBounds_toArray, List.set_cons_zero, List.set_cons_succ]
  refine wpLast.one (i := 14) rfl (by kernel_rfl) ?_
  intro K' hK; have HK' := Lib.hid hK; clear hK
  go_simp
  refine HK'.out _ _ ⟨fun _ => hS6, ?_⟩
  clear HK' K'
  try simp only [Act.put, List.setIfInBounds_toArray, List.set_cons_zero, List.set_cons_succ]
  refine wpLast.one (i := 15) rfl (by kernel_rfl) ?_
  intro K' hK; have HK' := Lib.hid hK; clear hK
  go_simp
  refine HK'.out _ _ ⟨fun h => absurd rfl h, ?_⟩
  clear HK' K' hS6
  try simp only [Act.put, List.setIfInBounds_toArray, List.set_cons_zero, List.set_cons_succ]
  refine wpLast.done (by kernel_rfl) ?_
  have h7 := H6.out.front2.set 10 (.slice s6 (S.calls.length + 1) c6)
  obtain ⟨W7, hW7⟩ : ∃ W7, w6.setCell ⟨b, 10, none⟩ (.slice s6 (S.calls.length + 1) c6) = W7 := ⟨_, rfl⟩
  rw [hW7] at h7
  rw [hW7]
  have H7 := Lib.hid h7
  clear hW7 h7 k9 kf
  go_wp2_with fail
  go_ret
  refine ⟨rfl, i, HF.out, s4, c4, ?_⟩
  have h8 := H7.out.perm (List.Perm.cons _ (List.Perm.cons _ (List.perm_middle.symm)))
  have h9 := unf_c (S := { S with tm := insAt S.tm i ⟨S.nx + 1, S.now + D, S.nx + 1⟩, nx := S.nx + 1 }) (p := p3) (G := G) (n := S.calls.length + 1) (S.calls ++ [⟨S.nx + 1, E, 3, fn, s4, an, c4⟩]) (by simp) (by rw [flat_append, flat_one]; exact h8)
  have h10 := st_bag h9 han
  refine st_shut (G := ⟨s4, an, c4, xs⟩ :: G) ⟨fun c hc => ?_, fun j hj => List.mem_cons_of_mem _ (HB.out.jobs j hj)⟩ (st_drop1 h10)
  rcases List.mem_append.1 hc with q | q
  · obtain ⟨ys, hy⟩ := HB.out.calls c q
    exact ⟨ys, List.mem_cons_of_mem _ hy⟩
  · rw [List.mem_singleton.1 q]
    exact ⟨xs, List.mem_cons_self⟩

end Go.Proofs.Ytnamkckpgaopkaa
