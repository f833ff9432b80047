/-
  The queues of a State: Push, Peek, Pop, Len.
-/
import Derived.Test.YtnamkckpgaopkaaLd
import Derived.Test.YtnamkckpgaopkaaKo
import Derived.Test.YtnamkckpgaopkaaKq
set_option linter.unusedVariables false
set_option linter.unusedSimpArgs false
namespace Go.Proofs.Ytnamkckpgaopkaa
open Go.RowKit Go.K

theorem st_rev4 {w0 w : World} {A B C D : As} {L : List As} (h : St w0 w (A :: B :: C :: D :: L)) : St w0 w (D :: C :: B :: A :: L) :=
  h.perm (((List.Perm.cons A ((List.Perm.cons B (.swap _ _ _)).trans ((List.Perm.swap _ _ _).trans (.cons D (.swap _ _ _))))).trans (.swap _ _ _)).trans (.cons D (((List.Perm.swap _ _ _)).trans (.cons C (.swap _ _ _)))))

set_option maxRecDepth 100000 in
set_option maxHeartbeats 1000000 in
theorem qpushQ {w0 w : World} {L : List As} {b o n c : Nat} {s : Option Addr} {cs : Array Value} {xs : List Value} (x0 x1 x2 : Int) (h : St w0 w (As.cells b cs 37 :: As.row 91 5 s n c xs :: L)) (ho : cs[o]? = some (.slice s n c)) (hn : n ≤ 100000) :
    Calls Try.prog 29 #[.pointer (some ⟨b, o, none⟩), .agg #[.int .i64 x0, .int .i64 x1, .int .i64 x2, .string { data := #[] }, .slice none 0 0]] w fun e w' => e = .returned (.tuple #[]) ∧ ∃ s' c', St w0 w' (As.cells b (cs.setIfInBounds o (.slice s' (n + 1) c')) 37 :: As.row 91 5 s' (n + 1) c' (xs ++ [.int .i64 x0, .int .i64 x1, .int .i64 x2, .string { data := #[] }, .slice none 0 0]) :: L) := by
  have hlt := h.blk.1.lt
  have h1 := h.new #[.int .i64 x0, .int .i64 x1, .int .i64 x2, .string { data := #[] }, .slice none 0 0] 91
  have H1 := Lib.hid h1
  have HO := Lib.hid ho
  clear h h1 ho
  go_enter Try.func29, Try.ntmps29
  go_upto_region 1 with fail
  obtain ⟨m, hm⟩ : ∃ m, w.heap.size = m := ⟨_, rfl⟩
  obtain ⟨W, hW⟩ : ∃ W, w.alloc (.cells #[.int .i64 x0, .int .i64 x1, .int .i64 x2, .string { data := #[] }, .slice none 0 0] 91) = W := ⟨_, rfl⟩
  rw [hW, hm] at H1
  rw [hW]
  simp only [hm]
  clear hW hm hlt w
  have kb := H1.out.blk.1
  have k0 : W.cell? ⟨m, 0, none⟩ = some (.int .i64 x0) := by rw [kb.cell]; rfl
  have k1 : W.cell? ⟨m, 1, none⟩ = some (.int .i64 x1) := by rw [kb.cell]; rfl
  have k2 : W.cell? ⟨m, 2, none⟩ = some (.int .i64 x2) := by rw [kb.cell]; rfl
  have k3 : W.cell? ⟨m, 3, none⟩ = some (.string { data := #[] }) := by rw [kb.cell]; rfl
  have k4 : W.cell? ⟨m, 4, none⟩ = some (.slice none 0 0) := by rw [kb.cell]; rfl
  have k9 : W.cell? ⟨b, o, none⟩ = some (.slice s n c) := by rw [(H1.out.swap.blk.1).cell]; exact HO.out
  have hxs := (H1.out.front2.sl.drew).alloc (.cells #[.int .i64 x0, .int .i64 x1, .int .i64 x2, .string { data := #[] }, .slice none 0 0] 91)
  have r2 := rd_built_at W.drew #[.int .i64 x0, .int .i64 x1, .int .i64 x2, .string { data := #[] }, .slice none 0 0] 91 5 1 W.heap.size rfl rfl (by simp [Value.oneCell'])
  have H4 := Lib.hid (H1.out.front2.drew.alloc (.cells #[.int .i64 x0, .int .i64 x1, .int .i64 x2, .string { data := #[] }, .slice none 0 0] 91))
  have hS : (fun w' : World => w'.cell? ⟨b, o, none⟩ = some (.slice s n c) ∧ w'.cell? ⟨m, 0, none⟩ = some (.int .i64 x0) ∧ w'.cell? ⟨m, 1, none⟩ = some (.int .i64 x1) ∧ w'.cell? ⟨m, 2, none⟩ = some (.int .i64 x2) ∧ w'.cell? ⟨m, 3, none⟩ = some (.string { data := #[] }) ∧ w'.cell? ⟨m, 4, none⟩ = some (.slice none 0 0)) W.drew := ⟨k9, k0, k1, k2, k3, k4⟩
  clear kb k9 k0 k1 k2 k3 k4
  refine wpLast.region (S := (fun w' : World => w'.cell? ⟨b, o, none⟩ = some (.slice s n c) ∧ w'.cell? ⟨m, 0, none⟩ = some (.int .i64 x0) ∧ w'.cell? ⟨m, 1, none⟩ = some (.int .i64 x1) ∧ w'.cell? ⟨m, 2, none⟩ = some (.int .i64 x2) ∧ w'.cell? ⟨m, 3, none⟩ = some (.string { data := #[] }) ∧ w'.cell? ⟨m, 4, none⟩ = some (.slice none 0 0))) (c := 10) (by kernel_rfl) ?_
  refine' wpLast.take (i := 0) (v := _) rfl (by kernel_rfl) (fun _ _ _ h => h) (by kernel_rfl) _ _ _ _ (by kernel_rfl) (by kernel_rfl) (Or.inl ⟨by rfl, ?hy0⟩) hS ?rest0
  case hy0 => (intro w' hSw; obtain ⟨k9, k0, k1, k2, k3, k4⟩ := hSw; go_simp; try with_reducible rfl)
  try simp only [Act.put, List.setIfInBounds_toArray, List.set_cons_zero, List.set_cons_succ]
  refine' wpLast.take (i := 1) (v := _) rfl (by kernel_rfl) (fun _ _ _ h => h) (by kernel_rfl) _ _ _ _ (by kernel_rfl) (by kernel_rfl) (Or.inl ⟨by rfl, ?hy1⟩) hS ?rest1
  case hy1 => (intro w' hSw; obtain ⟨k9, k0, k1, k2, k3, k4⟩ := hSw; go_simp; try with_reducible rfl)
  try simp only [Act.put, List.setIfInBounds_toArray, List.set_cons_zero, List.set_cons_succ]
  refine' wpLast.take (i := 2) (v := _) rfl (by kernel_rfl) (fun _ _ _ h => h) (by kernel_rfl) _ _ _ _ (by kernel_rfl) (by kernel_rfl) (Or.inl ⟨by rfl, ?hy2⟩) hS ?rest2
  case hy2 => (intro w' hSw; obtain ⟨k9, k0, k1, k2, k3, k4⟩ := hSw; go_simp; try with_reducible rfl)
  try simp only [Act.put, List.setIfInBounds_toArray, List.set_cons_zero, List.set_cons_succ]
  refine' wpLast.take (i := 3) (v := _) rfl (by kernel_rfl) (fun _ _ _ h => h) (by kernel_rfl) _ _ _ _ (by kernel_rfl) (by kernel_rfl) (Or.inl ⟨by rfl, ?hy3⟩) hS ?rest3
  case hy3 => (intro w' hSw; obtain ⟨k9, k0, k1, k2, k3, k4⟩ := hSw; go_simp; try with_reducible rfl)
  try simp only [Act.put, List.setIfInBounds_toArray, List.set_cons_zero, List.set_cons_succ]
  refine' wpLast.take (i := 4) (v := _) rfl (by kernel_rfl) (fun _ _ _ h => h) (by kernel_rfl) _ _ _ _ (by kernel_rfl) (by kernel_rfl) (Or.inl ⟨by rfl, ?hy4⟩) hS ?rest4
  case hy4 => (intro w' hSw; obtain ⟨k9, k0, k1, k2, k3, k4⟩ := hSw; go_simp; try with_reducible rfl)
  try simp only [Act.put, List.setIfInBounds_toArray, List.set_cons_zero, List.set_cons_succ]
  refine' wpLast.take (i := 5) (v := _) rfl (by kernel_rfl) (fun _ _ _ h => h) (by kernel_rfl) _ _ _ _ (by kernel_rfl) (by kernel_rfl) (Or.inl ⟨by rfl, ?hy5⟩) hS ?rest5
  case hy5 => (intro w' hSw; obtain ⟨k9, k0, k1, k2, k3, k4⟩ := hSw; go_simp; try with_reducible rfl)
  try simp only [Act.put, List.setIfInBounds_toArray, List.set_cons_zero, List.set_cons_succ]
  refine wpLast.one (i := 6) rfl (by kernel_rfl) ?_
  intro K' hK; have HK' := Lib.hid hK; clear hK
  go_simp
  have hS2 : (fun w' : World => w'.cell? ⟨b, o, none⟩ = some (.slice s n c) ∧ w'.cell? ⟨m, 0, none⟩ = some (.int .i64 x0) ∧ w'.cell? ⟨m, 1, none⟩ = some (.int .i64 x1) ∧ w'.cell? ⟨m, 2, none⟩ = some (.int .i64 x2) ∧ w'.cell? ⟨m, 3, none⟩ = some (.string { data := #[] }) ∧ w'.cell? ⟨m, 4, none⟩ = some (.slice none 0 0)) (W.drew.alloc (.cells #[.int .i64 x0, .int .i64 x1, .int .i64 x2, .string { data := #[] }, .slice none 0 0] 91)) := by
    obtain ⟨k9, k0, k1, k2, k3, k4⟩ := hS
    exact ⟨by rw [World.cell?_alloc_some _ _ _ (by rw [k9]; rfl)]; exact k9, by rw [World.cell?_alloc_some _ _ _ (by rw [k0]; rfl)]; exact k0, by rw [World.cell?_alloc_some _ _ _ (by rw [k1]; rfl)]; exact k1, by rw [World.cell?_alloc_some _ _ _ (by rw [k2]; rfl)]; exact k2, by rw [World.cell?_alloc_some _ _ _ (by rw [k3]; rfl)]; exact k3, by rw [World.cell?_alloc_some _ _ _ (by rw [k4]; rfl)]; exact k4⟩
  refine HK'.out _ _ ⟨fun _ => hS2, ?_⟩
  clear HK' K'
  try simp only [Act.put, List.setIfInBounds_toArray, List.set_cons_zero, List.set_cons_succ]
  refine wpLast.one (i := 7) rfl (by kernel_rfl) ?_
  intro K' hK; have HK' := Lib.hid hK; clear hK
  refine step_append_any (by rfl) _ _ 24 (by rfl) elQ s n c _ (by rfl) hxs _ 1 _ _ (by rfl) r2 (by omega) (by omega) ?_
  intro s2 c2 w4 p1 p2 p3
  have H6 := Lib.hid (H4.out.row_step p1 p2 p3)
  have kb := (H6.out.swap.blk.1)
  have k0 : w4.cell? ⟨m, 0, none⟩ = some (.int .i64 x0) := by rw [kb.cell]; rfl
  have k1 : w4.cell? ⟨m, 1, none⟩ = some (.int .i64 x1) := by rw [kb.cell]; rfl
  have k2 : w4.cell? ⟨m, 2, none⟩ = some (.int .i64 x2) := by rw [kb.cell]; rfl
  have k3 : w4.cell? ⟨m, 3, none⟩ = some (.string { data := #[] }) := by rw [kb.cell]; rfl
  have k4 : w4.cell? ⟨m, 4, none⟩ = some (.slice none 0 0) := by rw [kb.cell]; rfl
  have k9 : w4.cell? ⟨b, o, none⟩ = some (.slice s n c) := by rw [(H6.out.front2.blk.1).cell]; exact HO.out
  have kf := H6.out.front2.free o
  have hS3 : (fun w' : World => w'.cell? ⟨b, o, none⟩ = some (.slice s n c) ∧ w'.cell? ⟨m, 0, none⟩ = some (.int .i64 x0) ∧ w'.cell? ⟨m, 1, none⟩ = some (.int .i64 x1) ∧ w'.cell? ⟨m, 2, none⟩ = some (.int .i64 x2) ∧ w'.cell? ⟨m, 3, none⟩ = some (.string { data := #[] }) ∧ w'.cell? ⟨m, 4, none⟩ = some (.slice none 0 0)) w4 := ⟨k9, k0, k1, k2, k3, k4⟩
  refine HK'.out _ _ ⟨fun _ => hS3, ?_⟩
  clear HK' K' hS hS2 p1 p2 p3 kb k0 k1 k2 k3 k4
  try simp only [Act.put, List.setIfInBounds_toArray, List.set_cons_zero, List.set_cons_succ]
  refine wpLast.one (i := 8) rfl (by kernel_rfl) ?_
  intro K' hK; have HK' := Lib.hid hK; clear hK
  go_simp
  refine HK'.out _ _ ⟨fun _ => hS3, ?_⟩
  clear HK' K'
  try simp only [Act.put, List.setIfInBounds_toArray, List.set_cons_zero, List.set_cons_succ]
  refine wpLast.one (i := 9) rfl (by kernel_rfl) ?_
  intro K' hK; have HK' := Lib.hid hK; clear hK
  go_simp
  refine HK'.out _ _ ⟨fun _ => hS3, ?_⟩
  clear HK' K'
  try simp only [Act.put, List.setIfInBounds_toArray, List.set_cons_zero, List.set_cons_succ]
  refine wpLast.one (i := 10) rfl (by kernel_rfl) ?_
  intro K' hK; have HK' := Lib.hid hK; clear hK
  go_simp
  refine HK'.out _ _ ⟨fun h => absurd rfl h, ?_⟩
  clear HK' K' hS3
  try simp only [Act.put, List.setIfInBounds_toArray, List.set_cons_zero, List.set_cons_succ]
  refine wpLast.done (by kernel_rfl) ?_
  have h7 := H6.out.front2.set o (.slice s2 (n + 1) c2)
  have H7 := Lib.hid h7
  clear h7 k9 kf hxs r2
  go_wp2_with fail
  go_end0
  exact ⟨rfl, s2, c2, H7.out.front2.drop⟩

theorem qlenQ {w : World} {b o n c : Nat} {s : Option Addr} (hq : w.cell? ⟨b, o, none⟩ = some (.slice s n c)) :
    Calls Try.prog 68 #[.pointer (some ⟨b, o, none⟩)] w fun e w' => e = .returned (.int .i64 n) ∧ w = w' := by
  go_enter Try.func68, Try.ntmps68
  go_wp2
  go_ret
  exact ⟨rfl, rfl⟩
set_option maxHeartbeats 400000 in
theorem peek0Q {w : World} {b o c : Nat} {s : Option Addr} (hq : w.cell? ⟨b, o, none⟩ = some (.slice s 0 c)) :
    Calls Try.prog 71 #[.pointer (some ⟨b, o, none⟩)] w fun e w' => e = .returned (.tuple #[.agg #[.int .i64 0, .int .i64 0, .int .i64 0, .string { data := #[] }, .slice none 0 0], .bool false]) ∧ Below w.heap.size w w' := by
  have hlt := World.block_lt_of_cell? _ _ hq
  simp only at hlt
  go_enter Try.func71, Try.ntmps71
  go_wp2
  refine bodyPost_ret (v := .tuple #[.agg #[.int .i64 0, .int .i64 0, .int .i64 0, .string { data := #[] }, .slice none 0 0], .bool false]) (by simp [results, Try.results71, go_sem]) rfl ⟨rfl, ?_⟩
  exact ((Below.refl _ _).alloc (Nat.le_refl _) _).alloc (by simp) _

set_option maxHeartbeats 400000 in
theorem peek1Q {w : World} {b o g off n c : Nat} (x0 x1 x2 : Int) (hq : w.cell? ⟨b, o, none⟩ = some (.slice (some ⟨g, off, none⟩) (n + 1) c)) (hx : w.cell? ⟨g, off, none⟩ = some (.int .i64 x0) ∧ w.cell? ⟨g, off + 1, none⟩ = some (.int .i64 x1) ∧ w.cell? ⟨g, off + 2, none⟩ = some (.int .i64 x2) ∧ w.cell? ⟨g, off + 3, none⟩ = some (.string { data := #[] }) ∧ w.cell? ⟨g, off + 4, none⟩ = some (.slice none 0 0)) :
    Calls Try.prog 71 #[.pointer (some ⟨b, o, none⟩)] w fun e w' => e = .returned (.tuple #[.agg #[.int .i64 x0, .int .i64 x1, .int .i64 x2, .string { data := #[] }, .slice none 0 0], .bool true]) ∧ Below w.heap.size w w' := by
  have hlt := World.block_lt_of_cell? _ _ hq
  obtain ⟨d0, d1, d2, d3, d4⟩ := hx
  have hlg := World.block_lt_of_cell? _ _ d0
  simp only at hlt hlg
  have hlen : ((n : Int) + 1 == 0) = false := by simp; omega
  go_enter Try.func71, Try.ntmps71
  go_wp2_with fail
  refine bodyPost_ret (v := .tuple #[.agg #[.int .i64 x0, .int .i64 x1, .int .i64 x2, .string { data := #[] }, .slice none 0 0], .bool true]) (by simp [results, Try.results71, go_sem]) rfl ⟨rfl, ?_⟩
  exact (Below.refl _ _).alloc (Nat.le_refl _) _
theorem ownQ {w0 w1 : World} {L : List As} {g : Nat} {a0 a1 a2 a3 a4 : Value} (q : St w0 w1 (As.cells g #[a0, a1, a2, a3, a4] 91 :: L)) : (w1.cell? ⟨g, 0, none⟩ = some a0 ∧ w1.cell? ⟨g, 1, none⟩ = some a1 ∧ w1.cell? ⟨g, 2, none⟩ = some a2 ∧ w1.cell? ⟨g, 3, none⟩ = some a3 ∧ w1.cell? ⟨g, 4, none⟩ = some a4) ∧ (w1.frozen? ⟨g, 0, none⟩ = false ∧ w1.frozen? ⟨g, 1, none⟩ = false ∧ w1.frozen? ⟨g, 2, none⟩ = false ∧ w1.frozen? ⟨g, 3, none⟩ = false ∧ w1.frozen? ⟨g, 4, none⟩ = false) ∧ g < w1.heap.size :=
  ⟨⟨by simpa using q.cell 0, by simpa using q.cell 1, by simpa using q.cell 2, by simpa using q.cell 3, by simpa using q.cell 4⟩, ⟨q.free 0, q.free 1, q.free 2, q.free 3, q.free 4⟩, q.blk.1.lt⟩
set_option maxHeartbeats 1000000 in
theorem qpop0Q {w0 w : World} {L : List As} {b o c : Nat} {s : Option Addr} {cs : Array Value} {xs : List Value} (h : St w0 w (As.cells b cs 37 :: As.row 91 5 s 0 c xs :: L)) (ho : cs[o]? = some (.slice s 0 c)) :
    Calls Try.prog 61 #[.pointer (some ⟨b, o, none⟩)] w fun e w' => e = .returned (.tuple #[.agg #[.int .i64 0, .int .i64 0, .int .i64 0, .string { data := #[] }, .slice none 0 0], .bool false]) ∧ St w0 w' (As.cells b cs 37 :: As.row 91 5 s 0 c xs :: L) := by
  have H1 := Lib.hid (h.new #[.int .i64 0, .int .i64 0, .int .i64 0, .string { data := #[] }, .slice none 0 0] 91)
  have HO := Lib.hid ho
  clear h ho
  go_enter Try.func61, Try.ntmps61
  go_wp2_with (go_at_call 71; refine (peek0Q (b := b) (o := o) (s := s) (c := c) (by rw [H1.out.swap.blk.1.cell]; exact HO.out)).mono ?_; rintro e w1 ⟨rfl, hb⟩; have H2 := Lib.hid (H1.out.of_below hb); obtain ⟨⟨q0, q1, q2, q3, q4⟩, ⟨f0, f1, f2, f3, f4⟩, hz⟩ := ownQ H2.out; clear hb)
  have R := (St.set5 H2.out (.int .i64 0) (.int .i64 0) (.int .i64 0) (.string { data := #[] }) (.slice none 0 0)).alloc (.cells #[.int .i64 0, .int .i64 0, .int .i64 0, .string { data := #[] }, .slice none 0 0] 91)
  obtain ⟨⟨c0, c1, c2, c3, c4⟩, -, -⟩ := ownQ R
  refine bodyPost_ret (v := .tuple #[.agg #[.int .i64 0, .int .i64 0, .int .i64 0, .string { data := #[] }, .slice none 0 0], .bool false]) (by simp [results, Try.results61, go_sem, c0, c1, c2, c3, c4]) rfl ⟨rfl, R.drop⟩
set_option maxHeartbeats 1000000 in
theorem qpop1Q {w0 w : World} {L : List As} {b o n c : Nat} {s : Option Addr} {cs : Array Value} {xs : List Value} (x0 x1 x2 : Int) (h : St w0 w (As.cells b cs 37 :: As.row 91 5 s (n + 1) c ([.int .i64 x0, .int .i64 x1, .int .i64 x2, .string { data := #[] }, .slice none 0 0] ++ xs) :: L)) (ho : cs[o]? = some (.slice s (n + 1) c)) (hn : n ≤ 100000) :
    Calls Try.prog 61 #[.pointer (some ⟨b, o, none⟩)] w fun e w' => e = .returned (.tuple #[.agg #[.int .i64 x0, .int .i64 x1, .int .i64 x2, .string { data := #[] }, .slice none 0 0], .bool true]) ∧ ∃ s' c', St w0 w' (As.cells b (cs.setIfInBounds o (.slice s' n c')) 37 :: As.row 91 5 s' n c' xs :: L) := by
  have hs := h.swap.sl
  have hle := hs.le
  obtain ⟨s1, hsl, hs1, hr1⟩ := hs.cut_l elQ 1 (by omega)
  obtain ⟨g, off, rfl, hcell, -, -⟩ := hs.some_of (by omega)
  have hx : w.cell? ⟨g, off, none⟩ = some (.int .i64 x0) ∧ w.cell? ⟨g, off + 1, none⟩ = some (.int .i64 x1) ∧ w.cell? ⟨g, off + 2, none⟩ = some (.int .i64 x2) ∧ w.cell? ⟨g, off + 3, none⟩ = some (.string { data := #[] }) ∧ w.cell? ⟨g, off + 4, none⟩ = some (.slice none 0 0) := by
    refine ⟨?_, ?_, ?_, ?_, ?_⟩
    · have := hcell 0 (by omega); simpa using this
    · have := hcell 1 (by omega); simpa using this
    · have := hcell 2 (by omega); simpa using this
    · have := hcell 3 (by omega); simpa using this
    · have := hcell 4 (by omega); simpa using this
  have hsd : (([.int .i64 x0, .int .i64 x1, .int .i64 x2, .string { data := #[] }, .slice none 0 0] : List Value) ++ xs).drop 5 = xs := rfl
  simp only [Nat.add_sub_cancel, Nat.one_mul, hsd] at hs1
  simp only [Nat.add_sub_cancel, Int.natCast_one] at hsl
  have hcz : s1 = none → c - 1 = 0 := by
    intro e
    rcases hs1.row with ⟨_, _, q⟩ | ⟨g, off, cur, q, _⟩
    · exact q
    · rw [e] at q; cases q
  have HCZ := Lib.hid hcz
  have HX := Lib.hid hx
  have HS1 := Lib.hid hs1
  have hlt := h.blk.1.lt
  have hltg := hs.lt g rfl
  have H1 := Lib.hid (h.new #[.int .i64 0, .int .i64 0, .int .i64 0, .string { data := #[] }, .slice none 0 0] 91)
  have HO := Lib.hid ho
  clear h ho hs hcell hx hs1 hr1 hsd hcz
  go_enter Try.func61, Try.ntmps61
  go_wp2_with ((go_at_call 71; refine (peek1Q (b := b) (o := o) (g := g) (off := off) (n := n) (c := c) x0 x1 x2 (by rw [H1.out.swap.blk.1.cell]; exact HO.out) (by obtain ⟨d0, d1, d2, d3, d4⟩ := HX.out; exact ⟨(World.cell?_alloc_lt w _ _ hltg).trans d0, (World.cell?_alloc_lt w _ _ hltg).trans d1, (World.cell?_alloc_lt w _ _ hltg).trans d2, (World.cell?_alloc_lt w _ _ hltg).trans d3, (World.cell?_alloc_lt w _ _ hltg).trans d4⟩)).mono ?_; rintro e w1 ⟨rfl, hb⟩; have hcw : w1.cell? ⟨b, o, none⟩ = some (.slice (some ⟨g, off, none⟩) (n + 1) c) := (by rw [(H1.out.of_below hb).swap.blk.1.cell]; exact HO.out); have hlw := (H1.out.of_below hb).swap.blk.1.lt; have H2 := Lib.hid ((H1.out.of_below hb).new #[.int .i64 x0, .int .i64 x1, .int .i64 x2, .string { data := #[] }, .slice none 0 0] 91); have H3 := Lib.hid ((((Below.refl w.heap.size w).alloc (Nat.le_refl _) (.cells #[.int .i64 0, .int .i64 0, .int .i64 0, .string { data := #[] }, .slice none 0 0] 91)).trans (hb.mono (by simp))).alloc (by have := hb.size; simp at this; omega) (.cells #[.int .i64 x0, .int .i64 x1, .int .i64 x2, .string { data := #[] }, .slice none 0 0] 91)); clear hb))
  refine (cloneQ s1 n _ xs _ (HS1.out.kept (Fr.of_below H3.out) (fun _ _ q => q)).rd HCZ.out (by omega)).mono ?_
  rintro e w2 ⟨s2, c2, rfl, g1, g2, g3⟩
  have H4 := Lib.hid (H2.out.row_new g1 g2 g3)
  have hbb := H4.out.blkm (.tail _ (.tail _ (.tail _ (.head _))))
  have hc2 : w2.cell? ⟨b, o, none⟩ = some (.slice (some ⟨g, off, none⟩) (n + 1) c) := (by rw [hbb.cell]; exact HO.out)
  have hf2 := hbb.free o
  have H5 := Lib.hid ((st_rev4 H4.out).set o (.slice s2 n c2)).swap
  obtain ⟨⟨p0, p1, p2, p3, p4⟩, -, hz1⟩ := ownQ H4.out.swap
  obtain ⟨⟨q0, q1, q2, q3, q4⟩, ⟨f0, f1, f2, f3, f4⟩, hz⟩ := ownQ H4.out.front2
  have hn1 : w1.heap.size ≠ b := by omega
  have hn2 : w.heap.size ≠ b := by omega
  have hn3 : w1.heap.size ≠ w.heap.size := (H4.out.swap.front2.ne (.head _)).symm
  clear hbb g1 g2 g3 hcw
  go_wp2_with fail
  have R := St.set5 H5.out (.int .i64 x0) (.int .i64 x1) (.int .i64 x2) (.string { data := #[] }) (.slice none 0 0)
  obtain ⟨⟨e0, e1, e2, e3, e4⟩, -, -⟩ := ownQ R
  refine bodyPost_ret (v := .tuple #[.agg #[.int .i64 x0, .int .i64 x1, .int .i64 x2, .string { data := #[] }, .slice none 0 0], .bool true]) (by simp [results, Try.results61, go_sem, e0, e1, e2, e3, e4]) rfl ⟨rfl, s2, c2, R.drop.swap.drop.front2.drop⟩

set_option maxRecDepth 100000 in
set_option maxHeartbeats 1000000 in
theorem qpushJ {w0 w : World} {L : List As} {b o n c : Nat} {s : Option Addr} {cs : Array Value} {xs : List Value} (x0 : Int) (a : Option Addr) (an ac : Nat) (h : St w0 w (As.cells b cs 37 :: As.row 44 2 s n c xs :: L)) (ho : cs[o]? = some (.slice s n c)) (hn : n ≤ 100000) :
    Calls Try.prog 24 #[.pointer (some ⟨b, o, none⟩), .agg #[.int .i64 x0, .slice a an ac]] w fun e w' => e = .returned (.tuple #[]) ∧ ∃ s' c', St w0 w' (As.cells b (cs.setIfInBounds o (.slice s' (n + 1) c')) 37 :: As.row 44 2 s' (n + 1) c' (xs ++ [.int .i64 x0, .slice a an ac]) :: L) := by
  have hlt := h.blk.1.lt
  have h1 := h.new #[.int .i64 x0, .slice a an ac] 44
  have H1 := Lib.hid h1
  have HO := Lib.hid ho
  clear h h1 ho
  go_enter Try.func24, Try.ntmps24
  go_upto_region 1 with fail
  obtain ⟨m, hm⟩ : ∃ m, w.heap.size = m := ⟨_, rfl⟩
  obtain ⟨W, hW⟩ : ∃ W, w.alloc (.cells #[.int .i64 x0, .slice a an ac] 44) = W := ⟨_, rfl⟩
  rw [hW, hm] at H1
  rw [hW]
  simp only [hm]
  clear hW hm hlt w
  have kb := H1.out.blk.1
  have k0 : W.cell? ⟨m, 0, none⟩ = some (.int .i64 x0) := by rw [kb.cell]; rfl
  have k1 : W.cell? ⟨m, 1, none⟩ = some (.slice a an ac) := by rw [kb.cell]; rfl
  have k9 : W.cell? ⟨b, o, none⟩ = some (.slice s n c) := by rw [(H1.out.swap.blk.1).cell]; exact HO.out
  have hxs := (H1.out.front2.sl.drew).alloc (.cells #[.int .i64 x0, .slice a an ac] 44)
  have r2 := rd_built_at W.drew #[.int .i64 x0, .slice a an ac] 44 2 1 W.heap.size rfl rfl (by simp [Value.oneCell'])
  have H4 := Lib.hid (H1.out.front2.drew.alloc (.cells #[.int .i64 x0, .slice a an ac] 44))
  have hS : (fun w' : World => w'.cell? ⟨b, o, none⟩ = some (.slice s n c) ∧ w'.cell? ⟨m, 0, none⟩ = some (.int .i64 x0) ∧ w'.cell? ⟨m, 1, none⟩ = some (.slice a an ac)) W.drew := ⟨k9, k0, k1⟩
  clear kb k9 k0 k1
  refine wpLast.region (S := (fun w' : World => w'.cell? ⟨b, o, none⟩ = some (.slice s n c) ∧ w'.cell? ⟨m, 0, none⟩ = some (.int .i64 x0) ∧ w'.cell? ⟨m, 1, none⟩ = some (.slice a an ac))) (c := 10) (by kernel_rfl) ?_
  refine' wpLast.take (i := 0) (v := _) rfl (by kernel_rfl) (fun _ _ _ h => h) (by kernel_rfl) _ _ _ _ (by kernel_rfl) (by kernel_rfl) (Or.inl ⟨by rfl, ?hy0⟩) hS ?rest0
  case hy0 => (intro w' hSw; obtain ⟨k9, k0, k1⟩ := hSw; go_simp; try with_reducible rfl)
  try simp only [Act.put, List.setIfInBounds_toArray, List.set_cons_zero, List.set_cons_succ]
  refine' wpLast.take (i := 1) (v := _) rfl (by kernel_rfl) (fun _ _ _ h => h) (by kernel_rfl) _ _ _ _ (by kernel_rfl) (by kernel_rfl) (Or.inl ⟨by rfl, ?hy1⟩) hS ?rest1
  case hy1 => (intro w' hSw; obtain ⟨k9, k0, k1⟩ := hSw; go_simp; try with_reducible rfl)
  try simp only [Act.put, List.setIfInBounds_toArray, List.set_cons_zero, List.set_cons_succ]
  refine' wpLast.take (i := 2) (v := _) rfl (by kernel_rfl) (fun _ _ _ h => h) (by kernel_rfl) _ _ _ _ (by kernel_rfl) (by kernel_rfl) (Or.inl ⟨by rfl, ?hy2⟩) hS ?rest2
  case hy2 => (intro w' hSw; obtain ⟨k9, k0, k1⟩ := hSw; go_simp; try with_reducible rfl)
  try simp only [Act.put, List.setIfInBounds_toArray, List.set_cons_zero, List.set_cons_succ]
  refine' wpLast.take (i := 3) (v := _) rfl (by kernel_rfl) (fun _ _ _ h => h) (by kernel_rfl) _ _ _ _ (by kernel_rfl) (by kernel_rfl) (Or.inl ⟨by rfl, ?hy3⟩) hS ?rest3
  case hy3 => (intro w' hSw; obtain ⟨k9, k0, k1⟩ := hSw; go_simp; try with_reducible rfl)
  try simp only [Act.put, List.setIfInBounds_toArray, List.set_cons_zero, List.set_cons_succ]
  refine' wpLast.take (i := 4) (v := _) rfl (by kernel_rfl) (fun _ _ _ h => h) (by kernel_rfl) _ _ _ _ (by kernel_rfl) (by kernel_rfl) (Or.inl ⟨by rfl, ?hy4⟩) hS ?rest4
  case hy4 => (intro w' hSw; obtain ⟨k9, k0, k1⟩ := hSw; go_simp; try with_reducible rfl)
  try simp only [Act.put, List.setIfInBounds_toArray, List.set_cons_zero, List.set_cons_succ]
  refine' wpLast.take (i := 5) (v := _) rfl (by kernel_rfl) (fun _ _ _ h => h) (by kernel_rfl) _ _ _ _ (by kernel_rfl) (by kernel_rfl) (Or.inl ⟨by rfl, ?hy5⟩) hS ?rest5
  case hy5 => (intro w' hSw; obtain ⟨k9, k0, k1⟩ := hSw; go_simp; try with_reducible rfl)
  try simp only [Act.put, List.setIfInBounds_toArray, List.set_cons_zero, List.set_cons_succ]
  refine wpLast.one (i := 6) rfl (by kernel_rfl) ?_
  intro K' hK; have HK' := Lib.hid hK; clear hK
  go_simp
  have hS2 : (fun w' : World => w'.cell? ⟨b, o, none⟩ = some (.slice s n c) ∧ w'.cell? ⟨m, 0, none⟩ = some (.int .i64 x0) ∧ w'.cell? ⟨m, 1, none⟩ = some (.slice a an ac)) (W.drew.alloc (.cells #[.int .i64 x0, .slice a an ac] 44)) := by
    obtain ⟨k9, k0, k1⟩ := hS
    exact ⟨by rw [World.cell?_alloc_some _ _ _ (by rw [k9]; rfl)]; exact k9, by rw [World.cell?_alloc_some _ _ _ (by rw [k0]; rfl)]; exact k0, by rw [World.cell?_alloc_some _ _ _ (by rw [k1]; rfl)]; exact k1⟩
  refine HK'.out _ _ ⟨fun _ => hS2, ?_⟩
  clear HK' K'
  try simp only [Act.put, List.setIfInBounds_toArray, List.set_cons_zero, List.set_cons_succ]
  refine wpLast.one (i := 7) rfl (by kernel_rfl) ?_
  intro K' hK; have HK' := Lib.hid hK; clear hK
  refine step_append_any (by rfl) _ _ 28 (by rfl) elJ s n c _ (by rfl) hxs _ 1 _ _ (by rfl) r2 (by omega) (by omega) ?_
  intro s2 c2 w4 p1 p2 p3
  have H6 := Lib.hid (H4.out.row_step p1 p2 p3)
  have kb := (H6.out.swap.blk.1)
  have k0 : w4.cell? ⟨m, 0, none⟩ = some (.int .i64 x0) := by rw [kb.cell]; rfl
  have k1 : w4.cell? ⟨m, 1, none⟩ = some (.slice a an ac) := by rw [kb.cell]; rfl
  have k9 : w4.cell? ⟨b, o, none⟩ = some (.slice s n c) := by rw [(H6.out.front2.blk.1).cell]; exact HO.out
  have kf := H6.out.front2.free o
  have hS3 : (fun w' : World => w'.cell? ⟨b, o, none⟩ = some (.slice s n c) ∧ w'.cell? ⟨m, 0, none⟩ = some (.int .i64 x0) ∧ w'.cell? ⟨m, 1, none⟩ = some (.slice a an ac)) w4 := ⟨k9, k0, k1⟩
  refine HK'.out _ _ ⟨fun _ => hS3, ?_⟩
  clear HK' K' hS hS2 p1 p2 p3 kb k0 k1
  try simp only [Act.put, List.setIfInBounds_toArray, List.set_cons_zero, List.set_cons_succ]
  refine wpLast.one (i := 8) rfl (by kernel_rfl) ?_
  intro K' hK; have HK' := Lib.hid hK; clear hK
  go_simp
  refine HK'.out _ _ ⟨fun _ => hS3, ?_⟩
  clear HK' K'
  try simp only [Act.put, List.setIfInBounds_toArray, List.set_cons_zero, List.set_cons_succ]
  refine wpLast.one (i := 9) rfl (by kernel_rfl) ?_
  intro K' hK; have HK' := Lib.hid hK; clear hK
  go_simp
  refine HK'.out _ _ ⟨fun _ => hS3, ?_⟩
  clear HK' K'
  try simp only [Act.put, List.setIfInBounds_toArray, List.set_cons_zero, List.set_cons_succ]
  refine wpLast.one (i := 10) rfl (by kernel_rfl) ?_
  intro K' hK; have HK' := Lib.hid hK; clear hK
  go_simp
  refine HK'.out _ _ ⟨fun h => absurd rfl h, ?_⟩
  clear HK' K' hS3
  try simp only [Act.put, List.setIfInBounds_toArray, List.set_cons_zero, List.set_cons_succ]
  refine wpLast.done (by kernel_rfl) ?_
  have h7 := H6.out.front2.set o (.slice s2 (n + 1) c2)
  have H7 := Lib.hid h7
  clear h7 k9 kf hxs r2
  go_wp2_with fail
  go_end0
  exact ⟨rfl, s2, c2, H7.out.front2.drop⟩

theorem qlenJ {w : World} {b o n c : Nat} {s : Option Addr} (hq : w.cell? ⟨b, o, none⟩ = some (.slice s n c)) :
    Calls Try.prog 27 #[.pointer (some ⟨b, o, none⟩)] w fun e w' => e = .returned (.int .i64 n) ∧ w = w' := by
  go_enter Try.func27, Try.ntmps27
  go_wp2
  go_ret
  exact ⟨rfl, rfl⟩
set_option maxHeartbeats 400000 in
theorem peek0J {w : World} {b o c : Nat} {s : Option Addr} (hq : w.cell? ⟨b, o, none⟩ = some (.slice s 0 c)) :
    Calls Try.prog 57 #[.pointer (some ⟨b, o, none⟩)] w fun e w' => e = .returned (.tuple #[.agg #[.int .i64 0, .slice none 0 0], .bool false]) ∧ Below w.heap.size w w' := by
  have hlt := World.block_lt_of_cell? _ _ hq
  simp only at hlt
  go_enter Try.func57, Try.ntmps57
  go_wp2
  refine bodyPost_ret (v := .tuple #[.agg #[.int .i64 0, .slice none 0 0], .bool false]) (by simp [results, Try.results57, go_sem]) rfl ⟨rfl, ?_⟩
  exact ((Below.refl _ _).alloc (Nat.le_refl _) _).alloc (by simp) _

set_option maxHeartbeats 400000 in
theorem peek1J {w : World} {b o g off n c : Nat} (x0 : Int) (a : Option Addr) (an ac : Nat) (hq : w.cell? ⟨b, o, none⟩ = some (.slice (some ⟨g, off, none⟩) (n + 1) c)) (hx : w.cell? ⟨g, off, none⟩ = some (.int .i64 x0) ∧ w.cell? ⟨g, off + 1, none⟩ = some (.slice a an ac)) :
    Calls Try.prog 57 #[.pointer (some ⟨b, o, none⟩)] w fun e w' => e = .returned (.tuple #[.agg #[.int .i64 x0, .slice a an ac], .bool true]) ∧ Below w.heap.size w w' := by
  have hlt := World.block_lt_of_cell? _ _ hq
  obtain ⟨d0, d1⟩ := hx
  have hlg := World.block_lt_of_cell? _ _ d0
  simp only at hlt hlg
  have hlen : ((n : Int) + 1 == 0) = false := by simp; omega
  go_enter Try.func57, Try.ntmps57
  go_wp2_with fail
  refine bodyPost_ret (v := .tuple #[.agg #[.int .i64 x0, .slice a an ac], .bool true]) (by simp [results, Try.results57, go_sem]) rfl ⟨rfl, ?_⟩
  exact (Below.refl _ _).alloc (Nat.le_refl _) _
theorem ownJ {w0 w1 : World} {L : List As} {g : Nat} {a0 a1 : Value} (q : St w0 w1 (As.cells g #[a0, a1] 44 :: L)) : (w1.cell? ⟨g, 0, none⟩ = some a0 ∧ w1.cell? ⟨g, 1, none⟩ = some a1) ∧ (w1.frozen? ⟨g, 0, none⟩ = false ∧ w1.frozen? ⟨g, 1, none⟩ = false) ∧ g < w1.heap.size :=
  ⟨⟨by simpa using q.cell 0, by simpa using q.cell 1⟩, ⟨q.free 0, q.free 1⟩, q.blk.1.lt⟩
set_option maxHeartbeats 1000000 in
theorem qpop0J {w0 w : World} {L : List As} {b o c : Nat} {s : Option Addr} {cs : Array Value} {xs : List Value} (h : St w0 w (As.cells b cs 37 :: As.row 44 2 s 0 c xs :: L)) (ho : cs[o]? = some (.slice s 0 c)) :
    Calls Try.prog 30 #[.pointer (some ⟨b, o, none⟩)] w fun e w' => e = .returned (.tuple #[.agg #[.int .i64 0, .slice none 0 0], .bool false]) ∧ St w0 w' (As.cells b cs 37 :: As.row 44 2 s 0 c xs :: L) := by
  have H1 := Lib.hid (h.new #[.int .i64 0, .slice none 0 0] 44)
  have HO := Lib.hid ho
  clear h ho
  go_enter Try.func30, Try.ntmps30
  go_wp2_with (go_at_call 57; refine (peek0J (b := b) (o := o) (s := s) (c := c) (by rw [H1.out.swap.blk.1.cell]; exact HO.out)).mono ?_; rintro e w1 ⟨rfl, hb⟩; have H2 := Lib.hid (H1.out.of_below hb); obtain ⟨⟨q0, q1⟩, ⟨f0, f1⟩, hz⟩ := ownJ H2.out; clear hb)
  have R := (St.set2 H2.out (.int .i64 0) (.slice none 0 0)).alloc (.cells #[.int .i64 0, .slice none 0 0] 44)
  obtain ⟨⟨c0, c1⟩, -, -⟩ := ownJ R
  refine bodyPost_ret (v := .tuple #[.agg #[.int .i64 0, .slice none 0 0], .bool false]) (by simp [results, Try.results30, go_sem, c0, c1]) rfl ⟨rfl, R.drop⟩
set_option maxHeartbeats 1000000 in
theorem qpop1J {w0 w : World} {L : List As} {b o n c : Nat} {s : Option Addr} {cs : Array Value} {xs : List Value} (x0 : Int) (a : Option Addr) (an ac : Nat) (h : St w0 w (As.cells b cs 37 :: As.row 44 2 s (n + 1) c ([.int .i64 x0, .slice a an ac] ++ xs) :: L)) (ho : cs[o]? = some (.slice s (n + 1) c)) (hn : n ≤ 100000) :
    Calls Try.prog 30 #[.pointer (some ⟨b, o, none⟩)] w fun e w' => e = .returned (.tuple #[.agg #[.int .i64 x0, .slice a an ac], .bool true]) ∧ ∃ s' c', St w0 w' (As.cells b (cs.setIfInBounds o (.slice s' n c')) 37 :: As.row 44 2 s' n c' xs :: L) := by
  have hs := h.swap.sl
  have hle := hs.le
  obtain ⟨s1, hsl, hs1, hr1⟩ := hs.cut_l elJ 1 (by omega)
  obtain ⟨g, off, rfl, hcell, -, -⟩ := hs.some_of (by omega)
  have hx : w.cell? ⟨g, off, none⟩ = some (.int .i64 x0) ∧ w.cell? ⟨g, off + 1, none⟩ = some (.slice a an ac) := by
    refine ⟨?_, ?_⟩
    · have := hcell 0 (by omega); simpa using this
    · have := hcell 1 (by omega); simpa using this
  have hsd : (([.int .i64 x0, .slice a an ac] : List Value) ++ xs).drop 2 = xs := rfl
  simp only [Nat.add_sub_cancel, Nat.one_mul, hsd] at hs1
  simp only [Nat.add_sub_cancel, Int.natCast_one] at hsl
  have hcz : s1 = none → c - 1 = 0 := by
    intro e
    rcases hs1.row with ⟨_, _, q⟩ | ⟨g, off, cur, q, _⟩
    · exact q
    · rw [e] at q; cases q
  have HCZ := Lib.hid hcz
  have HX := Lib.hid hx
  have HS1 := Lib.hid hs1
  have hlt := h.blk.1.lt
  have hltg := hs.lt g rfl
  have H1 := Lib.hid (h.new #[.int .i64 0, .slice none 0 0] 44)
  have HO := Lib.hid ho
  clear h ho hs hcell hx hs1 hr1 hsd hcz
  go_enter Try.func30, Try.ntmps30
  go_wp2_with ((go_at_call 57; refine (peek1J (b := b) (o := o) (g := g) (off := off) (n := n) (c := c) x0 a an ac (by rw [H1.out.swap.blk.1.cell]; exact HO.out) (by obtain ⟨d0, d1⟩ := HX.out; exact ⟨(World.cell?_alloc_lt w _ _ hltg).trans d0, (World.cell?_alloc_lt w _ _ hltg).trans d1⟩)).mono ?_; rintro e w1 ⟨rfl, hb⟩; have hcw : w1.cell? ⟨b, o, none⟩ = some (.slice (some ⟨g, off, none⟩) (n + 1) c) := (by rw [(H1.out.of_below hb).swap.blk.1.cell]; exact HO.out); have hlw := (H1.out.of_below hb).swap.blk.1.lt; have H2 := Lib.hid ((H1.out.of_below hb).new #[.int .i64 x0, .slice a an ac] 44); have H3 := Lib.hid ((((Below.refl w.heap.size w).alloc (Nat.le_refl _) (.cells #[.int .i64 0, .slice none 0 0] 44)).trans (hb.mono (by simp))).alloc (by have := hb.size; simp at this; omega) (.cells #[.int .i64 x0, .slice a an ac] 44)); clear hb))
  refine (cloneJ s1 n _ xs _ (HS1.out.kept (Fr.of_below H3.out) (fun _ _ q => q)).rd HCZ.out (by omega)).mono ?_
  rintro e w2 ⟨s2, c2, rfl, g1, g2, g3⟩
  have H4 := Lib.hid (H2.out.row_new g1 g2 g3)
  have hbb := H4.out.blkm (.tail _ (.tail _ (.tail _ (.head _))))
  have hc2 : w2.cell? ⟨b, o, none⟩ = some (.slice (some ⟨g, off, none⟩) (n + 1) c) := (by rw [hbb.cell]; exact HO.out)
  have hf2 := hbb.free o
  have H5 := Lib.hid ((st_rev4 H4.out).set o (.slice s2 n c2)).swap
  obtain ⟨⟨p0, p1⟩, -, hz1⟩ := ownJ H4.out.swap
  obtain ⟨⟨q0, q1⟩, ⟨f0, f1⟩, hz⟩ := ownJ H4.out.front2
  have hn1 : w1.heap.size ≠ b := by omega
  have hn2 : w.heap.size ≠ b := by omega
  have hn3 : w1.heap.size ≠ w.heap.size := (H4.out.swap.front2.ne (.head _)).symm
  clear hbb g1 g2 g3 hcw
  go_wp2_with fail
  have R := St.set2 H5.out (.int .i64 x0) (.slice a an ac)
  obtain ⟨⟨e0, e1⟩, -, -⟩ := ownJ R
  refine bodyPost_ret (v := .tuple #[.agg #[.int .i64 x0, .slice a an ac], .bool true]) (by simp [results, Try.results30, go_sem, e0, e1]) rfl ⟨rfl, s2, c2, R.drop.swap.drop.front2.drop⟩

end Go.Proofs.Ytnamkckpgaopkaa
