/-
  ref24.Boxes: all fragments with their rectangles, as a row.
-/
import Derived.Test.YtfjjgebfeklnhaaIg
set_option linter.unusedVariables false
set_option linter.unusedSimpArgs false
namespace Go.Proofs.Ytfjjgebfeklnhaa
open Go.RowKit Go.K

def rc4 (r : R4) : List Value := [.int .i64 r.x, .int .i64 r.y, .int .i64 r.w, .int .i64 r.h]
def bc (p : Ft × R4) : List Value := fc p.1 ++ rc4 p.2
theorem bc_len (p : Ft × R4) : (bc p).length = 71 := by simp [bc, fc_len, rc4]
theorem bc_one (p : Ft × R4) : ∀ u ∈ bc p, u.oneCell' = true := by
  intro u hu
  rcases List.mem_append.1 hu with h | h
  · exact fc_one _ u h
  · simp only [rc4, List.mem_cons, List.not_mem_nil, or_false] at h
    rcases h with rfl | rfl | rfl | rfl <;> rfl
abbrev zB : Array Value := (fv Fz 0).toArray ++ #[.int .i64 0, .int .i64 0, .int .i64 0, .int .i64 0]
theorem zv76 (w : World) : (zeroValue 76).run Try.prog w = .ok (.agg zB) w := by kernel_rfl
theorem zero76 : (Try.prog.info? 76).map (fun i => (i.zero, i.size, i.bytes)) = some (some (.agg zB), 71, 616) := by kernel_rfl
theorem el76 : El Try.prog 73 76 71 616 := by
  obtain ⟨i, hi, h1, h2, h3⟩ := info_parts zero76
  exact ⟨by kernel_rfl, ⟨i, _, hi, h1, h2, h3, rfl⟩, by decide⟩
theorem ss76 (w : World) : (sizeOf 76).run Try.prog w = .ok 71 w := by kernel_rfl

abbrev BxL (m : Nat) (t : Ft) (X Y : Int) (s : Option Addr) (c : Nat) (l : List (Ft × R4)) : List As :=
  [As.row 76 71 s l.length c (flat bc l), As.cells (m + 1) #[.int .i64 X, .int .i64 Y, .int .i64 t.a.w, .int .i64 t.a.h] 30, As.cells m (fc t).toArray 51]
def BxPost (x y : Int) (t : Ft) (w : World) (e : Ending) (w' : World) : Prop :=
  ∃ s c, e = .returned (.slice s (bxs x y t).length c) ∧ K.Own w w' 76 71 s (bxs x y t).length c (flat bc (bxs x y t))
def BxRel (w : World) (m : Nat) (t : Ft) (X Y : Int) (hd : Ft × R4) (g : Nat) (v8 v30 : Value) (wr : World) : Prop :=
  ∃ (k n : Nat) (s : Option Addr) (c : Nat), g = t.ks.length - k ∧ k ≤ t.ks.length ∧ v30 = .int .i64 k ∧ v8 = .slice s n c ∧ n = (hd :: bxsL X Y (t.ks.take k)).length ∧ St w wr (BxL m t X Y s c (hd :: bxsL X Y (t.ks.take k)))

set_option maxRecDepth 100000 in
set_option maxHeartbeats 2000000 in
theorem boxes_c : ∀ (z : Nat) (t : Ft) (x y : Int) (w : World), t.sz ≤ z → t.sz ≤ 100000 → FtAt w t →
    Calls Try.prog 24 #[.agg (fc t).toArray, .int .i64 x, .int .i64 y] w (BxPost x y t w) := by
  intro z
  induction z with
  | zero => intro t x y w hz; cases t; rw [Ft.sz] at hz; omega
  | succ z ih =>
  intro t x y w hz hsz hat
  obtain ⟨a, ks⟩ := t
  have hlen := szL_ge ks
  rw [Ft.sz] at hz hsz
  have hbx : bxs x y (.mk a ks) = (.mk a ks, ⟨wr (x + a.x), wr (y + a.y), a.w, a.h⟩) :: bxsL (wr (x + a.x)) (wr (y + a.y)) ks := by rw [bxs]
  obtain ⟨X, hX⟩ : ∃ X, wr (x + a.x) = X := ⟨_, rfl⟩
  obtain ⟨Y, hY'⟩ : ∃ Y, wr (y + a.y) = Y := ⟨_, rfl⟩
  rw [hX, hY'] at hbx
  have HBX := Lib.hid hbx
  have hXw : IntKind.i64.wrap (x + a.x) = X := hX
  have hYw : IntKind.i64.wrap (y + a.y) = Y := hY'
  have HIH := Lib.hid ih
  have HAT := Lib.hid hat
  clear ih hat hX hY' hbx
  have hlenI : (ks.length : Int) ≤ 100000 := by omega
  have h2 := ((St.start w (Below.refl _ w)).new (fv a ks.length).toArray 51).new #[.int .i64 X, .int .i64 Y, .int .i64 a.w, .int .i64 a.h] 30
  simp only [World.size_alloc] at h2
  obtain ⟨m, hm⟩ : ∃ m, w.heap.size = m := ⟨_, rfl⟩
  rw [hm] at h2
  have H2 := Lib.hid h2
  have hK0 := Lib.hid (Blk.new w (fv a ks.length).toArray 51)
  obtain ⟨-, -, c2, c3, c4, c5, -, c66⟩ := bigI a ks.length 51 _ _ hK0.out
  rw [hm] at c2 c3 c4 c5 c66
  clear h2
  show Calls Try.prog 24 #[.agg (fv a ks.length).toArray, .int .i64 x, .int .i64 y] w _
  go_enter Try.func24, Try.ntmps24
  go_upto_region 2 with fail
  clear c2 c3 c4 c5 c66
  obtain ⟨r0, r1, r2, r3⟩ : ((w.alloc (.cells (fv a ks.length).toArray 51)).alloc (.cells #[.int .i64 X, .int .i64 Y, .int .i64 a.w, .int .i64 a.h] 30)).cell? ⟨m + 1, 0, none⟩ = some (.int .i64 X) ∧ ((w.alloc (.cells (fv a ks.length).toArray 51)).alloc (.cells #[.int .i64 X, .int .i64 Y, .int .i64 a.w, .int .i64 a.h] 30)).cell? ⟨m + 1, 1, none⟩ = some (.int .i64 Y) ∧ ((w.alloc (.cells (fv a ks.length).toArray 51)).alloc (.cells #[.int .i64 X, .int .i64 Y, .int .i64 a.w, .int .i64 a.h] 30)).cell? ⟨m + 1, 2, none⟩ = some (.int .i64 a.w) ∧ ((w.alloc (.cells (fv a ks.length).toArray 51)).alloc (.cells #[.int .i64 X, .int .i64 Y, .int .i64 a.w, .int .i64 a.h] 30)).cell? ⟨m + 1, 3, none⟩ = some (.int .i64 a.h) := ⟨H2.out.cell 0, H2.out.cell 1, H2.out.cell 2, H2.out.cell 3⟩
  obtain ⟨W2, hW2⟩ : ∃ W2, ((w.alloc (.cells (fv a ks.length).toArray 51)).alloc (.cells #[.int .i64 X, .int .i64 Y, .int .i64 a.w, .int .i64 a.h] 30)) = W2 := ⟨_, rfl⟩
  rw [hW2] at H2 r0 r1 r2 r3 ⊢
  clear hW2
  go_upto_region 3 with (first
    | (refine st_load rfl (.tmp 3) rfl (fv a ks.length) H2.out (.tail _ (.head _)) rfl rfl Try.underlying51 rfl size51 ?_)
    | (refine st_build2 rfl (.tmp 23) (.tmp 24) rfl Try.underlying76 zv76 Try.sizeOf51 Try.sizeOf30 rfl rfl rfl (fv a ks.length).toArray #[.int .i64 X, .int .i64 Y, .int .i64 a.w, .int .i64 a.h] rfl rfl rfl rfl ?_)
    | (refine st_build_row rfl (.tmp 25) rfl H2.out Try.underlying73 zv76 ss76 (by decide) (by decide) ((fv a ks.length).toArray ++ #[.int .i64 X, .int .i64 Y, .int .i64 a.w, .int .i64 a.h]) rfl (bc_one (.mk a ks, ⟨X, Y, a.w, a.h⟩)) rfl ?_; intro W3 g3 HW3; have H3 := Lib.hid HW3; clear HW3))
  generalize Value.agg ((fv a ks.length).toArray ++ #[Value.int .i64 X, .int .i64 Y, .int .i64 a.w, .int .i64 a.h]) = V25
  clear r0 r1 r2 r3
  obtain ⟨-, -, -, -, -, -, -, c66⟩ := bigI a ks.length 51 _ _ (H3.out.blkm (.tail _ (.tail _ (.head _))))
  go_wp2_with fail
  go_loopg [8, 30] ks.length (BxRel w m (.mk a ks) X Y (.mk a ks, ⟨X, Y, a.w, a.h⟩))
  case atStart =>
    refine ⟨0, 1, some ⟨g3, 0, none⟩, 1, rfl, Nat.zero_le _, rfl, rfl, by simp [bxsL], ?_⟩
    have e : flat bc ((Ft.mk a ks, (⟨X, Y, a.w, a.h⟩ : R4)) :: bxsL X Y (ks.take 0)) = ((fv a ks.length).toArray ++ #[Value.int .i64 X, .int .i64 Y, .int .i64 a.w, .int .i64 a.h]).toList := by
      simp [flat, bxsL, bc, fc, rc4, Ft.a, Ft.ks]
    have e2 : ((Ft.mk a ks, (⟨X, Y, a.w, a.h⟩ : R4)) :: bxsL X Y (ks.take 0)).length = 1 := by simp [bxsL]
    show St w _ [As.row 76 71 _ _ _ (flat bc ((Ft.mk a ks, (⟨X, Y, a.w, a.h⟩ : R4)) :: bxsL X Y (ks.take 0))), _, _]
    rw [e]
    exact H3.out
  case round =>
    clear c66
    obtain ⟨k, n, s, c, hg, hk, rfl, rfl, hn, hst⟩ := hrel
    simp only [Ft.ks] at hg hk hn hst
    have Hg := Lib.hid hg
    have HN := Lib.hid hn
    have HS := Lib.hid hst
    have hnl : n ≤ 200000 := by
      have h1 := szL_app (ks.take k) (ks.drop k)
      rw [List.take_append_drop] at h1
      rw [hn, List.length_cons, bxsL_len]; omega
    obtain ⟨-, -, -, -, -, -, -, c66⟩ := bigI a ks.length 51 _ _ (hst.blkm (.tail _ (.tail _ (.head _))))
    have r0 : wr.cell? ⟨m + 1, 0, none⟩ = some (.int .i64 X) := (hst.blkm (b := m + 1) (.tail _ (.head _))).cell 0
    have r1 : wr.cell? ⟨m + 1, 1, none⟩ = some (.int .i64 Y) := (hst.blkm (b := m + 1) (.tail _ (.head _))).cell 1
    clear hg hn hst
    by_cases hkn : k < ks.length
    · have hkI : (k : Int) < (ks.length : Int) := by omega
      have hkI0 : (0 : Int) ≤ (k : Int) := by omega
      have hat2 := HAT.out.stay HS.out.bel
      have hrd : Rd wr 67 a.s ks.length (flat fc ks) := hat2.rd
      obtain ⟨g, off, hsa, -⟩ := hrd.addr (by omega)
      rw [hsa] at hrd c66
      have hrg := row_range hrd hkn
      have HRG := Lib.hid (show ∀ w', Below w.heap.size w w' → w'.rangeAt g (off + k * 67) (fc ks[k]) from fun w' hb => by
        have h1 : Rd w' 67 a.s ks.length (flat fc ks) := (HAT.out.stay hb).rd
        rw [hsa] at h1
        exact row_range h1 hkn)
      have hkid := hat2.kid ks[k] (List.getElem_mem hkn)
      have htk := bxsL_take X Y ks k hkn
      have hks : ks[k].sz ≤ Ft.szL ks := sz_kid (List.getElem_mem hkn)
      obtain ⟨kd, hkd⟩ : ∃ kd, ks[k] = kd := ⟨_, rfl⟩
      rw [hkd] at hkid htk hks hrg HRG
      have HTK := Lib.hid htk
      have IHC := Lib.hid (HIH.out kd X Y wr.drew (by omega) (by omega) (hkid.stay ⟨rfl, rfl, rfl, Nat.le_refl _, fun _ _ => rfl⟩))
      have hS : (fun w' : World => w'.cell? ⟨m, 66, none⟩ = some (.slice (some ⟨g, off, none⟩) ks.length a.c) ∧ w'.cell? ⟨m + 1, 0, none⟩ = some (.int .i64 X) ∧ w'.cell? ⟨m + 1, 1, none⟩ = some (.int .i64 Y) ∧ w'.rangeAt g (off + k * 67) (fc kd)) wr.drew := ⟨c66, r0, r1, hrg⟩
      have HSA := Lib.hid hsa
      clear hat2 hrd hkid htk hkd hsa c66 r0 r1 hrg
      go_upto_region 6 with fail
      refine wp_region_held (S := (fun w' : World => w'.cell? ⟨m, 66, none⟩ = some (.slice (some ⟨g, off, none⟩) ks.length a.c) ∧ w'.cell? ⟨m + 1, 0, none⟩ = some (.int .i64 X) ∧ w'.cell? ⟨m + 1, 1, none⟩ = some (.int .i64 Y) ∧ w'.rangeAt g (off + k * 67) (fc kd))) (by kernel_rfl) ?_
      change wpAnyH _ _ _ _ _ _ _ _ (World.drew _)
      refine' wpAnyH_take (i := 0) (v := _) rfl (by kernel_rfl) (by kernel_rfl) (by kernel_rfl) (fun _ _ _ h => h) (Or.inl ⟨by rfl, ?hy0⟩) hS ?rest0
      case hy0 => (intro w' hSw; obtain ⟨k0, k1, k2, -⟩ := hSw; go_simp; try with_reducible rfl)
      try simp only [Act.put, List.getElem_toArray, List.getElem_cons_zero, List.getElem_cons_succ, List.setIfInBounds_toArray, List.set_cons_zero, List.set_cons_succ]
      refine' wpAnyH_take (i := 1) (v := _) rfl (by kernel_rfl) (by kernel_rfl) (by kernel_rfl) (fun _ _ _ h => h) (Or.inl ⟨by rfl, ?hy1⟩) hS ?rest1
      case hy1 => (intro w' hSw; obtain ⟨k0, k1, k2, -⟩ := hSw; go_simp; try with_reducible rfl)
      try simp only [Act.put, List.getElem_toArray, List.getElem_cons_zero, List.getElem_cons_succ, List.setIfInBounds_toArray, List.set_cons_zero, List.set_cons_succ]
      refine' wpAnyH_take (i := 2) (v := _) rfl (by kernel_rfl) (by kernel_rfl) (by kernel_rfl) (fun _ _ _ h => h) (Or.inl ⟨by rfl, ?hy2⟩) hS ?rest2
      case hy2 => (intro w' hSw; obtain ⟨k0, k1, k2, -⟩ := hSw; go_simp; try with_reducible rfl)
      try simp only [Act.put, List.getElem_toArray, List.getElem_cons_zero, List.getElem_cons_succ, List.setIfInBounds_toArray, List.set_cons_zero, List.set_cons_succ]
      refine' wpAnyH_take (i := 3) (v := _) rfl (by kernel_rfl) (by kernel_rfl) (by kernel_rfl) (fun _ _ _ h => h) (Or.inl ⟨by rfl, ?hy3⟩) hS ?rest3
      case hy3 => (intro w' hSw; obtain ⟨k0, k1, k2, -⟩ := hSw; go_simp; try with_reducible rfl)
      try simp only [Act.put, List.getElem_toArray, List.getElem_cons_zero, List.getElem_cons_succ, List.setIfInBounds_toArray, List.set_cons_zero, List.set_cons_succ]
      refine' wpAnyH_take (i := 4) (v := _) rfl (by kernel_rfl) (by kernel_rfl) (by kernel_rfl) (fun _ _ _ h => h) (Or.inl ⟨by rfl, ?hy4⟩) hS ?rest4
      case hy4 => (intro w' hSw; obtain ⟨k0, k1, k2, -⟩ := hSw; go_simp; try with_reducible rfl)
      try simp only [Act.put, List.getElem_toArray, List.getElem_cons_zero, List.getElem_cons_succ, List.setIfInBounds_toArray, List.set_cons_zero, List.set_cons_succ]
      refine wpAnyH_take (i := 5) (v := .agg (fc kd).toArray) rfl (by kernel_rfl) (by kernel_rfl) (by kernel_rfl) (fun _ _ _ h => h) (yieldsIf_load_mid (by rfl) 51 (.tmp 37) rfl g (off + k * 67) rfl (fc kd) _ (fun _ hw => hw.2.2.2) Try.underlying51 rfl size51) hS ?_
      try simp only [Act.put, List.getElem_toArray, List.getElem_cons_zero, List.getElem_cons_succ, List.setIfInBounds_toArray, List.set_cons_zero, List.set_cons_succ]
      refine' wpAnyH_take (i := 6) (v := _) rfl (by kernel_rfl) (by kernel_rfl) (by kernel_rfl) (fun _ _ _ h => h) (Or.inl ⟨by rfl, ?hy6⟩) hS ?rest6
      case hy6 => (intro w' hSw; obtain ⟨k0, k1, k2, -⟩ := hSw; go_simp; try with_reducible rfl)
      try simp only [Act.put, List.getElem_toArray, List.getElem_cons_zero, List.getElem_cons_succ, List.setIfInBounds_toArray, List.set_cons_zero, List.set_cons_succ]
      refine' wpAnyH_take (i := 7) (v := _) rfl (by kernel_rfl) (by kernel_rfl) (by kernel_rfl) (fun _ _ _ h => h) (Or.inl ⟨by rfl, ?hy7⟩) hS ?rest7
      case hy7 => (intro w' hSw; obtain ⟨k0, k1, k2, -⟩ := hSw; go_simp; try with_reducible rfl)
      try simp only [Act.put, List.getElem_toArray, List.getElem_cons_zero, List.getElem_cons_succ, List.setIfInBounds_toArray, List.set_cons_zero, List.set_cons_succ]
      refine' wpAnyH_take (i := 8) (v := _) rfl (by kernel_rfl) (by kernel_rfl) (by kernel_rfl) (fun _ _ _ h => h) (Or.inl ⟨by rfl, ?hy8⟩) hS ?rest8
      case hy8 => (intro w' hSw; obtain ⟨k0, k1, k2, -⟩ := hSw; go_simp; try with_reducible rfl)
      try simp only [Act.put, List.getElem_toArray, List.getElem_cons_zero, List.getElem_cons_succ, List.setIfInBounds_toArray, List.set_cons_zero, List.set_cons_succ]
      refine' wpAnyH_take (i := 9) (v := _) rfl (by kernel_rfl) (by kernel_rfl) (by kernel_rfl) (fun _ _ _ h => h) (Or.inl ⟨by rfl, ?hy9⟩) hS ?rest9
      case hy9 => (intro w' hSw; obtain ⟨k0, k1, k2, -⟩ := hSw; go_simp; try with_reducible rfl)
      try simp only [Act.put, List.getElem_toArray, List.getElem_cons_zero, List.getElem_cons_succ, List.setIfInBounds_toArray, List.set_cons_zero, List.set_cons_succ]
      refine held_one (i := 10) rfl (by kernel_rfl) ?_
      intro K' hK; have HK' := Lib.hid hK; clear hK
      refine wp_call (by rfl) (by rfl) Try.func24 (by kernel_rfl) (by kernel_rfl) (by kernel_rfl) IHC.out ?_
      rintro e w5 ⟨s5, c5, rfl, h5⟩
      have H5 := Lib.hid (HS.out.drew.of_below h5.bel)
      obtain ⟨-, -, -, -, -, -, -, c66⟩ := bigI a ks.length 51 _ _ (H5.out.blkm (.tail _ (.tail _ (.head _))))
      have r0 : w5.cell? ⟨m + 1, 0, none⟩ = some (.int .i64 X) := (H5.out.blkm (b := m + 1) (.tail _ (.head _))).cell 0
      have r1 : w5.cell? ⟨m + 1, 1, none⟩ = some (.int .i64 Y) := (H5.out.blkm (b := m + 1) (.tail _ (.head _))).cell 1
      rw [HSA.out] at c66
      refine ⟨_, rfl, HK'.out _ _ ⟨⟨c66, r0, r1, HRG.out _ H5.out.bel⟩, ?_⟩⟩
      clear HK' K' c66 r0 r1 hS
      have H5R := Lib.hid h5.rd
      clear h5
      try simp only [Act.put, List.getElem_toArray, List.getElem_cons_zero, List.getElem_cons_succ, List.setIfInBounds_toArray, List.set_cons_zero, List.set_cons_succ]
      refine held_one (i := 11) rfl (by kernel_rfl) ?_
      intro K' hK; have HK' := Lib.hid hK; clear hK
      have hsl : Sl w5 76 71 s n c (flat bc ((Ft.mk a ks, (⟨X, Y, a.w, a.h⟩ : R4)) :: bxsL X Y (ks.take k))) := by
        have := H5.out.sl
        rw [← HN.out] at this
        exact this
      refine step_append_any (by rfl) (.tmp 33) (.tmp 43) 73 (by rfl) el76 s n c _ (by rfl) hsl s5 _ c5 _ (by rfl) H5R.out (by rw [bxs_len]; omega) (by omega) ?_
      intro s6 c6 w6 p1 p2 p3
      have h6 : St w w6 [As.row 76 71 s6 (n + (bxs X Y kd).length) c6 (flat bc ((Ft.mk a ks, (⟨X, Y, a.w, a.h⟩ : R4)) :: bxsL X Y (ks.take k)) ++ flat bc (bxs X Y kd)), As.cells (m + 1) #[.int .i64 X, .int .i64 Y, .int .i64 a.w, .int .i64 a.h] 30, As.cells m (fv a ks.length).toArray 51] := H5.out.row_step p1 p2 p3
      clear p1 p2 p3 hsl
      have H6 := Lib.hid h6
      clear h6
      obtain ⟨-, -, -, -, -, -, -, c66⟩ := bigI a ks.length 51 _ _ (H6.out.blkm (.tail _ (.tail _ (.head _))))
      have r0 : w6.cell? ⟨m + 1, 0, none⟩ = some (.int .i64 X) := (H6.out.blkm (b := m + 1) (.tail _ (.head _))).cell 0
      have r1 : w6.cell? ⟨m + 1, 1, none⟩ = some (.int .i64 Y) := (H6.out.blkm (b := m + 1) (.tail _ (.head _))).cell 1
      rw [HSA.out] at c66
      have hS6 := And.intro c66 (And.intro r0 (And.intro r1 (HRG.out _ H6.out.bel)))
      refine HK'.out _ _ ⟨hS6, ?_⟩
      clear HK' K' c66 r0 r1
      try simp only [Act.put, List.getElem_toArray, List.getElem_cons_zero, List.getElem_cons_succ, List.setIfInBounds_toArray, List.set_cons_zero, List.set_cons_succ]
      refine held_one (i := 12) rfl (by kernel_rfl) ?_
      intro K' hK; have HK' := Lib.hid hK; clear hK
      go_simp
      refine HK'.out _ _ ⟨hS6, ?_⟩
      clear HK' K' hS6
      try simp only [Act.put, List.getElem_toArray, List.getElem_cons_zero, List.getElem_cons_succ, List.setIfInBounds_toArray, List.set_cons_zero, List.set_cons_succ]
      refine wpAnyH_done (by kernel_rfl) ?_ _
      go_wp2_with fail
      go_roundg (ks.length - (k + 1))
      case measure => have := Hg.out; omega
      case rel =>
        have e1 : (Ft.mk a ks, (⟨X, Y, a.w, a.h⟩ : R4)) :: bxsL X Y (ks.take (k + 1)) = ((Ft.mk a ks, (⟨X, Y, a.w, a.h⟩ : R4)) :: bxsL X Y (ks.take k)) ++ bxs X Y kd := by rw [HTK.out, List.cons_append]
        refine ⟨k + 1, n + (bxs X Y kd).length, s6, c6, rfl, hkn, by simp, rfl, ?_, ?_⟩
        · show _ = ((Ft.mk a ks, (⟨X, Y, a.w, a.h⟩ : R4)) :: bxsL X Y (ks.take (k + 1))).length
          rw [e1, List.length_append, HN.out]
        · show St w w6 [As.row 76 71 s6 ((Ft.mk a ks, (⟨X, Y, a.w, a.h⟩ : R4)) :: bxsL X Y (ks.take (k + 1))).length c6 (flat bc ((Ft.mk a ks, (⟨X, Y, a.w, a.h⟩ : R4)) :: bxsL X Y (ks.take (k + 1)))), _, _]
          rw [e1, List.length_append, flat_append, ← HN.out]
          exact H6.out
    · have hkI : ¬ (k : Int) < (ks.length : Int) := by omega
      have hke : k = ks.length := by omega
      subst hke
      go_wp2_with fail
      go_ret
      have h1 := HS.out
      rw [List.take_length] at h1
      have hn := HN.out
      rw [List.take_length] at hn
      refine ⟨s, c, by rw [HBX.out, hn]; rfl, ?_⟩
      rw [HBX.out]
      exact ⟨h1.sl, h1.bel, fun k hk => (h1.row_blk k hk).2.1⟩
end Go.Proofs.Ytfjjgebfeklnhaa
