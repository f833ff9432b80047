/-
  The walk of HitClamps.
-/
import Derived.Test.YtfjjgebfeklnhaaIp
set_option linter.unusedVariables false
set_option linter.unusedSimpArgs false
namespace Go.Proofs.Ytfjjgebfeklnhaa
open Go.RowKit Go.K

theorem clamp_n (t : Ft) (nd x y wd ht : Int) (w : World) (hT : FtAt w t) (hsz : t.sz ≤ 100000) (p q : Int) (hp : (clampT t nd x y wd ht).1 = p) (hq : (clampT t nd x y wd ht).2 = q) :
    Calls Try.prog 19 #[.agg (fc t).toArray, sc3 nd x y, .int .i64 wd, .int .i64 ht] w fun e w' => e = .returned (sc3 nd p q) ∧ Below w.heap.size w w' := by
  subst hp hq; exact clamp_c t nd x y wd ht w hT hsz
theorem range_n (t : Ft) (nd wd ht : Int) (w : World) (hT : FtAt w t) (hsz : t.sz ≤ 100000) (a b : Int) (ha : (rangeT t nd wd ht).1 = a) (hb : (rangeT t nd wd ht).2 = b) :
    Calls Try.prog 18 #[.agg (fc t).toArray, .int .i64 nd, .int .i64 wd, .int .i64 ht] w fun e w' => e = .returned (.tuple #[.int .i64 a, .int .i64 b]) ∧ Below w.heap.size w w' := by
  subst ha hb; exact range_c t nd wd ht w hT hsz

set_option maxRecDepth 100000 in
set_option maxHeartbeats 2000000 in
theorem clamps_go (t : Sh) (o0 o1 o2 s0 s1 : Int) (w : World) (hat : ShAt w t) (h0 : 0 ≤ o0 ∧ o0 ≤ 255) (h1 : -32768 ≤ o1 ∧ o1 ≤ 32767) (h2 : -32768 ≤ o2 ∧ o2 ≤ 32767) (h3 : -32768 ≤ s0 ∧ s0 ≤ 32767) (h4 : -32768 ≤ s1 ∧ s1 ≤ 32767) :
    Calls Try.prog 5 #[.agg (shc t).toArray, .agg #[.int .u8 o0, .int .i16 o1, .int .i16 o2], .agg #[.int .i16 s0, .int .i16 s1]] w fun e w' => e = .returned (.bool true) ∧ Below w.heap.size w w' := by
  obtain ⟨a, ks⟩ := t
  obtain ⟨r, hr⟩ : ∃ r, fewS (.mk a ks) = r := ⟨_, rfl⟩
  have HR := Lib.hid hr
  have HA := Lib.hid hat
  clear hat hr
  have e0 : IntKind.i64.wrap o0 = o0 := wr_id (by omega) (by omega)
  have e1 : IntKind.i64.wrap o1 = o1 := wr_id (by omega) (by omega)
  have e2 : IntKind.i64.wrap o2 = o2 := wr_id (by omega) (by omega)
  have e3 : IntKind.i64.wrap s0 = s0 := wr_id (by omega) (by omega)
  have e4 : IntKind.i64.wrap s1 = s1 := wr_id (by omega) (by omega)
  clear h0 h1 h2 h3 h4
  show Calls Try.prog 5 #[.agg #[.int .i8 a.x, .int .i8 a.y, .int .u8 a.w, .int .u8 a.h, .int .u8 a.kd, .int .u8 a.bd, .slice a.s ks.length a.c], .agg #[.int .u8 o0, .int .i16 o1, .int .i16 o2], .agg #[.int .i16 s0, .int .i16 s1]] w _
  have h1 := (((St.start w (Below.refl _ w)).new #[.int .i8 a.x, .int .i8 a.y, .int .u8 a.w, .int .u8 a.h, .int .u8 a.kd, .int .u8 a.bd, .slice a.s ks.length a.c] 39).new #[.int .u8 o0, .int .i16 o1, .int .i16 o2] 58).new #[.int .i16 s0, .int .i16 s1] 59
  simp only [World.size_alloc] at h1
  obtain ⟨W, hW⟩ : ∃ W, ((w.alloc (.cells #[.int .i8 a.x, .int .i8 a.y, .int .u8 a.w, .int .u8 a.h, .int .u8 a.kd, .int .u8 a.bd, .slice a.s ks.length a.c] 39)).alloc (.cells #[.int .u8 o0, .int .i16 o1, .int .i16 o2] 58)).alloc (.cells #[.int .i16 s0, .int .i16 s1] 59) = W := ⟨_, rfl⟩
  obtain ⟨m, hm⟩ : ∃ b, w.heap.size = b := ⟨_, rfl⟩
  rw [hW, hm] at h1
  have H1 := Lib.hid h1
  clear h1
  cases r with
  | false =>
    go_enter Try.func5, Try.ntmps5
    go_wp2_with (first
      | (go_at_call 8; refine (awake_any _).mono ?_; rintro e wb ⟨rfl, hbb⟩; have H3 := Lib.hid (H2.out.of_below hbb); clear hbb)
      | (go_at_call 8; refine (awake_any _).mono ?_; rintro e wa ⟨rfl, hba⟩; have H2 := Lib.hid (H1.out.of_below hba); clear hba; obtain ⟨s0, s1, s2, s3, s4, s5, s6⟩ := blk7 (H2.out.blkm (.tail _ (.tail _ (.head _)))))
      | (go_at_call 14; refine (fewS_c (.mk a ks) _ (HA.out.stay H2.out.bel)).mono ?_; rintro e wc ⟨rfl, hbc⟩; rw [HR.out]; have H2 := Lib.hid (H2.out.of_below hbc); clear hbc))
    go_ret
    exact ⟨rfl, H3.out.bel⟩
  | true =>
    have hfw := few_sz HR.out
    have HFW := Lib.hid hfw
    clear hfw
    have z51 := zv51
    go_enter Try.func5, Try.ntmps5
    go_upto_region 3 with (first
      | (go_at_call 8; refine (awake_any _).mono ?_; rintro e wa ⟨rfl, hba⟩; have H2 := Lib.hid (H1.out.of_below hba); clear hba; obtain ⟨t0, t1, t2, t3, t4, t5, t6⟩ := blk7 (H2.out.blkm (.tail _ (.tail _ (.head _)))))
      | (go_at_call 14; refine (fewS_c (.mk a ks) _ (HA.out.stay H2.out.bel)).mono ?_; rintro e wc ⟨rfl, hbc⟩; rw [HR.out]; have H3 := Lib.hid (H2.out.of_below hbc); clear hbc t0 t1 t2 t3 t4 t5 t6; obtain ⟨t0, t1, t2, t3, t4, t5, t6⟩ := blk7 (H3.out.blkm (.tail _ (.tail _ (.head _))))))
    go_upto_region 4 with (first
      | (go_at_call 15; refine (frag_c 8 (.mk a ks) 0 w _ _ HA.out HFW.out.1 (by omega) (by have := HFW.out.2; omega) H3.out).mono ?_; rintro e wd ⟨f, rfl, q1, q2, q3, q4⟩; have Q1 := Lib.hid q1; have Q2 := Lib.hid (q2 rfl); have Q3 := Lib.hid q3; have H4 := Lib.hid q4; have H5 := Lib.hid (q4.new (fv Fz 0).toArray 51); clear q1 q2 q3 q4)
      | (refine st_store rfl (.tmp 7) (.tmp 26) rfl H5.out (fc f) rfl rfl rfl rfl size51 (fc_one _) ?_; intro W6 HW6; have H6 := Lib.hid HW6; clear HW6))
    clear z51 t0 t1 t2 t3 t4 t5 t6
    have hfs : f.sz ≤ 100000 := by have := Q3.out; have := HFW.out.2; omega
    obtain ⟨bf, hbf⟩ : ∃ bf, wd.heap.size = bf := ⟨_, rfl⟩
    rw [hbf] at H6 ⊢
    clear hbf
    -- the numbers
    obtain ⟨a1, ha1⟩ : ∃ a1, (rangeT f o0 s0 s1).1 = a1 := ⟨_, rfl⟩
    obtain ⟨b1, hb1⟩ : ∃ b1, (rangeT f o0 s0 s1).2 = b1 := ⟨_, rfl⟩
    obtain ⟨p, hp⟩ : ∃ p, min (max o1 0) a1 = p := ⟨_, rfl⟩
    obtain ⟨q, hq⟩ : ∃ q, min (max o2 0) b1 = q := ⟨_, rfl⟩
    have hspan := span_eq Q1.out (by omega) Q2.out.1 o0 s0 s1
    have hcp : (clampT f o0 o1 o2 s0 s1).1 = p := by rw [clampT, hspan, ha1]; exact hp
    have hcq : (clampT f o0 o1 o2 s0 s1).2 = q := by rw [clampT, hspan, hb1]; exact hq
    have hidem := clamp_idem f o0 o1 o2 s0 s1
    rw [hcp, hcq] at hidem
    have hdp : (clampT f o0 p q s0 s1).1 = p := by rw [hidem]; exact hcp
    have hdq : (clampT f o0 p q s0 s1).2 = q := by rw [hidem]; exact hcq
    have HA1 := Lib.hid ha1
    have HB1 := Lib.hid hb1
    have HCP := Lib.hid hcp
    have HCQ := Lib.hid hcq
    have HDP := Lib.hid hdp
    have HDQ := Lib.hid hdq
    have HP := Lib.hid hp
    have HQ := Lib.hid hq
    clear ha1 hb1 hp hq hspan hcp hcq hidem hdp hdq
    have hs := H6.out.blkm (b := m + 1 + 1) (.tail _ (.tail _ (.head _)))
    have i0 : W6.cell? ⟨m + 1 + 1, 0, none⟩ = some (.int .i16 s0) := hs.cell 0
    have i1 : W6.cell? ⟨m + 1 + 1, 1, none⟩ = some (.int .i16 s1) := hs.cell 1
    clear hs
    go_quiet (fail)
    obtain ⟨W7, hW7⟩ : ∃ W7, W6.drewN nq = W7 := ⟨_, rfl⟩
    have H7 := Lib.hid (show St w W7 _ by rw [← hW7]; exact H6.out.drewN nq)
    rw [hW7]
    clear hW7 i0 i1
    have ho := H7.out.blkm (b := m + 1) (.tail _ (.tail _ (.tail _ (.head _))))
    have j0 : W7.cell? ⟨m + 1, 0, none⟩ = some (.int .u8 o0) := ho.cell 0
    have j1 : W7.cell? ⟨m + 1, 1, none⟩ = some (.int .i16 o1) := ho.cell 1
    have j2 : W7.cell? ⟨m + 1, 2, none⟩ = some (.int .i16 o2) := ho.cell 2
    clear ho
    go_upto_region 6 with fail
    have h8 := H7.out.new #[.int .i64 o0, .int .i64 o1, .int .i64 o2] 61
    obtain ⟨W8, hW8⟩ : ∃ W8, W7.alloc (.cells #[.int .i64 o0, .int .i64 o1, .int .i64 o2] 61) = W8 := ⟨_, rfl⟩
    obtain ⟨bx, hbx⟩ : ∃ bx, W7.heap.size = bx := ⟨_, rfl⟩
    rw [hW8, hbx] at h8
    rw [hW8]
    simp only [hbx]
    have H8 := Lib.hid h8
    obtain ⟨x0, x1, x2, -⟩ := h8.blk.1.three
    clear h8 hW8 j0 j1 j2
    go_upto_region 7 with (first
      | (refine st_load rfl (.tmp 7) rfl (fc f) H8.out (.tail _ (.head _)) rfl rfl Try.underlying51 rfl size51 ?_)
      | (go_at_call 18; refine (range_n f o0 s0 s1 _ (fts_at H8.out (.tail _ (.tail _ (.head _))) f (by simp)) hfs a1 b1 HA1.out HB1.out).mono ?_; rintro e w9 ⟨rfl, hb9⟩; have H9 := Lib.hid (H8.out.of_below hb9); clear hb9))
    clear x0 x1 x2
    obtain ⟨x0, x1, x2, -⟩ := H9.out.blk.1.three
    go_upto_region 8 with (first
      | (refine st_load rfl (.tmp 7) rfl (fc f) H9.out (.tail _ (.head _)) rfl rfl Try.underlying51 rfl size51 ?_)
      | (go_at_call 19; refine (clamp_n f o0 o1 o2 s0 s1 _ (fts_at H9.out (.tail _ (.tail _ (.head _))) f (by simp)) hfs p q HCP.out HCQ.out).mono ?_; rintro e w10 ⟨rfl, hb10⟩; have H10 := Lib.hid ((H9.out.of_below hb10).new #[.int .i64 o0, .int .i64 p, .int .i64 q] 61); clear hb10))
    have HM1 := Lib.hid (show ∀ a b : Int, (if a < b then b else a) = max a b from fun a b => by split <;> omega)
    have HM2 := Lib.hid (show ∀ a b : Int, (if b < a then b else a) = min a b from fun a b => by split <;> omega)
    clear x0 x1 x2
    obtain ⟨W11, hW11⟩ : ∃ W11, w10.alloc (.cells #[.int .i64 o0, .int .i64 p, .int .i64 q] 61) = W11 := ⟨_, rfl⟩
    obtain ⟨bg, hbg⟩ : ∃ bg, w10.heap.size = bg := ⟨_, rfl⟩
    rw [hW11, hbg] at H10
    rw [hW11]
    simp only [hbg]
    clear hW11
    obtain ⟨g0, g1, g2, -⟩ := H10.out.blk.1.three
    obtain ⟨x0, x1, x2, -⟩ := (H10.out.blkm (b := bx) (.tail _ (.head _))).three
    have hS : (fun w' : World => w'.rangeAt bf 0 (fc f) ∧ (w'.cell? ⟨bx, 0, none⟩ = some (.int .i64 o0) ∧ w'.cell? ⟨bx, 1, none⟩ = some (.int .i64 o1) ∧ w'.cell? ⟨bx, 2, none⟩ = some (.int .i64 o2)) ∧ (w'.cell? ⟨bg, 0, none⟩ = some (.int .i64 o0) ∧ w'.cell? ⟨bg, 1, none⟩ = some (.int .i64 p) ∧ w'.cell? ⟨bg, 2, none⟩ = some (.int .i64 q))) W11.drew := ⟨(H10.out.blkm (b := bf) (.tail _ (.tail _ (.head _)))).range, ⟨x0, x1, x2⟩, ⟨g0, g1, g2⟩⟩
    clear g0 g1 g2 x0 x1 x2
    refine wp_region_held (S := (fun w' : World => w'.rangeAt bf 0 (fc f) ∧ (w'.cell? ⟨bx, 0, none⟩ = some (.int .i64 o0) ∧ w'.cell? ⟨bx, 1, none⟩ = some (.int .i64 o1) ∧ w'.cell? ⟨bx, 2, none⟩ = some (.int .i64 o2)) ∧ (w'.cell? ⟨bg, 0, none⟩ = some (.int .i64 o0) ∧ w'.cell? ⟨bg, 1, none⟩ = some (.int .i64 p) ∧ w'.cell? ⟨bg, 2, none⟩ = some (.int .i64 q)))) (by kernel_rfl) ?_
    change wpAnyH _ _ _ _ _ _ _ _ (World.drew _)
    refine' wpAnyH_take (i := 0) (v := .agg #[.int .i64 o0, .int .i64 p, .int .i64 q]) rfl (by kernel_rfl) (by kernel_rfl) (by kernel_rfl) (fun _ _ _ h => h) (Or.inl ⟨by rfl, ?hy0⟩) hS ?rest0
    case hy0 => (intro w' hSw; obtain ⟨-, ⟨k0, k1, k2⟩, ⟨g0, g1, g2⟩⟩ := hSw; go_simp; try simp only [HM1.out, HM2.out, HP.out, HQ.out]; try with_reducible rfl)
    try simp only [Act.put, List.getElem_toArray, List.getElem_cons_zero, List.getElem_cons_succ, List.setIfInBounds_toArray, List.set_cons_zero, List.set_cons_succ]
    refine' wpAnyH_take (i := 1) (v := .pointer (some ⟨bx, 0, none⟩)) rfl (by kernel_rfl) (by kernel_rfl) (by kernel_rfl) (fun _ _ _ h => h) (Or.inl ⟨by rfl, ?hy1⟩) hS ?rest1
    case hy1 => (intro w' hSw; obtain ⟨-, ⟨k0, k1, k2⟩, ⟨g0, g1, g2⟩⟩ := hSw; go_simp; try simp only [HM1.out, HM2.out, HP.out, HQ.out]; try with_reducible rfl)
    try simp only [Act.put, List.getElem_toArray, List.getElem_cons_zero, List.getElem_cons_succ, List.setIfInBounds_toArray, List.set_cons_zero, List.set_cons_succ]
    refine' wpAnyH_take (i := 2) (v := .int .i64 o0) rfl (by kernel_rfl) (by kernel_rfl) (by kernel_rfl) (fun _ _ _ h => h) (Or.inl ⟨by rfl, ?hy2⟩) hS ?rest2
    case hy2 => (intro w' hSw; obtain ⟨-, ⟨k0, k1, k2⟩, ⟨g0, g1, g2⟩⟩ := hSw; go_simp; try simp only [HM1.out, HM2.out, HP.out, HQ.out]; try with_reducible rfl)
    try simp only [Act.put, List.getElem_toArray, List.getElem_cons_zero, List.getElem_cons_succ, List.setIfInBounds_toArray, List.set_cons_zero, List.set_cons_succ]
    refine' wpAnyH_take (i := 3) (v := .pointer (some ⟨bx, 1, none⟩)) rfl (by kernel_rfl) (by kernel_rfl) (by kernel_rfl) (fun _ _ _ h => h) (Or.inl ⟨by rfl, ?hy3⟩) hS ?rest3
    case hy3 => (intro w' hSw; obtain ⟨-, ⟨k0, k1, k2⟩, ⟨g0, g1, g2⟩⟩ := hSw; go_simp; try simp only [HM1.out, HM2.out, HP.out, HQ.out]; try with_reducible rfl)
    try simp only [Act.put, List.getElem_toArray, List.getElem_cons_zero, List.getElem_cons_succ, List.setIfInBounds_toArray, List.set_cons_zero, List.set_cons_succ]
    refine' wpAnyH_take (i := 4) (v := .int .i64 o1) rfl (by kernel_rfl) (by kernel_rfl) (by kernel_rfl) (fun _ _ _ h => h) (Or.inl ⟨by rfl, ?hy4⟩) hS ?rest4
    case hy4 => (intro w' hSw; obtain ⟨-, ⟨k0, k1, k2⟩, ⟨g0, g1, g2⟩⟩ := hSw; go_simp; try simp only [HM1.out, HM2.out, HP.out, HQ.out]; try with_reducible rfl)
    try simp only [Act.put, List.getElem_toArray, List.getElem_cons_zero, List.getElem_cons_succ, List.setIfInBounds_toArray, List.set_cons_zero, List.set_cons_succ]
    refine' wpAnyH_take (i := 5) (v := .int .i64 (max o1 0)) rfl (by kernel_rfl) (by kernel_rfl) (by kernel_rfl) (fun _ _ _ h => h) (Or.inl ⟨by rfl, ?hy5⟩) hS ?rest5
    case hy5 => (intro w' hSw; obtain ⟨-, ⟨k0, k1, k2⟩, ⟨g0, g1, g2⟩⟩ := hSw; go_simp; try simp only [HM1.out, HM2.out, HP.out, HQ.out]; try with_reducible rfl)
    try simp only [Act.put, List.getElem_toArray, List.getElem_cons_zero, List.getElem_cons_succ, List.setIfInBounds_toArray, List.set_cons_zero, List.set_cons_succ]
    refine' wpAnyH_take (i := 6) (v := .int .i64 a1) rfl (by kernel_rfl) (by kernel_rfl) (by kernel_rfl) (fun _ _ _ h => h) (Or.inl ⟨by rfl, ?hy6⟩) hS ?rest6
    case hy6 => (intro w' hSw; obtain ⟨-, ⟨k0, k1, k2⟩, ⟨g0, g1, g2⟩⟩ := hSw; go_simp; try simp only [HM1.out, HM2.out, HP.out, HQ.out]; try with_reducible rfl)
    try simp only [Act.put, List.getElem_toArray, List.getElem_cons_zero, List.getElem_cons_succ, List.setIfInBounds_toArray, List.set_cons_zero, List.set_cons_succ]
    refine' wpAnyH_take (i := 7) (v := .int .i64 p) rfl (by kernel_rfl) (by kernel_rfl) (by kernel_rfl) (fun _ _ _ h => h) (Or.inl ⟨by rfl, ?hy7⟩) hS ?rest7
    case hy7 => (intro w' hSw; obtain ⟨-, ⟨k0, k1, k2⟩, ⟨g0, g1, g2⟩⟩ := hSw; go_simp; try simp only [HM1.out, HM2.out, HP.out, HQ.out]; try with_reducible rfl)
    try simp only [Act.put, List.getElem_toArray, List.getElem_cons_zero, List.getElem_cons_succ, List.setIfInBounds_toArray, List.set_cons_zero, List.set_cons_succ]
    refine' wpAnyH_take (i := 8) (v := .pointer (some ⟨bx, 2, none⟩)) rfl (by kernel_rfl) (by kernel_rfl) (by kernel_rfl) (fun _ _ _ h => h) (Or.inl ⟨by rfl, ?hy8⟩) hS ?rest8
    case hy8 => (intro w' hSw; obtain ⟨-, ⟨k0, k1, k2⟩, ⟨g0, g1, g2⟩⟩ := hSw; go_simp; try simp only [HM1.out, HM2.out, HP.out, HQ.out]; try with_reducible rfl)
    try simp only [Act.put, List.getElem_toArray, List.getElem_cons_zero, List.getElem_cons_succ, List.setIfInBounds_toArray, List.set_cons_zero, List.set_cons_succ]
    refine' wpAnyH_take (i := 9) (v := .int .i64 o2) rfl (by kernel_rfl) (by kernel_rfl) (by kernel_rfl) (fun _ _ _ h => h) (Or.inl ⟨by rfl, ?hy9⟩) hS ?rest9
    case hy9 => (intro w' hSw; obtain ⟨-, ⟨k0, k1, k2⟩, ⟨g0, g1, g2⟩⟩ := hSw; go_simp; try simp only [HM1.out, HM2.out, HP.out, HQ.out]; try with_reducible rfl)
    try simp only [Act.put, List.getElem_toArray, List.getElem_cons_zero, List.getElem_cons_succ, List.setIfInBounds_toArray, List.set_cons_zero, List.set_cons_succ]
    refine' wpAnyH_take (i := 10) (v := .int .i64 (max o2 0)) rfl (by kernel_rfl) (by kernel_rfl) (by kernel_rfl) (fun _ _ _ h => h) (Or.inl ⟨by rfl, ?hy10⟩) hS ?rest10
    case hy10 => (intro w' hSw; obtain ⟨-, ⟨k0, k1, k2⟩, ⟨g0, g1, g2⟩⟩ := hSw; go_simp; try simp only [HM1.out, HM2.out, HP.out, HQ.out]; try with_reducible rfl)
    try simp only [Act.put, List.getElem_toArray, List.getElem_cons_zero, List.getElem_cons_succ, List.setIfInBounds_toArray, List.set_cons_zero, List.set_cons_succ]
    refine' wpAnyH_take (i := 11) (v := .int .i64 b1) rfl (by kernel_rfl) (by kernel_rfl) (by kernel_rfl) (fun _ _ _ h => h) (Or.inl ⟨by rfl, ?hy11⟩) hS ?rest11
    case hy11 => (intro w' hSw; obtain ⟨-, ⟨k0, k1, k2⟩, ⟨g0, g1, g2⟩⟩ := hSw; go_simp; try simp only [HM1.out, HM2.out, HP.out, HQ.out]; try with_reducible rfl)
    try simp only [Act.put, List.getElem_toArray, List.getElem_cons_zero, List.getElem_cons_succ, List.setIfInBounds_toArray, List.set_cons_zero, List.set_cons_succ]
    refine' wpAnyH_take (i := 12) (v := .int .i64 q) rfl (by kernel_rfl) (by kernel_rfl) (by kernel_rfl) (fun _ _ _ h => h) (Or.inl ⟨by rfl, ?hy12⟩) hS ?rest12
    case hy12 => (intro w' hSw; obtain ⟨-, ⟨k0, k1, k2⟩, ⟨g0, g1, g2⟩⟩ := hSw; go_simp; try simp only [HM1.out, HM2.out, HP.out, HQ.out]; try with_reducible rfl)
    try simp only [Act.put, List.getElem_toArray, List.getElem_cons_zero, List.getElem_cons_succ, List.setIfInBounds_toArray, List.set_cons_zero, List.set_cons_succ]
    refine' wpAnyH_take (i := 13) (v := .agg #[.int .i64 o0, .int .i64 p, .int .i64 q]) rfl (by kernel_rfl) (by kernel_rfl) (by kernel_rfl) (fun _ _ _ h => h) (Or.inl ⟨by rfl, ?hy13⟩) hS ?rest13
    case hy13 => (intro w' hSw; obtain ⟨-, ⟨k0, k1, k2⟩, ⟨g0, g1, g2⟩⟩ := hSw; go_simp; try simp only [HM1.out, HM2.out, HP.out, HQ.out]; try with_reducible rfl)
    try simp only [Act.put, List.getElem_toArray, List.getElem_cons_zero, List.getElem_cons_succ, List.setIfInBounds_toArray, List.set_cons_zero, List.set_cons_succ]
    refine' wpAnyH_take (i := 14) (v := .bool true) rfl (by kernel_rfl) (by kernel_rfl) (by kernel_rfl) (fun _ _ _ h => h) (Or.inl ⟨by rfl, ?hy14⟩) hS ?rest14
    case hy14 => (intro w' hSw; obtain ⟨-, ⟨k0, k1, k2⟩, ⟨g0, g1, g2⟩⟩ := hSw; go_simp; try simp only [HM1.out, HM2.out, HP.out, HQ.out]; try with_reducible rfl)
    try simp only [Act.put, List.getElem_toArray, List.getElem_cons_zero, List.getElem_cons_succ, List.setIfInBounds_toArray, List.set_cons_zero, List.set_cons_succ]
    refine' wpAnyH_take (i := 15) (v := .bool true) rfl (by kernel_rfl) (by kernel_rfl) (by kernel_rfl) (fun _ _ _ h => h) (Or.inl ⟨by rfl, ?hy15⟩) hS ?rest15
    case hy15 => (intro w' hSw; obtain ⟨-, ⟨k0, k1, k2⟩, ⟨g0, g1, g2⟩⟩ := hSw; go_simp; try simp only [HM1.out, HM2.out, HP.out, HQ.out]; try with_reducible rfl)
    try simp only [Act.put, List.getElem_toArray, List.getElem_cons_zero, List.getElem_cons_succ, List.setIfInBounds_toArray, List.set_cons_zero, List.set_cons_succ]
    refine wpAnyH_take (i := 16) (v := .agg (fc f).toArray) rfl (by kernel_rfl) (by kernel_rfl) (by kernel_rfl) (fun _ _ _ h => h) (yieldsIf_load_mid (by rfl) 51 (.tmp 7) rfl bf 0 rfl (fc f) _ (fun _ hw => hw.1) Try.underlying51 rfl size51) hS ?_
    try simp only [Act.put, List.getElem_toArray, List.getElem_cons_zero, List.getElem_cons_succ, List.setIfInBounds_toArray, List.set_cons_zero, List.set_cons_succ]
    refine' wpAnyH_take (i := 17) (v := .agg #[.int .i64 o0, .int .i64 p, .int .i64 q]) rfl (by kernel_rfl) (by kernel_rfl) (by kernel_rfl) (fun _ _ _ h => h) (Or.inl ⟨by rfl, ?hy17⟩) hS ?rest17
    case hy17 => (intro w' hSw; obtain ⟨-, ⟨k0, k1, k2⟩, ⟨g0, g1, g2⟩⟩ := hSw; go_simp; try simp only [HM1.out, HM2.out, HP.out, HQ.out]; try with_reducible rfl)
    try simp only [Act.put, List.getElem_toArray, List.getElem_cons_zero, List.getElem_cons_succ, List.setIfInBounds_toArray, List.set_cons_zero, List.set_cons_succ]
    refine' wpAnyH_take (i := 18) (v := .int .i64 s0) rfl (by kernel_rfl) (by kernel_rfl) (by kernel_rfl) (fun _ _ _ h => h) (Or.inl ⟨by rfl, ?hy18⟩) hS ?rest18
    case hy18 => (intro w' hSw; obtain ⟨-, ⟨k0, k1, k2⟩, ⟨g0, g1, g2⟩⟩ := hSw; go_simp; try simp only [HM1.out, HM2.out, HP.out, HQ.out]; try with_reducible rfl)
    try simp only [Act.put, List.getElem_toArray, List.getElem_cons_zero, List.getElem_cons_succ, List.setIfInBounds_toArray, List.set_cons_zero, List.set_cons_succ]
    refine' wpAnyH_take (i := 19) (v := .int .i64 s1) rfl (by kernel_rfl) (by kernel_rfl) (by kernel_rfl) (fun _ _ _ h => h) (Or.inl ⟨by rfl, ?hy19⟩) hS ?rest19
    case hy19 => (intro w' hSw; obtain ⟨-, ⟨k0, k1, k2⟩, ⟨g0, g1, g2⟩⟩ := hSw; go_simp; try simp only [HM1.out, HM2.out, HP.out, HQ.out]; try with_reducible rfl)
    try simp only [Act.put, List.getElem_toArray, List.getElem_cons_zero, List.getElem_cons_succ, List.setIfInBounds_toArray, List.set_cons_zero, List.set_cons_succ]
    refine' wpAnyH_take (i := 21) (v := .agg #[.int .i64 o0, .int .i64 p, .int .i64 q]) rfl (by kernel_rfl) (by kernel_rfl) (by kernel_rfl) (fun _ _ _ h => h) (Or.inl ⟨by rfl, ?hy21⟩) hS ?rest21
    case hy21 => (intro w' hSw; obtain ⟨-, ⟨k0, k1, k2⟩, ⟨g0, g1, g2⟩⟩ := hSw; go_simp; try simp only [HM1.out, HM2.out, HP.out, HQ.out]; try with_reducible rfl)
    try simp only [Act.put, List.getElem_toArray, List.getElem_cons_zero, List.getElem_cons_succ, List.setIfInBounds_toArray, List.set_cons_zero, List.set_cons_succ]
    refine held_one (i := 20) rfl (by kernel_rfl) ?_
    intro K' hK; have HK' := Lib.hid hK; clear hK
    refine wp_call_w (by kernel_rfl) (by rfl) Try.func19 (by kernel_rfl) (by kernel_rfl) (by kernel_rfl) (clamp_n f o0 p q s0 s1 _ (fts_at H10.out.drew (.tail _ (.tail _ (.tail _ (.head _)))) f (by simp)) hfs p q HDP.out HDQ.out) ?_
    rintro e w12 ⟨rfl, hb12⟩
    have H12 := Lib.hid (H10.out.drew.of_below hb12)
    obtain ⟨g0, g1, g2, -⟩ := H12.out.blk.1.three
    obtain ⟨x0, x1, x2, -⟩ := (H12.out.blkm (b := bx) (.tail _ (.head _))).three
    have hS12 := And.intro (H12.out.blkm (b := bf) (.tail _ (.tail _ (.head _)))).range (And.intro (And.intro x0 (And.intro x1 x2)) (And.intro g0 (And.intro g1 g2)))
    refine ⟨_, rfl, HK'.out _ _ ⟨hS12, ?_⟩⟩
    clear HK' K' x0 x1 x2 hS hb12
    try simp only [Act.put, List.getElem_toArray, List.getElem_cons_zero, List.getElem_cons_succ, List.setIfInBounds_toArray, List.set_cons_zero, List.set_cons_succ]
    refine held_one (i := 22) rfl (by kernel_rfl) ?_
    intro K' hK; have HK' := Lib.hid hK; clear hK
    go_simp
    refine HK'.out _ _ ⟨hS12, ?_⟩
    clear HK' K'
    try simp only [Act.put, List.getElem_toArray, List.getElem_cons_zero, List.getElem_cons_succ, List.setIfInBounds_toArray, List.set_cons_zero, List.set_cons_succ]
    refine held_one (i := 23) rfl (by kernel_rfl) ?_
    intro K' hK; have HK' := Lib.hid hK; clear hK
    go_simp
    refine HK'.out _ _ ⟨hS12, ?_⟩
    clear HK' K'
    try simp only [Act.put, List.getElem_toArray, List.getElem_cons_zero, List.getElem_cons_succ, List.setIfInBounds_toArray, List.set_cons_zero, List.set_cons_succ]
    refine held_one (i := 24) rfl (by kernel_rfl) ?_
    intro K' hK; have HK' := Lib.hid hK; clear hK
    go_simp
    refine HK'.out _ _ ⟨hS12, ?_⟩
    clear HK' K'
    try simp only [Act.put, List.getElem_toArray, List.getElem_cons_zero, List.getElem_cons_succ, List.setIfInBounds_toArray, List.set_cons_zero, List.set_cons_succ]
    refine wpAnyH_done (by kernel_rfl) ?_ _
    go_wp2_with fail
    go_ret
    exact ⟨rfl, H12.out.bel⟩
end Go.Proofs.Ytfjjgebfeklnhaa
