/-
  task of a State.
-/
import Derived.Test.YtnamkckpgaopkaaLp
import Derived.Test.YtnamkckpgaopkaaKb
set_option linter.unusedVariables false
set_option linter.unusedSimpArgs false
namespace Go.Proofs.Ytnamkckpgaopkaa
open Go.RowKit Go.K

theorem again_st {w0 w : World} {L : List As} {b : Nat} {S : LS} (id ev : Int) (h : St w0 w (stO b S :: L)) (hB : Bnd S) (h0 : 0 ≤ ev) (h1 : ev ≤ 1099511627776) :
    Calls Try.prog 62 #[.pointer (some ⟨b, 8, none⟩), .int .i64 id, .int .i64 (S.now + ev)] w fun E w' => (∃ r, E = .returned (.bool r)) ∧ ∃ S', AgainR S id ev S' ∧ St w0 w' (stO b S' :: L) := by
  obtain ⟨p, G, hb, h⟩ := st_open h
  refine (tagain_st id (S.now + ev) (foc_t h) hB.tm hB.nx0 hB.nx1).mono ?_
  rintro e w' (⟨a1, a2, a3, rfl, i, hf, h3⟩ | ⟨a1, rfl, h3⟩)
  · obtain ⟨p', h4⟩ := unf_t h3
    exact ⟨⟨_, rfl⟩, _, .inl ⟨a1, a2, a3, i, hf, rfl⟩, st_shut ⟨hb.calls, hb.jobs⟩ h4⟩
  · obtain ⟨p', h4⟩ := unf_t h3
    exact ⟨⟨_, rfl⟩, S, .inr ⟨a1, rfl⟩, st_shut ⟨hb.calls, hb.jobs⟩ h4⟩
theorem tot_pop2 {S : LS} {x : Qt} {r : List Qt} (h : S.q 2 = x :: r) : tot (popS S 2 r) < tot S := by
  unfold tot popS LS.setQ upd
  simp [h]
theorem bnd_pop {S : LS} (h : Bnd S) (i : Nat) {r : List Qt} (hr : r.length ≤ (S.q i).length) (hi : i ≠ 0) : Bnd (popS S i r) := by
  refine ⟨fun j => ?_, h.tm, h.calls, h.shots, h.jobs, h.nx0, h.nx1, h.ord0, h.ord1, h.now0, h.now1, h.last0, h.last1, ?_, ?_, h.ev, h.sh0, h.sh1⟩
  · simp only [popS, LS.setQ, upd]
    split
    · have := h.q i; omega
    · exact h.q j
  · simp [popS, hi]
  · simp [popS, hi]
theorem _root_.Go.K.St.drop_mid {w0 w : World} {A B C D : As} {L : List As} (h : St w0 w (A :: B :: C :: D :: L)) : St w0 w (A :: C :: L) := h.swap.drop.front2.drop
set_option maxRecDepth 100000 in
set_option maxHeartbeats 4000000 in
theorem task_st {w0 w : World} {L : List As} {b : Nat} {S : LS} (h : St w0 w (stO b S :: L)) (hB : Bnd S) :
    Calls Try.prog 32 #[.pointer (some ⟨b, 0, none⟩)] w (TaskPost S b w0 L) := by
  have h1 := h.new Ch.z.cells.toArray 50
  have H1 := Lib.hid h1
  have HBD := Lib.hid hB
  clear h h1 hB
  have z50 : ∀ w, (zeroValue 50).run Try.prog w = .ok (.agg #[.int .i64 0, .int .i64 0, .slice none 0 0, .int .i64 0, .int .i64 0, .int .i64 0, .string { data := #[] }, .slice none 0 0, .int .i64 0, .int .i64 0, .int .i64 0, .int .i64 0, .string { data := #[] }, .int .i64 0, .slice none 0 0, .slice none 0 0]) w := zv50
  go_enter Try.func32, Try.ntmps32
  go_wp2_with fail
  obtain ⟨m, hm⟩ : ∃ m, w.heap.size = m := ⟨_, rfl⟩
  rw [hm] at H1
  simp only [hm]
  clear hm
  go_loopg [] (tot S) (TkRel S b m w0 L)
  case atStart => exact ⟨S, rfl, fun _ _ h => h, HBD.out, H1.out⟩
  case round =>
    obtain ⟨S1, hg, hT, hB, h1⟩ := hrel
    have Hg := Lib.hid hg
    have HT := Lib.hid hT
    have HB := Lib.hid hB
    have H2 := Lib.hid h1
    clear hg hT hB h1 H1 HBD
    rcases src_cases S1 with hneg | ⟨i, x, r, hi, hsrc, hq⟩
    · have HN := Lib.hid hneg
      go_upto_region 3 with (go_at_call 60; refine (source_st H2.out.swap HB.out.q).mono ?_; rintro e w2 ⟨rfl, hb2⟩; have H3 := Lib.hid (H2.out.of_below hb2); clear hb2)
      go_wp2_with (first
        | (refine st_store rfl (.tmp 2) (.tmp 12) rfl H3.out Ch.z.cells rfl rfl rfl rfl size50 (Ch.one _) ?_; intro W4 HW4; have H4 := Lib.hid HW4; clear HW4))
      refine bodyPost_ret (results_cell_row (P := Try.prog) Try.results32 _ _ m 50 Ch.z.cells.toArray _ _ rfl H4.out.blk.1 Try.underlying50 rfl size50) rfl ?_
      exact ⟨S1, Ch.z, rfl, HT.out _ _ (.none HN.out), H4.out.drop⟩
    · have hsI : ¬ (srcR S1 < 0) := by omega
      have HSRC := Lib.hid hsrc
      have HQ := Lib.hid hq
      have hiI0 : (0 : Int) ≤ (i : Int) := by omega
      have hiI5 : (i : Int) < 5 := by omega
      clear hsrc hq hsI
      go_upto_region 4 with (go_at_call 60; refine (source_st H2.out.swap HB.out.q).mono ?_; rintro e w2 ⟨rfl, hb2⟩; rw [HSRC.out]; have H3 := Lib.hid (H2.out.of_below hb2); clear hb2)
      go_upto_region 5 with (go_at_call 61; refine (pop_st hi HQ.out (HB.out.q i) H3.out.swap).mono ?_; rintro e w3 ⟨rfl, h4⟩; have H4 := Lib.hid (h4.new x.cells.toArray 91); clear h4; simp only [Qt.cells])
      obtain ⟨m4, hm4⟩ : ∃ b, w3.heap.size = b := ⟨_, rfl⟩
      obtain ⟨W4, hW4⟩ : ∃ W4, w3.alloc (.cells #[.int .i64 x.o, .int .i64 x.k, .int .i64 x.n, .string { data := #[] }, .slice none 0 0] 91) = W4 := ⟨_, rfl⟩
      have h4' : St w0 W4 (As.cells m4 x.cells.toArray 91 :: stO b (S1.setQ i r) :: As.cells m Ch.z.cells.toArray 50 :: L) := by
        rw [← hW4, ← hm4]
        exact H4.out
      rw [hW4]
      simp only [hm4]
      clear H4 hW4 hm4
      have H4 := Lib.hid h4'
      clear h4'
      by_cases hi0 : i = 0
      · subst hi0
        have HZ := Lib.hid (rfl : (0 : Nat) = 0)
        have hu0 := HB.out.us0
        have hu1 := HB.out.us1
        have hwu : IntKind.i64.wrap (S1.users + 1) = S1.users + 1 := by rw [IntKind.wrap_i64]; omega
        obtain ⟨p5, G5, hbg, h5⟩ := st_open H4.out.swap
        obtain ⟨k0, k1, k2, k3, k4, -⟩ := H4.out.blk.1.c5
        obtain ⟨-, -, -, -, -, -, c15'⟩ := st_c h5
        have c15 : W4.cell? ⟨b, 15, none⟩ = some (.int .i64 S1.users) := c15'
        clear c15'
        have f15 := h5.free 15
        have HBG := Lib.hid hbg
        have H5 := Lib.hid h5
        clear hbg h5 HZ
        go_upto_region 8 with fail
        have h6 := H5.out.set 15 (.int .i64 (S1.users + 1))
        rw [set_users] at h6
        obtain ⟨W6, hW6⟩ : ∃ W6, W4.setCell ⟨b, 15, none⟩ (.int .i64 (S1.users + 1)) = W6 := ⟨_, rfl⟩
        have h6' : St w0 W6 (stL b (popS S1 0 r) p5 G5 ++ (As.cells m4 x.cells.toArray 91 :: As.cells m Ch.z.cells.toArray 50 :: L)) := by
          rw [show popS S1 0 r = { S1.setQ 0 r with users := S1.users + 1 } from rfl, ← hW6]
          exact h6
        rw [hW6]
        clear h6 hW6 k0 k1 k2 k3 k4 c15 f15 H4 H5
        have H6 := Lib.hid (st_shut (S := popS S1 0 r) ⟨HBG.out.calls, HBG.out.jobs⟩ h6')
        clear h6' HBG
        obtain ⟨k0, k1, k2, k3, k4, -⟩ := (H6.out.blkm (b := m4) (.tail _ (.head _))).c5
        have H7 := Lib.hid (H6.out.new Ch.z.cells.toArray 50)
        go_upto_region 9 with (first
          | (refine st_store rfl (.tmp 6) (.tmp 37) rfl H7.out (chP 0 x).cells rfl rfl rfl rfl size50 (Ch.one _) ?_; intro W8 HW8; have H8 := Lib.hid HW8; clear HW8))
        obtain ⟨m6, hm6⟩ : ∃ b, W6.heap.size = b := ⟨_, rfl⟩
        rw [hm6] at H8
        simp only [hm6]
        clear H7 H6 hm6
        clear k0 k1 k2 k3 k4
        obtain ⟨k0, k1, k2, k3, k4, -⟩ := (H8.out.blkm (b := m4) (.tail _ (.tail _ (.head _)))).c5
        go_wp2_with (first
          | (refine st_load rfl (.tmp 6) rfl ((chP 0 x).cells) H8.out (.head _) rfl rfl Try.underlying50 rfl size50 ?_)
          | (refine st_store rfl (.tmp 2) (.tmp 46) rfl (st_rev4 H8.out) ((chP 0 x).cells) rfl rfl rfl rfl size50 (Ch.one _) ?_; intro W9 HW9; have H9 := Lib.hid HW9; clear HW9))
        refine bodyPost_ret (results_cell_row (P := Try.prog) Try.results32 _ _ m 50 ((chP 0 x).cells).toArray _ _ rfl H9.out.blk.1 Try.underlying50 rfl size50) rfl ?_
        exact ⟨_, _, rfl, HT.out _ _ (.plain HSRC.out hi HQ.out (fun q => absurd q.1 (by decide))), H9.out.drop.drop.swap.drop⟩
      · by_cases hi2 : i = 2
        · subst hi2
          have HZ := Lib.hid hi0
          clear hi0
          by_cases hk : x.k = 0
          · have HK := Lib.hid hk
            clear hk
            obtain ⟨p5, G5, hbg, h5⟩ := st_open H4.out.swap
            obtain ⟨k0, k1, k2, k3, k4, -⟩ := H4.out.blk.1.c5
            obtain ⟨-, -, -, -, -, -, c15'⟩ := st_c h5
            have c15 : W4.cell? ⟨b, 15, none⟩ = some (.int .i64 S1.users) := c15'
            clear c15'
            have f15 := h5.free 15
            have HBG := Lib.hid hbg
            have H5 := Lib.hid h5
            clear hbg h5 HZ
            go_upto_region 8 with fail
            have h6 := H5.out.set 15 (.int .i64 (0))
            rw [set_users] at h6
            obtain ⟨W6, hW6⟩ : ∃ W6, W4.setCell ⟨b, 15, none⟩ (.int .i64 (0)) = W6 := ⟨_, rfl⟩
            have h6' : St w0 W6 (stL b (popS S1 2 r) p5 G5 ++ (As.cells m4 x.cells.toArray 91 :: As.cells m Ch.z.cells.toArray 50 :: L)) := by
              rw [show popS S1 2 r = { S1.setQ 2 r with users := 0 } from rfl, ← hW6]
              exact h6
            rw [hW6]
            clear h6 hW6 k0 k1 k2 k3 k4 c15 f15 H4 H5
            have H6 := Lib.hid (st_shut (S := popS S1 2 r) ⟨HBG.out.calls, HBG.out.jobs⟩ h6')
            clear h6' HBG
            obtain ⟨k0, k1, k2, k3, k4, -⟩ := (H6.out.blkm (b := m4) (.tail _ (.head _))).c5
            have H7 := Lib.hid (H6.out.new Ch.z.cells.toArray 50)
            go_upto_region 9 with (first
              | (refine st_store rfl (.tmp 6) (.tmp 37) rfl H7.out (chP 2 x).cells rfl rfl rfl rfl size50 (Ch.one _) ?_; intro W8 HW8; have H8 := Lib.hid HW8; clear HW8))
            obtain ⟨m6, hm6⟩ : ∃ b, W6.heap.size = b := ⟨_, rfl⟩
            rw [hm6] at H8
            simp only [hm6]
            clear H7 H6 hm6
            clear k0 k1 k2 k3 k4
            obtain ⟨k0, k1, k2, k3, k4, -⟩ := (H8.out.blkm (b := m4) (.tail _ (.tail _ (.head _)))).c5
            rw [HK.out] at k1
            have HBP := Lib.hid (bnd_pop HB.out 2 (r := r) (by rw [HQ.out]; simp) (by omega))
            obtain ⟨S2, hS2⟩ : ∃ S2, popS S1 2 r = S2 := ⟨_, rfl⟩
            rw [hS2] at H8 HBP
            have hcal : S2.calls = S1.calls := by rw [← hS2]; rfl
            have HCAL := Lib.hid hcal
            have HS2 := Lib.hid hS2
            clear hS2 hcal
            cases hf : S2.calls.findIdx? (fun c => c.id == x.n) with
            | none =>
              have hix : ixC S2.calls x.n = -1 := by simp [ixC, hf]
              have HIX := Lib.hid hix
              have HF := Lib.hid hf
              clear hf hix
              go_wp2_with (go_at_call 35; refine (call_st x.n H8.out.swap HBP.out.calls).mono ?_; rintro e wA ⟨rfl, hbA⟩; have HA := Lib.hid (H8.out.of_below hbA); clear hbA; simp only [HIX.out])
              go_roundg (tot S2)
              case measure =>
                have := Hg.out
                rw [this, ← HS2.out]
                exact tot_pop2 HQ.out
              case rel =>
                refine ⟨S2, rfl, fun S' y hy => HT.out _ _ (.skip HSRC.out HQ.out HK.out (by rw [← HCAL.out]; exact HF.out) (by rw [HS2.out]; exact hy)), HBP.out, ?_⟩
                exact (st_rev4 HA.out).drop_mid
            | some j =>
              have hix : ixC S2.calls x.n = j := by simp [ixC, hf]
              have hj : j < S2.calls.length := (List.findIdx?_eq_some_iff_getElem.1 hf).1
              have HIX := Lib.hid hix
              have HF := Lib.hid hf
              have hj0 : (0 : Int) ≤ (j : Int) := by omega
              have hjI : (j : Int) < (S2.calls.length : Int) := by omega
              clear hf hix
              go_upto_region 13 with (go_at_call 35; refine (call_st x.n H8.out.swap HBP.out.calls).mono ?_; rintro e wA ⟨rfl, hbA⟩; have HA := Lib.hid (H8.out.of_below hbA); clear hbA; simp only [HIX.out])
              clear k0 k1 k2 k3 k4
              obtain ⟨c, hc⟩ : ∃ c, S2.calls[j] = c := ⟨_, rfl⟩
              obtain ⟨p7, G7, hbg, h7⟩ := st_open HA.out.swap
              have hcm : c ∈ S2.calls := by rw [← hc]; exact List.getElem_mem hj
              obtain ⟨xs, hxs⟩ := hbg.calls c hcm
              have hev := HBP.out.ev c hcm
              have HXS := Lib.hid hxs
              have HBG := Lib.hid hbg
              have hcr := (foc_c h7).swap.sl.rd
              obtain ⟨gc, oc, hpc, -⟩ := hcr.addr (by omega)
              obtain ⟨-, -, c10, -⟩ := st_s h7
              rw [hpc] at hcr c10
              obtain ⟨e0, e1, e2, e3, e4, e5, e6⟩ := atC hcr hj c hc
              have HC := Lib.hid (show S2.calls[j]? = some c by rw [List.getElem?_eq_getElem hj, hc])
              obtain ⟨yid, yev, yvk, yfn, ya, yan, yac⟩ := c
              simp only [Cl.cells, List.getElem?_cons_zero, List.getElem?_cons_succ] at e0 e1 e2 e3 e4 e5 e6
              have H7 := Lib.hid h7
              have HEV := Lib.hid hev
              have hlm : b ≠ m6 := h7.ne (.tail _ (.tail _ (.tail _ (.tail _ (.tail _ (.tail _ (.tail _ (.tail _ (.tail _ (.tail _ (.head _)))))))))))
              have hbm := h7.blkm (b := m6) (.tail _ (.tail _ (.tail _ (.tail _ (.tail _ (.tail _ (.tail _ (.tail _ (.tail _ (.tail _ (.tail _ (.head _))))))))))))
              have t8 := hbm.cell 8
              have t9 := hbm.cell 9
              have t10 := hbm.cell 10
              have t11 := hbm.cell 11
              have t12 := hbm.cell 12
              have t13 := hbm.cell 13
              have t14 := hbm.cell 14
              simp [chP, Ch.z, Ch.cells, Cl.z] at t8 t9 t10 t11 t12 t13 t14
              have u8 := hbm.free 8
              have u9 := hbm.free 9
              have u10 := hbm.free 10
              have u11 := hbm.free 11
              have u12 := hbm.free 12
              have u13 := hbm.free 13
              have u14 := hbm.free 14
              clear hbm
              clear hbg hxs hcm hc h7 hcr hpc hev
              go_upto_region 14 with fail
              have h13 := (((((((st_out H7.out).set 8 (.int .i64 yid)).set 9 (.int .i64 yev)).set 10 (.int .i64 yvk)).set 11 (.int .i64 yfn)).set 12 (.string { data := #[] })).set 13 (.int .i64 0)).set 14 (.slice ya yan yac)
              obtain ⟨W13, hW13⟩ : ∃ W, ((((((wA.setCell ⟨m6, 8, none⟩ (.int .i64 yid)).setCell ⟨m6, 9, none⟩ (.int .i64 yev)).setCell ⟨m6, 10, none⟩ (.int .i64 yvk)).setCell ⟨m6, 11, none⟩ (.int .i64 yfn)).setCell ⟨m6, 12, none⟩ (.string { data := #[] })).setCell ⟨m6, 13, none⟩ (.int .i64 0)).setCell ⟨m6, 14, none⟩ (.slice ya yan yac) = W := ⟨_, rfl⟩
              rw [hW13] at h13
              rw [hW13]
              have H13 := Lib.hid (show St w0 W13 (As.cells m6 ({ chP 2 x with c := ⟨yid, yev, yvk, yfn, ya, yan, yac⟩ } : Ch).cells.toArray 50 :: (stL b S2 p7 G7 ++ (As.cells m4 x.cells.toArray 91 :: As.cells m Ch.z.cells.toArray 50 :: L))) from by simpa [chP, Ch.z, Ch.cells, Cl.z] using h13)
              clear h13 hW13 H7 HA H8 t8 t9 t10 t11 t12 t13 t14 u8 u9 u10 u11 u12 u13 u14 e0 e1 e2 e3 e4 e5 e6 c10
              have t14 := H13.out.cell 14
              simp [chP, Ch.z, Ch.cells, Cl.z] at t14
              obtain ⟨hrc, hrn⟩ := bg_rc H13.out (.tail _ (.tail _ (.tail _ (.tail _ (.tail _ (.tail _ (.tail _ (.tail _ (.tail _ (.tail _ (.tail _ (.head _)))))))))))) HXS.out
              have HRC := Lib.hid hrc
              simp only at hrn
              clear hrc
              go_upto_region 15 with (go_at_call 34; refine (cloneV ya yan yac xs _ HRC.out.rd HRC.out.nil (by omega)).mono ?_; rintro e w14 ⟨s14, c14, rfl, g1, g2, g3⟩; have H14 := Lib.hid (H13.out.of_fr g2); clear g1 g2 g3; have v14 := H14.out.cell 14; have f14 := H14.out.free 14; simp [chP, Ch.z, Ch.cells, Cl.z] at v14)
              have h15 := H14.out.set 14 (.slice s14 yan c14)
              obtain ⟨W15, hW15⟩ : ∃ W, w14.setCell ⟨m6, 14, none⟩ (.slice s14 yan c14) = W := ⟨_, rfl⟩
              rw [hW15] at h15
              rw [hW15]
              have h15' : St w0 W15 (As.cells m6 ({ chP 2 x with c := ⟨yid, yev, yvk, yfn, s14, yan, c14⟩ } : Ch).cells.toArray 50 :: (stL b S2 p7 G7 ++ (As.cells m4 x.cells.toArray 91 :: As.cells m Ch.z.cells.toArray 50 :: L))) := by simpa [chP, Ch.z, Ch.cells, Cl.z] using h15
              have H15 := Lib.hid (st_shut HBG.out (st_in h15')).swap
              clear h15 h15' hW15 H13 H14 t14 v14 f14
              have t8 := H15.out.cell 8
              have t9 := H15.out.cell 9
              simp [chP, Ch.z, Ch.cells, Cl.z] at t8 t9
              by_cases he : yev = 0
              · have HE := Lib.hid he
                have heb : (yev != 0) = false := by simp [he]
                clear he
                go_upto_region 18 with (go_at_call 16; refine (clear_st yid H15.out.swap HBP.out.calls HBP.out.tm).mono ?_; rintro e w16 ⟨rfl, h16⟩; have H16 := Lib.hid h16.swap; clear h16 t8 t9)
                go_wp2_with (first
                  | (refine st_load rfl (.tmp 6) rfl (({ chP 2 x with c := ⟨yid, yev, yvk, yfn, s14, yan, c14⟩ } : Ch).cells) H16.out (.head _) rfl rfl Try.underlying50 rfl size50 ?_)
                  | (refine st_store rfl (.tmp 2) (.tmp 92) rfl (st_rev4 H16.out) (({ chP 2 x with c := ⟨yid, yev, yvk, yfn, s14, yan, c14⟩ } : Ch).cells) rfl rfl rfl rfl size50 (Ch.one _) ?_; intro W9 HW9; have H9 := Lib.hid HW9; clear HW9))
                refine bodyPost_ret (results_cell_row (P := Try.prog) Try.results32 _ _ m 50 (({ chP 2 x with c := ⟨yid, yev, yvk, yfn, s14, yan, c14⟩ } : Ch).cells).toArray _ _ rfl H9.out.blk.1 Try.underlying50 rfl size50) rfl ?_
                exact ⟨_, _, rfl, HT.out _ _ (by have q := TaskR.once (a := s14) (ac := c14) HSRC.out HQ.out HK.out (by rw [← HCAL.out]; exact HF.out) (by rw [← HCAL.out]; exact HC.out) HE.out; rw [HS2.out] at q; exact q), H9.out.drop.drop.swap.drop⟩
              · have HE := Lib.hid he
                have heb : (yev != 0) = true := by simp [he]
                clear he
                have hev0 := HEV.out.1
                have hev1 := HEV.out.2
                have hno0 := HBP.out.now0
                have hno1 := HBP.out.now1
                try simp only at hev0 hev1
                have hwn : IntKind.i64.wrap (S2.now + yev) = S2.now + yev := by rw [IntKind.wrap_i64]; omega
                obtain ⟨p9, G9, -, h9⟩ := st_open H15.out.swap
                obtain ⟨c0, -⟩ := st_c h9
                clear h9
                go_upto_region 16 with fail
                go_still_tail 14, (by kernel_rfl)
                change wpList _ _ _ _ _ W15.drew
                have H15d := Lib.hid H15.out.drew
                clear H15 t8 t9 c0
                go_upto_region 18 with (go_at_call 62; refine (again_st yid yev H15d.out.swap HBP.out hev0 hev1).mono ?_; rintro e w16 ⟨⟨rb, rfl⟩, S4, hag, h16⟩; have HAG := Lib.hid hag; have H16 := Lib.hid h16.swap; clear h16 hag)
                go_wp2_with (first
                  | (refine st_load rfl (.tmp 6) rfl (({ chP 2 x with c := ⟨yid, yev, yvk, yfn, s14, yan, c14⟩ } : Ch).cells) H16.out (.head _) rfl rfl Try.underlying50 rfl size50 ?_)
                  | (refine st_store rfl (.tmp 2) (.tmp 92) rfl (st_rev4 H16.out) (({ chP 2 x with c := ⟨yid, yev, yvk, yfn, s14, yan, c14⟩ } : Ch).cells) rfl rfl rfl rfl size50 (Ch.one _) ?_; intro W9 HW9; have H9 := Lib.hid HW9; clear HW9))
                refine bodyPost_ret (results_cell_row (P := Try.prog) Try.results32 _ _ m 50 (({ chP 2 x with c := ⟨yid, yev, yvk, yfn, s14, yan, c14⟩ } : Ch).cells).toArray _ _ rfl H9.out.blk.1 Try.underlying50 rfl size50) rfl ?_
                exact ⟨_, _, rfl, HT.out _ _ (by rw [← HS2.out] at HAG; exact TaskR.again (a := s14) (ac := c14) HSRC.out HQ.out HK.out (by rw [← HCAL.out]; exact HF.out) (by rw [← HCAL.out]; exact HC.out) HE.out HAG.out), H9.out.drop.drop.swap.drop⟩
          · have hkb : (x.k != 0) = true := by simp [hk]
            have HK := Lib.hid hk
            clear hk
            obtain ⟨p5, G5, hbg, h5⟩ := st_open H4.out.swap
            obtain ⟨k0, k1, k2, k3, k4, -⟩ := H4.out.blk.1.c5
            obtain ⟨-, -, -, -, -, -, c15'⟩ := st_c h5
            have c15 : W4.cell? ⟨b, 15, none⟩ = some (.int .i64 S1.users) := c15'
            clear c15'
            have f15 := h5.free 15
            have HBG := Lib.hid hbg
            have H5 := Lib.hid h5
            clear hbg h5 HZ
            go_upto_region 8 with fail
            have h6 := H5.out.set 15 (.int .i64 (0))
            rw [set_users] at h6
            obtain ⟨W6, hW6⟩ : ∃ W6, W4.setCell ⟨b, 15, none⟩ (.int .i64 (0)) = W6 := ⟨_, rfl⟩
            have h6' : St w0 W6 (stL b (popS S1 2 r) p5 G5 ++ (As.cells m4 x.cells.toArray 91 :: As.cells m Ch.z.cells.toArray 50 :: L)) := by
              rw [show popS S1 2 r = { S1.setQ 2 r with users := 0 } from rfl, ← hW6]
              exact h6
            rw [hW6]
            clear h6 hW6 k0 k1 k2 k3 k4 c15 f15 H4 H5
            have H6 := Lib.hid (st_shut (S := popS S1 2 r) ⟨HBG.out.calls, HBG.out.jobs⟩ h6')
            clear h6' HBG
            obtain ⟨k0, k1, k2, k3, k4, -⟩ := (H6.out.blkm (b := m4) (.tail _ (.head _))).c5
            have H7 := Lib.hid (H6.out.new Ch.z.cells.toArray 50)
            go_upto_region 9 with (first
              | (refine st_store rfl (.tmp 6) (.tmp 37) rfl H7.out (chP 2 x).cells rfl rfl rfl rfl size50 (Ch.one _) ?_; intro W8 HW8; have H8 := Lib.hid HW8; clear HW8))
            obtain ⟨m6, hm6⟩ : ∃ b, W6.heap.size = b := ⟨_, rfl⟩
            rw [hm6] at H8
            simp only [hm6]
            clear H7 H6 hm6
            clear k0 k1 k2 k3 k4
            obtain ⟨k0, k1, k2, k3, k4, -⟩ := (H8.out.blkm (b := m4) (.tail _ (.tail _ (.head _)))).c5
            go_wp2_with (first
              | (refine st_load rfl (.tmp 6) rfl ((chP 2 x).cells) H8.out (.head _) rfl rfl Try.underlying50 rfl size50 ?_)
              | (refine st_store rfl (.tmp 2) (.tmp 46) rfl (st_rev4 H8.out) ((chP 2 x).cells) rfl rfl rfl rfl size50 (Ch.one _) ?_; intro W9 HW9; have H9 := Lib.hid HW9; clear HW9))
            refine bodyPost_ret (results_cell_row (P := Try.prog) Try.results32 _ _ m 50 ((chP 2 x).cells).toArray _ _ rfl H9.out.blk.1 Try.underlying50 rfl size50) rfl ?_
            exact ⟨_, _, rfl, HT.out _ _ (.plain HSRC.out hi HQ.out (fun q => HK.out q.2)), H9.out.drop.drop.swap.drop⟩
        · have HZ := Lib.hid hi0
          have HZ2 := Lib.hid hi2
          have hib : ((i : Int) == 0) = false := by simp [hi0]
          have hib2 : ((i : Int) != 2) = true := by simp; omega
          clear hi0 hi2
          obtain ⟨p5, G5, hbg, h5⟩ := st_open H4.out.swap
          obtain ⟨k0, k1, k2, k3, k4, -⟩ := H4.out.blk.1.c5
          obtain ⟨-, -, -, -, -, -, c15'⟩ := st_c h5
          have c15 : W4.cell? ⟨b, 15, none⟩ = some (.int .i64 S1.users) := c15'
          clear c15'
          have f15 := h5.free 15
          have HBG := Lib.hid hbg
          have H5 := Lib.hid h5
          clear hbg h5
          go_upto_region 8 with fail
          have h6 := H5.out.set 15 (.int .i64 (0))
          rw [set_users] at h6
          obtain ⟨W6, hW6⟩ : ∃ W6, W4.setCell ⟨b, 15, none⟩ (.int .i64 (0)) = W6 := ⟨_, rfl⟩
          have h6' : St w0 W6 (stL b (popS S1 i r) p5 G5 ++ (As.cells m4 x.cells.toArray 91 :: As.cells m Ch.z.cells.toArray 50 :: L)) := by
            rw [show popS S1 i r = { S1.setQ i r with users := 0 } by simp [popS, HZ.out], ← hW6]
            exact h6
          rw [hW6]
          clear h6 hW6 k0 k1 k2 k3 k4 c15 f15 H4 H5
          have H6 := Lib.hid (st_shut (S := popS S1 i r) ⟨HBG.out.calls, HBG.out.jobs⟩ h6')
          clear h6' HBG
          obtain ⟨k0, k1, k2, k3, k4, -⟩ := (H6.out.blkm (b := m4) (.tail _ (.head _))).c5
          have H7 := Lib.hid (H6.out.new Ch.z.cells.toArray 50)
          go_upto_region 9 with (first
            | (refine st_store rfl (.tmp 6) (.tmp 37) rfl H7.out (chP i x).cells rfl rfl rfl rfl size50 (Ch.one _) ?_; intro W8 HW8; have H8 := Lib.hid HW8; clear HW8))
          obtain ⟨m6, hm6⟩ : ∃ b, W6.heap.size = b := ⟨_, rfl⟩
          rw [hm6] at H8
          simp only [hm6]
          clear H7 H6 hm6
          clear k0 k1 k2 k3 k4
          obtain ⟨k0, k1, k2, k3, k4, -⟩ := (H8.out.blkm (b := m4) (.tail _ (.tail _ (.head _)))).c5
          go_wp2_with (first
            | (refine st_load rfl (.tmp 6) rfl ((chP i x).cells) H8.out (.head _) rfl rfl Try.underlying50 rfl size50 ?_)
            | (refine st_store rfl (.tmp 2) (.tmp 46) rfl (st_rev4 H8.out) ((chP i x).cells) rfl rfl rfl rfl size50 (Ch.one _) ?_; intro W9 HW9; have H9 := Lib.hid HW9; clear HW9))
          refine bodyPost_ret (results_cell_row (P := Try.prog) Try.results32 _ _ m 50 ((chP i x).cells).toArray _ _ rfl H9.out.blk.1 Try.underlying50 rfl size50) rfl ?_
          exact ⟨_, _, rfl, HT.out _ _ (.plain HSRC.out hi HQ.out (fun q => HZ2.out q.1)), H9.out.drop.drop.swap.drop⟩


end Go.Proofs.Ytnamkckpgaopkaa
