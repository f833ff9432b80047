/-
  The walk of HitReveals.
-/
import Derived.Test.YtfjjgebfeklnhaaIz
set_option linter.unusedVariables false
set_option linter.unusedSimpArgs false
namespace Go.Proofs.Ytfjjgebfeklnhaa
open Go.RowKit Go.K

theorem st_load_w {P : Program} {w0 w : World} {L : List As} {ops : Array Oper} {rest : List Oper} {op : Oper} {a : Act} {Q : Exit → Act → World → Prop} {b sz : Nat} {t : TypeId} (hgd : Region.wanted op (yielded ops a.tmps) = true) (x : Operand) (ho : op.op = .load t x)
    (cells : List Value) (H : St w0 w L) (hm : As.cells b cells.toArray t ∈ L) (hx : a.eval x = .pointer (some ⟨b, 0, none⟩)) (hl : cells.length = sz) {d : TypeDesc} (hu : P.underlying t = some d) (hd : d.isRow = true) (hi : (P.info? t).map (·.size) = some sz)
    (h : wpList P ops Q rest (a.put op.dst (.agg cells.toArray)) w) : wpList P ops Q (op :: rest) a w :=
  wpList_step fun K hK => by
    rw [if_pos hgd]
    exact wp_load_mid t x ho b 0 hx cells d (H.blkm hm).range hu hd (by rw [hi, hl]) (hK _ _ h)
theorem held_two {P : Program} {ops : Array Oper} {Q : Exit → Act → World → Prop} {S : World → Prop} {i j : Nat} {o1 o2 : Oper} {n : Nat} {l : Array Bool} {a : Act} {w : World} (h1 : ops[i]? = some o1) (h2 : ops[j]? = some o2) (hr : Region.ready .any ops l = [i, j])
    (g1 : ∀ K' : Act → World → Prop, (∀ a w, S w ∧ wpAnyH P .any ops Q S n (l.setIfInBounds i true) a w → K' a w) → if Region.wanted o1 (yielded ops a.tmps) = true then Oper.wp P o1 a w K' Q else K' (a.put o1.dst undef) w)
    (g2 : ∀ K' : Act → World → Prop, (∀ a w, S w ∧ wpAnyH P .any ops Q S n (l.setIfInBounds j true) a w → K' a w) → if Region.wanted o2 (yielded ops a.tmps) = true then Oper.wp P o2 a w K' Q else K' (a.put o2.dst undef) w) : wpAnyH P .any ops Q S (n + 1) l a w := by
  refine wpAnyH_all hr (by simp) (fun k hk => ?_)
  simp at hk
  rcases hk with rfl | rfl
  · exact wpOp_step h1 g1
  · exact wpOp_step h2 g2
theorem bx_cells {w : World} {g off n : Nat} {ls : List (Ft × R4)} (hs : Rd w 71 (some ⟨g, off, none⟩) n (flat bc ls)) {k : Nat} (hk : k < ls.length) (p : Ft × R4) (hp : ls[k] = p) :
    w.cell? ⟨g, off + k * 71, none⟩ = some (.int .i64 p.1.a.kd) ∧ w.cell? ⟨g, off + k * 71 + 1, none⟩ = some (.int .i64 p.1.a.nd) ∧ w.cell? ⟨g, off + k * 71 + 67, none⟩ = some (.int .i64 p.2.x) ∧ w.cell? ⟨g, off + k * 71 + 67 + 1, none⟩ = some (.int .i64 p.2.y) ∧ w.cell? ⟨g, off + k * 71 + 67 + 2, none⟩ = some (.int .i64 p.2.w) ∧ w.cell? ⟨g, off + k * 71 + 67 + 3, none⟩ = some (.int .i64 p.2.h) := by
  have h := b_range hs hk
  rw [hp] at h
  exact ⟨h 0 _ rfl, h 1 _ rfl, h 67 _ rfl, h 68 _ rfl, h 69 _ rfl, h 70 _ rfl⟩
abbrev RvL (m bf : Nat) (t : Sh) (f : Ft) (nd wd ht : Int) (s9 : Option Addr) (c9 : Nat) (s13 : Option Addr) (c13 : Nat) (s14 : Option Addr) (c14 : Nat) (M R : List Sc) : List As :=
  [As.row 76 71 s14 (bxs 0 0 f).length c14 (flat bc (bxs 0 0 f)), As.row 61 3 s13 R.length c13 (flat scc R), As.row 61 3 s9 M.length c9 (flat scc M), As.cells bf (fc f).toArray 51, As.fts [f], As.cells (m + 1) #[.int .u8 nd, .int .u8 wd, .int .u8 ht] 71, As.cells m (shc t).toArray 39]
def RvRel (w : World) (nd : Int) (bl : List (Ft × R4)) (L : List As) (g : Nat) (v58 : Value) (wr' : World) : Prop :=
  ∃ k : Nat, g = bl.length - k ∧ k ≤ bl.length ∧ v58 = .int .i64 k ∧ (∀ x ∈ bl.take k, isB nd x = false) ∧ St w wr' L

set_option maxRecDepth 100000 in
set_option maxHeartbeats 4000000 in
theorem reveals_go (t : Sh) (s : Option Addr) (cap : Nat) (ls : List Of) (nd wd ht : Int) (w : World) (hat : ShAt w t) (hls : Rd w 3 s ls.length (flat ofc ls)) (hok : ∀ o ∈ ls, o.ok) (h0 : 0 ≤ nd ∧ nd ≤ 255) (h1 : 0 ≤ wd ∧ wd ≤ 255) (h2 : 0 ≤ ht ∧ ht ≤ 255) :
    Calls Try.prog 7 #[.agg (shc t).toArray, .slice s ls.length cap, .agg #[.int .u8 nd, .int .u8 wd, .int .u8 ht]] w fun e w' => e = .returned (.bool true) ∧ Below w.heap.size w w' := by
  obtain ⟨a, ks⟩ := t
  obtain ⟨r, hr⟩ : ∃ r, fewS (.mk a ks) = r := ⟨_, rfl⟩
  have HR := Lib.hid hr
  have HA := Lib.hid hat
  have HLS := Lib.hid hls
  have HOK := Lib.hid hok
  clear hat hr hls hok
  have e0 : IntKind.i64.wrap nd = nd := wr_id (by omega) (by omega)
  have e1 : IntKind.i64.wrap wd = wd := wr_id (by omega) (by omega)
  have e2 : IntKind.i64.wrap ht = ht := wr_id (by omega) (by omega)
  have HB := Lib.hid (And.intro h0 (And.intro h1 h2))
  clear h0 h1 h2
  show Calls Try.prog 7 #[.agg #[.int .i8 a.x, .int .i8 a.y, .int .u8 a.w, .int .u8 a.h, .int .u8 a.kd, .int .u8 a.bd, .slice a.s ks.length a.c], .slice s ls.length cap, .agg #[.int .u8 nd, .int .u8 wd, .int .u8 ht]] w _
  have h1 := ((St.start w (Below.refl _ w)).new #[.int .i8 a.x, .int .i8 a.y, .int .u8 a.w, .int .u8 a.h, .int .u8 a.kd, .int .u8 a.bd, .slice a.s ks.length a.c] 39).new #[.int .u8 nd, .int .u8 wd, .int .u8 ht] 71
  simp only [World.size_alloc] at h1
  obtain ⟨W, hW⟩ : ∃ W, (w.alloc (.cells #[.int .i8 a.x, .int .i8 a.y, .int .u8 a.w, .int .u8 a.h, .int .u8 a.kd, .int .u8 a.bd, .slice a.s ks.length a.c] 39)).alloc (.cells #[.int .u8 nd, .int .u8 wd, .int .u8 ht] 71) = W := ⟨_, rfl⟩
  obtain ⟨m, hm⟩ : ∃ b, w.heap.size = b := ⟨_, rfl⟩
  rw [hW, hm] at h1
  have H1 := Lib.hid h1
  clear h1
  cases r with
  | false =>
    go_enter Try.func7, Try.ntmps7
    go_wp2_with (first
      | (go_at_call 8; refine (awake_any _).mono ?_; rintro e wb ⟨rfl, hbb⟩; have H3 := Lib.hid (H2.out.of_below hbb); clear hbb)
      | (go_at_call 8; refine (awake_any _).mono ?_; rintro e wa ⟨rfl, hba⟩; have H2 := Lib.hid (H1.out.of_below hba); clear hba; obtain ⟨s0, s1, s2, s3, s4, s5, s6⟩ := blk7 (H2.out.blkm (.tail _ (.head _))))
      | (go_at_call 14; refine (fewS_c (.mk a ks) _ (HA.out.stay H2.out.bel)).mono ?_; rintro e wc ⟨rfl, hbc⟩; rw [HR.out]; have H2 := Lib.hid (H2.out.of_below hbc); clear hbc))
    go_ret
    exact ⟨rfl, H3.out.bel⟩
  | true =>
    by_cases hlen : (20 : Int) < (ls.length : Int)
    · go_enter Try.func7, Try.ntmps7
      go_wp2_with (first
        | (go_at_call 8; refine (awake_any _).mono ?_; rintro e wb ⟨rfl, hbb⟩; have H3 := Lib.hid (H2.out.of_below hbb); clear hbb)
        | (go_at_call 8; refine (awake_any _).mono ?_; rintro e wa ⟨rfl, hba⟩; have H2 := Lib.hid (H1.out.of_below hba); clear hba; obtain ⟨s0, s1, s2, s3, s4, s5, s6⟩ := blk7 (H2.out.blkm (.tail _ (.head _))))
        | (go_at_call 14; refine (fewS_c (.mk a ks) _ (HA.out.stay H2.out.bel)).mono ?_; rintro e wc ⟨rfl, hbc⟩; rw [HR.out]; have H2 := Lib.hid (H2.out.of_below hbc); clear hbc))
      go_ret
      exact ⟨rfl, H3.out.bel⟩
    have hfw := few_sz HR.out
    have HFW := Lib.hid hfw
    clear hfw
    have z51 := zv51
    go_enter Try.func7, Try.ntmps7
    go_upto_region 3 with (first
      | (go_at_call 8; refine (awake_any _).mono ?_; rintro e wa ⟨rfl, hba⟩; have H2 := Lib.hid (H1.out.of_below hba); clear hba; obtain ⟨t0, t1, t2, t3, t4, t5, t6⟩ := blk7 (H2.out.blkm (.tail _ (.head _))))
      | (go_at_call 14; refine (fewS_c (.mk a ks) _ (HA.out.stay H2.out.bel)).mono ?_; rintro e wc ⟨rfl, hbc⟩; rw [HR.out]; have H3 := Lib.hid (H2.out.of_below hbc); clear hbc t0 t1 t2 t3 t4 t5 t6; obtain ⟨t0, t1, t2, t3, t4, t5, t6⟩ := blk7 (H3.out.blkm (.tail _ (.head _)))))
    go_upto_region 4 with (first
      | (go_at_call 15; refine (frag_c 8 (.mk a ks) 0 w _ _ HA.out HFW.out.1 (by omega) (by have := HFW.out.2; omega) H3.out).mono ?_; rintro e wF ⟨f, rfl, q1, q2, q3, q4⟩; have Q1 := Lib.hid q1; have Q2 := Lib.hid (q2 rfl); have Q3 := Lib.hid q3; have H4 := Lib.hid q4; have H5 := Lib.hid (q4.new (fv Fz 0).toArray 51); clear q1 q2 q3 q4)
      | (refine st_store rfl (.tmp 7) (.tmp 35) rfl H5.out (fc f) rfl rfl rfl rfl size51 (fc_one _) ?_; intro W6 HW6; have H6 := Lib.hid HW6; clear HW6))
    clear z51 t0 t1 t2 t3 t4 t5 t6
    have hfs : f.sz ≤ 100000 := by have := Q3.out; have := HFW.out.2; omega
    obtain ⟨bf, hbf⟩ : ∃ bf, wF.heap.size = bf := ⟨_, rfl⟩
    rw [hbf] at H6 ⊢
    clear hbf
    obtain ⟨M, hM⟩ : ∃ M, ls.map scOf = M := ⟨_, rfl⟩
    obtain ⟨R, hRR⟩ : ∃ R, revT f M nd wd ht = R := ⟨_, rfl⟩
    have hML : M.length ≤ 20 := by rw [← hM, List.length_map]; omega
    have HM := Lib.hid hM
    have HRS := Lib.hid hRR
    clear hM hRR
    go_upto_region 5 with (go_at_call 20; refine (scrolls_m s cap ls _ (HLS.out.below H6.out.bel) HOK.out (by omega) M HM.out).mono ?_; rintro e w7 ⟨s9, c9, rfl, hb7⟩; have H7 := Lib.hid (H6.out.own_new hb7); clear hb7)
    have ho := H7.out.blkm (b := m + 1) (.tail _ (.tail _ (.tail _ (.head _))))
    have j0 : w7.cell? ⟨m + 1, 0, none⟩ = some (.int .u8 nd) := ho.cell 0
    have j1 : w7.cell? ⟨m + 1, 1, none⟩ = some (.int .u8 wd) := ho.cell 1
    have j2 : w7.cell? ⟨m + 1, 2, none⟩ = some (.int .u8 ht) := ho.cell 2
    clear ho
    go_quiet (fail)
    obtain ⟨W7, hW7⟩ : ∃ W7, w7.drewN nq = W7 := ⟨_, rfl⟩
    have H7' := Lib.hid (show St w W7 _ by rw [← hW7]; exact H7.out.drewN nq)
    rw [hW7]
    clear hW7 j0 j1 j2
    go_upto_region 7 with (first
      | (refine st_load rfl (.tmp 7) rfl (fc f) H7'.out (.tail _ (.head _)) rfl rfl Try.underlying51 rfl size51 ?_)
      | (go_at_call 23; refine (reveal_any f s9 c9 M.length M nd wd ht _ (fts_at H7'.out (.tail _ (.tail _ (.head _))) f (by simp)) hfs H7'.out.sl.rd rfl (by omega) R HRS.out).mono ?_; rintro e w8 ⟨s13, c13, rfl, hb8⟩; have H8 := Lib.hid (H7'.out.own_new hb8); clear hb8))
    go_upto_region 8 with (first
      | (refine st_load rfl (.tmp 7) rfl (fc f) H8.out (.tail _ (.tail _ (.head _))) rfl rfl Try.underlying51 rfl size51 ?_)
      | (go_at_call 24; refine (boxes_c f.sz f 0 0 _ (Nat.le_refl _) hfs (fts_at H8.out (.tail _ (.tail _ (.tail _ (.head _)))) f (by simp))).mono ?_; rintro e w9 ⟨s14, c14, rfl, h9⟩; have H9 := Lib.hid (H8.out.own_new h9); clear h9))
    have hbl : (bxs 0 0 f).length ≤ 100000 := by rw [bxs_len]; exact hfs
    have hblI : ((bxs 0 0 f).length : Int) ≤ 100000 := by omega
    go_wp2_with fail
    go_loopg [58] (bxs 0 0 f).length (RvRel w nd (bxs 0 0 f) (RvL m bf (.mk a ks) f nd wd ht s9 c9 s13 c13 s14 c14 M R))
    case atStart => exact ⟨0, rfl, Nat.zero_le _, rfl, by simp, H9.out⟩
    case round =>
      obtain ⟨k, hg, hk, rfl, hno, hst⟩ := hrel
      have Hg := Lib.hid hg
      have HS := Lib.hid hst
      have HNO := Lib.hid hno
      clear hg hst hno
      by_cases hkn : k < (bxs 0 0 f).length
      · have hkI : (k : Int) < ((bxs 0 0 f).length : Int) := by omega
        have hkI0 : (0 : Int) ≤ (k : Int) := by omega
        have hrd := HS.out.sl.rd
        obtain ⟨g, off, rfl, -⟩ := hrd.addr (by omega)
        have htk : (bxs 0 0 f).take (k + 1) = (bxs 0 0 f).take k ++ [(bxs 0 0 f)[k]] := List.take_succ_eq_append_getElem hkn
        have hfa := fun h2 => find_at (isB nd) (bxs 0 0 f) k hkn HNO.out h2
        obtain ⟨p, hp⟩ : ∃ p, (bxs 0 0 f)[k] = p := ⟨_, rfl⟩
        obtain ⟨k0, k1, k67, k68, k69, k70⟩ := bx_cells hrd hkn p hp
        rw [hp] at htk hfa
        have HTK := Lib.hid htk
        have HFA := Lib.hid hfa
        clear hrd hp htk hfa
        obtain ⟨q1, hq1⟩ : ∃ q, (p.1.a.kd != 1) = q := ⟨_, rfl⟩
        obtain ⟨q2, hq2⟩ : ∃ q, (p.1.a.nd != nd) = q := ⟨_, rfl⟩
        obtain ⟨q3, hq3⟩ : ∃ q, (nd == 0) = q := ⟨_, rfl⟩
        have hisb : isB nd p = (!q1 && !q2 && !q3) := by
          rw [← hq1, ← hq2, ← hq3, isB, isBox]
          simp [bne]
        have HIS := Lib.hid hisb
        clear hisb
        cases q1 with
        | true =>
           go_wp2_with fail
           go_roundg ((bxs 0 0 f).length - (k + 1))
           case measure => have := Hg.out; omega
           case rel =>
             refine ⟨k + 1, rfl, hkn, by simp, ?_, HS.out⟩
             intro y hy
             rw [HTK.out] at hy
             rcases List.mem_append.1 hy with e | e
             · exact HNO.out y e
             · rw [List.mem_singleton.1 e, HIS.out]; rfl
        | false =>
         cases q2 with
         | true =>
           go_wp2_with fail
           go_roundg ((bxs 0 0 f).length - (k + 1))
           case measure => have := Hg.out; omega
           case rel =>
             refine ⟨k + 1, rfl, hkn, by simp, ?_, HS.out⟩
             intro y hy
             rw [HTK.out] at hy
             rcases List.mem_append.1 hy with e | e
             · exact HNO.out y e
             · rw [List.mem_singleton.1 e, HIS.out]; rfl
         | false =>
          cases q3 with
          | true =>
           go_wp2_with fail
           go_roundg ((bxs 0 0 f).length - (k + 1))
           case measure => have := Hg.out; omega
           case rel =>
             refine ⟨k + 1, rfl, hkn, by simp, ?_, HS.out⟩
             intro y hy
             rw [HTK.out] at hy
             rcases List.mem_append.1 hy with e | e
             · exact HNO.out y e
             · rw [List.mem_singleton.1 e, HIS.out]; rfl
          | false =>
            have hloc : locT nd f = some p := HFA.out (by rw [HIS.out]; rfl)
            have hbd := loc_bd Q1.out (by omega) nd p hloc
            obtain ⟨xf, ⟨rx, ry, rw', rh⟩⟩ := p
            simp only at k0 k1 k67 k68 k69 k70 hbd
            have hrr : revealR f M ⟨rx, ry, rw', rh⟩ wd ht = R := by rw [← HRS.out, revT, hloc]
            have hsb := getS_bd ls HOK.out f.a.nd
            rw [HM.out] at hsb
            have hidem : revealR f R ⟨rx, ry, rw', rh⟩ wd ht = R := reveal_idem f M ⟨rx, ry, rw', rh⟩ wd ht (by have := HB.out; omega) (by have := HB.out; omega) hsb hbd.1 hbd.2.1 hbd.2.2.1 hbd.2.2.2 R hrr
            have hrev2 : revT f R nd wd ht = R := by rw [revT, hloc]; exact hidem
            obtain ⟨sx, hsx⟩ : ∃ x, (getS M f.a.nd).x = x := ⟨_, rfl⟩
            obtain ⟨sy, hsy⟩ : ∃ x, (getS M f.a.nd).y = x := ⟨_, rfl⟩
            obtain ⟨X, hX⟩ : ∃ X, wantX f M ⟨rx, ry, rw', rh⟩ wd = X := ⟨_, rfl⟩
            obtain ⟨Y, hY⟩ : ∃ Y, wantY f M ⟨rx, ry, rw', rh⟩ ht = Y := ⟨_, rfl⟩
            obtain ⟨cp, hcp⟩ : ∃ p, (clampT f f.a.nd X Y wd ht).1 = p := ⟨_, rfl⟩
            obtain ⟨cq, hcq⟩ : ∃ q, (clampT f f.a.nd X Y wd ht).2 = q := ⟨_, rfl⟩
            have hR' : scrollL ⟨f.a.nd, cp, cq⟩ M = R := by rw [← hrr, revealR]; simp only [hX, hY, hcp, hcq]
            have hm0 : max wd 0 = wd := by have := HB.out; omega
            have hm1 : max ht 0 = ht := by have := HB.out; omega
            have hX' : movedT sx (Go.Proofs.Ytfjjgebfeklnhaa.wr (rx - f.a.x)) (Go.Proofs.Ytfjjgebfeklnhaa.wr (Go.Proofs.Ytfjjgebfeklnhaa.wr (rx - f.a.x) + rw')) wd = X := by rw [into_moved, ← hX, wantX, hsx, hm0]
            have hY' : movedT sy (Go.Proofs.Ytfjjgebfeklnhaa.wr (ry - f.a.y)) (Go.Proofs.Ytfjjgebfeklnhaa.wr (Go.Proofs.Ytfjjgebfeklnhaa.wr (ry - f.a.y) + rh)) ht = Y := by rw [into_moved, ← hY, wantY, hsy, hm1]
            have HX := Lib.hid hX'
            have HY := Lib.hid hY'
            have HSX := Lib.hid hsx
            have HSY := Lib.hid hsy
            have HCP := Lib.hid hcp
            have HCQ := Lib.hid hcq
            have HSC := Lib.hid hR'
            have HRV := Lib.hid hrev2
            have hRl : R.length ≤ 1000 := by have := scrollL_len ⟨f.a.nd, cp, cq⟩ M; rw [hR'] at this; omega
            clear hloc hbd hrr hsb hidem hrev2 hsx hsy hX hY hcp hcq hR' hm0 hm1 hX' hY'
            go_upto_region 13 with fail
            have h4 := HS.out.new #[.int .i64 rx, .int .i64 ry, .int .i64 rw', .int .i64 rh] 30
            obtain ⟨W4, hW4⟩ : ∃ W4, wr.alloc (.cells #[.int .i64 rx, .int .i64 ry, .int .i64 rw', .int .i64 rh] 30) = W4 := ⟨_, rfl⟩
            obtain ⟨bR, hbR⟩ : ∃ b, wr.heap.size = b := ⟨_, rfl⟩
            rw [hW4, hbR] at h4
            rw [hW4]
            simp only [hbR]
            have H4 := Lib.hid h4
            clear h4 hW4 k0 k1 k67 k68 k69 k70
            obtain ⟨-, c1, -⟩ := bigI f.a f.ks.length 51 W4 bf (H4.out.blkm (b := bf) (.tail _ (.tail _ (.tail _ (.tail _ (.head _))))))
            go_upto_region 14 with (go_at_call 22; refine (get_x s9 c9 M.length M f.a.nd sx sy _ (H4.out.slm (.tail _ (.tail _ (.tail _ (.head _))))).rd rfl (by omega) HSX.out HSY.out).mono ?_; rintro e w5 ⟨rfl, hb5⟩; have H5 := Lib.hid ((H4.out.of_below hb5).new #[.int .i64 f.a.nd, .int .i64 sx, .int .i64 sy] 61); clear hb5)
            clear c1
            obtain ⟨W5, hW5⟩ : ∃ W5, w5.alloc (.cells #[.int .i64 f.a.nd, .int .i64 sx, .int .i64 sy] 61) = W5 := ⟨_, rfl⟩
            obtain ⟨bS, hbS⟩ : ∃ b, w5.heap.size = b := ⟨_, rfl⟩
            rw [hW5, hbS] at H5
            rw [hW5]
            simp only [hbS]
            clear hW5
            obtain ⟨-, c1, c2, c3, -⟩ := bigI f.a f.ks.length 51 W5 bf (H5.out.blkm (b := bf) (.tail _ (.tail _ (.tail _ (.tail _ (.tail _ (.head _)))))))
            obtain ⟨r0, r1, r2, r3, -⟩ := blk_four (H5.out.blkm (b := bR) (.tail _ (.head _)))
            obtain ⟨x0, x1, x2, -⟩ := H5.out.blk.1.three
            have hS : (fun w' : World => (w'.cell? ⟨bf, 1, none⟩ = some (.int .i64 f.a.nd) ∧ w'.cell? ⟨bf, 2, none⟩ = some (.int .i64 f.a.x) ∧ w'.cell? ⟨bf, 3, none⟩ = some (.int .i64 f.a.y)) ∧ (w'.cell? ⟨bR, 0, none⟩ = some (.int .i64 rx) ∧ w'.cell? ⟨bR, 1, none⟩ = some (.int .i64 ry) ∧ w'.cell? ⟨bR, 2, none⟩ = some (.int .i64 rw') ∧ w'.cell? ⟨bR, 3, none⟩ = some (.int .i64 rh)) ∧ (w'.cell? ⟨bS, 1, none⟩ = some (.int .i64 sx) ∧ w'.cell? ⟨bS, 2, none⟩ = some (.int .i64 sy))) W5.drew := ⟨⟨c1, c2, c3⟩, ⟨r0, r1, r2, r3⟩, ⟨x1, x2⟩⟩
            clear c1 c2 c3 r0 r1 r2 r3 x0 x1 x2
            refine wp_region_held (S := (fun w' : World => (w'.cell? ⟨bf, 1, none⟩ = some (.int .i64 f.a.nd) ∧ w'.cell? ⟨bf, 2, none⟩ = some (.int .i64 f.a.x) ∧ w'.cell? ⟨bf, 3, none⟩ = some (.int .i64 f.a.y)) ∧ (w'.cell? ⟨bR, 0, none⟩ = some (.int .i64 rx) ∧ w'.cell? ⟨bR, 1, none⟩ = some (.int .i64 ry) ∧ w'.cell? ⟨bR, 2, none⟩ = some (.int .i64 rw') ∧ w'.cell? ⟨bR, 3, none⟩ = some (.int .i64 rh)) ∧ (w'.cell? ⟨bS, 1, none⟩ = some (.int .i64 sx) ∧ w'.cell? ⟨bS, 2, none⟩ = some (.int .i64 sy)))) (by kernel_rfl) ?_
            change wpAnyH _ _ _ _ _ _ _ _ (World.drew _)
            refine' wpAnyH_take (i := 0) (v := .pointer (some ⟨bf, 1, none⟩)) rfl (by kernel_rfl) (by kernel_rfl) (by kernel_rfl) (fun _ _ _ h => h) (Or.inl ⟨by rfl, ?hy0⟩) hS ?rest0
            case hy0 => (intro w' hSw; obtain ⟨⟨a1, a2, a3⟩, ⟨b0, b1, b2, b3⟩, ⟨d1, d2⟩⟩ := hSw; go_simp; try with_reducible rfl)
            try simp only [Act.put, List.getElem_toArray, List.getElem_cons_zero, List.getElem_cons_succ, List.setIfInBounds_toArray, List.set_cons_zero, List.set_cons_succ]
            refine' wpAnyH_take (i := 1) (v := .int .i64 (f.a.nd)) rfl (by kernel_rfl) (by kernel_rfl) (by kernel_rfl) (fun _ _ _ h => h) (Or.inl ⟨by rfl, ?hy1⟩) hS ?rest1
            case hy1 => (intro w' hSw; obtain ⟨⟨a1, a2, a3⟩, ⟨b0, b1, b2, b3⟩, ⟨d1, d2⟩⟩ := hSw; go_simp; try with_reducible rfl)
            try simp only [Act.put, List.getElem_toArray, List.getElem_cons_zero, List.getElem_cons_succ, List.setIfInBounds_toArray, List.set_cons_zero, List.set_cons_succ]
            refine' wpAnyH_take (i := 2) (v := .pointer (some ⟨bS, 1, none⟩)) rfl (by kernel_rfl) (by kernel_rfl) (by kernel_rfl) (fun _ _ _ h => h) (Or.inl ⟨by rfl, ?hy2⟩) hS ?rest2
            case hy2 => (intro w' hSw; obtain ⟨⟨a1, a2, a3⟩, ⟨b0, b1, b2, b3⟩, ⟨d1, d2⟩⟩ := hSw; go_simp; try with_reducible rfl)
            try simp only [Act.put, List.getElem_toArray, List.getElem_cons_zero, List.getElem_cons_succ, List.setIfInBounds_toArray, List.set_cons_zero, List.set_cons_succ]
            refine' wpAnyH_take (i := 3) (v := .int .i64 (sx)) rfl (by kernel_rfl) (by kernel_rfl) (by kernel_rfl) (fun _ _ _ h => h) (Or.inl ⟨by rfl, ?hy3⟩) hS ?rest3
            case hy3 => (intro w' hSw; obtain ⟨⟨a1, a2, a3⟩, ⟨b0, b1, b2, b3⟩, ⟨d1, d2⟩⟩ := hSw; go_simp; try with_reducible rfl)
            try simp only [Act.put, List.getElem_toArray, List.getElem_cons_zero, List.getElem_cons_succ, List.setIfInBounds_toArray, List.set_cons_zero, List.set_cons_succ]
            refine' wpAnyH_take (i := 4) (v := .pointer (some ⟨bR, 0, none⟩)) rfl (by kernel_rfl) (by kernel_rfl) (by kernel_rfl) (fun _ _ _ h => h) (Or.inl ⟨by rfl, ?hy4⟩) hS ?rest4
            case hy4 => (intro w' hSw; obtain ⟨⟨a1, a2, a3⟩, ⟨b0, b1, b2, b3⟩, ⟨d1, d2⟩⟩ := hSw; go_simp; try with_reducible rfl)
            try simp only [Act.put, List.getElem_toArray, List.getElem_cons_zero, List.getElem_cons_succ, List.setIfInBounds_toArray, List.set_cons_zero, List.set_cons_succ]
            refine' wpAnyH_take (i := 5) (v := .int .i64 (rx)) rfl (by kernel_rfl) (by kernel_rfl) (by kernel_rfl) (fun _ _ _ h => h) (Or.inl ⟨by rfl, ?hy5⟩) hS ?rest5
            case hy5 => (intro w' hSw; obtain ⟨⟨a1, a2, a3⟩, ⟨b0, b1, b2, b3⟩, ⟨d1, d2⟩⟩ := hSw; go_simp; try with_reducible rfl)
            try simp only [Act.put, List.getElem_toArray, List.getElem_cons_zero, List.getElem_cons_succ, List.setIfInBounds_toArray, List.set_cons_zero, List.set_cons_succ]
            refine' wpAnyH_take (i := 6) (v := .pointer (some ⟨bf, 2, none⟩)) rfl (by kernel_rfl) (by kernel_rfl) (by kernel_rfl) (fun _ _ _ h => h) (Or.inl ⟨by rfl, ?hy6⟩) hS ?rest6
            case hy6 => (intro w' hSw; obtain ⟨⟨a1, a2, a3⟩, ⟨b0, b1, b2, b3⟩, ⟨d1, d2⟩⟩ := hSw; go_simp; try with_reducible rfl)
            try simp only [Act.put, List.getElem_toArray, List.getElem_cons_zero, List.getElem_cons_succ, List.setIfInBounds_toArray, List.set_cons_zero, List.set_cons_succ]
            refine' wpAnyH_take (i := 7) (v := .int .i64 (f.a.x)) rfl (by kernel_rfl) (by kernel_rfl) (by kernel_rfl) (fun _ _ _ h => h) (Or.inl ⟨by rfl, ?hy7⟩) hS ?rest7
            case hy7 => (intro w' hSw; obtain ⟨⟨a1, a2, a3⟩, ⟨b0, b1, b2, b3⟩, ⟨d1, d2⟩⟩ := hSw; go_simp; try with_reducible rfl)
            try simp only [Act.put, List.getElem_toArray, List.getElem_cons_zero, List.getElem_cons_succ, List.setIfInBounds_toArray, List.set_cons_zero, List.set_cons_succ]
            refine' wpAnyH_take (i := 8) (v := .int .i64 (IntKind.i64.wrap (rx - f.a.x))) rfl (by kernel_rfl) (by kernel_rfl) (by kernel_rfl) (fun _ _ _ h => h) (Or.inl ⟨by rfl, ?hy8⟩) hS ?rest8
            case hy8 => (intro w' hSw; obtain ⟨⟨a1, a2, a3⟩, ⟨b0, b1, b2, b3⟩, ⟨d1, d2⟩⟩ := hSw; go_simp; try with_reducible rfl)
            try simp only [Act.put, List.getElem_toArray, List.getElem_cons_zero, List.getElem_cons_succ, List.setIfInBounds_toArray, List.set_cons_zero, List.set_cons_succ]
            refine' wpAnyH_take (i := 9) (v := .pointer (some ⟨bR, 0, none⟩)) rfl (by kernel_rfl) (by kernel_rfl) (by kernel_rfl) (fun _ _ _ h => h) (Or.inl ⟨by rfl, ?hy9⟩) hS ?rest9
            case hy9 => (intro w' hSw; obtain ⟨⟨a1, a2, a3⟩, ⟨b0, b1, b2, b3⟩, ⟨d1, d2⟩⟩ := hSw; go_simp; try with_reducible rfl)
            try simp only [Act.put, List.getElem_toArray, List.getElem_cons_zero, List.getElem_cons_succ, List.setIfInBounds_toArray, List.set_cons_zero, List.set_cons_succ]
            refine' wpAnyH_take (i := 10) (v := .int .i64 (rx)) rfl (by kernel_rfl) (by kernel_rfl) (by kernel_rfl) (fun _ _ _ h => h) (Or.inl ⟨by rfl, ?hy10⟩) hS ?rest10
            case hy10 => (intro w' hSw; obtain ⟨⟨a1, a2, a3⟩, ⟨b0, b1, b2, b3⟩, ⟨d1, d2⟩⟩ := hSw; go_simp; try with_reducible rfl)
            try simp only [Act.put, List.getElem_toArray, List.getElem_cons_zero, List.getElem_cons_succ, List.setIfInBounds_toArray, List.set_cons_zero, List.set_cons_succ]
            refine' wpAnyH_take (i := 11) (v := .pointer (some ⟨bf, 2, none⟩)) rfl (by kernel_rfl) (by kernel_rfl) (by kernel_rfl) (fun _ _ _ h => h) (Or.inl ⟨by rfl, ?hy11⟩) hS ?rest11
            case hy11 => (intro w' hSw; obtain ⟨⟨a1, a2, a3⟩, ⟨b0, b1, b2, b3⟩, ⟨d1, d2⟩⟩ := hSw; go_simp; try with_reducible rfl)
            try simp only [Act.put, List.getElem_toArray, List.getElem_cons_zero, List.getElem_cons_succ, List.setIfInBounds_toArray, List.set_cons_zero, List.set_cons_succ]
            refine' wpAnyH_take (i := 12) (v := .int .i64 (f.a.x)) rfl (by kernel_rfl) (by kernel_rfl) (by kernel_rfl) (fun _ _ _ h => h) (Or.inl ⟨by rfl, ?hy12⟩) hS ?rest12
            case hy12 => (intro w' hSw; obtain ⟨⟨a1, a2, a3⟩, ⟨b0, b1, b2, b3⟩, ⟨d1, d2⟩⟩ := hSw; go_simp; try with_reducible rfl)
            try simp only [Act.put, List.getElem_toArray, List.getElem_cons_zero, List.getElem_cons_succ, List.setIfInBounds_toArray, List.set_cons_zero, List.set_cons_succ]
            refine' wpAnyH_take (i := 13) (v := .int .i64 (IntKind.i64.wrap (rx - f.a.x))) rfl (by kernel_rfl) (by kernel_rfl) (by kernel_rfl) (fun _ _ _ h => h) (Or.inl ⟨by rfl, ?hy13⟩) hS ?rest13
            case hy13 => (intro w' hSw; obtain ⟨⟨a1, a2, a3⟩, ⟨b0, b1, b2, b3⟩, ⟨d1, d2⟩⟩ := hSw; go_simp; try with_reducible rfl)
            try simp only [Act.put, List.getElem_toArray, List.getElem_cons_zero, List.getElem_cons_succ, List.setIfInBounds_toArray, List.set_cons_zero, List.set_cons_succ]
            refine' wpAnyH_take (i := 14) (v := .pointer (some ⟨bR, 2, none⟩)) rfl (by kernel_rfl) (by kernel_rfl) (by kernel_rfl) (fun _ _ _ h => h) (Or.inl ⟨by rfl, ?hy14⟩) hS ?rest14
            case hy14 => (intro w' hSw; obtain ⟨⟨a1, a2, a3⟩, ⟨b0, b1, b2, b3⟩, ⟨d1, d2⟩⟩ := hSw; go_simp; try with_reducible rfl)
            try simp only [Act.put, List.getElem_toArray, List.getElem_cons_zero, List.getElem_cons_succ, List.setIfInBounds_toArray, List.set_cons_zero, List.set_cons_succ]
            refine' wpAnyH_take (i := 15) (v := .int .i64 (rw')) rfl (by kernel_rfl) (by kernel_rfl) (by kernel_rfl) (fun _ _ _ h => h) (Or.inl ⟨by rfl, ?hy15⟩) hS ?rest15
            case hy15 => (intro w' hSw; obtain ⟨⟨a1, a2, a3⟩, ⟨b0, b1, b2, b3⟩, ⟨d1, d2⟩⟩ := hSw; go_simp; try with_reducible rfl)
            try simp only [Act.put, List.getElem_toArray, List.getElem_cons_zero, List.getElem_cons_succ, List.setIfInBounds_toArray, List.set_cons_zero, List.set_cons_succ]
            refine' wpAnyH_take (i := 16) (v := .int .i64 (IntKind.i64.wrap (IntKind.i64.wrap (rx - f.a.x) + rw'))) rfl (by kernel_rfl) (by kernel_rfl) (by kernel_rfl) (fun _ _ _ h => h) (Or.inl ⟨by rfl, ?hy16⟩) hS ?rest16
            case hy16 => (intro w' hSw; obtain ⟨⟨a1, a2, a3⟩, ⟨b0, b1, b2, b3⟩, ⟨d1, d2⟩⟩ := hSw; go_simp; try with_reducible rfl)
            try simp only [Act.put, List.getElem_toArray, List.getElem_cons_zero, List.getElem_cons_succ, List.setIfInBounds_toArray, List.set_cons_zero, List.set_cons_succ]
            refine' wpAnyH_take (i := 17) (v := .int .i64 (wd)) rfl (by kernel_rfl) (by kernel_rfl) (by kernel_rfl) (fun _ _ _ h => h) (Or.inl ⟨by rfl, ?hy17⟩) hS ?rest17
            case hy17 => (intro w' hSw; obtain ⟨⟨a1, a2, a3⟩, ⟨b0, b1, b2, b3⟩, ⟨d1, d2⟩⟩ := hSw; go_simp; try with_reducible rfl)
            try simp only [Act.put, List.getElem_toArray, List.getElem_cons_zero, List.getElem_cons_succ, List.setIfInBounds_toArray, List.set_cons_zero, List.set_cons_succ]
            refine' wpAnyH_take (i := 19) (v := .pointer (some ⟨bS, 2, none⟩)) rfl (by kernel_rfl) (by kernel_rfl) (by kernel_rfl) (fun _ _ _ h => h) (Or.inl ⟨by rfl, ?hy19⟩) hS ?rest19
            case hy19 => (intro w' hSw; obtain ⟨⟨a1, a2, a3⟩, ⟨b0, b1, b2, b3⟩, ⟨d1, d2⟩⟩ := hSw; go_simp; try with_reducible rfl)
            try simp only [Act.put, List.getElem_toArray, List.getElem_cons_zero, List.getElem_cons_succ, List.setIfInBounds_toArray, List.set_cons_zero, List.set_cons_succ]
            refine' wpAnyH_take (i := 20) (v := .int .i64 (sy)) rfl (by kernel_rfl) (by kernel_rfl) (by kernel_rfl) (fun _ _ _ h => h) (Or.inl ⟨by rfl, ?hy20⟩) hS ?rest20
            case hy20 => (intro w' hSw; obtain ⟨⟨a1, a2, a3⟩, ⟨b0, b1, b2, b3⟩, ⟨d1, d2⟩⟩ := hSw; go_simp; try with_reducible rfl)
            try simp only [Act.put, List.getElem_toArray, List.getElem_cons_zero, List.getElem_cons_succ, List.setIfInBounds_toArray, List.set_cons_zero, List.set_cons_succ]
            refine' wpAnyH_take (i := 21) (v := .pointer (some ⟨bR, 1, none⟩)) rfl (by kernel_rfl) (by kernel_rfl) (by kernel_rfl) (fun _ _ _ h => h) (Or.inl ⟨by rfl, ?hy21⟩) hS ?rest21
            case hy21 => (intro w' hSw; obtain ⟨⟨a1, a2, a3⟩, ⟨b0, b1, b2, b3⟩, ⟨d1, d2⟩⟩ := hSw; go_simp; try with_reducible rfl)
            try simp only [Act.put, List.getElem_toArray, List.getElem_cons_zero, List.getElem_cons_succ, List.setIfInBounds_toArray, List.set_cons_zero, List.set_cons_succ]
            refine' wpAnyH_take (i := 22) (v := .int .i64 (ry)) rfl (by kernel_rfl) (by kernel_rfl) (by kernel_rfl) (fun _ _ _ h => h) (Or.inl ⟨by rfl, ?hy22⟩) hS ?rest22
            case hy22 => (intro w' hSw; obtain ⟨⟨a1, a2, a3⟩, ⟨b0, b1, b2, b3⟩, ⟨d1, d2⟩⟩ := hSw; go_simp; try with_reducible rfl)
            try simp only [Act.put, List.getElem_toArray, List.getElem_cons_zero, List.getElem_cons_succ, List.setIfInBounds_toArray, List.set_cons_zero, List.set_cons_succ]
            refine' wpAnyH_take (i := 23) (v := .pointer (some ⟨bf, 3, none⟩)) rfl (by kernel_rfl) (by kernel_rfl) (by kernel_rfl) (fun _ _ _ h => h) (Or.inl ⟨by rfl, ?hy23⟩) hS ?rest23
            case hy23 => (intro w' hSw; obtain ⟨⟨a1, a2, a3⟩, ⟨b0, b1, b2, b3⟩, ⟨d1, d2⟩⟩ := hSw; go_simp; try with_reducible rfl)
            try simp only [Act.put, List.getElem_toArray, List.getElem_cons_zero, List.getElem_cons_succ, List.setIfInBounds_toArray, List.set_cons_zero, List.set_cons_succ]
            refine' wpAnyH_take (i := 24) (v := .int .i64 (f.a.y)) rfl (by kernel_rfl) (by kernel_rfl) (by kernel_rfl) (fun _ _ _ h => h) (Or.inl ⟨by rfl, ?hy24⟩) hS ?rest24
            case hy24 => (intro w' hSw; obtain ⟨⟨a1, a2, a3⟩, ⟨b0, b1, b2, b3⟩, ⟨d1, d2⟩⟩ := hSw; go_simp; try with_reducible rfl)
            try simp only [Act.put, List.getElem_toArray, List.getElem_cons_zero, List.getElem_cons_succ, List.setIfInBounds_toArray, List.set_cons_zero, List.set_cons_succ]
            refine' wpAnyH_take (i := 25) (v := .int .i64 (IntKind.i64.wrap (ry - f.a.y))) rfl (by kernel_rfl) (by kernel_rfl) (by kernel_rfl) (fun _ _ _ h => h) (Or.inl ⟨by rfl, ?hy25⟩) hS ?rest25
            case hy25 => (intro w' hSw; obtain ⟨⟨a1, a2, a3⟩, ⟨b0, b1, b2, b3⟩, ⟨d1, d2⟩⟩ := hSw; go_simp; try with_reducible rfl)
            try simp only [Act.put, List.getElem_toArray, List.getElem_cons_zero, List.getElem_cons_succ, List.setIfInBounds_toArray, List.set_cons_zero, List.set_cons_succ]
            refine' wpAnyH_take (i := 26) (v := .pointer (some ⟨bR, 1, none⟩)) rfl (by kernel_rfl) (by kernel_rfl) (by kernel_rfl) (fun _ _ _ h => h) (Or.inl ⟨by rfl, ?hy26⟩) hS ?rest26
            case hy26 => (intro w' hSw; obtain ⟨⟨a1, a2, a3⟩, ⟨b0, b1, b2, b3⟩, ⟨d1, d2⟩⟩ := hSw; go_simp; try with_reducible rfl)
            try simp only [Act.put, List.getElem_toArray, List.getElem_cons_zero, List.getElem_cons_succ, List.setIfInBounds_toArray, List.set_cons_zero, List.set_cons_succ]
            refine' wpAnyH_take (i := 27) (v := .int .i64 (ry)) rfl (by kernel_rfl) (by kernel_rfl) (by kernel_rfl) (fun _ _ _ h => h) (Or.inl ⟨by rfl, ?hy27⟩) hS ?rest27
            case hy27 => (intro w' hSw; obtain ⟨⟨a1, a2, a3⟩, ⟨b0, b1, b2, b3⟩, ⟨d1, d2⟩⟩ := hSw; go_simp; try with_reducible rfl)
            try simp only [Act.put, List.getElem_toArray, List.getElem_cons_zero, List.getElem_cons_succ, List.setIfInBounds_toArray, List.set_cons_zero, List.set_cons_succ]
            refine' wpAnyH_take (i := 28) (v := .pointer (some ⟨bf, 3, none⟩)) rfl (by kernel_rfl) (by kernel_rfl) (by kernel_rfl) (fun _ _ _ h => h) (Or.inl ⟨by rfl, ?hy28⟩) hS ?rest28
            case hy28 => (intro w' hSw; obtain ⟨⟨a1, a2, a3⟩, ⟨b0, b1, b2, b3⟩, ⟨d1, d2⟩⟩ := hSw; go_simp; try with_reducible rfl)
            try simp only [Act.put, List.getElem_toArray, List.getElem_cons_zero, List.getElem_cons_succ, List.setIfInBounds_toArray, List.set_cons_zero, List.set_cons_succ]
            refine' wpAnyH_take (i := 29) (v := .int .i64 (f.a.y)) rfl (by kernel_rfl) (by kernel_rfl) (by kernel_rfl) (fun _ _ _ h => h) (Or.inl ⟨by rfl, ?hy29⟩) hS ?rest29
            case hy29 => (intro w' hSw; obtain ⟨⟨a1, a2, a3⟩, ⟨b0, b1, b2, b3⟩, ⟨d1, d2⟩⟩ := hSw; go_simp; try with_reducible rfl)
            try simp only [Act.put, List.getElem_toArray, List.getElem_cons_zero, List.getElem_cons_succ, List.setIfInBounds_toArray, List.set_cons_zero, List.set_cons_succ]
            refine' wpAnyH_take (i := 30) (v := .int .i64 (IntKind.i64.wrap (ry - f.a.y))) rfl (by kernel_rfl) (by kernel_rfl) (by kernel_rfl) (fun _ _ _ h => h) (Or.inl ⟨by rfl, ?hy30⟩) hS ?rest30
            case hy30 => (intro w' hSw; obtain ⟨⟨a1, a2, a3⟩, ⟨b0, b1, b2, b3⟩, ⟨d1, d2⟩⟩ := hSw; go_simp; try with_reducible rfl)
            try simp only [Act.put, List.getElem_toArray, List.getElem_cons_zero, List.getElem_cons_succ, List.setIfInBounds_toArray, List.set_cons_zero, List.set_cons_succ]
            refine' wpAnyH_take (i := 31) (v := .pointer (some ⟨bR, 3, none⟩)) rfl (by kernel_rfl) (by kernel_rfl) (by kernel_rfl) (fun _ _ _ h => h) (Or.inl ⟨by rfl, ?hy31⟩) hS ?rest31
            case hy31 => (intro w' hSw; obtain ⟨⟨a1, a2, a3⟩, ⟨b0, b1, b2, b3⟩, ⟨d1, d2⟩⟩ := hSw; go_simp; try with_reducible rfl)
            try simp only [Act.put, List.getElem_toArray, List.getElem_cons_zero, List.getElem_cons_succ, List.setIfInBounds_toArray, List.set_cons_zero, List.set_cons_succ]
            refine' wpAnyH_take (i := 32) (v := .int .i64 (rh)) rfl (by kernel_rfl) (by kernel_rfl) (by kernel_rfl) (fun _ _ _ h => h) (Or.inl ⟨by rfl, ?hy32⟩) hS ?rest32
            case hy32 => (intro w' hSw; obtain ⟨⟨a1, a2, a3⟩, ⟨b0, b1, b2, b3⟩, ⟨d1, d2⟩⟩ := hSw; go_simp; try with_reducible rfl)
            try simp only [Act.put, List.getElem_toArray, List.getElem_cons_zero, List.getElem_cons_succ, List.setIfInBounds_toArray, List.set_cons_zero, List.set_cons_succ]
            refine' wpAnyH_take (i := 33) (v := .int .i64 (IntKind.i64.wrap (IntKind.i64.wrap (ry - f.a.y) + rh))) rfl (by kernel_rfl) (by kernel_rfl) (by kernel_rfl) (fun _ _ _ h => h) (Or.inl ⟨by rfl, ?hy33⟩) hS ?rest33
            case hy33 => (intro w' hSw; obtain ⟨⟨a1, a2, a3⟩, ⟨b0, b1, b2, b3⟩, ⟨d1, d2⟩⟩ := hSw; go_simp; try with_reducible rfl)
            try simp only [Act.put, List.getElem_toArray, List.getElem_cons_zero, List.getElem_cons_succ, List.setIfInBounds_toArray, List.set_cons_zero, List.set_cons_succ]
            refine' wpAnyH_take (i := 34) (v := .int .i64 (ht)) rfl (by kernel_rfl) (by kernel_rfl) (by kernel_rfl) (fun _ _ _ h => h) (Or.inl ⟨by rfl, ?hy34⟩) hS ?rest34
            case hy34 => (intro w' hSw; obtain ⟨⟨a1, a2, a3⟩, ⟨b0, b1, b2, b3⟩, ⟨d1, d2⟩⟩ := hSw; go_simp; try with_reducible rfl)
            try simp only [Act.put, List.getElem_toArray, List.getElem_cons_zero, List.getElem_cons_succ, List.setIfInBounds_toArray, List.set_cons_zero, List.set_cons_succ]
            have h5d := H5.out.drew
            obtain ⟨W5d, hW5d⟩ : ∃ W, W5.drew = W := ⟨_, rfl⟩
            rw [hW5d] at hS h5d
            rw [hW5d]
            have H5d := Lib.hid h5d
            clear h5d hW5d
            refine (?use : (∀ (W : World) (bX : Nat), St w W ([As.cells bX #[.int .i64 f.a.nd, .int .i64 X, .int .i64 Y] 61, As.cells bS #[.int .i64 f.a.nd, .int .i64 sx, .int .i64 sy] 61, As.cells bR #[.int .i64 rx, .int .i64 ry, .int .i64 rw', .int .i64 rh] 30] ++ RvL m bf (.mk a ks) f nd wd ht s9 c9 s13 c13 (some ⟨g, off, none⟩) c14 M R) → (?G : World → Nat → Prop) W bX) → _) ?fin
            case use =>
              intro fin
              refine held_two (i := 18) (j := 37) rfl rfl (by kernel_rfl) ?_ ?_
              · intro K' hK; have HK' := Lib.hid hK; clear hK
                refine wp_call (by rfl) (by rfl) Try.func25 (by kernel_rfl) (by kernel_rfl) (by kernel_rfl) (moved_n sx _ _ wd X _ HX.out) ?_
                rintro e w61 ⟨rfl, hb61⟩
                have H61 := Lib.hid (H5d.out.of_below hb61)
                clear hb61
                obtain ⟨-, c1, c2, c3, -⟩ := bigI f.a f.ks.length 51 w61 bf (H61.out.blkm (b := bf) (.tail _ (.tail _ (.tail _ (.tail _ (.tail _ (.head _)))))))
                obtain ⟨r0, r1, r2, r3, -⟩ := blk_four (H61.out.blkm (b := bR) (.tail _ (.head _)))
                obtain ⟨x0, x1, x2, -⟩ := (H61.out.blkm (b := bS) (.head _)).three
                have hS2 : (fun w' : World => (w'.cell? ⟨bf, 1, none⟩ = some (.int .i64 f.a.nd) ∧ w'.cell? ⟨bf, 2, none⟩ = some (.int .i64 f.a.x) ∧ w'.cell? ⟨bf, 3, none⟩ = some (.int .i64 f.a.y)) ∧ (w'.cell? ⟨bR, 0, none⟩ = some (.int .i64 rx) ∧ w'.cell? ⟨bR, 1, none⟩ = some (.int .i64 ry) ∧ w'.cell? ⟨bR, 2, none⟩ = some (.int .i64 rw') ∧ w'.cell? ⟨bR, 3, none⟩ = some (.int .i64 rh)) ∧ (w'.cell? ⟨bS, 1, none⟩ = some (.int .i64 sx) ∧ w'.cell? ⟨bS, 2, none⟩ = some (.int .i64 sy))) w61 := ⟨⟨c1, c2, c3⟩, ⟨r0, r1, r2, r3⟩, ⟨x1, x2⟩⟩
                clear c1 c2 c3 r0 r1 r2 r3 x0 x1 x2
                refine ⟨_, rfl, HK'.out _ _ ⟨hS2, ?_⟩⟩
                clear HK' K'
                try simp only [Act.put, List.getElem_toArray, List.getElem_cons_zero, List.getElem_cons_succ, List.setIfInBounds_toArray, List.set_cons_zero, List.set_cons_succ]
                refine held_two (i := 35) (j := 37) rfl rfl (by kernel_rfl) ?_ ?_
                · intro K' hK; have HK' := Lib.hid hK; clear hK
                  refine wp_call (by rfl) (by rfl) Try.func25 (by kernel_rfl) (by kernel_rfl) (by kernel_rfl) (moved_n sy _ _ ht Y _ HY.out) ?_
                  rintro e w63 ⟨rfl, hb63⟩
                  have H63 := Lib.hid (H61.out.of_below hb63)
                  clear hb63
                  obtain ⟨-, c1, c2, c3, -⟩ := bigI f.a f.ks.length 51 w63 bf (H63.out.blkm (b := bf) (.tail _ (.tail _ (.tail _ (.tail _ (.tail _ (.head _)))))))
                  obtain ⟨r0, r1, r2, r3, -⟩ := blk_four (H63.out.blkm (b := bR) (.tail _ (.head _)))
                  obtain ⟨x0, x1, x2, -⟩ := (H63.out.blkm (b := bS) (.head _)).three
                  have hS4 : (fun w' : World => (w'.cell? ⟨bf, 1, none⟩ = some (.int .i64 f.a.nd) ∧ w'.cell? ⟨bf, 2, none⟩ = some (.int .i64 f.a.x) ∧ w'.cell? ⟨bf, 3, none⟩ = some (.int .i64 f.a.y)) ∧ (w'.cell? ⟨bR, 0, none⟩ = some (.int .i64 rx) ∧ w'.cell? ⟨bR, 1, none⟩ = some (.int .i64 ry) ∧ w'.cell? ⟨bR, 2, none⟩ = some (.int .i64 rw') ∧ w'.cell? ⟨bR, 3, none⟩ = some (.int .i64 rh)) ∧ (w'.cell? ⟨bS, 1, none⟩ = some (.int .i64 sx) ∧ w'.cell? ⟨bS, 2, none⟩ = some (.int .i64 sy))) w63 := ⟨⟨c1, c2, c3⟩, ⟨r0, r1, r2, r3⟩, ⟨x1, x2⟩⟩
                  clear c1 c2 c3 r0 r1 r2 r3 x0 x1 x2
                  refine ⟨_, rfl, HK'.out _ _ ⟨hS4, ?_⟩⟩
                  clear HK' K'
                  try simp only [Act.put, List.getElem_toArray, List.getElem_cons_zero, List.getElem_cons_succ, List.setIfInBounds_toArray, List.set_cons_zero, List.set_cons_succ]
                  refine held_two (i := 36) (j := 37) rfl rfl (by kernel_rfl) ?_ ?_
                  · intro K' hK; have HK' := Lib.hid hK; clear hK
                    go_simp
                    refine HK'.out _ _ ⟨hS4, ?_⟩
                    clear HK' K'
                    try simp only [Act.put, List.getElem_toArray, List.getElem_cons_zero, List.getElem_cons_succ, List.setIfInBounds_toArray, List.set_cons_zero, List.set_cons_succ]
                    refine held_one (i := 37) rfl (by kernel_rfl) ?_
                    intro K' hK; have HK' := Lib.hid hK; clear hK
                    go_simp
                    have h65 := H63.out.new #[.int .i64 0, .int .i64 0, .int .i64 0] 61
                    obtain ⟨W65, hW65⟩ : ∃ W, w63.alloc (.cells #[.int .i64 0, .int .i64 0, .int .i64 0] 61) = W := ⟨_, rfl⟩
                    obtain ⟨bX, hbX⟩ : ∃ b, w63.heap.size = b := ⟨_, rfl⟩
                    rw [hW65, hbX] at h65
                    rw [hW65]
                    simp only [hbX]
                    have H65 := Lib.hid h65
                    clear h65 hW65
                    obtain ⟨-, c1, c2, c3, -⟩ := bigI f.a f.ks.length 51 W65 bf (H65.out.blkm (b := bf) (.tail _ (.tail _ (.tail _ (.tail _ (.tail _ (.tail _ (.head _))))))))
                    obtain ⟨r0, r1, r2, r3, -⟩ := blk_four (H65.out.blkm (b := bR) (.tail _ (.tail _ (.head _))))
                    obtain ⟨x0, x1, x2, -⟩ := (H65.out.blkm (b := bS) (.tail _ (.head _))).three
                    have hS6 : (fun w' : World => (w'.cell? ⟨bf, 1, none⟩ = some (.int .i64 f.a.nd) ∧ w'.cell? ⟨bf, 2, none⟩ = some (.int .i64 f.a.x) ∧ w'.cell? ⟨bf, 3, none⟩ = some (.int .i64 f.a.y)) ∧ (w'.cell? ⟨bR, 0, none⟩ = some (.int .i64 rx) ∧ w'.cell? ⟨bR, 1, none⟩ = some (.int .i64 ry) ∧ w'.cell? ⟨bR, 2, none⟩ = some (.int .i64 rw') ∧ w'.cell? ⟨bR, 3, none⟩ = some (.int .i64 rh)) ∧ (w'.cell? ⟨bS, 1, none⟩ = some (.int .i64 sx) ∧ w'.cell? ⟨bS, 2, none⟩ = some (.int .i64 sy))) W65 := ⟨⟨c1, c2, c3⟩, ⟨r0, r1, r2, r3⟩, ⟨x1, x2⟩⟩
                    clear c1 c2 c3 r0 r1 r2 r3 x0 x1 x2
                    refine HK'.out _ _ ⟨hS6, ?_⟩
                    clear HK' K'
                    try simp only [Act.put, List.getElem_toArray, List.getElem_cons_zero, List.getElem_cons_succ, List.setIfInBounds_toArray, List.set_cons_zero, List.set_cons_succ]
                    refine held_one (i := 38) rfl (by kernel_rfl) ?_
                    intro K' hK; have HK' := Lib.hid hK; clear hK
                    obtain ⟨y0, y1, y2, y3, y4, y5⟩ := H65.out.blk.1.three
                    go_simp
                    have h64 := ((H65.out.set 0 (.int .i64 f.a.nd)).set 1 (.int .i64 X)).set 2 (.int .i64 Y)
                    simp only [List.setIfInBounds_toArray, List.set_cons_zero, List.set_cons_succ] at h64
                    obtain ⟨W64, hW64⟩ : ∃ W, ((W65.setCell ⟨bX, 0, none⟩ (.int .i64 f.a.nd)).setCell ⟨bX, 1, none⟩ (.int .i64 X)).setCell ⟨bX, 2, none⟩ (.int .i64 Y) = W := ⟨_, rfl⟩
                    rw [hW64] at h64
                    rw [hW64]
                    have H64 := Lib.hid h64
                    clear h64 hW64 y0 y1 y2 y3 y4 y5
                    obtain ⟨-, c1, c2, c3, -⟩ := bigI f.a f.ks.length 51 W64 bf (H64.out.blkm (b := bf) (.tail _ (.tail _ (.tail _ (.tail _ (.tail _ (.tail _ (.head _))))))))
                    obtain ⟨r0, r1, r2, r3, -⟩ := blk_four (H64.out.blkm (b := bR) (.tail _ (.tail _ (.head _))))
                    obtain ⟨x0, x1, x2, -⟩ := (H64.out.blkm (b := bS) (.tail _ (.head _))).three
                    have hS7 : (fun w' : World => (w'.cell? ⟨bf, 1, none⟩ = some (.int .i64 f.a.nd) ∧ w'.cell? ⟨bf, 2, none⟩ = some (.int .i64 f.a.x) ∧ w'.cell? ⟨bf, 3, none⟩ = some (.int .i64 f.a.y)) ∧ (w'.cell? ⟨bR, 0, none⟩ = some (.int .i64 rx) ∧ w'.cell? ⟨bR, 1, none⟩ = some (.int .i64 ry) ∧ w'.cell? ⟨bR, 2, none⟩ = some (.int .i64 rw') ∧ w'.cell? ⟨bR, 3, none⟩ = some (.int .i64 rh)) ∧ (w'.cell? ⟨bS, 1, none⟩ = some (.int .i64 sx) ∧ w'.cell? ⟨bS, 2, none⟩ = some (.int .i64 sy))) W64 := ⟨⟨c1, c2, c3⟩, ⟨r0, r1, r2, r3⟩, ⟨x1, x2⟩⟩
                    clear c1 c2 c3 r0 r1 r2 r3 x0 x1 x2
                    refine HK'.out _ _ ⟨hS7, ?_⟩
                    clear HK' K'
                    try simp only [Act.put, List.getElem_toArray, List.getElem_cons_zero, List.getElem_cons_succ, List.setIfInBounds_toArray, List.set_cons_zero, List.set_cons_succ]
                    refine wpAnyH_done (by kernel_rfl) ?_ _
                    exact fin W64 bX H64.out
                  · intro K' hK; have HK' := Lib.hid hK; clear hK
                    go_simp
                    have h68 := H63.out.new #[.int .i64 0, .int .i64 0, .int .i64 0] 61
                    obtain ⟨W68, hW68⟩ : ∃ W, w63.alloc (.cells #[.int .i64 0, .int .i64 0, .int .i64 0] 61) = W := ⟨_, rfl⟩
                    obtain ⟨bX, hbX⟩ : ∃ b, w63.heap.size = b := ⟨_, rfl⟩
                    rw [hW68, hbX] at h68
                    rw [hW68]
                    simp only [hbX]
                    have H68 := Lib.hid h68
                    clear h68 hW68
                    obtain ⟨-, c1, c2, c3, -⟩ := bigI f.a f.ks.length 51 W68 bf (H68.out.blkm (b := bf) (.tail _ (.tail _ (.tail _ (.tail _ (.tail _ (.tail _ (.head _))))))))
                    obtain ⟨r0, r1, r2, r3, -⟩ := blk_four (H68.out.blkm (b := bR) (.tail _ (.tail _ (.head _))))
                    obtain ⟨x0, x1, x2, -⟩ := (H68.out.blkm (b := bS) (.tail _ (.head _))).three
                    have hS9 : (fun w' : World => (w'.cell? ⟨bf, 1, none⟩ = some (.int .i64 f.a.nd) ∧ w'.cell? ⟨bf, 2, none⟩ = some (.int .i64 f.a.x) ∧ w'.cell? ⟨bf, 3, none⟩ = some (.int .i64 f.a.y)) ∧ (w'.cell? ⟨bR, 0, none⟩ = some (.int .i64 rx) ∧ w'.cell? ⟨bR, 1, none⟩ = some (.int .i64 ry) ∧ w'.cell? ⟨bR, 2, none⟩ = some (.int .i64 rw') ∧ w'.cell? ⟨bR, 3, none⟩ = some (.int .i64 rh)) ∧ (w'.cell? ⟨bS, 1, none⟩ = some (.int .i64 sx) ∧ w'.cell? ⟨bS, 2, none⟩ = some (.int .i64 sy))) W68 := ⟨⟨c1, c2, c3⟩, ⟨r0, r1, r2, r3⟩, ⟨x1, x2⟩⟩
                    clear c1 c2 c3 r0 r1 r2 r3 x0 x1 x2
                    refine HK'.out _ _ ⟨hS9, ?_⟩
                    clear HK' K'
                    try simp only [Act.put, List.getElem_toArray, List.getElem_cons_zero, List.getElem_cons_succ, List.setIfInBounds_toArray, List.set_cons_zero, List.set_cons_succ]
                    refine held_one (i := 36) rfl (by kernel_rfl) ?_
                    intro K' hK; have HK' := Lib.hid hK; clear hK
                    go_simp
                    refine HK'.out _ _ ⟨hS9, ?_⟩
                    clear HK' K'
                    try simp only [Act.put, List.getElem_toArray, List.getElem_cons_zero, List.getElem_cons_succ, List.setIfInBounds_toArray, List.set_cons_zero, List.set_cons_succ]
                    refine held_one (i := 38) rfl (by kernel_rfl) ?_
                    intro K' hK; have HK' := Lib.hid hK; clear hK
                    obtain ⟨y0, y1, y2, y3, y4, y5⟩ := H68.out.blk.1.three
                    go_simp
                    have h64 := ((H68.out.set 0 (.int .i64 f.a.nd)).set 1 (.int .i64 X)).set 2 (.int .i64 Y)
                    simp only [List.setIfInBounds_toArray, List.set_cons_zero, List.set_cons_succ] at h64
                    obtain ⟨W64, hW64⟩ : ∃ W, ((W68.setCell ⟨bX, 0, none⟩ (.int .i64 f.a.nd)).setCell ⟨bX, 1, none⟩ (.int .i64 X)).setCell ⟨bX, 2, none⟩ (.int .i64 Y) = W := ⟨_, rfl⟩
                    rw [hW64] at h64
                    rw [hW64]
                    have H64 := Lib.hid h64
                    clear h64 hW64 y0 y1 y2 y3 y4 y5
                    obtain ⟨-, c1, c2, c3, -⟩ := bigI f.a f.ks.length 51 W64 bf (H64.out.blkm (b := bf) (.tail _ (.tail _ (.tail _ (.tail _ (.tail _ (.tail _ (.head _))))))))
                    obtain ⟨r0, r1, r2, r3, -⟩ := blk_four (H64.out.blkm (b := bR) (.tail _ (.tail _ (.head _))))
                    obtain ⟨x0, x1, x2, -⟩ := (H64.out.blkm (b := bS) (.tail _ (.head _))).three
                    have hS10 : (fun w' : World => (w'.cell? ⟨bf, 1, none⟩ = some (.int .i64 f.a.nd) ∧ w'.cell? ⟨bf, 2, none⟩ = some (.int .i64 f.a.x) ∧ w'.cell? ⟨bf, 3, none⟩ = some (.int .i64 f.a.y)) ∧ (w'.cell? ⟨bR, 0, none⟩ = some (.int .i64 rx) ∧ w'.cell? ⟨bR, 1, none⟩ = some (.int .i64 ry) ∧ w'.cell? ⟨bR, 2, none⟩ = some (.int .i64 rw') ∧ w'.cell? ⟨bR, 3, none⟩ = some (.int .i64 rh)) ∧ (w'.cell? ⟨bS, 1, none⟩ = some (.int .i64 sx) ∧ w'.cell? ⟨bS, 2, none⟩ = some (.int .i64 sy))) W64 := ⟨⟨c1, c2, c3⟩, ⟨r0, r1, r2, r3⟩, ⟨x1, x2⟩⟩
                    clear c1 c2 c3 r0 r1 r2 r3 x0 x1 x2
                    refine HK'.out _ _ ⟨hS10, ?_⟩
                    clear HK' K'
                    try simp only [Act.put, List.getElem_toArray, List.getElem_cons_zero, List.getElem_cons_succ, List.setIfInBounds_toArray, List.set_cons_zero, List.set_cons_succ]
                    refine wpAnyH_done (by kernel_rfl) ?_ _
                    exact fin W64 bX H64.out
                · intro K' hK; have HK' := Lib.hid hK; clear hK
                  go_simp
                  have h611 := H61.out.new #[.int .i64 0, .int .i64 0, .int .i64 0] 61
                  obtain ⟨W611, hW611⟩ : ∃ W, w61.alloc (.cells #[.int .i64 0, .int .i64 0, .int .i64 0] 61) = W := ⟨_, rfl⟩
                  obtain ⟨bX, hbX⟩ : ∃ b, w61.heap.size = b := ⟨_, rfl⟩
                  rw [hW611, hbX] at h611
                  rw [hW611]
                  simp only [hbX]
                  have H611 := Lib.hid h611
                  clear h611 hW611
                  obtain ⟨-, c1, c2, c3, -⟩ := bigI f.a f.ks.length 51 W611 bf (H611.out.blkm (b := bf) (.tail _ (.tail _ (.tail _ (.tail _ (.tail _ (.tail _ (.head _))))))))
                  obtain ⟨r0, r1, r2, r3, -⟩ := blk_four (H611.out.blkm (b := bR) (.tail _ (.tail _ (.head _))))
                  obtain ⟨x0, x1, x2, -⟩ := (H611.out.blkm (b := bS) (.tail _ (.head _))).three
                  have hS12 : (fun w' : World => (w'.cell? ⟨bf, 1, none⟩ = some (.int .i64 f.a.nd) ∧ w'.cell? ⟨bf, 2, none⟩ = some (.int .i64 f.a.x) ∧ w'.cell? ⟨bf, 3, none⟩ = some (.int .i64 f.a.y)) ∧ (w'.cell? ⟨bR, 0, none⟩ = some (.int .i64 rx) ∧ w'.cell? ⟨bR, 1, none⟩ = some (.int .i64 ry) ∧ w'.cell? ⟨bR, 2, none⟩ = some (.int .i64 rw') ∧ w'.cell? ⟨bR, 3, none⟩ = some (.int .i64 rh)) ∧ (w'.cell? ⟨bS, 1, none⟩ = some (.int .i64 sx) ∧ w'.cell? ⟨bS, 2, none⟩ = some (.int .i64 sy))) W611 := ⟨⟨c1, c2, c3⟩, ⟨r0, r1, r2, r3⟩, ⟨x1, x2⟩⟩
                  clear c1 c2 c3 r0 r1 r2 r3 x0 x1 x2
                  refine HK'.out _ _ ⟨hS12, ?_⟩
                  clear HK' K'
                  try simp only [Act.put, List.getElem_toArray, List.getElem_cons_zero, List.getElem_cons_succ, List.setIfInBounds_toArray, List.set_cons_zero, List.set_cons_succ]
                  refine held_one (i := 35) rfl (by kernel_rfl) ?_
                  intro K' hK; have HK' := Lib.hid hK; clear hK
                  refine wp_call (by rfl) (by rfl) Try.func25 (by kernel_rfl) (by kernel_rfl) (by kernel_rfl) (moved_n sy _ _ ht Y _ HY.out) ?_
                  rintro e w613 ⟨rfl, hb613⟩
                  have H613 := Lib.hid (H611.out.of_below hb613)
                  clear hb613
                  obtain ⟨-, c1, c2, c3, -⟩ := bigI f.a f.ks.length 51 w613 bf (H613.out.blkm (b := bf) (.tail _ (.tail _ (.tail _ (.tail _ (.tail _ (.tail _ (.head _))))))))
                  obtain ⟨r0, r1, r2, r3, -⟩ := blk_four (H613.out.blkm (b := bR) (.tail _ (.tail _ (.head _))))
                  obtain ⟨x0, x1, x2, -⟩ := (H613.out.blkm (b := bS) (.tail _ (.head _))).three
                  have hS14 : (fun w' : World => (w'.cell? ⟨bf, 1, none⟩ = some (.int .i64 f.a.nd) ∧ w'.cell? ⟨bf, 2, none⟩ = some (.int .i64 f.a.x) ∧ w'.cell? ⟨bf, 3, none⟩ = some (.int .i64 f.a.y)) ∧ (w'.cell? ⟨bR, 0, none⟩ = some (.int .i64 rx) ∧ w'.cell? ⟨bR, 1, none⟩ = some (.int .i64 ry) ∧ w'.cell? ⟨bR, 2, none⟩ = some (.int .i64 rw') ∧ w'.cell? ⟨bR, 3, none⟩ = some (.int .i64 rh)) ∧ (w'.cell? ⟨bS, 1, none⟩ = some (.int .i64 sx) ∧ w'.cell? ⟨bS, 2, none⟩ = some (.int .i64 sy))) w613 := ⟨⟨c1, c2, c3⟩, ⟨r0, r1, r2, r3⟩, ⟨x1, x2⟩⟩
                  clear c1 c2 c3 r0 r1 r2 r3 x0 x1 x2
                  refine ⟨_, rfl, HK'.out _ _ ⟨hS14, ?_⟩⟩
                  clear HK' K'
                  try simp only [Act.put, List.getElem_toArray, List.getElem_cons_zero, List.getElem_cons_succ, List.setIfInBounds_toArray, List.set_cons_zero, List.set_cons_succ]
                  refine held_one (i := 36) rfl (by kernel_rfl) ?_
                  intro K' hK; have HK' := Lib.hid hK; clear hK
                  go_simp
                  refine HK'.out _ _ ⟨hS14, ?_⟩
                  clear HK' K'
                  try simp only [Act.put, List.getElem_toArray, List.getElem_cons_zero, List.getElem_cons_succ, List.setIfInBounds_toArray, List.set_cons_zero, List.set_cons_succ]
                  refine held_one (i := 38) rfl (by kernel_rfl) ?_
                  intro K' hK; have HK' := Lib.hid hK; clear hK
                  obtain ⟨y0, y1, y2, y3, y4, y5⟩ := H613.out.blk.1.three
                  go_simp
                  have h64 := ((H613.out.set 0 (.int .i64 f.a.nd)).set 1 (.int .i64 X)).set 2 (.int .i64 Y)
                  simp only [List.setIfInBounds_toArray, List.set_cons_zero, List.set_cons_succ] at h64
                  obtain ⟨W64, hW64⟩ : ∃ W, ((w613.setCell ⟨bX, 0, none⟩ (.int .i64 f.a.nd)).setCell ⟨bX, 1, none⟩ (.int .i64 X)).setCell ⟨bX, 2, none⟩ (.int .i64 Y) = W := ⟨_, rfl⟩
                  rw [hW64] at h64
                  rw [hW64]
                  have H64 := Lib.hid h64
                  clear h64 hW64 y0 y1 y2 y3 y4 y5
                  obtain ⟨-, c1, c2, c3, -⟩ := bigI f.a f.ks.length 51 W64 bf (H64.out.blkm (b := bf) (.tail _ (.tail _ (.tail _ (.tail _ (.tail _ (.tail _ (.head _))))))))
                  obtain ⟨r0, r1, r2, r3, -⟩ := blk_four (H64.out.blkm (b := bR) (.tail _ (.tail _ (.head _))))
                  obtain ⟨x0, x1, x2, -⟩ := (H64.out.blkm (b := bS) (.tail _ (.head _))).three
                  have hS15 : (fun w' : World => (w'.cell? ⟨bf, 1, none⟩ = some (.int .i64 f.a.nd) ∧ w'.cell? ⟨bf, 2, none⟩ = some (.int .i64 f.a.x) ∧ w'.cell? ⟨bf, 3, none⟩ = some (.int .i64 f.a.y)) ∧ (w'.cell? ⟨bR, 0, none⟩ = some (.int .i64 rx) ∧ w'.cell? ⟨bR, 1, none⟩ = some (.int .i64 ry) ∧ w'.cell? ⟨bR, 2, none⟩ = some (.int .i64 rw') ∧ w'.cell? ⟨bR, 3, none⟩ = some (.int .i64 rh)) ∧ (w'.cell? ⟨bS, 1, none⟩ = some (.int .i64 sx) ∧ w'.cell? ⟨bS, 2, none⟩ = some (.int .i64 sy))) W64 := ⟨⟨c1, c2, c3⟩, ⟨r0, r1, r2, r3⟩, ⟨x1, x2⟩⟩
                  clear c1 c2 c3 r0 r1 r2 r3 x0 x1 x2
                  refine HK'.out _ _ ⟨hS15, ?_⟩
                  clear HK' K'
                  try simp only [Act.put, List.getElem_toArray, List.getElem_cons_zero, List.getElem_cons_succ, List.setIfInBounds_toArray, List.set_cons_zero, List.set_cons_succ]
                  refine wpAnyH_done (by kernel_rfl) ?_ _
                  exact fin W64 bX H64.out
              · intro K' hK; have HK' := Lib.hid hK; clear hK
                go_simp
                have h616 := H5d.out.new #[.int .i64 0, .int .i64 0, .int .i64 0] 61
                obtain ⟨W616, hW616⟩ : ∃ W, W5d.alloc (.cells #[.int .i64 0, .int .i64 0, .int .i64 0] 61) = W := ⟨_, rfl⟩
                obtain ⟨bX, hbX⟩ : ∃ b, W5d.heap.size = b := ⟨_, rfl⟩
                rw [hW616, hbX] at h616
                rw [hW616]
                simp only [hbX]
                have H616 := Lib.hid h616
                clear h616 hW616
                obtain ⟨-, c1, c2, c3, -⟩ := bigI f.a f.ks.length 51 W616 bf (H616.out.blkm (b := bf) (.tail _ (.tail _ (.tail _ (.tail _ (.tail _ (.tail _ (.head _))))))))
                obtain ⟨r0, r1, r2, r3, -⟩ := blk_four (H616.out.blkm (b := bR) (.tail _ (.tail _ (.head _))))
                obtain ⟨x0, x1, x2, -⟩ := (H616.out.blkm (b := bS) (.tail _ (.head _))).three
                have hS17 : (fun w' : World => (w'.cell? ⟨bf, 1, none⟩ = some (.int .i64 f.a.nd) ∧ w'.cell? ⟨bf, 2, none⟩ = some (.int .i64 f.a.x) ∧ w'.cell? ⟨bf, 3, none⟩ = some (.int .i64 f.a.y)) ∧ (w'.cell? ⟨bR, 0, none⟩ = some (.int .i64 rx) ∧ w'.cell? ⟨bR, 1, none⟩ = some (.int .i64 ry) ∧ w'.cell? ⟨bR, 2, none⟩ = some (.int .i64 rw') ∧ w'.cell? ⟨bR, 3, none⟩ = some (.int .i64 rh)) ∧ (w'.cell? ⟨bS, 1, none⟩ = some (.int .i64 sx) ∧ w'.cell? ⟨bS, 2, none⟩ = some (.int .i64 sy))) W616 := ⟨⟨c1, c2, c3⟩, ⟨r0, r1, r2, r3⟩, ⟨x1, x2⟩⟩
                clear c1 c2 c3 r0 r1 r2 r3 x0 x1 x2
                refine HK'.out _ _ ⟨hS17, ?_⟩
                clear HK' K'
                try simp only [Act.put, List.getElem_toArray, List.getElem_cons_zero, List.getElem_cons_succ, List.setIfInBounds_toArray, List.set_cons_zero, List.set_cons_succ]
                refine held_one (i := 18) rfl (by kernel_rfl) ?_
                intro K' hK; have HK' := Lib.hid hK; clear hK
                refine wp_call (by rfl) (by rfl) Try.func25 (by kernel_rfl) (by kernel_rfl) (by kernel_rfl) (moved_n sx _ _ wd X _ HX.out) ?_
                rintro e w618 ⟨rfl, hb618⟩
                have H618 := Lib.hid (H616.out.of_below hb618)
                clear hb618
                obtain ⟨-, c1, c2, c3, -⟩ := bigI f.a f.ks.length 51 w618 bf (H618.out.blkm (b := bf) (.tail _ (.tail _ (.tail _ (.tail _ (.tail _ (.tail _ (.head _))))))))
                obtain ⟨r0, r1, r2, r3, -⟩ := blk_four (H618.out.blkm (b := bR) (.tail _ (.tail _ (.head _))))
                obtain ⟨x0, x1, x2, -⟩ := (H618.out.blkm (b := bS) (.tail _ (.head _))).three
                have hS19 : (fun w' : World => (w'.cell? ⟨bf, 1, none⟩ = some (.int .i64 f.a.nd) ∧ w'.cell? ⟨bf, 2, none⟩ = some (.int .i64 f.a.x) ∧ w'.cell? ⟨bf, 3, none⟩ = some (.int .i64 f.a.y)) ∧ (w'.cell? ⟨bR, 0, none⟩ = some (.int .i64 rx) ∧ w'.cell? ⟨bR, 1, none⟩ = some (.int .i64 ry) ∧ w'.cell? ⟨bR, 2, none⟩ = some (.int .i64 rw') ∧ w'.cell? ⟨bR, 3, none⟩ = some (.int .i64 rh)) ∧ (w'.cell? ⟨bS, 1, none⟩ = some (.int .i64 sx) ∧ w'.cell? ⟨bS, 2, none⟩ = some (.int .i64 sy))) w618 := ⟨⟨c1, c2, c3⟩, ⟨r0, r1, r2, r3⟩, ⟨x1, x2⟩⟩
                clear c1 c2 c3 r0 r1 r2 r3 x0 x1 x2
                refine ⟨_, rfl, HK'.out _ _ ⟨hS19, ?_⟩⟩
                clear HK' K'
                try simp only [Act.put, List.getElem_toArray, List.getElem_cons_zero, List.getElem_cons_succ, List.setIfInBounds_toArray, List.set_cons_zero, List.set_cons_succ]
                refine held_one (i := 35) rfl (by kernel_rfl) ?_
                intro K' hK; have HK' := Lib.hid hK; clear hK
                refine wp_call (by rfl) (by rfl) Try.func25 (by kernel_rfl) (by kernel_rfl) (by kernel_rfl) (moved_n sy _ _ ht Y _ HY.out) ?_
                rintro e w620 ⟨rfl, hb620⟩
                have H620 := Lib.hid (H618.out.of_below hb620)
                clear hb620
                obtain ⟨-, c1, c2, c3, -⟩ := bigI f.a f.ks.length 51 w620 bf (H620.out.blkm (b := bf) (.tail _ (.tail _ (.tail _ (.tail _ (.tail _ (.tail _ (.head _))))))))
                obtain ⟨r0, r1, r2, r3, -⟩ := blk_four (H620.out.blkm (b := bR) (.tail _ (.tail _ (.head _))))
                obtain ⟨x0, x1, x2, -⟩ := (H620.out.blkm (b := bS) (.tail _ (.head _))).three
                have hS21 : (fun w' : World => (w'.cell? ⟨bf, 1, none⟩ = some (.int .i64 f.a.nd) ∧ w'.cell? ⟨bf, 2, none⟩ = some (.int .i64 f.a.x) ∧ w'.cell? ⟨bf, 3, none⟩ = some (.int .i64 f.a.y)) ∧ (w'.cell? ⟨bR, 0, none⟩ = some (.int .i64 rx) ∧ w'.cell? ⟨bR, 1, none⟩ = some (.int .i64 ry) ∧ w'.cell? ⟨bR, 2, none⟩ = some (.int .i64 rw') ∧ w'.cell? ⟨bR, 3, none⟩ = some (.int .i64 rh)) ∧ (w'.cell? ⟨bS, 1, none⟩ = some (.int .i64 sx) ∧ w'.cell? ⟨bS, 2, none⟩ = some (.int .i64 sy))) w620 := ⟨⟨c1, c2, c3⟩, ⟨r0, r1, r2, r3⟩, ⟨x1, x2⟩⟩
                clear c1 c2 c3 r0 r1 r2 r3 x0 x1 x2
                refine ⟨_, rfl, HK'.out _ _ ⟨hS21, ?_⟩⟩
                clear HK' K'
                try simp only [Act.put, List.getElem_toArray, List.getElem_cons_zero, List.getElem_cons_succ, List.setIfInBounds_toArray, List.set_cons_zero, List.set_cons_succ]
                refine held_one (i := 36) rfl (by kernel_rfl) ?_
                intro K' hK; have HK' := Lib.hid hK; clear hK
                go_simp
                refine HK'.out _ _ ⟨hS21, ?_⟩
                clear HK' K'
                try simp only [Act.put, List.getElem_toArray, List.getElem_cons_zero, List.getElem_cons_succ, List.setIfInBounds_toArray, List.set_cons_zero, List.set_cons_succ]
                refine held_one (i := 38) rfl (by kernel_rfl) ?_
                intro K' hK; have HK' := Lib.hid hK; clear hK
                obtain ⟨y0, y1, y2, y3, y4, y5⟩ := H620.out.blk.1.three
                go_simp
                have h64 := ((H620.out.set 0 (.int .i64 f.a.nd)).set 1 (.int .i64 X)).set 2 (.int .i64 Y)
                simp only [List.setIfInBounds_toArray, List.set_cons_zero, List.set_cons_succ] at h64
                obtain ⟨W64, hW64⟩ : ∃ W, ((w620.setCell ⟨bX, 0, none⟩ (.int .i64 f.a.nd)).setCell ⟨bX, 1, none⟩ (.int .i64 X)).setCell ⟨bX, 2, none⟩ (.int .i64 Y) = W := ⟨_, rfl⟩
                rw [hW64] at h64
                rw [hW64]
                have H64 := Lib.hid h64
                clear h64 hW64 y0 y1 y2 y3 y4 y5
                obtain ⟨-, c1, c2, c3, -⟩ := bigI f.a f.ks.length 51 W64 bf (H64.out.blkm (b := bf) (.tail _ (.tail _ (.tail _ (.tail _ (.tail _ (.tail _ (.head _))))))))
                obtain ⟨r0, r1, r2, r3, -⟩ := blk_four (H64.out.blkm (b := bR) (.tail _ (.tail _ (.head _))))
                obtain ⟨x0, x1, x2, -⟩ := (H64.out.blkm (b := bS) (.tail _ (.head _))).three
                have hS22 : (fun w' : World => (w'.cell? ⟨bf, 1, none⟩ = some (.int .i64 f.a.nd) ∧ w'.cell? ⟨bf, 2, none⟩ = some (.int .i64 f.a.x) ∧ w'.cell? ⟨bf, 3, none⟩ = some (.int .i64 f.a.y)) ∧ (w'.cell? ⟨bR, 0, none⟩ = some (.int .i64 rx) ∧ w'.cell? ⟨bR, 1, none⟩ = some (.int .i64 ry) ∧ w'.cell? ⟨bR, 2, none⟩ = some (.int .i64 rw') ∧ w'.cell? ⟨bR, 3, none⟩ = some (.int .i64 rh)) ∧ (w'.cell? ⟨bS, 1, none⟩ = some (.int .i64 sx) ∧ w'.cell? ⟨bS, 2, none⟩ = some (.int .i64 sy))) W64 := ⟨⟨c1, c2, c3⟩, ⟨r0, r1, r2, r3⟩, ⟨x1, x2⟩⟩
                clear c1 c2 c3 r0 r1 r2 r3 x0 x1 x2
                refine HK'.out _ _ ⟨hS22, ?_⟩
                clear HK' K'
                try simp only [Act.put, List.getElem_toArray, List.getElem_cons_zero, List.getElem_cons_succ, List.setIfInBounds_toArray, List.set_cons_zero, List.set_cons_succ]
                refine wpAnyH_done (by kernel_rfl) ?_ _
                exact fin W64 bX H64.out
            case fin =>
              intro W64 bX h64
              have H64 := Lib.hid h64
              clear h64 hS
              obtain ⟨x0, x1, x2, -⟩ := H64.out.blk.1.three
              go_wp2_with (first
                | (refine st_load_w (by kernel_rfl) (.tmp 7) rfl (fc f) H66.out (.tail _ (.tail _ (.tail _ (.tail _ (.tail _ (.tail _ (.tail _ (.head _)))))))) rfl rfl Try.underlying51 rfl size51 ?_)
                | (refine st_load rfl (.tmp 7) rfl (fc f) H64.out (.tail _ (.tail _ (.tail _ (.tail _ (.tail _ (.tail _ (.head _))))))) rfl rfl Try.underlying51 rfl size51 ?_)
                | (go_at_call 21; refine (scroll_x f s9 c9 M.length M f.a.nd X Y wd ht cp cq _ (fts_at H64.out (.tail _ (.tail _ (.tail _ (.tail _ (.tail _ (.tail _ (.tail _ (.head _)))))))) f (by simp)) hfs (H64.out.slm (.tail _ (.tail _ (.tail _ (.tail _ (.tail _ (.head _))))))).rd rfl (by omega) HCP.out HCQ.out R HSC.out).mono ?_; rintro e w65 ⟨s65, c65, rfl, hb65⟩; have H65 := Lib.hid (H64.out.own_new hb65); clear hb65 x0 x1 x2)
                | (go_at_call 26; refine (alike_any s67 s13 c67 c13 R.length R _ H67.out.sl.rd (H67.out.slm (.tail _ (.tail _ (.tail _ (.tail _ (.tail _ (.tail _ (.head _)))))))).rd rfl (by omega)).mono ?_; rintro e w68 ⟨rfl, hb68⟩; have H68 := Lib.hid (H67.out.of_below hb68); clear hb68)
                | (go_at_call 26; refine (alike_any s13 s65 c13 c65 R.length R _ (H65.out.slm (.tail _ (.tail _ (.tail _ (.tail _ (.tail _ (.head _))))))).rd H65.out.sl.rd rfl (by omega)).mono ?_; rintro e w66 ⟨rfl, hb66⟩; have H66 := Lib.hid (H65.out.of_below hb66); clear hb66)
                | (go_at_call 23; refine (reveal_any f s13 c13 R.length R nd wd ht _ (fts_at H66.out (.tail _ (.tail _ (.tail _ (.tail _ (.tail _ (.tail _ (.tail _ (.tail _ (.head _))))))))) f (by simp)) hfs (H66.out.slm (.tail _ (.tail _ (.tail _ (.tail _ (.tail _ (.head _))))))).rd rfl (by omega) R HRV.out).mono ?_; rintro e w67 ⟨s67, c67, rfl, hb67⟩; have H67 := Lib.hid (H66.out.own_new hb67); clear hb67))
              go_ret
              exact ⟨rfl, by first | exact H68.out.bel | (have := H68.out.bel; rw [hm] at this; exact this)⟩
      · have hkI : ¬ (k : Int) < ((bxs 0 0 f).length : Int) := by omega
        have hke : k = (bxs 0 0 f).length := by omega
        have hno := HNO.out
        rw [hke, List.take_length] at hno
        have hln : locT nd f = none := List.find?_eq_none.2 (fun p hp => by simp [hno p hp])
        have hRM : R = M := by rw [← HRS.out, revT, hln]
        subst hRM
        clear hno hln
        go_wp2_with (go_at_call 26; refine (alike_any s13 s9 c13 c9 R.length R _ (HS.out.slm (.tail _ (.head _))).rd (HS.out.slm (.tail _ (.tail _ (.head _)))).rd rfl (by omega)).mono ?_; rintro e w11 ⟨rfl, hb11⟩; have H11 := Lib.hid (HS.out.of_below hb11); clear hb11)
        go_ret
        exact ⟨rfl, by first | exact H11.out.bel | (have := H11.out.bel; rw [hm] at this; exact this)⟩
end Go.Proofs.Ytfjjgebfeklnhaa
