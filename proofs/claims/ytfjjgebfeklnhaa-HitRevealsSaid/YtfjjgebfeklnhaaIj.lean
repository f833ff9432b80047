/-
  ref24.Extent; the walk of HitExtent.
-/
import Derived.Test.YtfjjgebfeklnhaaIi
import Derived.Test.YtfjjgebfeklnhaaHh
set_option linter.unusedVariables false
set_option linter.unusedSimpArgs false
namespace Go.Proofs.Ytfjjgebfeklnhaa
open Go.RowKit Go.K

def rextW (t : Ft) : Int := wr (emax gX (rcts t) - t.a.x)
def rextH (t : Ft) : Int := wr (emax gY (rcts t) - t.a.y)
theorem rext_eq {d : Nat} {t : Ft} (h : FtOk d t) (hd : d ≤ 1000) : rextW t = extW t ∧ rextH t = extH t := by
  obtain ⟨e1, e2, e3, e4⟩ := ext_w h hd
  obtain ⟨⟨b1, b2⟩, ⟨b3, b4⟩⟩ := ext_bd h hd
  constructor
  · rw [rextW, e3, ← e1]; exact wr_id (by omega) (by omega)
  · rw [rextH, e4, ← e2]; exact wr_id (by omega) (by omega)

set_option maxRecDepth 100000 in
set_option maxHeartbeats 1000000 in
theorem rext_c (t : Ft) (w : World) (hT : FtAt w t) (hsz : t.sz ≤ 100000) :
    Calls Try.prog 17 #[.agg (fc t).toArray] w fun e w' => e = .returned (.tuple #[.int .i64 (rextW t), .int .i64 (rextH t)]) ∧ Below w.heap.size w w' := by
  have hne : bxs 0 0 t ≠ [] := by cases t; rw [bxs]; simp
  have hbl : (bxs 0 0 t).length ≤ 1000000 := by rw [bxs_len]; omega
  have H1 := Lib.hid ((St.start w (Below.refl _ w)).new (fc t).toArray 51)
  have HT := Lib.hid hT
  have HE := Lib.hid (fun (w' : World) (s : Option Addr) (c : Nat) h => edges_c s c (bxs 0 0 t) w' h hne hbl)
  obtain ⟨mx, hmx⟩ : ∃ mx, emax gX ((bxs 0 0 t).map (·.2)) = mx := ⟨_, rfl⟩
  obtain ⟨my, hmy⟩ : ∃ my, emax gY ((bxs 0 0 t).map (·.2)) = my := ⟨_, rfl⟩
  rw [hmx, hmy] at HE
  have e1 : wrap64 (mx - t.a.x) = rextW t := by rw [wr64, rextW, rcts, hmx]
  have e2 : wrap64 (my - t.a.y) = rextH t := by rw [wr64, rextH, rcts, hmy]
  have HE1 := Lib.hid e1
  have HE2 := Lib.hid e2
  clear hT hmx hmy e1 e2 hne
  go_enter Try.func17, Try.ntmps17
  go_upto_region 2 with (first
    | (refine st_load rfl (.tmp 1) rfl (fc t) H1.out (.head _) rfl rfl Try.underlying51 rfl size51 ?_)
    | (go_at_call 24; refine (boxes_c t.sz t 0 0 _ (Nat.le_refl _) hsz (HT.out.stay H1.out.bel)).mono ?_; rintro e w2 ⟨s2, c2, rfl, h2⟩; have H2 := Lib.hid (H1.out.of_below h2.bel); have R2 := Lib.hid h2.rd; clear h2)
    | (go_at_call 35; refine (HE.out _ _ _ R2.out).mono ?_; rintro e w3 ⟨rfl, hb3⟩; have H3 := Lib.hid (H2.out.of_below hb3); clear hb3))
  obtain ⟨-, -, c2', c3', -⟩ := bigI t.a t.ks.length 51 _ _ (H3.out.blkm (.head _))
  go_quiet (fail)
  rw [HE1.out, HE2.out]
  go_wp2_with fail
  refine bodyPost_ret (results_tmp2 rfl _ _ _) rfl ?_
  exact ⟨rfl, below_drewN H3.out.bel⟩

theorem few_szS {t : Sh} (h : fewS t = true) : deepB 8 t = false ∧ t.sz ≤ 40 := few_sz h
set_option maxRecDepth 100000 in
set_option maxHeartbeats 1000000 in
theorem extent_go (t : Sh) (w : World) (hat : ShAt w t) : Calls Try.prog 4 #[.agg (shc t).toArray] w fun e w' => e = .returned (.bool true) ∧ Below w.heap.size w w' := by
  obtain ⟨a, ks⟩ := t
  obtain ⟨r, hr⟩ : ∃ r, fewS (.mk a ks) = r := ⟨_, rfl⟩
  have HR := Lib.hid hr
  have HA := Lib.hid hat
  clear hat hr
  show Calls Try.prog 4 #[.agg #[.int .i8 a.x, .int .i8 a.y, .int .u8 a.w, .int .u8 a.h, .int .u8 a.kd, .int .u8 a.bd, .slice a.s ks.length a.c]] w _
  obtain ⟨W, hW⟩ : ∃ W, w.alloc (.cells #[.int .i8 a.x, .int .i8 a.y, .int .u8 a.w, .int .u8 a.h, .int .u8 a.kd, .int .u8 a.bd, .slice a.s ks.length a.c] 39) = W := ⟨_, rfl⟩
  obtain ⟨m, hm⟩ : ∃ b, w.heap.size = b := ⟨_, rfl⟩
  have h1 := (St.start w (Below.refl _ w)).new #[.int .i8 a.x, .int .i8 a.y, .int .u8 a.w, .int .u8 a.h, .int .u8 a.kd, .int .u8 a.bd, .slice a.s ks.length a.c] 39
  rw [hW, hm] at h1
  have H1 := Lib.hid h1
  clear h1
  cases r with
  | false =>
    go_enter Try.func4, Try.ntmps4
    go_wp2_with (first
      | (go_at_call 8; refine (awake_any _).mono ?_; rintro e wb ⟨rfl, hbb⟩; have H3 := Lib.hid (H2.out.of_below hbb); clear hbb)
      | (go_at_call 8; refine (awake_any _).mono ?_; rintro e wa ⟨rfl, hba⟩; have H2 := Lib.hid (H1.out.of_below hba); clear hba; obtain ⟨s0, s1, s2, s3, s4, s5, s6⟩ := blk7 (H2.out.blkm (.head _)))
      | (go_at_call 14; refine (fewS_c (.mk a ks) _ (HA.out.stay H2.out.bel)).mono ?_; rintro e wc ⟨rfl, hbc⟩; rw [HR.out]; have H2 := Lib.hid (H2.out.of_below hbc); clear hbc))
    go_ret
    exact ⟨rfl, H3.out.bel⟩
  | true =>
    have hfw := few_sz HR.out
    have HFW := Lib.hid hfw
    clear hfw
    have z51 := zv51
    go_enter Try.func4, Try.ntmps4
    go_upto_region 3 with (first
      | (go_at_call 8; refine (awake_any _).mono ?_; rintro e wa ⟨rfl, hba⟩; have H2 := Lib.hid (H1.out.of_below hba); clear hba; obtain ⟨s0, s1, s2, s3, s4, s5, s6⟩ := blk7 (H2.out.blkm (.head _)))
      | (go_at_call 14; refine (fewS_c (.mk a ks) _ (HA.out.stay H2.out.bel)).mono ?_; rintro e wc ⟨rfl, hbc⟩; rw [HR.out]; have H3 := Lib.hid (H2.out.of_below hbc); clear hbc s0 s1 s2 s3 s4 s5 s6; obtain ⟨s0, s1, s2, s3, s4, s5, s6⟩ := blk7 (H3.out.blkm (.head _))))
    go_upto_region 4 with (first
      | (go_at_call 15; refine (frag_c 8 (.mk a ks) 0 w _ _ HA.out HFW.out.1 (by omega) (by have := HFW.out.2; omega) H3.out).mono ?_; rintro e wd ⟨f, rfl, q1, q2, q3, q4⟩; have Q1 := Lib.hid q1; have Q3 := Lib.hid q3; have H4 := Lib.hid q4; have H5 := Lib.hid (q4.new (fv Fz 0).toArray 51); clear q1 q2 q3 q4)
      | (refine st_store rfl (.tmp 3) (.tmp 20) rfl H5.out (fc f) rfl rfl rfl rfl size51 (fc_one _) ?_; intro W6 HW6; have H6 := Lib.hid HW6; clear HW6))
    clear z51 s0 s1 s2 s3 s4 s5 s6
    have hfs : f.sz ≤ 100000 := by have := Q3.out; have := HFW.out.2; omega
    go_upto_region 5 with (first
      | (refine st_load rfl (.tmp 3) rfl (fc f) H6.out (.head _) rfl rfl Try.underlying51 rfl size51 ?_)
      | (go_at_call 16; refine (extent_any f _ (fts_at H6.out (.tail _ (.head _)) f (by simp)) hfs).mono ?_; rintro e w7 ⟨rfl, hb7⟩; have H7 := Lib.hid (H6.out.of_below hb7); clear hb7))
    go_upto_region 6 with (first
      | (refine st_load rfl (.tmp 3) rfl (fc f) H7.out (.head _) rfl rfl Try.underlying51 rfl size51 ?_)
      | (go_at_call 17; refine (rext_c f _ (fts_at H7.out (.tail _ (.head _)) f (by simp)) hfs).mono ?_; rintro e w8 ⟨rfl, hb8⟩; have H8 := Lib.hid (H7.out.of_below hb8); clear hb8))
    obtain ⟨e1, e2⟩ := rext_eq Q1.out (by omega)
    rw [e1, e2]
    clear e1 e2
    go_wp2_with fail
    go_ret
    exact ⟨rfl, H8.out.bel⟩
end Go.Proofs.Ytfjjgebfeklnhaa
