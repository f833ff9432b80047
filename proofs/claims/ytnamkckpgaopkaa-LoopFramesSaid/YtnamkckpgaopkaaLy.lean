/-
  The walk of LoopRepeats.
-/
import Derived.Test.YtnamkckpgaopkaaLx
import Derived.Test.YtnamkckpgaopkaaLv
set_option linter.unusedVariables false
set_option linter.unusedSimpArgs false
namespace Go.Proofs.Ytnamkckpgaopkaa
open Go.RowKit Go.K

theorem RpI.weak {n nxt : Int} {S : LS} {k k' : Nat} (h : RpI n S nxt k) (hk : k ≤ k') : RpI n S nxt k' :=
  ⟨h.bnd, h.idle, h.q, h.calls, h.tm, by have := h.nx; omega, by have := h.ord; omega⟩
theorem _root_.Go.K.St.only {w0 w : World} {A : As} {L : List As} (h : St w0 w (A :: L)) : St w0 w [A] := by
  obtain ⟨F, ⟨F1, F2, h1, -, h6, -⟩, h8⟩ := h.sep
  exact ⟨h.bel, F1, ⟨F1, fun _ => False, h1, fun _ q => q, fun k => by simp, fun _ _ q => q⟩, fun k q => h8 k ((h6 k).2 (.inl q))⟩
theorem rp_end {n nxt : Int} {S : LS} {k : Nat} (h : RpI n S nxt k) (t : Int) (h0 : 0 ≤ t) (h1 : t ≤ 1000000) :
    clearB { S with calls := [], tm := [], now := t } 1 = false ∧ clearS { S with calls := [], tm := [], now := t } 1 = { S with calls := [], tm := [], now := t } ∧ Bnd { S with calls := [], tm := [], now := t } ∧
      ∀ S' x l, NextR { S with calls := [], tm := [], now := t } S' x l → x = Ch.z := by
  have hB := h.bnd
  have hb : Bnd { S with calls := [], tm := [], now := t } := ⟨hB.q, by simp, by simp, hB.shots, hB.jobs, hB.nx0, hB.nx1, hB.ord0, hB.ord1, h0, by simp only; omega, hB.last0, hB.last1, hB.us0, hB.us1, by simp, hB.sh0, hB.sh1⟩
  refine ⟨rfl, rfl, hb, fun S' x l hn => ?_⟩
  refine (next_none hn h.idle.1 ?_ h.q (fire_nil rfl)).1
  obtain ⟨-, h2, h3⟩ := h.idle
  rintro ⟨q | q, -⟩
  · simp only at q; rw [h3] at q; cases q
  · simp only at q; rw [h2] at q; cases q
def RpRel (zs : List Int) (b : Nat) (n : Int) (w : World) (g : Nat) (v10 v35 : Value) (wr : World) : Prop :=
  ∃ (k : Nat) (S : LS) (nxt : Int), g = zs.length - k ∧ k ≤ zs.length ∧ v35 = .int .i64 k ∧ v10 = .int .i64 nxt ∧ RpI n S nxt k ∧ S.now ≤ 255 * k ∧ nxt ≤ 100000 ∧ St w wr [stO b S]
theorem ticked (S : LS) (a : Int) (ha : 0 ≤ a) : ({ S with now := max S.now (S.now + a) } : LS) = { S with now := S.now + a } := by
  have : max S.now (S.now + a) = S.now + a := by omega
  rw [this]
theorem fld0 (x : Ch) (w : World) : (Instr.field 50 (.agg x.cells.toArray) 0).run Try.prog w = .ok (.int .i64 x.k) w := by kernel_rfl
set_option maxRecDepth 100000 in
set_option maxHeartbeats 4000000 in
theorem repeats_go (d ev : Int) (s : Option Addr) (cap : Nat) (zs : List Int) (w : World) (hr : Rd w 1 s zs.length (zs.map (Value.int .u8))) (hz : ∀ z ∈ zs, 0 ≤ z ∧ z ≤ 255) (hd : 0 ≤ d ∧ d ≤ 255) (hev : 0 ≤ ev ∧ ev ≤ 255) :
    Calls Try.prog 5 #[.int .u8 d, .int .u8 ev, .slice s zs.length cap] w fun e w' => e = .returned (.bool true) ∧ Below w.heap.size w w' := by
  have HR := Lib.hid hr
  have HZ := Lib.hid hz
  clear hr hz
  by_cases hlen : (60 : Int) < (zs.length : Int)
  · go_enter Try.func5, Try.ntmps5
    go_wp2_with (first
      | (go_at_call 11; refine (awake_c _).mono ?_; rintro e wb ⟨rfl, hbb⟩; have H3 := Lib.hid (H2.out.trans (hbb.mono H2.out.size)); clear hbb)
      | (go_at_call 11; refine (awake_c _).mono ?_; rintro e wa ⟨rfl, hba⟩; have H2 := Lib.hid hba; clear hba))
    go_ret
    exact ⟨rfl, H3.out⟩
  have hlen2 : (zs.length : Int) ≤ 60 := by omega
  obtain ⟨M, hM⟩ : ∃ M, ev % 50 = M := ⟨_, rfl⟩
  have hMt : ev.tmod 50 = M := by rw [Int.tmod_eq_emod_of_nonneg hev.1]; exact hM
  have hM0 : 0 ≤ M := by omega
  have hM1 : M ≤ 49 := by omega
  obtain ⟨hd0, hd1⟩ := hd
  obtain ⟨he0, he1⟩ := hev
  have hwd : IntKind.i64.wrap d = d := by rw [IntKind.wrap_i64]; omega
  have hwe : IntKind.i64.wrap ev = ev := by rw [IntKind.wrap_i64]; omega
  go_enter Try.func5, Try.ntmps5
  go_upto_region 3 with (go_at_call 11; refine (awake_c _).mono ?_; rintro e wa ⟨rfl, hba⟩; have H2 := Lib.hid (St.start w hba); clear hba)
  clear hlen hM
  have H3 := Lib.hid (st_start (H2.out.rdr_nil 4))
  go_upto_region 4 with fail
  obtain ⟨b, hb⟩ : ∃ b, wa.heap.size = b := ⟨_, rfl⟩
  rw [hb] at H3
  simp only [hb]
  clear hb H2
  obtain ⟨W3, hW3⟩ : ∃ W, wa.alloc (.cells zcells 37) = W := ⟨_, rfl⟩
  have hW3' : wa.alloc (.cells #[.int .i64 0, .slice none 0 0, .slice none 0 0, .slice none 0 0, .slice none 0 0, .slice none 0 0, .int .i64 0, .slice none 0 0, .slice none 0 0, .int .i64 0, .slice none 0 0, .slice none 0 0, .int .i64 0, .bool false, .int .i64 0, .int .i64 0] 37) = W3 := hW3
  rw [hW3] at H3
  rw [hW3']
  clear hW3 hW3'
  go_upto_region 6 with (first
    | (go_at_call 15; refine (number_c 5 _).mono ?_; rintro e w4 ⟨rfl, hb4⟩; have H4 := Lib.hid (H3.out.of_below hb4); clear hb4; simp only [vcells])
    | (go_at_call 14; refine (set_st d (1 + M) 5 none 0 0 [] H4.out (by omega) (by simp [LS.zero]) (by simp [LS.zero]) (by simp [LS.zero]) (by simp [LS.zero]) (by simp [LS.zero]) (by simp [LS.zero])).mono ?_; rintro e w5 ⟨rfl, i, sa, sc, hf, h5⟩; have HF := Lib.hid hf; have H5 := Lib.hid h5; clear hf h5))
  have hbd : bound d = d := by unfold bound; omega
  have hbn : bound (1 + M) = 1 + M := by unfold bound; omega
  have hf := HF.out
  have h5 := H5.out
  rw [hbd] at hf
  rw [hbd, hbn] at h5
  have h50 : LS.zero.now + d = d := by simp [LS.zero]
  have h51 : LS.zero.nx + 1 = 1 := rfl
  rw [h50, h51] at hf h5
  have HI := Lib.hid (rp_set (n := 1 + M) ⟨hd0, hd1⟩ ⟨by omega, by omega⟩ hf (a := sa) (c := sc))
  obtain ⟨S0, hS0⟩ : ∃ S0 : LS, { LS.zero with tm := insAt LS.zero.tm i ⟨1, d, 1⟩, nx := 1, calls := LS.zero.calls ++ [⟨1, 1 + M, 3, 5, sa, 0, sc⟩] } = S0 := ⟨_, rfl⟩
  have hnow0 : S0.now = 0 := by rw [← hS0]; rfl
  rw [hS0] at HI h5
  have H6 := Lib.hid h5.swap.drop
  clear hf h5 HF H5 H4 H3 hS0 hbd hbn
  have hz1 : (LS.zero.nx + 1 : Int) = 1 := rfl
  simp only [hz1]
  go_wp2_with fail
  go_loopg [10, 35] zs.length (RpRel zs b (1 + M) w)
  case atStart => exact ⟨0, S0, d, rfl, Nat.zero_le _, rfl, rfl, HI.out, by omega, by omega, H6.out⟩
  case round =>
    obtain ⟨k, S, nxt, hg, hk, rfl, rfl, hi, hnw, hnx, hst⟩ := hrel
    have Hg := Lib.hid hg
    have HI2 := Lib.hid hi
    have HS := Lib.hid hst
    clear hg hi hst HI H6
    by_cases hkn : k < zs.length
    · have hkI : (k : Int) < (zs.length : Int) := by omega
      have hkI0 : (0 : Int) ≤ (k : Int) := by omega
      obtain ⟨z, hzz⟩ : ∃ z, zs.getD k 0 = z := ⟨_, rfl⟩
      have hzm : z ∈ zs := by rw [← hzz, List.getD_eq_getElem?_getD, List.getElem?_eq_getElem hkn]; exact List.getElem_mem hkn
      obtain ⟨hz0, hz1⟩ := HZ.out z hzm
      have hwz : IntKind.i64.wrap z = z := by rw [IntKind.wrap_i64]; omega
      obtain ⟨g, off, rfl, hcell⟩ := u8_at (HR.out.kept (Fr.of_below HS.out.bel) (fun _ _ q => q)) hkn z hzz
      obtain ⟨p7, G7, -, h7⟩ := st_open HS.out
      obtain ⟨c0, -⟩ := st_c h7
      have hno0 := HI2.out.bnd.now0
      have hwn : IntKind.i64.wrap (S.now + z) = S.now + z := by rw [IntKind.wrap_i64]; omega
      obtain ⟨S1, hS1⟩ : ∃ S1 : LS, { S with now := S.now + z } = S1 := ⟨_, rfl⟩
      have hI3 : RpI (1 + M) S1 nxt k := by rw [← hS1, ← ticked S z hz0]; exact rp_tick HI2.out _ (by omega)
      have HN1 := Lib.hid (show S1.now = S.now + z by rw [← hS1])
      have HI3 := Lib.hid hI3
      have HT := Lib.hid (ticked S z hz0)
      have HS1 := Lib.hid hS1
      clear h7 hzz hzm hI3 hS1
      go_upto_region 10 with fail
      go_still_tail 8, (by kernel_rfl)
      change wpList _ _ _ _ _ wr.drew
      have HSd := Lib.hid HS.out.drew
      clear HS c0 hcell
      go_upto_region 12 with (first
        | (go_at_call 17; refine (tick_st (S.now + z) HSd.out).mono ?_; rintro e w8 ⟨rfl, h8⟩; rw [HT.out, HS1.out] at h8; have H8 := Lib.hid h8; clear h8)
        | (go_at_call 13; refine (next_st H8.out (HI3.out.room (by omega)) (rp_bfire HI3.out (by omega))).mono ?_; rintro e w9 ⟨S2, x, l, rfl, hn, -, -, h9⟩; have HN := Lib.hid hn; have H9 := Lib.hid (h9.new Ch.z.cells.toArray 50); clear hn h9)
        | (refine st_store rfl (.tmp 12) (.tmp 47) rfl H9.out x.cells rfl rfl rfl rfl size50 (Ch.one _) ?_; intro W10 HW10; have H10 := Lib.hid HW10; clear HW10))
      obtain ⟨m, hm⟩ : ∃ m, w9.heap.size = m := ⟨_, rfl⟩
      rw [hm] at H10
      simp only [hm]
      clear hm H9 H8 HSd
      have k0 := H10.out.cell 0
      have k8 := H10.out.cell 8
      have k9 := H10.out.cell 9
      have k0' : W10.cell? ⟨m, 0, none⟩ = some (.int .i64 x.k) := k0
      have k8' : W10.cell? ⟨m, 8, none⟩ = some (.int .i64 x.c.id) := k8
      have k9' : W10.cell? ⟨m, 9, none⟩ = some (.int .i64 x.c.ev) := k9
      clear k0 k8 k9
      obtain ⟨p11, G11, -, h11⟩ := st_open H10.out.swap
      obtain ⟨c0, -⟩ := st_c h11
      clear h11
      have hn1 := HN1.out
      by_cases hdue : nxt ≤ S1.now
      · obtain ⟨e1, e2, e3, e4, e5⟩ := rp_due HI3.out (by omega) (by omega) (by omega) hdue HN.out
        have E4 := Lib.hid e4
        have E5 := Lib.hid e5
        rw [e1] at k0'
        rw [e2] at k8'
        rw [e3] at k9'
        rw [e5, hn1] at c0
        have hdue2 : nxt ≤ S.now + z := by rw [← hn1]; exact hdue
        have HDUE := Lib.hid hdue
        have hwm : IntKind.i64.wrap (S.now + z + (1 + M)) = S.now + z + (1 + M) := by rw [IntKind.wrap_i64]; omega
        have hE1 := Lib.hid e1
        have hfl := fld0
        have HD2 := Lib.hid (show S2.now < S1.now + (1 + M) by rw [e5]; omega)
        have HNO := Lib.hid (show S1.now + (1 + M) = S.now + z + (1 + M) by rw [hn1])
        have HNW := Lib.hid (show S2.now = S.now + z by rw [e5, hn1])
        clear e1 e2 e3 e4 e5 hn1 hdue
        have hb1 : ((1 : Int) != 1) = false := by decide
        have hb2 : (1 + M != 1 + M) = false := by simp
        go_wp2_with (go_at_call 13; refine (next_st H10.out.swap (E4.out.room (by omega)) (rp_bfire E4.out (by omega))).mono ?_; rintro e w12 ⟨S5, x5, l5, rfl, hn5, -, -, h12⟩; obtain ⟨rfl, rfl⟩ := rp_late E4.out HD2.out hn5; have H12 := Lib.hid h12; clear h12 hn5)
        go_roundg (zs.length - (k + 1))
        case measure => have := Hg.out; omega
        case rel => exact ⟨k + 1, S5, _, rfl, hkn, by simp, by rw [HNO.out], E4.out, by rw [HNW.out]; omega, by rw [HNO.out]; omega, H12.out.only⟩
      · obtain ⟨rfl, rfl⟩ := rp_late HI3.out (by omega) HN.out
        have hk0 : (Ch.z.k : Int) = 0 := rfl
        rw [hk0] at k0'
        rw [hn1] at c0 hdue
        have HNW := Lib.hid hn1
        clear k8' k9' hn1 hk0
        go_wp2_with fail
        go_roundg (zs.length - (k + 1))
        case measure => have := Hg.out; omega
        case rel => exact ⟨k + 1, S2, nxt, rfl, hkn, by simp, rfl, HI3.out.weak (by omega), by rw [HNW.out]; omega, by omega, H10.out.swap.only⟩
    · have hkI : ¬ (k : Int) < (zs.length : Int) := by omega
      obtain ⟨r1, r2, r3, r4, r5⟩ := rp_clear HI2.out
      have R1 := Lib.hid r1
      have R5 := Lib.hid r5
      have hno0 := HI2.out.bnd.now0
      have hwn : IntKind.i64.wrap (S.now + 1000) = S.now + 1000 := by rw [IntKind.wrap_i64]; omega
      obtain ⟨t1, t2, t3, t4⟩ := rp_end HI2.out (S.now + 1000) (by omega) (by omega)
      have T1 := Lib.hid t1
      have T2 := Lib.hid t2
      have T3 := Lib.hid t3
      have T4 := Lib.hid t4
      have HCL := Lib.hid HI2.out.bnd.calls
      have HTL := Lib.hid HI2.out.bnd.tm
      have HTK := Lib.hid (show max S.now (S.now + 1000) = S.now + 1000 by omega)
      have hfl := fld0
      clear r1 r2 r3 r4 r5 t1 t2 t3 t4
      go_upto_region 20 with (go_at_call 16; refine (clear_st 1 HS.out HCL.out HTL.out).mono ?_; rintro e w8 ⟨rfl, h8⟩; rw [R5.out] at h8; rw [R1.out]; have H8 := Lib.hid h8; clear h8)
      obtain ⟨p9, G9, -, h9⟩ := st_open H8.out
      obtain ⟨c0, -⟩ := st_c h9
      have c0' : w8.cell? ⟨b, 0, none⟩ = some (.int .i64 S.now) := c0
      clear h9 c0
      go_upto_region 21 with (go_at_call 17; refine (tick_st (S.now + 1000) H8.out).mono ?_; rintro e w9 ⟨rfl, h9⟩; have h9' : St w w9 [stO b { S with calls := [], tm := [], now := max S.now (S.now + 1000) }] := h9; rw [HTK.out] at h9'; have H9 := Lib.hid h9'; clear h9 h9')
      clear c0'
      go_wp2_with (first
        | (go_at_call 16; refine (clear_st 1 H9.out (by simp) (by simp)).mono ?_; rintro e w10 ⟨rfl, h10⟩; rw [T2.out] at h10; rw [T1.out]; have H10 := Lib.hid h10; clear h10)
        | (go_at_call 13; refine (next_st H10.out (fire_of rfl T3.out).1 (fire_of rfl T3.out).2).mono ?_; rintro e w11 ⟨S5, x5, l5, rfl, hn5, -, -, h11⟩; obtain rfl := T4.out _ _ _ hn5; have H11 := Lib.hid h11; clear h11 hn5))
      go_ret
      exact ⟨rfl, H11.out.bel⟩

end Go.Proofs.Ytnamkckpgaopkaa
