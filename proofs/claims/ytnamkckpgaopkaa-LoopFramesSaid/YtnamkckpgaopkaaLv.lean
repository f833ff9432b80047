/-
  The walk of LoopFair.
-/
import Derived.Test.YtnamkckpgaopkaaLu
set_option linter.unusedVariables false
set_option linter.unusedSimpArgs false
namespace Go.Proofs.Ytnamkckpgaopkaa
open Go.RowKit Go.K

theorem u8_at {w : World} {s : Option Addr} {zs : List Int} {k : Nat} (h : Rd w 1 s zs.length (zs.map (Value.int .u8))) (hk : k < zs.length) (z : Int) (hz : zs.getD k 0 = z) : ∃ g off, s = some ⟨g, off, none⟩ ∧ w.cell? ⟨g, off + k, none⟩ = some (.int .u8 z) := by
  obtain ⟨g, off, rfl, hc⟩ := h.addr (by omega)
  refine ⟨g, off, rfl, hc k _ ?_⟩
  rw [← hz]
  simp [List.getElem?_map, List.getD, List.getElem?_eq_getElem hk]
def lastA (f : Nat → Int) : Array Value := #[.int .i64 (f 0), .int .i64 (f 1), .int .i64 (f 2), .int .i64 (f 3), .int .i64 (f 4)]
theorem lastA_at {w : World} {b : Nat} {f : Nat → Int} (h : Blk w b (lastA f) 42) (i : Nat) (hi : i < 5) : w.cell? ⟨b, i, none⟩ = some (.int .i64 (f i)) := by
  rw [h.cell]
  obtain rfl | rfl | rfl | rfl | rfl : i = 0 ∨ i = 1 ∨ i = 2 ∨ i = 3 ∨ i = 4 := by omega
  all_goals rfl
theorem lastA_set (f : Nat → Int) (i : Nat) (hi : i < 5) (a : Int) : (lastA f).setIfInBounds i (.int .i64 a) = lastA (upd f i a) := by
  obtain rfl | rfl | rfl | rfl | rfl : i = 0 ∨ i = 1 ∨ i = 2 ∨ i = 3 ∨ i = 4 := by omega
  all_goals simp [lastA, upd]
theorem _root_.Go.K.St.dropto {w0 w : World} {A B C D : As} (h : St w0 w [A, B, C, D]) : St w0 w [A, B] := by
  obtain ⟨F, ⟨F1, F2, h1, ⟨F3, F4, h3, -, h4, h5⟩, h6, h7⟩, h8⟩ := h.sep
  exact ⟨h.bel, fun k => F1 k ∨ F3 k, ⟨F1, F3, h1, ⟨F3, fun _ => False, h3, fun _ q => q, fun k => by simp, fun _ _ q => q⟩, fun _ => Iff.rfl, fun k a b => h7 k a ((h4 k).2 (.inl b))⟩, fun k q => h8 k ((h6 k).2 (q.imp_right (fun r => (h4 k).2 (.inl r))))⟩
def FrRel1 (zs : List Int) (b : Nat) (w : World) (g : Nat) (v4 v24 : Value) (wr : World) : Prop :=
  ∃ (k : Nat) (S : LS), g = zs.length - k ∧ k ≤ zs.length ∧ v24 = .int .i64 k ∧ v4 = .int .i64 (oth S) ∧ FairP zs k S ∧ St w wr [stO b S]
def FrRel2 (S : LS) (b b7 : Nat) (w : World) (g : Nat) (v42 : Value) (wr : World) : Prop :=
  ∃ k : Nat, g = 5 - k ∧ k ≤ 5 ∧ v42 = .int .i64 k ∧ St w wr [As.cells b7 (lastA (fun j => if j < k then -1 else 0)) 42, stO b S]
def FrRel3 (zs : List Int) (b b7 : Nat) (w : World) (g : Nat) (v4 v9 v10 v11 : Value) (wr : World) : Prop :=
  ∃ (S : LS) (n row other others : Int) (last : Nat → Int), g = (zs.length - n).toNat ∧ v4 = .int .i64 others ∧ v9 = .int .i64 row ∧ v10 = .int .i64 n ∧ v11 = .int .i64 other ∧ FairL zs S n row other others last ∧ St w wr [As.cells b7 (lastA last) 42, stO b S]
set_option maxRecDepth 100000 in
set_option maxHeartbeats 4000000 in
theorem fair_go (s : Option Addr) (cap : Nat) (zs : List Int) (w : World) (hr : Rd w 1 s zs.length (zs.map (Value.int .u8))) (hz : ∀ z ∈ zs, 0 ≤ z ∧ z ≤ 255) :
    Calls Try.prog 3 #[.slice s zs.length cap] w fun e w' => e = .returned (.bool true) ∧ Below w.heap.size w w' := by
  have HR := Lib.hid hr
  have HZ := Lib.hid hz
  clear hr hz
  by_cases hlen : (80 : Int) < (zs.length : Int)
  · go_enter Try.func3, Try.ntmps3
    go_wp2_with (first
      | (go_at_call 11; refine (awake_c _).mono ?_; rintro e wb ⟨rfl, hbb⟩; have H3 := Lib.hid (H2.out.trans (hbb.mono H2.out.size)); clear hbb)
      | (go_at_call 11; refine (awake_c _).mono ?_; rintro e wa ⟨rfl, hba⟩; have H2 := Lib.hid hba; clear hba))
    go_ret
    exact ⟨rfl, H3.out⟩
  have hlen2 : (zs.length : Int) ≤ 80 := by omega
  go_enter Try.func3, Try.ntmps3
  go_upto_region 3 with (go_at_call 11; refine (awake_c _).mono ?_; rintro e wa ⟨rfl, hba⟩; have H2 := Lib.hid (St.start w hba); clear hba)
  clear hlen
  have H3 := Lib.hid (st_start H2.out)
  go_wp2_with fail
  obtain ⟨b, hb⟩ : ∃ b, wa.heap.size = b := ⟨_, rfl⟩
  rw [hb] at H3
  simp only [hb]
  clear hb H2
  go_loopg [4, 24] zs.length (FrRel1 zs b w)
  case atStart => exact ⟨0, LS.zero, rfl, Nat.zero_le _, rfl, rfl, fair0 zs, H3.out⟩
  case round =>
    obtain ⟨k, S, hg, hk, rfl, rfl, hf, hst⟩ := hrel
    have Hg := Lib.hid hg
    have HF := Lib.hid hf
    have HS := Lib.hid hst
    clear hg hf hst H3
    by_cases hkn : k < zs.length
    · have hkI : (k : Int) < (zs.length : Int) := by omega
      have hkI0 : (0 : Int) ≤ (k : Int) := by omega
      obtain ⟨z, hzz⟩ : ∃ z, zs.getD k 0 = z := ⟨_, rfl⟩
      have hzm : z ∈ zs := by rw [← hzz, List.getD_eq_getElem?_getD, List.getElem?_eq_getElem hkn]; exact List.getElem_mem hkn
      obtain ⟨hz0, hz1⟩ := HZ.out z hzm
      obtain ⟨g, off, rfl, hcell⟩ := u8_at (HR.out.kept (Fr.of_below HS.out.bel) (fun _ _ q => q)) hkn z hzz
      obtain ⟨i, hi⟩ : ∃ i : Nat, (z % 5).toNat = i := ⟨_, rfl⟩
      have hi5 : i < 5 := by omega
      have hzi : z % 5 = (i : Int) := by omega
      have hzt : z.tmod 5 = (i : Int) := by rw [Int.tmod_eq_emod_of_nonneg hz0]; exact hzi
      have HZI := Lib.hid (show zs.getD k 0 % 5 = (i : Int) by rw [hzz]; exact hzi)
      have hiI0 : (0 : Int) ≤ (i : Int) := by omega
      have hiI5 : (i : Int) < 5 := by omega
      have hoth : (oth S : Int) ≤ 80 := by
        have h1 := HF.out.tot
        have : oth S ≤ tot S := by unfold oth tot; omega
        omega
      have hoth0 : (0 : Int) ≤ (oth S : Int) := by omega
      have HP := Lib.hid (fair_push HF.out (by omega) i hi5 HZI.out)
      have hop := oth_push S i hi5 (tk k)
      have HB := Lib.hid HF.out.bnd
      have HO := Lib.hid HF.out.ord
      clear hzz hzm hi
      by_cases hi0 : i = 0
      · have hib : ((i : Int) != 0) = false := by simp [hi0]
        rw [if_pos hi0] at hop
        have HOP := Lib.hid hop
        have HI0 := Lib.hid hi0
        clear hi0 hop
        go_wp2_with (go_at_call 12; refine (push_st i 1 k HS.out HB.out.q HB.out.ord0 HB.out.ord1).mono ?_; rintro e w2 ⟨rfl, h2⟩; have H2 := Lib.hid h2; clear h2)
        go_roundg (zs.length - (k + 1))
        case measure => have := Hg.out; omega
        case rel =>
          refine ⟨k + 1, _, rfl, hkn, by simp, ?_, HP.out, H2.out⟩
          have e : oth (pushS S i 1 k) = oth (S.setQ i (S.q i ++ [tk k])) := by
            rw [pushS, show srcN (i : Int) = i by unfold srcN; rw [if_neg (by omega)]; omega]; simp [oth, LS.setQ, upd, tk, HO.out]
          rw [e, HOP.out]
          rfl
      · have hib : ((i : Int) != 0) = true := by simp [hi0]
        rw [if_neg hi0] at hop
        have HOP := Lib.hid hop
        have HI0 := Lib.hid hi0
        clear hi0 hop
        go_wp2_with (go_at_call 12; refine (push_st i 1 k HS.out HB.out.q HB.out.ord0 HB.out.ord1).mono ?_; rintro e w2 ⟨rfl, h2⟩; have H2 := Lib.hid h2; clear h2)
        go_roundg (zs.length - (k + 1))
        case measure => have := Hg.out; omega
        case rel =>
          refine ⟨k + 1, _, rfl, hkn, by simp, ?_, HP.out, H2.out⟩
          have e : oth (pushS S i 1 k) = oth (S.setQ i (S.q i ++ [tk k])) := by
            rw [pushS, show srcN (i : Int) = i by unfold srcN; rw [if_neg (by omega)]; omega]; simp [oth, LS.setQ, upd, tk, HO.out]
          rw [e, HOP.out]
          simp
    · have hkI : ¬ (k : Int) < (zs.length : Int) := by omega
      have hke : k = zs.length := by omega
      subst hke
      have HL := Lib.hid (fair_start HF.out)
      go_upto_region 14 with fail
      have H4 := Lib.hid (show St w (wr.alloc (.cells (lastA (fun _ => 0)) 42)) [As.cells wr.heap.size (lastA (fun _ => 0)) 42, stO b S] from HS.out.new _ _)
      obtain ⟨b7, hb7⟩ : ∃ b, wr.heap.size = b := ⟨_, rfl⟩
      obtain ⟨W4, hW4⟩ : ∃ W, wr.alloc (.cells (lastA (fun _ => 0)) 42) = W := ⟨_, rfl⟩
      have hW4' : wr.alloc (.cells #[.int .i64 0, .int .i64 0, .int .i64 0, .int .i64 0, .int .i64 0] 42) = W4 := hW4
      rw [hW4, hb7] at H4
      rw [hW4']
      simp only [hb7]
      clear hW4 hW4' hb7 HS HF Hg
      go_wp2_with fail
      go_loopg [42] 5 (FrRel2 S b b7 w)
      case atStart => exact ⟨0, rfl, by omega, rfl, by simpa using H4.out⟩
      case round =>
        obtain ⟨k, hg, hk, rfl, hst⟩ := hrel
        have Hg := Lib.hid hg
        have HS := Lib.hid hst
        clear hg hst H4
        by_cases hk5 : k < 5
        · have hkI : (k : Int) < 5 := by omega
          have hkI0 : (0 : Int) ≤ (k : Int) := by omega
          have y0 := lastA_at HS.out.blk.1 k hk5
          have y1 := HS.out.free k
          go_wp2_with fail
          go_roundg (5 - (k + 1))
          case measure => have := Hg.out; omega
          case rel =>
            refine ⟨k + 1, rfl, hk5, by simp, ?_⟩
            have h5 := HS.out.set k (.int .i64 (-1))
            rw [lastA_set _ k hk5] at h5
            have e : upd (fun j : Nat => if j < k then (-1 : Int) else 0) k (-1) = fun j => if j < k + 1 then -1 else 0 := by
              funext j
              simp only [upd]
              by_cases e1 : j = k
              · rw [if_pos e1, if_pos (by omega)]
              · rw [if_neg e1]
                by_cases e2 : j < k
                · rw [if_pos e2, if_pos (by omega)]
                · rw [if_neg e2, if_neg (by omega)]
            rw [e] at h5
            exact h5
        · have hkI : ¬ (k : Int) < 5 := by omega
          obtain rfl : k = 5 := by omega
          have H5 := Lib.hid (show St w _ [As.cells b7 (lastA (fun _ => -1)) 42, stO b S] from HS.out)
          clear HS
          go_wp2_with fail
          go_loopg [4, 9, 10, 11] zs.length (FrRel3 zs b b7 w)
          case atStart => exact ⟨S, 0, 0, -1, _, _, by omega, rfl, rfl, rfl, rfl, HL.out, H5.out⟩
          case round =>
            obtain ⟨S1, n, row, other, others, last, hg, rfl, rfl, rfl, rfl, hf, hst⟩ := hrel
            have Hg := Lib.hid hg
            have HF := Lib.hid hf
            have HS := Lib.hid hst
            clear hg hf hst H5 HL
            obtain ⟨hRo, hBo⟩ := fire_of HF.out.idle.tm HF.out.bnd
            have HRo := Lib.hid hRo
            have HBo := Lib.hid hBo
            clear hRo hBo
            go_upto_region 21 with (first
              | (go_at_call 13; refine (next_st HS.out.swap HRo.out HBo.out).mono ?_; rintro e w2 ⟨S2, x, l, rfl, hn, -, -, h2⟩; have HN := Lib.hid hn; have H2 := Lib.hid (h2.new Ch.z.cells.toArray 50); clear hn h2)
              | (refine st_store rfl (.tmp 12) (.tmp 48) rfl H2.out x.cells rfl rfl rfl rfl size50 (Ch.one _) ?_; intro W3 HW3; have H3 := Lib.hid HW3; clear HW3))
            obtain ⟨m, hm⟩ : ∃ b, w2.heap.size = b := ⟨_, rfl⟩
            have h3 := H3.out
            rw [hm] at h3
            simp only [hm]
            clear H2 H3 hm
            rcases fair_step HF.out (by omega) HN.out with ⟨rfl, hnl⟩ | ⟨i, a, hi5, ha, hza, rfl, hla, hnl, hcase⟩
            · have k0 := h3.cell 0
              simp [Ch.cells, Ch.z] at k0
              have H3 := Lib.hid h3
              clear h3
              go_wp2_with fail
              go_ret
              exact ⟨by simp [hnl], H3.out.bel⟩
            · have k0 := h3.cell 0
              have k3 := h3.cell 3
              have k5 := h3.cell 5
              simp [Ch.cells, chP, tk, Ch.z] at k0 k3 k5
              obtain ⟨z, hzz⟩ : ∃ z, zs.getD a 0 = z := ⟨_, rfl⟩
              have hzm : z ∈ zs := by rw [← hzz, List.getD_eq_getElem?_getD, List.getElem?_eq_getElem ha]; exact List.getElem_mem ha
              obtain ⟨hz0, hz1⟩ := HZ.out z hzm
              obtain ⟨g, off, rfl, hcell⟩ := u8_at (HR.out.kept (Fr.of_below h3.bel) (fun _ _ q => q)) ha z hzz
              rw [hzz] at hza
              have hzt : z.tmod 5 = (i : Int) := by rw [Int.tmod_eq_emod_of_nonneg hz0]; exact hza
              have haI0 : (0 : Int) ≤ (a : Int) := by omega
              have haI : (a : Int) < (zs.length : Int) := by omega
              have hiI0 : (0 : Int) ≤ (i : Int) := by omega
              have hiI5 : (i : Int) < 5 := by omega
              have hbm := h3.blkm (b := b7) (.tail _ (.tail _ (.tail _ (.head _))))
              have y0 := lastA_at hbm i hi5
              have y1 := hbm.free i
              have hne : m ≠ b7 := h3.ne (.tail _ (.tail _ (.head _)))
              have hlai : ¬ (a : Int) ≤ last i := by omega
              have hb1 : ((i : Int) != z.tmod 5) = false := by simp [hzt]
              have hb2 : ((i : Int) != z % 5) = false := by simp [hza]
              have hwz : IntKind.i64.wrap z = z := by rw [IntKind.wrap_i64]; omega
              have hd1 : decide ((a : Int) < 0) = false := by simp
              have hd2 : decide (zs.length ≤ a) = false := by simp; omega
              have hd3 : decide ((a : Int) ≤ last i) = false := by simp; omega
              have H3 := Lib.hid h3
              have HC := Lib.hid hcase
              have HLA := Lib.hid hla
              clear h3 hbm hcase hzz hzm hla
              go_upto_region 24 with fail
              go_quiet (fail)
              obtain ⟨W5, hW5⟩ : ∃ W5, W3.drewN nq = W5 := ⟨_, rfl⟩
              have H5 := Lib.hid (show St w W5 _ by rw [← hW5]; exact H3.out.drewN nq)
              rw [hW5]
              have hn0 := HF.out.n0
              have hrow0 : 0 ≤ row := by rw [HF.out.row]; exact HF.out.bnd.us0
              have hrow1 : row ≤ n := by rw [HF.out.row]; exact HF.out.us
              have hot0 : 0 ≤ others := by rw [HF.out.oth]; omega
              have hot1 : others ≤ 1000 := by
                have h1 := HF.out.nt
                have : oth S1 ≤ tot S1 := by unfold oth tot; omega
                rw [HF.out.oth]; omega
              have hnI : n < 80 := by omega
              have k3 := H5.out.cell 3
              simp [Ch.cells, chP, tk, Ch.z] at k3
              have hbm := H5.out.blkm (b := b7) (.tail _ (.tail _ (.tail _ (.head _))))
              have y0 := lastA_at hbm i hi5
              have y1 := hbm.free i
              have h6 := (st_rev4 H5.out).set i (.int .i64 a)
              rw [lastA_set _ i hi5] at h6
              have H6 := Lib.hid h6
              clear hbm h6 hW5 H3 k0 k5 hcell
              rcases HC.out with ⟨h0, hrw, hL⟩ | ⟨h0, hoa, hL⟩
              · have HL2 := Lib.hid hL
                have HRW := Lib.hid hrw
                subst h0
                clear hL hrw
                by_cases hr4 : 4 < row + 1
                · have ho0 : others = 0 := by rcases HRW.out with q | q <;> omega
                  have HO0 := Lib.hid ho0
                  have hob : decide ((0 : Int) < others) = false := by simp; omega
                  clear ho0
                  go_wp2_with fail
                  go_roundg (zs.length - (n + 1)).toNat
                  case measure => have := Hg.out; omega
                  case rel => exact ⟨_, n + 1, row + 1, other, others, _, rfl, rfl, rfl, rfl, rfl, HL2.out, H6.out.perm (List.Perm.cons _ (.swap _ _ _)) |>.dropto⟩
                · go_wp2_with fail
                  go_roundg (zs.length - (n + 1)).toNat
                  case measure => have := Hg.out; omega
                  case rel => exact ⟨_, n + 1, row + 1, other, others, _, rfl, rfl, rfl, rfl, rfl, HL2.out, H6.out.perm (List.Perm.cons _ (.swap _ _ _)) |>.dropto⟩
              · have HL2 := Lib.hid hL
                have hib : ((i : Int) == 0) = false := by simp [h0]
                have hob : ¬ (a : Int) ≤ other := by omega
                clear hL h0
                go_wp2_with fail
                go_roundg (zs.length - (n + 1)).toNat
                case measure => have := Hg.out; omega
                case rel => exact ⟨_, n + 1, 0, a, others - 1, _, rfl, rfl, rfl, rfl, rfl, HL2.out, H6.out.perm (List.Perm.cons _ (.swap _ _ _)) |>.dropto⟩

end Go.Proofs.Ytnamkckpgaopkaa
