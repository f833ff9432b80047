/-
  The walk of LoopFrames.
-/
import Derived.Test.YtnamkckpgaopkaaLz
import Derived.Test.YtnamkckpgaopkaaLy
import Derived.Deep.CutBlock
set_option linter.unusedVariables false
set_option linter.unusedSimpArgs false
namespace Go.Proofs.Ytnamkckpgaopkaa
open Go.RowKit Go.K

theorem info3 : (Try.prog.info? 3).map (fun i => (i.zero, i.size, i.bytes)) = some (some (.int .i64 0), 1, 8) := by kernel_rfl
theorem el60 : El Try.prog 60 3 1 8 := by
  obtain ⟨i, hi, h1, h2, h3⟩ := info_parts info3
  exact ⟨by kernel_rfl, ⟨i, _, hi, h1, h2, h3, rfl⟩, by decide⟩
def iv (O : List Int) : List Value := O.map (Value.int .i64)
theorem iv_app (O : List Int) (x : Int) : iv (O ++ [x]) = iv O ++ [.int .i64 x] := by simp [iv]
theorem iv_at {w : World} {s : Option Addr} {O : List Int} {k : Nat} (h : Rd w 1 s O.length (iv O)) (hk : k < O.length) (x : Int) (hx : O[k] = x) : ∃ g off, s = some ⟨g, off, none⟩ ∧ w.cell? ⟨g, off + k, none⟩ = some (.int .i64 x) := by
  obtain ⟨g, off, rfl, hc⟩ := h.addr (by omega)
  refine ⟨g, off, rfl, hc k _ ?_⟩
  rw [← hx]
  simp [iv, List.getElem?_map, List.getElem?_eq_getElem hk]
abbrev FmL (b : Nat) (S : LS) (so : Option Addr) (co : Nat) (O : List Int) : List As := [stO b S, As.row 3 1 so O.length co (iv O)]
/-- between two statements of a round: shown, now; a bound for what was given out -/
def FmMid (b : Nat) (sh nw : Int) (N : Nat) (w : World) (v9 v10 : Value) (wr : World) : Prop :=
  ∃ (S : LS) (O : List Int) (given : Int) (so : Option Addr) (co : Nat), v9 = .int .i64 given ∧ v10 = .slice so O.length co ∧ FmI S O given ∧ S.shown = sh ∧ S.now = nw ∧ 0 ≤ given ∧ given ≤ N ∧ O.length ≤ N ∧ St w wr (FmL b S so co O)
theorem FmMid.weak {b : Nat} {sh nw : Int} {N N' : Nat} {w : World} {v9 v10 : Value} {wr : World} (h : FmMid b sh nw N w v9 v10 wr) (hN : N ≤ N') : FmMid b sh nw N' w v9 v10 wr := by
  obtain ⟨S, O, given, so, co, h1, h2, h3, h4, h5, h6, h7, h8, h9⟩ := h
  exact ⟨S, O, given, so, co, h1, h2, h3, h4, h5, h6, by omega, by omega, h9⟩
def FmRel (len b : Nat) (w : World) (g : Nat) (v8 v9 v10 v39 : Value) (wr : World) : Prop :=
  ∃ (k : Nat) (sh nw : Int), g = len - k ∧ k ≤ len ∧ v39 = .int .i64 k ∧ v8 = .int .i64 sh ∧ 0 ≤ sh ∧ sh ≤ 100000 ∧ 0 ≤ nw ∧ nw ≤ 30 * k ∧ FmMid b sh nw (3 * k) w v9 v10 wr
def FmRel2 (r b : Nat) (sh nw : Int) (N : Nat) (w : World) (g : Nat) (v9 v10 v52 : Value) (wr : World) : Prop :=
  ∃ j : Nat, g = r - j ∧ j ≤ r ∧ v52 = .int .i64 j ∧ FmMid b sh nw (N + j) w v9 v10 wr
def FmRel4 (b : Nat) (S : LS) (so : Option Addr) (co : Nat) (O : List Int) (id : Int) (w : World) (g : Nat) (v13 v14 v85 : Value) (wr : World) : Prop :=
  ∃ (j : Nat) (sl : Option Addr) (cl : Nat), g = O.length - j ∧ j ≤ O.length ∧ v85 = .int .i64 j ∧ v13 = .bool ((O.take j).any (fun x => x == id)) ∧ v14 = .slice sl ((O.take j).filter (fun x => x != id)).length cl ∧
    St w wr [stO b S, As.row 3 1 so O.length co (iv O), As.row 3 1 sl ((O.take j).filter (fun x => x != id)).length cl (iv ((O.take j).filter (fun x => x != id)))]
def FmRel6 (n : Nat) (L : List As) (w : World) (g : Nat) (v167 : Value) (wr : World) : Prop :=
  ∃ k : Nat, g = n - k ∧ k ≤ n ∧ v167 = .int .i64 k ∧ St w wr L
set_option maxRecDepth 100000 in
set_option maxHeartbeats 4000000 in
theorem frames_go (s0 s1 s2 : Option Addr) (c0 c1 c2 : Nat) (xs ys zs : List Int) (w : World) (hr0 : Rd w 1 s0 xs.length (xs.map (Value.int .u8))) (hz0 : ∀ z ∈ xs, 0 ≤ z ∧ z ≤ 255) (hr1 : Rd w 1 s1 ys.length (ys.map (Value.int .u8))) (hz1 : ∀ z ∈ ys, 0 ≤ z ∧ z ≤ 255) (hr2 : Rd w 1 s2 zs.length (zs.map (Value.int .u8))) (hz2 : ∀ z ∈ zs, 0 ≤ z ∧ z ≤ 255) :
    Calls Try.prog 6 #[.slice s0 xs.length c0, .slice s1 ys.length c1, .slice s2 zs.length c2] w fun e w' => e = .returned (.bool true) ∧ Below w.heap.size w w' := by
  have HR0 := Lib.hid hr0
  have HR1 := Lib.hid hr1
  have HR2 := Lib.hid hr2
  have HZ0 := Lib.hid hz0
  have HZ1 := Lib.hid hz1
  have HZ2 := Lib.hid hz2
  clear hr0 hr1 hr2 hz0 hz1 hz2
  by_cases hl0 : (60 : Int) < (xs.length : Int)
  · go_enter Try.func6, Try.ntmps6
    go_wp2_with (first
      | (go_at_call 11; refine (awake_c _).mono ?_; rintro e wb ⟨rfl, hbb⟩; have H3 := Lib.hid (H2.out.trans (hbb.mono H2.out.size)); clear hbb)
      | (go_at_call 11; refine (awake_c _).mono ?_; rintro e wa ⟨rfl, hba⟩; have H2 := Lib.hid hba; clear hba))
    go_ret
    exact ⟨rfl, H3.out⟩
  by_cases hl1 : (60 : Int) < (ys.length : Int)
  · go_enter Try.func6, Try.ntmps6
    go_wp2_with (first
      | (go_at_call 11; refine (awake_c _).mono ?_; rintro e wb ⟨rfl, hbb⟩; have H3 := Lib.hid (H2.out.trans (hbb.mono H2.out.size)); clear hbb)
      | (go_at_call 11; refine (awake_c _).mono ?_; rintro e wa ⟨rfl, hba⟩; have H2 := Lib.hid hba; clear hba))
    go_ret
    exact ⟨rfl, H3.out⟩
  by_cases hl2 : (60 : Int) < (zs.length : Int)
  · go_enter Try.func6, Try.ntmps6
    go_wp2_with (first
      | (go_at_call 11; refine (awake_c _).mono ?_; rintro e wb ⟨rfl, hbb⟩; have H3 := Lib.hid (H2.out.trans (hbb.mono H2.out.size)); clear hbb)
      | (go_at_call 11; refine (awake_c _).mono ?_; rintro e wa ⟨rfl, hba⟩; have H2 := Lib.hid hba; clear hba))
    go_ret
    exact ⟨rfl, H3.out⟩
  have hn0 : (xs.length : Int) ≤ 60 := by omega
  have hn1 : (ys.length : Int) ≤ 60 := by omega
  have hn2 : (zs.length : Int) ≤ 60 := by omega
  go_enter Try.func6, Try.ntmps6
  go_upto_region 3 with (go_at_call 11; refine (awake_c _).mono ?_; rintro e wa ⟨rfl, hba⟩; have H2 := Lib.hid (St.start w hba); clear hba)
  clear hl0 hl1 hl2
  have H3 := Lib.hid (st_start H2.out)
  go_upto_region 4 with fail
  obtain ⟨b, hb⟩ : ∃ b, wa.heap.size = b := ⟨_, rfl⟩
  rw [hb] at H3
  simp only [hb]
  clear hb H2
  obtain ⟨W3, hW3⟩ : ∃ W, wa.alloc (.cells zcells 37) = W := ⟨_, rfl⟩
  have hW3' : wa.alloc (.cells #[.int .i64 0, .slice none 0 0, .slice none 0 0, .slice none 0 0, .slice none 0 0, .slice none 0 0, .int .i64 0, .slice none 0 0, .slice none 0 0, .int .i64 0, .slice none 0 0, .slice none 0 0, .int .i64 0, .bool false, .int .i64 0, .int .i64 0] 37) = W3 := hW3
  rw [hW3] at H3
  rw [hW3']
  clear hW3 hW3'
  go_wp2_with fail
  go_loopg [8, 9, 10, 39] xs.length (FmRel xs.length b w)
  case atStart => exact ⟨0, 0, 0, rfl, Nat.zero_le _, rfl, rfl, by omega, by omega, by omega, by omega, LS.zero, [], 0, none, 0, rfl, rfl, fm0, rfl, rfl, by omega, by omega, by simp, (H3.out.row_nil 3 1).swap⟩
  case round =>
    obtain ⟨k, sh, nw, hg, hk, rfl, rfl, hsh0, hsh1, hnw0, hnw1, hmid⟩ := hrel
    have Hg := Lib.hid hg
    have HM := Lib.hid hmid
    clear hg hmid H3
    by_cases hkn : k < xs.length
    · have hkI : (k : Int) < (xs.length : Int) := by omega
      have hkI0 : (0 : Int) ≤ (k : Int) := by omega
      have hk60 : (k : Int) < 60 := by omega
      go_upto_if 45 with fail
      go_cut [9, 10] (fun v9 v10 wx => FmMid b sh nw (3 * k + 3) w v9 v10 wx)
      case first =>
        obtain ⟨S0, O0, given0, so0, co0, r9, r10, hf0, hs0, hw0, hgv0, hgv1, hol, hst0⟩ := HM.out
        by_cases hk1 : k < ys.length
        · have hk1I : (k : Int) < (ys.length : Int) := by omega
          obtain ⟨z, hzz⟩ : ∃ z, ys.getD k 0 = z := ⟨_, rfl⟩
          have hzm : z ∈ ys := by rw [← hzz, List.getD_eq_getElem?_getD, List.getElem?_eq_getElem hk1]; exact List.getElem_mem hk1
          obtain ⟨hz0, hz1⟩ := HZ1.out z hzm
          have hwz : IntKind.i64.wrap z = z := by rw [IntKind.wrap_i64]; omega
          have hbel0 := Lib.hid hst0.bel
          obtain ⟨g, off, rfl, hcw⟩ := u8_at HR1.out hk1 z hzz
          have hcell := (World.cell?_of_block (hbel0.out.block _ (World.block_lt_of_cell? _ _ hcw))).trans hcw
          obtain ⟨r, hr⟩ : ∃ r : Nat, (z % 4).toNat = r := ⟨_, rfl⟩
          have hr3 : r ≤ 3 := by omega
          have hzr : z.tmod 4 = (r : Int) := by rw [Int.tmod_eq_emod_of_nonneg hz0]; omega
          have hzr2 : z % 4 = (r : Int) := by omega
          have HCW := Lib.hid hcw
          have hd45 : decide ((k : Int) < (ys.length : Int)) = true := by simp only [decide_eq_true_eq]; exact hk1I
          have hd45' : decide (k < ys.length) = true := by simp only [decide_eq_true_eq]; exact hk1
          try simp only [hd45, hd45']
          clear hd45 hd45'
          clear hzz hzm hr hf0 hs0 hw0 hgv0 hgv1 hol hst0 r9 r10 hbel0 hcw
          go_wp2_with fail
          go_loopg [9, 10, 52] r (FmRel2 r b sh nw (3 * k) w)
          case atStart => exact ⟨0, rfl, Nat.zero_le _, rfl, HM.out.weak (by omega)⟩
          case round =>
            obtain ⟨j, hg, hj, rfl, hmid⟩ := hrel
            have Hg2 := Lib.hid hg
            obtain ⟨S, O, given, so, co, rfl, rfl, hf, hs, hw, hgv0, hgv1, hol, hst⟩ := hmid
            have HF := Lib.hid hf
            have HSW := Lib.hid (And.intro hs hw)
            have HST := Lib.hid hst
            have HK1 := Lib.hid (And.intro hk1 hk1I)
            clear hg hf hs hw hst hcell HM hk1 hk1I
            by_cases hjr : j < r
            · have hjI : (j : Int) < (r : Int) := by omega
              have hjI0 : (0 : Int) ≤ (j : Int) := by omega
              have hgI : given ≤ 1000 := by omega
              have HLN := Lib.hid (show O.length ≤ 50000 by omega)
              have hwg : IntKind.i64.wrap (given + 1) = given + 1 := by rw [IntKind.wrap_i64]; omega
              have HFN := Lib.hid (fm_req HF.out HLN.out (by omega))
              have HLA := Lib.hid HF.out.last
              have hb1 : ((given + 1) != (given + 1)) = false := by simp
              go_upto_region 15 with (first
                | (go_at_call 15; refine (number_c (given + 1) _).mono ?_; rintro e w4 ⟨rfl, hb4⟩; have H4 := Lib.hid (HST.out.of_below hb4); clear hb4; simp only [vcells])
                | (go_at_call 18; refine (req_st (given + 1) H4.out HF.out.bnd.shots HF.out.bnd.last0 HF.out.bnd.last1).mono ?_; rintro e w5 ⟨rfl, h5⟩; rw [HLA.out]; have H5 := Lib.hid h5.swap; clear h5))
              go_wp2_with (at_builtin; refine wpList_append_one w5 rfl _ _ 60 rfl el60 so O.length co (iv O) rfl H5.out.sl 1 _ rfl rfl (by simp [Value.oneCell']) (by omega) (by omega) ?_; intro s6 c6 w6 p1 p2 p3; have H6 := Lib.hid (H5.out.row_step p1 p2 p3).swap; clear p1 p2 p3)
              go_roundg (r - (j + 1))
              case measure => have := Hg2.out; omega
              case rel =>
                refine ⟨j + 1, rfl, hjr, by simp, reqS S (given + 1), O ++ [given + 1], given + 1, s6, c6, rfl, by simp, HFN.out, HSW.out.1, HSW.out.2, by omega, by omega, by simp; omega, ?_⟩
                show St w w6 [stO b (reqS S (given + 1)), As.row 3 1 s6 (O ++ [given + 1]).length c6 (iv (O ++ [given + 1]))]
                rw [iv_app]
                simpa using H6.out
            · have hjI : ¬ (j : Int) < (r : Int) := by omega
              obtain ⟨hk1, hk1I⟩ := HK1.out
              have hcell := (World.cell?_of_block (HST.out.bel.block _ (World.block_lt_of_cell? _ _ HCW.out))).trans HCW.out
              obtain ⟨p7, G7, hbg, h7⟩ := st_open HST.out
              obtain ⟨-, -, -, -, c13, -⟩ := st_c h7
              have f13 := h7.free 13
              have h8 := h7.set 13 (.bool (decide ((5 : Int) < z % 8)))
              rw [set_dirty] at h8
              have H8 := Lib.hid (st_shut (S := { S with dirty := decide ((5 : Int) < z % 8) }) ⟨hbg.calls, hbg.jobs⟩ h8)
              clear h7 h8 hbg
              go_wp2_with fail
              go_meet
              exact ⟨{ S with dirty := decide ((5 : Int) < z % 8) }, O, given, so, co, rfl, rfl, fm_dirty HF.out _, HSW.out.1, HSW.out.2, by omega, by omega, by omega, H8.out⟩
        · have hk1I : ¬ (k : Int) < (ys.length : Int) := by omega
          clear hf0 hs0 hw0 hgv0 hgv1 hol hst0 r9 r10
          go_wp2_with fail
          go_meet
          have q : FmMid b sh nw (3 * k + 3) w _ _ _ := HM.out.weak (by omega)
          exact q
      case rest =>
        have HM2 := Lib.hid hcut
        clear hcut HM
        go_upto_if 76 with fail
        go_cut [10, 12, 13, 14, 15] (fun v10 _ _ _ _ wx => FmMid b sh nw (3 * k + 3) w u9 v10 wx)
        case first =>
          obtain ⟨S, O, given, so, co, r9, r10, hf, hs, hw, hgv0, hgv1, hol, hst⟩ := HM2.out
          subst r9
          subst r10
          have HF := Lib.hid hf
          have HSW := Lib.hid (And.intro hs hw)
          have HST := Lib.hid hst
          clear hf hs hw hst
          by_cases hk1 : k < zs.length
          · have hk1I : (k : Int) < (zs.length : Int) := by omega
            obtain ⟨z, hzz⟩ : ∃ z, zs.getD k 0 = z := ⟨_, rfl⟩
            have hzm : z ∈ zs := by rw [← hzz, List.getD_eq_getElem?_getD, List.getElem?_eq_getElem hk1]; exact List.getElem_mem hk1
            obtain ⟨hz0, hz1⟩ := HZ2.out z hzm
            have hwz : IntKind.i64.wrap z = z := by rw [IntKind.wrap_i64]; omega
            obtain ⟨g, off, rfl, hcw⟩ := u8_at HR2.out hk1 z hzz
            have hcell := (World.cell?_of_block (HST.out.bel.block _ (World.block_lt_of_cell? _ _ hcw))).trans hcw
            obtain ⟨id, hid⟩ : ∃ id : Int, z % 40 = id := ⟨_, rfl⟩
            have hzr : z.tmod 40 = id := by rw [Int.tmod_eq_emod_of_nonneg hz0]; exact hid
            have hd76 : decide ((k : Int) < (zs.length : Int)) = true := by simp only [decide_eq_true_eq]; exact hk1I
            have hd76' : decide (k < zs.length) = true := by simp only [decide_eq_true_eq]; exact hk1
            try simp only [hd76, hd76']
            clear hd76 hd76'
            clear hzz hzm hcw HM2
            go_wp2_with fail
            go_loopg [13, 14, 85] O.length (FmRel4 b S so co O id w)
            case atStart => exact ⟨0, none, 0, rfl, Nat.zero_le _, rfl, rfl, rfl, (HST.out.row_nil 3 1).perm ((List.Perm.swap _ _ _).trans (List.Perm.cons _ (.swap _ _ _)))⟩
            case round =>
              obtain ⟨j, sl, cl, hg, hj, rfl, rfl, rfl, hst⟩ := hrel
              have Hg2 := Lib.hid hg
              have HS := Lib.hid hst
              clear hg hst hcell hk1 hk1I
              by_cases hjr : j < O.length
              · have hjI : (j : Int) < (O.length : Int) := by omega
                have hjI0 : (0 : Int) ≤ (j : Int) := by omega
                obtain ⟨x, hx⟩ : ∃ x, O[j] = x := ⟨_, rfl⟩
                obtain ⟨g2, off2, rfl, hc2⟩ := iv_at (HS.out.slm (.tail _ (.head _))).rd hjr x hx
                have htk : O.take (j + 1) = O.take j ++ [x] := by rw [List.take_succ_eq_append_getElem hjr, hx]
                have HTK := Lib.hid htk
                have hfl : ((O.take j).filter (fun x => x != id)).length ≤ j := by
                  have h1 := (List.filter_sublist (p := fun x => x != id) (l := O.take j)).length_le
                  have h2 := List.length_take_le j O
                  omega
                have HFL := Lib.hid hfl
                clear hx htk hfl
                obtain ⟨had, hhad⟩ : ∃ q, (O.take j).any (fun x => x == id) = q := ⟨_, rfl⟩
                have HHAD := Lib.hid hhad
                rw [hhad]
                clear hhad
                cases had with
                | true =>
                  by_cases hxi : x = id
                  · have hb1 : (x == id) = true := by simp [hxi]
                    have hb2 : (x != id) = false := by simp [hxi]
                    have HXI := Lib.hid (And.intro hb1 hb2)
                    clear hxi
                    go_wp2_with fail
                    go_roundg (O.length - (j + 1))
                    case measure => have := Hg2.out; omega
                    case rel =>
                      have ef : (O.take (j + 1)).filter (fun x => x != id) = (O.take j).filter (fun x => x != id) := by rw [HTK.out, List.filter_append]; simp [HXI.out.2]
                      have ea : (O.take (j + 1)).any (fun x => x == id) = true := by rw [HTK.out, List.any_append]; simp [HXI.out.1]
                      refine ⟨j + 1, sl, cl, rfl, hjr, by simp, by rw [ea], by rw [ef], ?_⟩
                      rw [ef]
                      exact HS.out
                  · have hb1 : (x == id) = false := by simp [hxi]
                    have hb2 : (x != id) = true := by simp [hxi]
                    have HXI := Lib.hid (And.intro hb1 hb2)
                    clear hxi
                    have H7 := Lib.hid HS.out.front2
                    go_wp2_with (at_builtin; refine wpList_append_one _ rfl _ _ 60 rfl el60 sl _ cl _ rfl H7.out.sl 1 _ rfl rfl (by simp [Value.oneCell']) (by have := HFL.out; omega) (by omega) ?_; intro s6 c6 w6 p1 p2 p3; have H8 := Lib.hid (H7.out.row_step p1 p2 p3); clear p1 p2 p3)
                    go_roundg (O.length - (j + 1))
                    case measure => have := Hg2.out; omega
                    case rel =>
                      have ef : (O.take (j + 1)).filter (fun x => x != id) = (O.take j).filter (fun x => x != id) ++ [x] := by rw [HTK.out, List.filter_append]; simp [HXI.out.2]
                      have ea : (O.take (j + 1)).any (fun x => x == id) = true := by rw [HTK.out, List.any_append, HHAD.out]; simp [HXI.out.1]
                      refine ⟨j + 1, s6, c6, rfl, hjr, by simp, by rw [ea], by rw [ef]; simp, ?_⟩
                      rw [ef, iv_app]
                      have h9 := H8.out.perm ((List.Perm.swap _ _ _).trans (List.Perm.cons _ (.swap _ _ _)))
                      simpa using h9
                | false =>
                  by_cases hxi : x = id
                  · have hb1 : (x == id) = true := by simp [hxi]
                    have hb2 : (x != id) = false := by simp [hxi]
                    have HXI := Lib.hid (And.intro hb1 hb2)
                    clear hxi
                    go_wp2_with fail
                    go_roundg (O.length - (j + 1))
                    case measure => have := Hg2.out; omega
                    case rel =>
                      have ef : (O.take (j + 1)).filter (fun x => x != id) = (O.take j).filter (fun x => x != id) := by rw [HTK.out, List.filter_append]; simp [HXI.out.2]
                      have ea : (O.take (j + 1)).any (fun x => x == id) = true := by rw [HTK.out, List.any_append]; simp [HXI.out.1]
                      refine ⟨j + 1, sl, cl, rfl, hjr, by simp, by rw [ea], by rw [ef], ?_⟩
                      rw [ef]
                      exact HS.out
                  · have hb1 : (x == id) = false := by simp [hxi]
                    have hb2 : (x != id) = true := by simp [hxi]
                    have HXI := Lib.hid (And.intro hb1 hb2)
                    clear hxi
                    have H7 := Lib.hid HS.out.front2
                    go_wp2_with (at_builtin; refine wpList_append_one _ rfl _ _ 60 rfl el60 sl _ cl _ rfl H7.out.sl 1 _ rfl rfl (by simp [Value.oneCell']) (by have := HFL.out; omega) (by omega) ?_; intro s6 c6 w6 p1 p2 p3; have H8 := Lib.hid (H7.out.row_step p1 p2 p3); clear p1 p2 p3)
                    go_roundg (O.length - (j + 1))
                    case measure => have := Hg2.out; omega
                    case rel =>
                      have ef : (O.take (j + 1)).filter (fun x => x != id) = (O.take j).filter (fun x => x != id) ++ [x] := by rw [HTK.out, List.filter_append]; simp [HXI.out.2]
                      have ea : (O.take (j + 1)).any (fun x => x == id) = false := by rw [HTK.out, List.any_append, HHAD.out]; simp [HXI.out.1]
                      refine ⟨j + 1, s6, c6, rfl, hjr, by simp, by rw [ea], by rw [ef]; simp, ?_⟩
                      rw [ef, iv_app]
                      have h9 := H8.out.perm ((List.Perm.swap _ _ _).trans (List.Perm.cons _ (.swap _ _ _)))
                      simpa using h9
              · have hjI : ¬ (j : Int) < (O.length : Int) := by omega
                have hje : j = O.length := by omega
                obtain ⟨hcb, hcf⟩ := fm_cancel HF.out id
                have HCB := Lib.hid hcb
                have HCF := Lib.hid hcf
                have htl : O.take j = O := by rw [hje, List.take_length]
                have h9 := HS.out
                rw [htl] at h9
                have H9 := Lib.hid h9
                have HTL := Lib.hid htl
                rw [htl]
                clear hcb hcf h9 htl HS
                obtain ⟨q, hq⟩ : ∃ q, O.any (fun x => x == id) = q := ⟨_, rfl⟩
                rw [hq] at HCB ⊢
                have hqq : (q != q) = false := by cases q <;> rfl
                clear hq
                go_wp2_with (go_at_call 19; refine (cancel_st id H9.out HF.out.bnd.shots).mono ?_; rintro e w9 ⟨rfl, h9⟩; rw [HCB.out]; have H10 := Lib.hid h9; clear h9)
                go_meet
                have hfl : (O.filter (fun x => x != id)).length ≤ O.length := (List.filter_sublist (p := fun x => x != id) (l := O)).length_le
                have HK := Lib.hid (show (cancelS S id).shown = S.shown ∧ (cancelS S id).now = S.now from by unfold cancelS; split <;> exact ⟨rfl, rfl⟩)
                exact ⟨cancelS S id, O.filter (fun x => x != id), given, sl, cl, rfl, rfl, HCF.out, HK.out.1.trans HSW.out.1, HK.out.2.trans HSW.out.2, by omega, by omega, by omega, H10.out.swap.drop⟩
          · have hk1I : ¬ (k : Int) < (zs.length : Int) := by omega
            go_wp2_with fail
            go_meet
            exact ⟨S, O, given, so, co, rfl, rfl, HF.out, HSW.out.1, HSW.out.2, by omega, by omega, by omega, HST.out⟩
        case rest =>
          obtain ⟨S, O, given, so, co, rfl, rfl, hf, hs, hw, hgv0, hgv1, hol, hst⟩ := hcut
          have HF := Lib.hid hf
          have HSW := Lib.hid (And.intro hs hw)
          have HST := Lib.hid hst
          clear hf hs hw hst HM2
          obtain ⟨z, hzz⟩ : ∃ z, xs.getD k 0 = z := ⟨_, rfl⟩
          have hzm : z ∈ xs := by rw [← hzz, List.getD_eq_getElem?_getD, List.getElem?_eq_getElem hkn]; exact List.getElem_mem hkn
          obtain ⟨hz0, hz1⟩ := HZ0.out z hzm
          have hwz : IntKind.i64.wrap z = z := by rw [IntKind.wrap_i64]; omega
          obtain ⟨g, off, rfl, hcw⟩ := u8_at HR0.out hkn z hzz
          have hcell := (World.cell?_of_block (HST.out.bel.block _ (World.block_lt_of_cell? _ _ hcw))).trans hcw
          obtain ⟨q, hq⟩ : ∃ q : Int, z % 30 = q := ⟨_, rfl⟩
          have hzr : z.tmod 30 = q := by rw [Int.tmod_eq_emod_of_nonneg hz0]; exact hq
          have hq0 : 0 ≤ q := by omega
          have hq1 : q ≤ 29 := by omega
          obtain ⟨p7, G7, hbg, h7⟩ := st_open HST.out
          obtain ⟨c0, -⟩ := st_c h7
          rw [HSW.out.2] at c0
          clear h7 hzz hzm hcw hbg
          have hwn : IntKind.i64.wrap (nw + q) = nw + q := by rw [IntKind.wrap_i64]; omega
          go_upto_region 32 with fail
          go_still_tail 9, (by kernel_rfl)
          change wpList _ _ _ _ _ (World.drew _)
          have HSd := Lib.hid HST.out.drew
          have HT := Lib.hid (show ({ S with now := max S.now (nw + q) } : LS) = { S with now := nw + q } by rw [HSW.out.2]; congr 1; omega)
          clear HST c0 hcell
          obtain ⟨S1, hS1⟩ : ∃ S1 : LS, { S with now := nw + q } = S1 := ⟨_, rfl⟩
          have HF1 := Lib.hid (show FmI S1 O given by rw [← hS1]; exact fm_now HF.out _ (by omega) (by omega))
          have HS1 := Lib.hid hS1
          have HSN := Lib.hid (show S1.shown = sh ∧ S1.now = nw + q by rw [← hS1]; exact ⟨HSW.out.1, rfl⟩)
          clear hS1
          go_upto_region 33 with (go_at_call 17; refine (tick_st (nw + q) HSd.out).mono ?_; rintro e w8 ⟨rfl, h8⟩; rw [HT.out, HS1.out] at h8; have H8 := Lib.hid h8; clear h8)
          obtain ⟨p9, G9, -, h9⟩ := st_open H8.out
          obtain ⟨c0, -, -, -, c13, -⟩ := st_c h9
          rw [HSN.out.2] at c0
          clear h9 HSd
          go_cut [16] (fun v16 wx => v16 = .bool (showB S1) ∧ wx = w8)
          case first =>
            have hsl : S1.shots.length = O.length := by rw [HF1.out.sh]; simp [shl]
            obtain ⟨dd, hdd⟩ : ∃ dd, S1.dirty = dd := ⟨_, rfl⟩
            rw [hdd] at c13
            have HDD := Lib.hid hdd
            have HSL := Lib.hid hsl
            clear hdd hsl
            have fin : ∀ o : Bool, o = decide (0 < O.length) → showB S1 = ((o || dd) && decide (sh + 16 ≤ nw + q)) := fun o ho => by
              unfold showB
              rw [HDD.out, HSL.out, HSN.out.1, HSN.out.2, ho, Bool.or_comm]
            have FIN := Lib.hid fin
            clear fin
            by_cases ho : 0 < O.length
            · have hoI : (0 : Int) < (O.length : Int) := by omega
              have hob : decide ((0 : Int) < (O.length : Int)) = true := by simp only [decide_eq_true_eq]; exact hoI
              have F1 := Lib.hid (FIN.out true (by simp [ho]))
              by_cases hn : sh + 16 ≤ nw + q
              · have hnb : decide (sh + 16 ≤ nw + q) = true := by simp [hn]
                go_wp2_with fail
                go_meet
                exact ⟨by rw [F1.out]; simp [hn], rfl⟩
              · have hnb : decide (sh + 16 ≤ nw + q) = false := by simp [hn]
                go_wp2_with fail
                go_meet
                exact ⟨by rw [F1.out]; simp [hn], rfl⟩
            · have hoI : ¬ (0 : Int) < (O.length : Int) := by omega
              have hob : decide ((0 : Int) < (O.length : Int)) = false := by simp only [decide_eq_false_iff_not]; exact hoI
              have F1 := Lib.hid (FIN.out false (by simp [ho]))
              cases dd with
              | true =>
                by_cases hn : sh + 16 ≤ nw + q
                · have hnb : decide (sh + 16 ≤ nw + q) = true := by simp [hn]
                  go_wp2_with fail
                  go_meet
                  exact ⟨by rw [F1.out]; simp [hn], rfl⟩
                · have hnb : decide (sh + 16 ≤ nw + q) = false := by simp [hn]
                  go_wp2_with fail
                  go_meet
                  exact ⟨by rw [F1.out]; simp [hn], rfl⟩
              | false =>
                go_wp2_with fail
                go_meet
                exact ⟨by rw [F1.out]; simp, rfl⟩
          case rest =>
            obtain ⟨rfl, rfl⟩ := hcut
            clear c0 c13
            go_upto_region 35 with (first
              | (go_at_call 13; refine (next_st H8.out HF1.out.room.1 HF1.out.room.2).mono ?_; rintro e w9 ⟨S2, x, l, rfl, hn, hxl, -, h9⟩; have HN := Lib.hid hn; have HXL := Lib.hid hxl; have H9 := Lib.hid (h9.new Ch.z.cells.toArray 50); clear hn h9 hxl)
              | (refine st_store rfl (.tmp 17) (.tmp 140) rfl H9.out x.cells rfl rfl rfl rfl size50 (Ch.one _) ?_; intro W10 HW10; have H10 := Lib.hid HW10; clear HW10))
            obtain ⟨m, hm⟩ : ∃ m, w9.heap.size = m := ⟨_, rfl⟩
            rw [hm] at H10
            simp only [hm]
            clear hm H9 H8
            have k0 : W10.cell? ⟨m, 0, none⟩ = some (.int .i64 x.k) := H10.out.cell 0
            have k15 : W10.cell? ⟨m, 15, none⟩ = some (.slice x.ha x.hn x.hc) := H10.out.cell 15
            rcases fm_next HF1.out HN.out with ⟨a1, a2, a3, a4, a5, a6, a7⟩ | ⟨a1, a2, a3⟩
            · have hsb : showB S1 = true := (showB_iff S1).2 a1
              rw [a2] at k0
              rw [hsb]
              have hxl := HXL.out
              rw [a3] at hxl
              have hxl2 : x.hn = O.length := by rw [hxl]; simp [shl]
              rw [hxl2] at k15
              have h10 := H10.out
              rw [a3, hxl2] at h10
              have H11 := Lib.hid h10
              obtain ⟨p11, G11, -, h11⟩ := st_open h10.swap
              obtain ⟨c0, -, -, -, c13, c14, -⟩ := st_c h11
              rw [a7, HSN.out.2] at c0
              rw [a5] at c13
              rw [a6, HSN.out.2] at c14
              have A4 := Lib.hid a4
              have A6 := Lib.hid (And.intro (a6.trans HSN.out.2) (a7.trans HSN.out.2))
              have hb1 : ((nw + q) != (nw + q)) = false := by simp
              have hb2 : ((O.length : Int) != (O.length : Int)) = false := by simp
              have HXN := Lib.hid hxl2
              clear a1 a2 a3 a4 a5 a6 a7 hsb hxl hxl2 h10 h11 H10 HXL HN
              go_wp2_with fail
              go_loopg [167] O.length (FmRel6 O.length [As.cells m x.cells.toArray 50, stO b S2, As.row 63 5 x.ha O.length x.hc (flat Hs.cells (shl O)), As.row 3 1 so O.length co (iv O)] w)
              case atStart => exact ⟨0, rfl, Nat.zero_le _, rfl, H11.out⟩
              case round =>
                obtain ⟨j, hg, hj, rfl, hst⟩ := hrel
                have Hg6 := Lib.hid hg
                have HS6 := Lib.hid hst
                clear hg hst H11 k0 k15 c0 c13 c14
                by_cases hjn : j < O.length
                · have hjI : (j : Int) < (O.length : Int) := by omega
                  have hjI0 : (0 : Int) ≤ (j : Int) := by omega
                  obtain ⟨y, hy⟩ : ∃ y, O[j] = y := ⟨_, rfl⟩
                  obtain ⟨g2, off2, rfl, hc2⟩ := iv_at (HS6.out.slm (.tail _ (.tail _ (.tail _ (.head _))))).rd hjn y hy
                  have hrs := (HS6.out.slm (e := 63) (sz := 5) (.tail _ (.tail _ (.head _)))).rd
                  obtain ⟨g3, off3, hxa, -⟩ := hrs.addr (by omega)
                  rw [hxa] at hrs
                  have hjs : j < (shl O).length := by simpa [shl] using hjn
                  obtain ⟨d0, d1, d2, d3, d4⟩ := atH hrs hjs ⟨y, y⟩ (by simp [shl, hy])
                  simp only [Hs.cells, List.getElem?_cons_zero, List.getElem?_cons_succ] at d0 d1 d2 d3 d4
                  have k15 := HS6.out.cell 15
                  change _ = some (Value.slice x.ha x.hn x.hc) at k15
                  rw [hxa, HXN.out] at k15
                  have hbb : (y != y) = false := by simp
                  clear hrs hxa hjs hy
                  go_upto_region 43 with fail
                  go_quiet (fail)
                  have H12 := Lib.hid (HS6.out.drewN nq)
                  go_wp2_with fail
                  go_roundg (O.length - (j + 1))
                  case measure => have := Hg6.out; omega
                  case rel => exact ⟨j + 1, rfl, hjn, by simp, H12.out⟩
                · have hjI : ¬ (j : Int) < (O.length : Int) := by omega
                  obtain ⟨p12, G12, -, h12⟩ := st_open HS6.out.swap
                  obtain ⟨c0, -⟩ := st_c h12
                  rw [A6.out.2] at c0
                  clear h12
                  go_wp2_with fail
                  go_roundg (xs.length - (k + 1))
                  case measure => have := Hg.out; omega
                  case rel => exact ⟨k + 1, nw + q, nw + q, rfl, hkn, by simp, rfl, by omega, by omega, by omega, by omega, S2, [], given, none, 0, rfl, rfl, A4.out, A6.out.1, A6.out.2, by omega, by omega, by simp, (HS6.out.swap.only.row_nil 3 1).swap⟩
            · have hsb : showB S1 = false := by
                cases hh : showB S1 with
                | false => rfl
                | true => exact absurd ((showB_iff S1).1 hh) a1
              rw [a2] at k0
              rw [hsb]
              have H11 := Lib.hid (show St w W10 (FmL b S1 so co O) from by rw [← a3]; exact (H10.out.drop.swap.drop.swap.swap))
              clear a1 a2 a3 hsb H10 HXL HN k15
              go_wp2_with fail
              go_roundg (xs.length - (k + 1))
              case measure => have := Hg.out; omega
              case rel => exact ⟨k + 1, sh, nw + q, rfl, hkn, by simp, rfl, hsh0, hsh1, by omega, by omega, S1, O, given, so, co, rfl, rfl, HF1.out, HSN.out.1, HSN.out.2, by omega, by omega, by omega, H11.out⟩
    · have hkI : ¬ (k : Int) < (xs.length : Int) := by omega
      obtain ⟨S, O, given, so, co, -, -, -, -, -, -, -, -, hst⟩ := HM.out
      have HS := Lib.hid hst
      clear hst
      go_wp2_with fail
      go_ret
      exact ⟨rfl, HS.out.bel⟩

end Go.Proofs.Ytnamkckpgaopkaa
