/-
  StoreSpace: the walk.
-/
import Derived.Test.YtcglnjklnlejmaaTa
import Derived.Test.YtcglnjklnlejmaaSy
set_option linter.unusedVariables false
set_option linter.unusedSimpArgs false
namespace Go.Proofs.Ytcglnjklnlejmaa
open Go.RowKit Go.K Go.K.Sr

set_option maxRecDepth 100000 in
set_option maxHeartbeats 2000000 in
theorem space_go (key : ByteArray) (ov : Int) (back : Bool) (w0 : World) (ho : -128 ≤ ov ∧ ov ≤ 127) (hml : key.size ≤ 9223372036854775807) :
    Calls Try.prog 3 #[.string key, .int .i8 ov, .bool back] w0 fun e w' => e = .returned (.bool true) ∧ Below w0.heap.size w0 w' := by
  by_cases hk : key.size ≤ 100
  · have hkI : (key.size : Int) ≤ 100 := by omega
    obtain ⟨r, hr⟩ : ∃ r, ov.tmod 3 = r := ⟨_, rfl⟩
    have hrb : -2 ≤ r ∧ r ≤ 2 := by subst hr; have h1 := Int.tmod_lt_of_pos ov (show (0 : Int) < 3 by omega); have h2 := Int.lt_tmod_of_pos ov (show (0 : Int) < 3 by omega); omega
    obtain ⟨n, hn⟩ : ∃ n : Nat, (n : Int) = 1048576 - (key.size : Int) + r := ⟨(1048576 - (key.size : Int) + r).toNat, by omega⟩
    have hwo : IntKind.i64.wrap ov = ov := by rw [IntKind.wrap_i64]; omega
    have hw1 : IntKind.i64.wrap (1048576 - (key.size : Int)) = 1048576 - (key.size : Int) := by rw [IntKind.wrap_i64]; omega
    have hw2 : IntKind.i64.wrap (1048576 - (key.size : Int) + r) = (n : Int) := by rw [IntKind.wrap_i64]; omega
    have hwr : IntKind.i64.wrap r = r := by rw [IntKind.wrap_i64]; omega
    have hw3 : IntKind.i64.wrap ((key.size : Int) + (n : Int)) = (key.size : Int) + (n : Int) := by rw [IntKind.wrap_i64]; omega
    have HMK := fun w => mkN w n (by omega)
    obtain ⟨Z, hZ⟩ : ∃ Z, madeCells #[Value.int .u8 0] n = Z := ⟨_, rfl⟩
    have hZa : ∀ i, i < n → Z[i]? = some (.int .u8 0) := fun i hi => by rw [← hZ]; exact made_at n i hi
    rw [hZ] at HMK
    obtain ⟨V, hV⟩ : ∃ V, strOfNums (List.replicate n 0) = V := ⟨_, rfl⟩
    have hVs : V.size = n := by rw [← hV, strOfNums_size]; simp
    have HZA := Lib.hid hZa
    have HV := Lib.hid hVs
    have HVV := Lib.hid hV
    have HN := Lib.hid (show (n : Int) = 1048576 - (key.size : Int) + r ∧ -2 ≤ r ∧ r ≤ 2 from ⟨hn, hrb⟩)
    clear hZ hZa hVs hV ho hrb hn
    go_enter Try.func3, Try.ntmps3
    go_upto_region 6 with (go_at_call 11; refine (fit_any _).mono ?_; rintro e wa ⟨rfl, hba⟩; have HB1 := Lib.hid hba; clear hba)
    have H00 := Lib.hid (s0_at ((St.start w0 HB1.out).new Z 5))
    obtain ⟨zb, hzb⟩ : ∃ zb, wa.heap.size = zb := ⟨_, rfl⟩
    obtain ⟨W, hW⟩ : ∃ W, wa.alloc (.cells Z 5) = W := ⟨_, rfl⟩
    rw [hW, hzb] at H00
    rw [hW]
    try rw [hzb]
    have HCV := Lib.hid (fun (w' : World) (hb : Blk w' zb Z 5) => run_convert_bytes_arg (P := Try.prog) w' 24 5 Try.underlying24 Try.underlying5 zb 0 n n (List.replicate n 0) (by simp) (fun i hi => by
      have e := hb.cell i
      rw [HZA.out i hi] at e
      rw [Nat.zero_add, e]
      simp [List.getD, List.getElem?_replicate, hi]) 9 Try.underlying9)
    clear hW hzb
    go_wp2_with fail
    obtain ⟨bs, hbs⟩ : ∃ bs, W.heap.size = bs := ⟨_, rfl⟩
    obtain ⟨W2, hW2⟩ : ∃ W2, W.alloc (.cells #[.slice none 0 0, .slice none 0 0, .int .i64 0] 28) = W2 := ⟨_, rfl⟩
    rw [hW2, hbs] at H00
    try rw [hW2]
    try simp only [hbs]
    clear hW2 hbs
    refine (k_open0 H00.out).mono ?_
    rintro e w1 ⟨rfl, h1⟩
    have hcv := HCV.out _ (sat_blk h1)
    rw [HVV.out] at hcv
    have H1 := Lib.hid h1
    clear h1
    have hsz : key.size + V.size ≤ 3000000 := by have := HN.out; have := HV.out; omega
    by_cases hr0 : 0 < r
    · have KP := Lib.hid (k_put0 (k := key) (v := V) H1.out hsz)
      rw [if_pos (by have := HN.out; have := HV.out; omega), if_pos (by have := HN.out; have := HV.out; omega)] at KP
      go_wp2_with (first
        | (go_at_call 13; refine (KP.out).mono ?_; rintro e w2 ⟨rfl, h2⟩; have H2 := Lib.hid h2; clear h2)
        | (go_at_call 14; refine (k_get0 H2.out).mono ?_; rintro e w3 ⟨rfl, h3⟩; have H3 := Lib.hid h3; obtain ⟨p, hp⟩ := h3; obtain ⟨-, c1, -⟩ := hp.blk.1.three; obtain ⟨g2, o2, hst, -⟩ := hp.swap.sl.rd.addr (by decide); have c9 : w3.cell? ⟨bs, 1, none⟩ = some (.slice p.st 1 p.ct) := c1; clear c1; obtain ⟨d0, d1, d2, d3⟩ := y_at (hst ▸ hp.swap.sl.rd) (k := 0) (by rw [yz_len]; decide) _ rfl; simp only [Nat.zero_mul, Nat.add_zero] at d0 d1 d2 d3; rw [hst] at c9; have d9 : w3.cell? ⟨g2, o2 + 3, none⟩ = some (.slice p.sc 0 p.cc) := d3; clear hp d0 d1 d2 d3))
      go_ret
      exact ⟨rfl, sat_bel H3.out⟩
    · have KP := Lib.hid (k_put0 (k := key) (v := V) H1.out hsz)
      rw [if_neg (by have := HN.out; have := HV.out; omega), if_neg (by have := HN.out; have := HV.out; omega)] at KP
      have HKV := Lib.hid (show ((key.size + V.size : Nat) : Int) = (key.size : Int) + (n : Int) by rw [HV.out]; omega)
      cases back with
      | true =>
        go_upto_region 14 with (first
          | (go_at_call 13; refine (KP.out).mono ?_; rintro e w2 ⟨rfl, h2⟩; have H2 := Lib.hid h2; clear h2)
          | (go_at_call 15; refine (k_com H2.out).mono ?_; rintro e w3 ⟨rfl, h3⟩; have H3 := Lib.hid h3; clear h3)
          | (go_at_call 16; refine (k_size (k := key) (v := V) H3.out rfl (by omega)).mono ?_; rintro e w4 ⟨rfl, h4⟩; rw [HKV.out]; have G3 := Lib.hid h4; clear h4))
        go_upto_region 18 with (first
          | (go_at_call 12; refine (k_open2 G3.out).mono ?_; rintro e w6 ⟨rfl, h6⟩; have G6 := Lib.hid h6; clear h6)
          | (go_at_call 17; refine (k_rm G6.out).mono ?_; rintro e w7 ⟨rfl, h7⟩; have G7 := Lib.hid h7; clear h7)
          | (go_at_call 13; refine (k_put4 G7.out hk).mono ?_; rintro e w8 ⟨rfl, h8⟩; have G8 := Lib.hid h8; clear h8))
        go_wp2_with (go_at_call 16; refine (k_size (k := key) (v := V) G8.out rfl (by omega)).mono ?_; rintro e w9 ⟨rfl, h9⟩; rw [HKV.out]; have G9 := Lib.hid h9; clear h9)
        go_ret
        exact ⟨rfl, sat_bel G9.out⟩
      | false =>
        go_upto_region 14 with (first
          | (go_at_call 13; refine (KP.out).mono ?_; rintro e w2 ⟨rfl, h2⟩; have H2 := Lib.hid h2; clear h2)
          | (go_at_call 15; refine (k_com H2.out).mono ?_; rintro e w3 ⟨rfl, h3⟩; have H3 := Lib.hid h3; clear h3)
          | (go_at_call 16; refine (k_size (k := key) (v := V) H3.out rfl (by omega)).mono ?_; rintro e w4 ⟨rfl, h4⟩; rw [HKV.out]; have G3 := Lib.hid h4; clear h4))
        go_upto_region 18 with (first
          | (go_at_call 12; refine (k_open2 G3.out).mono ?_; rintro e w6 ⟨rfl, h6⟩; have G6 := Lib.hid h6; clear h6)
          | (go_at_call 13; refine (k_put3 G6.out (by omega) (by have := HN.out; have := HV.out; omega)).mono ?_; rintro e w8 ⟨rfl, h8⟩; have G8 := Lib.hid h8; clear h8))
        go_wp2_with (go_at_call 16; refine (k_size (k := key) (v := V) G8.out rfl (by omega)).mono ?_; rintro e w9 ⟨rfl, h9⟩; rw [HKV.out]; have G9 := Lib.hid h9; clear h9)
        go_ret
        exact ⟨rfl, sat_bel G9.out⟩
  · have hkI : (100 : Int) < (key.size : Int) := by omega
    go_enter Try.func3, Try.ntmps3
    go_wp2_with (go_at_call 11; refine (fit_any _).mono ?_; rintro e wa ⟨rfl, hba⟩; have HB1 := Lib.hid hba; clear hba)
    go_ret
    exact ⟨rfl, HB1.out⟩

end Go.Proofs.Ytcglnjklnlejmaa
