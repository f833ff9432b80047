/-
  Cascade: strings.Cut, until.
-/
import Derived.Test.YtldembadjgibjaaGreatDoorAp
set_option linter.unusedVariables false
set_option linter.unusedSimpArgs false
namespace Go.Proofs.YtldembadjgibjaaGreatDoor
open Go.RowKit Go.K Go.PlainAid Go.Lib

theorem cut_any [Inhabited TbBox] (a b : List UInt8) (ha : a.length ≤ 100000) (w : World) (E : Env w) : Calls Tryz.prog 37 #[.string (S a), .string (S b)] w fun e w' => e = .returned (.tuple #[vS (Lib.cut a b).1, vS (Lib.cut a b).2.1, .bool (Lib.cut a b).2.2]) ∧ Below w.heap.size w w' := by
  obtain ⟨m, hm⟩ := E.ml
  have h := Tryz.strings_Cut (S a) (S b) m w (by rw [S_size]; omega) hm
  rw [S_list, S_list] at h
  refine h.mono ?_
  rintro e w' ⟨rfl, n, rfl⟩
  refine ⟨rfl, ?_⟩
  induction n with
  | zero => exact Below.refl _ _
  | succ n ih => exact ⟨rfl, rfl, rfl, Nat.le_refl _, fun _ _ => rfl⟩
theorem cut_le (a b : List UInt8) : (Lib.cut a b).1.length ≤ a.length := by
  unfold Lib.cut
  split
  · exact List.length_take_le' _ _
  · exact Nat.le_refl _
/-- is the byte among the stops -/
def inB (t : List UInt8) (x : UInt8) : Bool := decide (0 ≤ Lib.indexByte t x)
def quoteJ (s : List UInt8) (i : Nat) (x : UInt8) : Nat := min (i + (Lib.cut (s.drop (i + 1)) [x]).1.length + 1) (s.length - 1)
def untilM (s t : List UInt8) : Nat → Nat → Nat → Nat × UInt8
  | 0, i, _ => (i, 0)
  | f + 1, i, d => match s[i]? with
    | none => (i, 0)
    | some x => if d = 0 ∧ inB t x = true then (i, x)
      else if x = 34 ∨ x = 39 then untilM s t f (quoteJ s i x + 1) d
      else if x = 40 ∨ x = 91 ∨ x = 123 then untilM s t f (i + 1) (d + 1)
      else if x = 41 ∨ x = 93 ∨ x = 125 then untilM s t f (i + 1) (d - 1)
      else untilM s t f (i + 1) d
theorem until_step {s t : List UInt8} {f k d : Nat} {x : UInt8} (hx : s[k]? = some x) : untilM s t (f + 1) k d = if d = 0 ∧ inB t x = true then (k, x)
      else if x = 34 ∨ x = 39 then untilM s t f (quoteJ s k x + 1) d
      else if x = 40 ∨ x = 91 ∨ x = 123 then untilM s t f (k + 1) (d + 1)
      else if x = 41 ∨ x = 93 ∨ x = 125 then untilM s t f (k + 1) (d - 1)
      else untilM s t f (k + 1) d := by rw [untilM, hx]
theorem until_end {s t : List UInt8} {f k d : Nat} (hk : s.length ≤ k) : untilM s t f k d = (k, 0) := by
  cases f with
  | zero => rfl
  | succ f => rw [untilM, List.getElem?_eq_none hk]
set_option maxRecDepth 100000 in
set_option maxHeartbeats 4000000 in
theorem until_st [Inhabited TbBox] (s t : List UInt8) (hs : s.length ≤ 50000) (b i : Nat) (hi : i ≤ s.length) (w0 w : World) (L : List As) (H : St w0 w (As.cells b #[vS s, .int .i64 (i : Int)] 82 :: L)) (E : Env w0) :
    Calls Tryz.prog 36 #[.pointer (some ⟨b, 0, none⟩), .string (S t)] w fun e w' => e = .returned (.int .u8 (untilM s t (s.length + 1) i 0).2.toNat) ∧ (untilM s t (s.length + 1) i 0).1 ≤ s.length ∧ i ≤ (untilM s t (s.length + 1) i 0).1 ∧ St w0 w' (As.cells b #[vS s, .int .i64 ((untilM s t (s.length + 1) i 0).1 : Nat)] 82 :: L) := by
  obtain ⟨⟨ri, rx⟩, hR⟩ : ∃ R, untilM s t (s.length + 1) i 0 = R := ⟨_, rfl⟩
  rw [hR]
  obtain ⟨sv, hsv⟩ : ∃ sv, S s = sv := ⟨_, rfl⟩
  obtain ⟨n, hn⟩ : ∃ n, s.length = n := ⟨_, rfl⟩
  have hsz : sv.size = n := by rw [← hsv, S_size, hn]
  rw [hn] at hs hi hR
  have hvs : vS s = .string sv := by rw [← hsv]
  rw [hvs] at H ⊢
  have HR := Lib.hid hR
  have HSV := Lib.hid hsv
  have HN := Lib.hid hn
  have HH := Lib.hid H
  have HE := Lib.hid E
  have HSZ := Lib.hid hsz
  have hib := fun c w => Tryz.strings_IndexByte (S t) c w
  have HIB := Lib.hid hib
  clear H E hR hsv hn hsz hvs hib
  go_enter Tryz.func36, Tryz.ntmps36
  go_wp2_with fail
  go_loopg [5, 6, 7, 8, 9] (n + 1 - i) (fun g v5 v6 v7 v8 v9 wr => ∃ (k f d : Nat), g = n + 1 - k ∧ i ≤ k ∧ k ≤ n ∧ n + 1 ≤ f + k ∧ d ≤ k ∧ v5 = .int .i64 (d : Int) ∧ untilM s t (n + 1) i 0 = untilM s t f k d ∧ St w0 wr (As.cells b #[.string sv, .int .i64 (k : Int)] 82 :: L))
  case atStart => exact ⟨i, n + 1, 0, rfl, Nat.le_refl _, hi, by omega, Nat.zero_le _, rfl, rfl, HH.out⟩
  case round =>
    obtain ⟨k, f, d, hg, hik, hkn, hfk, hdk, rfl, hum, hS⟩ := hrel
    have HG := Lib.hid hg
    have HUM := Lib.hid hum
    have HS := Lib.hid hS
    clear hg hum hS
    have c0 := HS.out.cell 0
    have c1 := HS.out.cell 1
    have f1 := HS.out.free 1
    simp at c0 c1
    by_cases hlt : k < n
    · have hkI : (k : Int) < (sv.size : Int) := by have := HSZ.out; omega
      have hkI2 : (k : Int) < (n : Int) := by omega
      have hk0 : (0 : Int) ≤ (k : Int) := by omega
      obtain ⟨x, hx⟩ : ∃ x, s[k]? = some x := ⟨_, List.getElem?_eq_getElem (by rw [HN.out]; exact hlt)⟩
      obtain ⟨m, hm⟩ : ∃ m, x.toNat = m := ⟨_, rfl⟩
      have hgb := get_bt sv
      have hbt : bt sv k = (m : Int) := by rw [← HSV.out, bt_S s k x hx, hm]
      obtain ⟨IB, hIB⟩ : ∃ z, Lib.indexByte t x = z := ⟨_, rfl⟩
      have hib : ∀ w, Calls Tryz.prog 60 #[.string (S t), .int .u8 (m : Int)] w fun e w' => e = .returned (.int .i64 IB) ∧ w' = w := by
        intro w
        have h : Calls Tryz.prog 60 #[.string (S t), .int .u8 (m : Int)] w (fun e w' => e = .returned (.int .i64 (Lib.indexByte t ((m : Int).toNat.toUInt8))) ∧ w' = w) := HIB.out (m : Int) w
        rw [Int.toNat_natCast, show m.toUInt8 = x from by rw [← hm]; simp, hIB] at h
        exact h
      obtain ⟨f, rfl⟩ : ∃ g, f = g + 1 := ⟨f - 1, by omega⟩
      have hum := HUM.out
      rw [until_step hx] at hum
      unfold inB at hum
      rw [hIB] at hum
      have HIBm := Lib.hid hib
      have HUX := Lib.hid hum
      have HMX := Lib.hid hm
      have HX := Lib.hid hx
      clear hum hm hx hib hIB HUM HIB
      go_upto_region 3 with go_quiet (fail)
      have HSa := Lib.hid (HS.out.drewN nq)
      obtain ⟨Wa, hWa⟩ : ∃ W, wr.drewN nq = W := ⟨_, rfl⟩
      rw [hWa] at HSa
      rw [hWa]
      have c0 := HSa.out.cell 0
      have c1 := HSa.out.cell 1
      have f1 := HSa.out.free 1
      simp at c0 c1
      clear hWa
      go_upto_region 4 with go_quiet (fail)
      have HSb := Lib.hid (HSa.out.drewN nq)
      obtain ⟨Wb, hWb⟩ : ∃ W, Wa.drewN nq = W := ⟨_, rfl⟩
      rw [hWb] at HSb
      rw [hWb]
      have c0 := HSb.out.cell 0
      have c1 := HSb.out.cell 1
      have f1 := HSb.out.free 1
      simp at c0 c1
      clear hWb hgb hbt
      by_cases hd0 : d = 0
      · have hdt : ((d : Int) == 0) = true := by simp [hd0]
        have HD0 := Lib.hid hd0
        clear hd0
        by_cases hI : 0 ≤ IB
        · have hI0 : (0 : Int) ≤ IB := hI
          have hux := HUX.out
          rw [if_pos ⟨HD0.out, by simpa using hI⟩] at hux
          have hr := HR.out.symm.trans hux
          obtain ⟨rfl, rfl⟩ := Prod.mk.inj hr
          clear hux hr
          go_wp2_with (go_at_call 60; refine (HIBm.out _).mono ?_; rintro e w2 ⟨rfl, hw2⟩; rw [hw2]; clear hw2)
          exact bodyPost_ret (results_tmp Tryz.results36 _ _ _) rfl ⟨by rw [HMX.out]; rfl, by have := HN.out; omega, hik, HSb.out⟩

        · have hIn : IB < 0 := by omega
          have hIb : ¬ (0 : Int) ≤ IB := hI
          have hux := HUX.out
          rw [if_neg (by rintro ⟨-, h⟩; exact hI (by simpa using h))] at hux
          have HU1 := Lib.hid hux
          clear hux
          have g1 := wrapS (a := (k : Int) + 1) (by omega) (by omega)
          by_cases hc : m = 34
          · obtain rfl : x = 34 := UInt8.toNat_inj.1 (HMX.out.trans hc)
            subst hc
            have hux := HU1.out
            rw [if_pos (by decide)] at hux
            unfold quoteJ at hux
            rw [HN.out] at hux
            have hct := fun w E => cut_any (s.drop (k + 1)) [34] (by simp; have := HN.out; omega) w E
            obtain ⟨V, hV⟩ : ∃ V, (Lib.cut (s.drop (k + 1)) [34]).1 = V := ⟨_, rfl⟩
            obtain ⟨V2, hV2⟩ : ∃ V, (Lib.cut (s.drop (k + 1)) [34]).2.1 = V := ⟨_, rfl⟩
            obtain ⟨V3, hV3⟩ : ∃ V, (Lib.cut (s.drop (k + 1)) [34]).2.2 = V := ⟨_, rfl⟩
            simp only [hV, hV2, hV3] at hct hux
            have hVl : V.length ≤ n := by rw [← hV]; have := cut_le (s.drop (k + 1)) [34]; rw [List.length_drop, HN.out] at this; omega
            obtain ⟨vv, hvv⟩ : ∃ z, S V = z := ⟨_, rfl⟩
            have hvz : vv.size = V.length := by rw [← hvv, S_size]
            obtain ⟨vl, hvl⟩ : ∃ z, V.length = z := ⟨_, rfl⟩
            rw [hvl] at hvz hux hVl
            obtain ⟨j, hj⟩ : ∃ j, min (k + vl + 1) (n - 1) = j := ⟨_, rfl⟩
            rw [hj] at hux
            have hex : sv.extract (k + 1) n = S (s.drop (k + 1)) := by rw [← HSV.out, S_ext, List.take_of_length_le (by rw [List.length_drop, HN.out]; omega)]
            obtain ⟨sd, hsd⟩ : ∃ z, S (s.drop (k + 1)) = z := ⟨_, rfl⟩
            rw [hsd] at hex
            have hct2 : ∀ w, Env w → Calls Tryz.prog 37 #[.string sd, .string (Utf8.encode 34)] w fun e w' => e = .returned (.tuple #[.string vv, vS V2, .bool V3]) ∧ Below w.heap.size w w' := by
              intro w E; rw [← hsd, ← hvv, show Utf8.encode 34 = S [34] from by decide +kernel]; exact hct w E
            have HCT := Lib.hid hct2
            have HU2 := Lib.hid hux
            have HJ := Lib.hid hj
            have g2 := wrapS (a := (k : Int) + (vl : Int)) (by omega) (by omega)
            have g3 := wrapS (a := (k : Int) + (vl : Int) + 1) (by omega) (by omega)
            have g4 := wrapS (a := (n : Int) - 1) (by omega) (by omega)
            have g5 := wrapS (a := (j : Int) + 1) (by omega) (by omega)
            have m1 : ∀ a b : Int, (if b < a then b else a) = min a b := fun a b => by omega
            have m2 : min ((k : Int) + (vl : Int) + 1) ((n : Int) - 1) = (j : Int) := by omega
            have hsz := HSZ.out
            have kle : (k : Int) + 1 ≤ (n : Int) := by omega
            have k1p : (0 : Int) ≤ (k : Int) + 1 := by omega
            have ktn : ((k : Int) + 1).toNat = k + 1 := by omega
            have jk : k + 1 ≤ j + 1 := by have := HJ.out; omega
            have jn : j + 1 ≤ n := by have := HJ.out; omega
            clear hct hct2 hux hj hV hV2 hV3 hsd hvv HU1
            have cA := Lib.hid (fun d os => Calls.regrown_of (w := Wb) (d := d) (os := os) (HCT.out _ ((HE.out.below HSb.out.bel).below (below_regrown Wb d os))))
            go_upto_region 9 with (go_at_call 60; refine (HIBm.out _).mono ?_; rintro e w2 ⟨rfl, hw2⟩; rw [hw2]; clear hw2)
            have k1 := fun d os => cell_regrown (d := d) (os := os) c0
            have k2 := fun d os => cell_regrown (d := d) (os := os) c1
            refine wp_region_quiet_below (by kernel_rfl) (by kernel_rfl) ?_
            repeat (go_big_quiet_step (first | with_reducible exact cA.out _ _))

            refine wpQuiet_nil ?_
            intro _ hw'
            obtain ⟨⟨dq, osq⟩, hw''⟩ := hw'
            obtain ⟨Wc, hWc⟩ : ∃ w2, Sort.grow (redrawn Wb dq) osq = w2 := ⟨_, rfl⟩
            have hb : Below Wb.heap.size Wb Wc := by rw [← hWc]; exact below_regrown Wb dq osq
            subst hw''
            rw [show Sort.grow (redrawn Wb (⟨dq, osq⟩ : Regrown).d) (⟨dq, osq⟩ : Regrown).os = Wc from hWc]
            have HSc := Lib.hid (HSb.out.of_below hb)
            clear hWc hb k1 k2 cA c0 c1 f1
            have c0 := HSc.out.cell 0
            have c1 := HSc.out.cell 1
            have f1 := HSc.out.free 1
            simp at c0 c1
            go_upto_region 10 with fail
            go_still_tail 18, (by kernel_rfl)
            change wpList _ _ _ _ _ Wc.drew
            have HSd := Lib.hid HSc.out.drew
            obtain ⟨Wd, hWd⟩ : ∃ w2, Wc.drew = w2 := ⟨_, rfl⟩
            rw [hWd] at HSd
            rw [hWd]
            clear hWd c0 c1 f1
            have c0 := HSd.out.cell 0
            have c1 := HSd.out.cell 1
            have f1 := HSd.out.free 1
            simp at c0 c1
            go_upto_region 19 with fail
            have HSe := Lib.hid (HSd.out.set 1 (.int .i64 (j : Int)))
            simp only [List.setIfInBounds_toArray, List.set_cons_zero, List.set_cons_succ] at HSe
            obtain ⟨We, hWe⟩ : ∃ w2, Wd.setCell ⟨b, 1, none⟩ (.int .i64 (j : Int)) = w2 := ⟨_, rfl⟩
            rw [hWe] at HSe
            rw [hWe]
            clear hWe c0 c1 f1
            have c0 := HSe.out.cell 0
            have c1 := HSe.out.cell 1
            have f1 := HSe.out.free 1
            simp at c0 c1
            go_wp2_with fail
            have H9 := Lib.hid (HSe.out.set 1 (.int .i64 ((j : Int) + 1)))
            simp only [List.setIfInBounds_toArray, List.set_cons_zero, List.set_cons_succ] at H9
            go_roundg (n + 1 - (j + 1))
            case measure => have := HG.out; omega
            case rel => exact ⟨j + 1, f, d, rfl, by omega, by omega, by omega, by omega, rfl, HU2.out, by rw [Int.natCast_add]; exact H9.out⟩

          · have n34 := hc
            clear hc
            by_cases hc : m = 39
            · obtain rfl : x = 39 := UInt8.toNat_inj.1 (HMX.out.trans hc)
              subst hc
              have hux := HU1.out
              rw [if_pos (by decide)] at hux
              unfold quoteJ at hux
              rw [HN.out] at hux
              have hct := fun w E => cut_any (s.drop (k + 1)) [39] (by simp; have := HN.out; omega) w E
              obtain ⟨V, hV⟩ : ∃ V, (Lib.cut (s.drop (k + 1)) [39]).1 = V := ⟨_, rfl⟩
              obtain ⟨V2, hV2⟩ : ∃ V, (Lib.cut (s.drop (k + 1)) [39]).2.1 = V := ⟨_, rfl⟩
              obtain ⟨V3, hV3⟩ : ∃ V, (Lib.cut (s.drop (k + 1)) [39]).2.2 = V := ⟨_, rfl⟩
              simp only [hV, hV2, hV3] at hct hux
              have hVl : V.length ≤ n := by rw [← hV]; have := cut_le (s.drop (k + 1)) [39]; rw [List.length_drop, HN.out] at this; omega
              obtain ⟨vv, hvv⟩ : ∃ z, S V = z := ⟨_, rfl⟩
              have hvz : vv.size = V.length := by rw [← hvv, S_size]
              obtain ⟨vl, hvl⟩ : ∃ z, V.length = z := ⟨_, rfl⟩
              rw [hvl] at hvz hux hVl
              obtain ⟨j, hj⟩ : ∃ j, min (k + vl + 1) (n - 1) = j := ⟨_, rfl⟩
              rw [hj] at hux
              have hex : sv.extract (k + 1) n = S (s.drop (k + 1)) := by rw [← HSV.out, S_ext, List.take_of_length_le (by rw [List.length_drop, HN.out]; omega)]
              obtain ⟨sd, hsd⟩ : ∃ z, S (s.drop (k + 1)) = z := ⟨_, rfl⟩
              rw [hsd] at hex
              have hct2 : ∀ w, Env w → Calls Tryz.prog 37 #[.string sd, .string (Utf8.encode 39)] w fun e w' => e = .returned (.tuple #[.string vv, vS V2, .bool V3]) ∧ Below w.heap.size w w' := by
                intro w E; rw [← hsd, ← hvv, show Utf8.encode 39 = S [39] from by decide +kernel]; exact hct w E
              have HCT := Lib.hid hct2
              have HU2 := Lib.hid hux
              have HJ := Lib.hid hj
              have g2 := wrapS (a := (k : Int) + (vl : Int)) (by omega) (by omega)
              have g3 := wrapS (a := (k : Int) + (vl : Int) + 1) (by omega) (by omega)
              have g4 := wrapS (a := (n : Int) - 1) (by omega) (by omega)
              have g5 := wrapS (a := (j : Int) + 1) (by omega) (by omega)
              have m1 : ∀ a b : Int, (if b < a then b else a) = min a b := fun a b => by omega
              have m2 : min ((k : Int) + (vl : Int) + 1) ((n : Int) - 1) = (j : Int) := by omega
              have hsz := HSZ.out
              have kle : (k : Int) + 1 ≤ (n : Int) := by omega
              have k1p : (0 : Int) ≤ (k : Int) + 1 := by omega
              have ktn : ((k : Int) + 1).toNat = k + 1 := by omega
              have jk : k + 1 ≤ j + 1 := by have := HJ.out; omega
              have jn : j + 1 ≤ n := by have := HJ.out; omega
              clear hct hct2 hux hj hV hV2 hV3 hsd hvv HU1
              have cA := Lib.hid (fun d os => Calls.regrown_of (w := Wb) (d := d) (os := os) (HCT.out _ ((HE.out.below HSb.out.bel).below (below_regrown Wb d os))))
              go_upto_region 9 with (go_at_call 60; refine (HIBm.out _).mono ?_; rintro e w2 ⟨rfl, hw2⟩; rw [hw2]; clear hw2)
              have k1 := fun d os => cell_regrown (d := d) (os := os) c0
              have k2 := fun d os => cell_regrown (d := d) (os := os) c1
              refine wp_region_quiet_below (by kernel_rfl) (by kernel_rfl) ?_
              repeat (go_big_quiet_step (first | with_reducible exact cA.out _ _))

              refine wpQuiet_nil ?_
              intro _ hw'
              obtain ⟨⟨dq, osq⟩, hw''⟩ := hw'
              obtain ⟨Wc, hWc⟩ : ∃ w2, Sort.grow (redrawn Wb dq) osq = w2 := ⟨_, rfl⟩
              have hb : Below Wb.heap.size Wb Wc := by rw [← hWc]; exact below_regrown Wb dq osq
              subst hw''
              rw [show Sort.grow (redrawn Wb (⟨dq, osq⟩ : Regrown).d) (⟨dq, osq⟩ : Regrown).os = Wc from hWc]
              have HSc := Lib.hid (HSb.out.of_below hb)
              clear hWc hb k1 k2 cA c0 c1 f1
              have c0 := HSc.out.cell 0
              have c1 := HSc.out.cell 1
              have f1 := HSc.out.free 1
              simp at c0 c1
              go_upto_region 10 with fail
              go_still_tail 18, (by kernel_rfl)
              change wpList _ _ _ _ _ Wc.drew
              have HSd := Lib.hid HSc.out.drew
              obtain ⟨Wd, hWd⟩ : ∃ w2, Wc.drew = w2 := ⟨_, rfl⟩
              rw [hWd] at HSd
              rw [hWd]
              clear hWd c0 c1 f1
              have c0 := HSd.out.cell 0
              have c1 := HSd.out.cell 1
              have f1 := HSd.out.free 1
              simp at c0 c1
              go_upto_region 19 with fail
              have HSe := Lib.hid (HSd.out.set 1 (.int .i64 (j : Int)))
              simp only [List.setIfInBounds_toArray, List.set_cons_zero, List.set_cons_succ] at HSe
              obtain ⟨We, hWe⟩ : ∃ w2, Wd.setCell ⟨b, 1, none⟩ (.int .i64 (j : Int)) = w2 := ⟨_, rfl⟩
              rw [hWe] at HSe
              rw [hWe]
              clear hWe c0 c1 f1
              have c0 := HSe.out.cell 0
              have c1 := HSe.out.cell 1
              have f1 := HSe.out.free 1
              simp at c0 c1
              go_wp2_with fail
              have H9 := Lib.hid (HSe.out.set 1 (.int .i64 ((j : Int) + 1)))
              simp only [List.setIfInBounds_toArray, List.set_cons_zero, List.set_cons_succ] at H9
              go_roundg (n + 1 - (j + 1))
              case measure => have := HG.out; omega
              case rel => exact ⟨j + 1, f, d, rfl, by omega, by omega, by omega, by omega, rfl, HU2.out, by rw [Int.natCast_add]; exact H9.out⟩

            · have n39 := hc
              clear hc
              by_cases hc : m = 40
              · obtain rfl : x = 40 := UInt8.toNat_inj.1 (HMX.out.trans hc)
                subst hc
                have hux := HU1.out
                rw [if_neg (by decide), if_pos (by decide)] at hux
                have HU2 := Lib.hid hux
                clear hux HU1
                have g6 := wrapS (a := (d : Int) + 1) (by omega) (by omega)
                go_wp2_with (go_at_call 60; refine (HIBm.out _).mono ?_; rintro e w2 ⟨rfl, hw2⟩; rw [hw2]; clear hw2)
                have H9 := Lib.hid (HSb.out.set 1 (.int .i64 ((k : Int) + 1)))
                simp only [List.setIfInBounds_toArray, List.set_cons_zero, List.set_cons_succ] at H9
                go_roundg (n + 1 - (k + 1))
                case measure => have := HG.out; omega
                case rel => exact ⟨k + 1, f, d + 1, rfl, by omega, by omega, by omega, by omega, by rw [Int.natCast_add]; rfl, HU2.out, by rw [Int.natCast_add]; exact H9.out⟩

              · have n40 := hc
                clear hc
                by_cases hc : m = 91
                · obtain rfl : x = 91 := UInt8.toNat_inj.1 (HMX.out.trans hc)
                  subst hc
                  have hux := HU1.out
                  rw [if_neg (by decide), if_pos (by decide)] at hux
                  have HU2 := Lib.hid hux
                  clear hux HU1
                  have g6 := wrapS (a := (d : Int) + 1) (by omega) (by omega)
                  go_wp2_with (go_at_call 60; refine (HIBm.out _).mono ?_; rintro e w2 ⟨rfl, hw2⟩; rw [hw2]; clear hw2)
                  have H9 := Lib.hid (HSb.out.set 1 (.int .i64 ((k : Int) + 1)))
                  simp only [List.setIfInBounds_toArray, List.set_cons_zero, List.set_cons_succ] at H9
                  go_roundg (n + 1 - (k + 1))
                  case measure => have := HG.out; omega
                  case rel => exact ⟨k + 1, f, d + 1, rfl, by omega, by omega, by omega, by omega, by rw [Int.natCast_add]; rfl, HU2.out, by rw [Int.natCast_add]; exact H9.out⟩

                · have n91 := hc
                  clear hc
                  by_cases hc : m = 123
                  · obtain rfl : x = 123 := UInt8.toNat_inj.1 (HMX.out.trans hc)
                    subst hc
                    have hux := HU1.out
                    rw [if_neg (by decide), if_pos (by decide)] at hux
                    have HU2 := Lib.hid hux
                    clear hux HU1
                    have g6 := wrapS (a := (d : Int) + 1) (by omega) (by omega)
                    go_wp2_with (go_at_call 60; refine (HIBm.out _).mono ?_; rintro e w2 ⟨rfl, hw2⟩; rw [hw2]; clear hw2)
                    have H9 := Lib.hid (HSb.out.set 1 (.int .i64 ((k : Int) + 1)))
                    simp only [List.setIfInBounds_toArray, List.set_cons_zero, List.set_cons_succ] at H9
                    go_roundg (n + 1 - (k + 1))
                    case measure => have := HG.out; omega
                    case rel => exact ⟨k + 1, f, d + 1, rfl, by omega, by omega, by omega, by omega, by rw [Int.natCast_add]; rfl, HU2.out, by rw [Int.natCast_add]; exact H9.out⟩

                  · have n123 := hc
                    clear hc
                    by_cases hc : m = 41
                    · obtain rfl : x = 41 := UInt8.toNat_inj.1 (HMX.out.trans hc)
                      subst hc
                      have hux := HU1.out
                      rw [if_neg (by decide), if_neg (by decide), if_pos (by decide)] at hux
                      have HU2 := Lib.hid hux
                      clear hux HU1
                      have g6 := wrapS (a := (d : Int) - 1) (by omega) (by omega)
                      obtain ⟨d2, hd2⟩ : ∃ z, d - 1 = z := ⟨_, rfl⟩
                      rw [hd2] at HU2
                      have m1 : ∀ a b : Int, (if a < b then b else a) = max a b := fun a b => by omega
                      have m2 : max (0 : Int) ((d : Int) - 1) = (d2 : Int) := by omega
                      have hd3 : d2 ≤ k := by omega
                      clear hd2
                      go_wp2_with (go_at_call 60; refine (HIBm.out _).mono ?_; rintro e w2 ⟨rfl, hw2⟩; rw [hw2]; clear hw2)
                      have H9 := Lib.hid (HSb.out.set 1 (.int .i64 ((k : Int) + 1)))
                      simp only [List.setIfInBounds_toArray, List.set_cons_zero, List.set_cons_succ] at H9
                      go_roundg (n + 1 - (k + 1))
                      case measure => have := HG.out; omega
                      case rel => exact ⟨k + 1, f, d2, rfl, by omega, by omega, by omega, by omega, rfl, HU2.out, by rw [Int.natCast_add]; exact H9.out⟩

                    · have n41 := hc
                      clear hc
                      by_cases hc : m = 93
                      · obtain rfl : x = 93 := UInt8.toNat_inj.1 (HMX.out.trans hc)
                        subst hc
                        have hux := HU1.out
                        rw [if_neg (by decide), if_neg (by decide), if_pos (by decide)] at hux
                        have HU2 := Lib.hid hux
                        clear hux HU1
                        have g6 := wrapS (a := (d : Int) - 1) (by omega) (by omega)
                        obtain ⟨d2, hd2⟩ : ∃ z, d - 1 = z := ⟨_, rfl⟩
                        rw [hd2] at HU2
                        have m1 : ∀ a b : Int, (if a < b then b else a) = max a b := fun a b => by omega
                        have m2 : max (0 : Int) ((d : Int) - 1) = (d2 : Int) := by omega
                        have hd3 : d2 ≤ k := by omega
                        clear hd2
                        go_wp2_with (go_at_call 60; refine (HIBm.out _).mono ?_; rintro e w2 ⟨rfl, hw2⟩; rw [hw2]; clear hw2)
                        have H9 := Lib.hid (HSb.out.set 1 (.int .i64 ((k : Int) + 1)))
                        simp only [List.setIfInBounds_toArray, List.set_cons_zero, List.set_cons_succ] at H9
                        go_roundg (n + 1 - (k + 1))
                        case measure => have := HG.out; omega
                        case rel => exact ⟨k + 1, f, d2, rfl, by omega, by omega, by omega, by omega, rfl, HU2.out, by rw [Int.natCast_add]; exact H9.out⟩

                      · have n93 := hc
                        clear hc
                        by_cases hc : m = 125
                        · obtain rfl : x = 125 := UInt8.toNat_inj.1 (HMX.out.trans hc)
                          subst hc
                          have hux := HU1.out
                          rw [if_neg (by decide), if_neg (by decide), if_pos (by decide)] at hux
                          have HU2 := Lib.hid hux
                          clear hux HU1
                          have g6 := wrapS (a := (d : Int) - 1) (by omega) (by omega)
                          obtain ⟨d2, hd2⟩ : ∃ z, d - 1 = z := ⟨_, rfl⟩
                          rw [hd2] at HU2
                          have m1 : ∀ a b : Int, (if a < b then b else a) = max a b := fun a b => by omega
                          have m2 : max (0 : Int) ((d : Int) - 1) = (d2 : Int) := by omega
                          have hd3 : d2 ≤ k := by omega
                          clear hd2
                          go_wp2_with (go_at_call 60; refine (HIBm.out _).mono ?_; rintro e w2 ⟨rfl, hw2⟩; rw [hw2]; clear hw2)
                          have H9 := Lib.hid (HSb.out.set 1 (.int .i64 ((k : Int) + 1)))
                          simp only [List.setIfInBounds_toArray, List.set_cons_zero, List.set_cons_succ] at H9
                          go_roundg (n + 1 - (k + 1))
                          case measure => have := HG.out; omega
                          case rel => exact ⟨k + 1, f, d2, rfl, by omega, by omega, by omega, by omega, rfl, HU2.out, by rw [Int.natCast_add]; exact H9.out⟩

                        · have n125 := hc
                          clear hc
                          have b34 : ((m : Int) == 34) = false := by rw [beq_eq_false_iff_ne]; omega
                          have u34 : ¬ x = 34 := fun h => n34 (by rw [← HMX.out, h]; rfl)
                          have b39 : ((m : Int) == 39) = false := by rw [beq_eq_false_iff_ne]; omega
                          have u39 : ¬ x = 39 := fun h => n39 (by rw [← HMX.out, h]; rfl)
                          have b40 : ((m : Int) == 40) = false := by rw [beq_eq_false_iff_ne]; omega
                          have u40 : ¬ x = 40 := fun h => n40 (by rw [← HMX.out, h]; rfl)
                          have b91 : ((m : Int) == 91) = false := by rw [beq_eq_false_iff_ne]; omega
                          have u91 : ¬ x = 91 := fun h => n91 (by rw [← HMX.out, h]; rfl)
                          have b123 : ((m : Int) == 123) = false := by rw [beq_eq_false_iff_ne]; omega
                          have u123 : ¬ x = 123 := fun h => n123 (by rw [← HMX.out, h]; rfl)
                          have b41 : ((m : Int) == 41) = false := by rw [beq_eq_false_iff_ne]; omega
                          have u41 : ¬ x = 41 := fun h => n41 (by rw [← HMX.out, h]; rfl)
                          have b93 : ((m : Int) == 93) = false := by rw [beq_eq_false_iff_ne]; omega
                          have u93 : ¬ x = 93 := fun h => n93 (by rw [← HMX.out, h]; rfl)
                          have b125 : ((m : Int) == 125) = false := by rw [beq_eq_false_iff_ne]; omega
                          have u125 : ¬ x = 125 := fun h => n125 (by rw [← HMX.out, h]; rfl)
                          have hux := HU1.out
                          rw [if_neg (by rintro (h | h); exact u34 h; exact u39 h), if_neg (by rintro (h | h | h); exact u40 h; exact u91 h; exact u123 h), if_neg (by rintro (h | h | h); exact u41 h; exact u93 h; exact u125 h)] at hux
                          have HU2 := Lib.hid hux
                          clear hux HU1 u34 u39 u40 u41 u91 u93 u123 u125
                          go_wp2_with (go_at_call 60; refine (HIBm.out _).mono ?_; rintro e w2 ⟨rfl, hw2⟩; rw [hw2]; clear hw2)
                          have H9 := Lib.hid (HSb.out.set 1 (.int .i64 ((k : Int) + 1)))
                          simp only [List.setIfInBounds_toArray, List.set_cons_zero, List.set_cons_succ] at H9
                          go_roundg (n + 1 - (k + 1))
                          case measure => have := HG.out; omega
                          case rel => exact ⟨k + 1, f, d, rfl, by omega, by omega, by omega, by omega, rfl, HU2.out, by rw [Int.natCast_add]; exact H9.out⟩

      · have hdz : ((d : Int) == 0) = false := by rw [beq_eq_false_iff_ne]; omega
        have hux := HUX.out
        rw [if_neg (by rintro ⟨h, -⟩; exact hd0 h)] at hux
        have HU1 := Lib.hid hux
        clear hux
        have g1 := wrapS (a := (k : Int) + 1) (by omega) (by omega)
        by_cases hc : m = 34
        · obtain rfl : x = 34 := UInt8.toNat_inj.1 (HMX.out.trans hc)
          subst hc
          have hux := HU1.out
          rw [if_pos (by decide)] at hux
          unfold quoteJ at hux
          rw [HN.out] at hux
          have hct := fun w E => cut_any (s.drop (k + 1)) [34] (by simp; have := HN.out; omega) w E
          obtain ⟨V, hV⟩ : ∃ V, (Lib.cut (s.drop (k + 1)) [34]).1 = V := ⟨_, rfl⟩
          obtain ⟨V2, hV2⟩ : ∃ V, (Lib.cut (s.drop (k + 1)) [34]).2.1 = V := ⟨_, rfl⟩
          obtain ⟨V3, hV3⟩ : ∃ V, (Lib.cut (s.drop (k + 1)) [34]).2.2 = V := ⟨_, rfl⟩
          simp only [hV, hV2, hV3] at hct hux
          have hVl : V.length ≤ n := by rw [← hV]; have := cut_le (s.drop (k + 1)) [34]; rw [List.length_drop, HN.out] at this; omega
          obtain ⟨vv, hvv⟩ : ∃ z, S V = z := ⟨_, rfl⟩
          have hvz : vv.size = V.length := by rw [← hvv, S_size]
          obtain ⟨vl, hvl⟩ : ∃ z, V.length = z := ⟨_, rfl⟩
          rw [hvl] at hvz hux hVl
          obtain ⟨j, hj⟩ : ∃ j, min (k + vl + 1) (n - 1) = j := ⟨_, rfl⟩
          rw [hj] at hux
          have hex : sv.extract (k + 1) n = S (s.drop (k + 1)) := by rw [← HSV.out, S_ext, List.take_of_length_le (by rw [List.length_drop, HN.out]; omega)]
          obtain ⟨sd, hsd⟩ : ∃ z, S (s.drop (k + 1)) = z := ⟨_, rfl⟩
          rw [hsd] at hex
          have hct2 : ∀ w, Env w → Calls Tryz.prog 37 #[.string sd, .string (Utf8.encode 34)] w fun e w' => e = .returned (.tuple #[.string vv, vS V2, .bool V3]) ∧ Below w.heap.size w w' := by
            intro w E; rw [← hsd, ← hvv, show Utf8.encode 34 = S [34] from by decide +kernel]; exact hct w E
          have HCT := Lib.hid hct2
          have HU2 := Lib.hid hux
          have HJ := Lib.hid hj
          have g2 := wrapS (a := (k : Int) + (vl : Int)) (by omega) (by omega)
          have g3 := wrapS (a := (k : Int) + (vl : Int) + 1) (by omega) (by omega)
          have g4 := wrapS (a := (n : Int) - 1) (by omega) (by omega)
          have g5 := wrapS (a := (j : Int) + 1) (by omega) (by omega)
          have m1 : ∀ a b : Int, (if b < a then b else a) = min a b := fun a b => by omega
          have m2 : min ((k : Int) + (vl : Int) + 1) ((n : Int) - 1) = (j : Int) := by omega
          have hsz := HSZ.out
          have kle : (k : Int) + 1 ≤ (n : Int) := by omega
          have k1p : (0 : Int) ≤ (k : Int) + 1 := by omega
          have ktn : ((k : Int) + 1).toNat = k + 1 := by omega
          have jk : k + 1 ≤ j + 1 := by have := HJ.out; omega
          have jn : j + 1 ≤ n := by have := HJ.out; omega
          clear hct hct2 hux hj hV hV2 hV3 hsd hvv HU1
          have cA := Lib.hid (fun d os => Calls.regrown_of (w := Wb) (d := d) (os := os) (HCT.out _ ((HE.out.below HSb.out.bel).below (below_regrown Wb d os))))
          go_upto_region 9 with (go_at_call 60; refine (HIBm.out _).mono ?_; rintro e w2 ⟨rfl, hw2⟩; rw [hw2]; clear hw2)
          have k1 := fun d os => cell_regrown (d := d) (os := os) c0
          have k2 := fun d os => cell_regrown (d := d) (os := os) c1
          refine wp_region_quiet_below (by kernel_rfl) (by kernel_rfl) ?_
          repeat (go_big_quiet_step (first | with_reducible exact cA.out _ _))

          refine wpQuiet_nil ?_
          intro _ hw'
          obtain ⟨⟨dq, osq⟩, hw''⟩ := hw'
          obtain ⟨Wc, hWc⟩ : ∃ w2, Sort.grow (redrawn Wb dq) osq = w2 := ⟨_, rfl⟩
          have hb : Below Wb.heap.size Wb Wc := by rw [← hWc]; exact below_regrown Wb dq osq
          subst hw''
          rw [show Sort.grow (redrawn Wb (⟨dq, osq⟩ : Regrown).d) (⟨dq, osq⟩ : Regrown).os = Wc from hWc]
          have HSc := Lib.hid (HSb.out.of_below hb)
          clear hWc hb k1 k2 cA c0 c1 f1
          have c0 := HSc.out.cell 0
          have c1 := HSc.out.cell 1
          have f1 := HSc.out.free 1
          simp at c0 c1
          go_upto_region 10 with fail
          go_still_tail 18, (by kernel_rfl)
          change wpList _ _ _ _ _ Wc.drew
          have HSd := Lib.hid HSc.out.drew
          obtain ⟨Wd, hWd⟩ : ∃ w2, Wc.drew = w2 := ⟨_, rfl⟩
          rw [hWd] at HSd
          rw [hWd]
          clear hWd c0 c1 f1
          have c0 := HSd.out.cell 0
          have c1 := HSd.out.cell 1
          have f1 := HSd.out.free 1
          simp at c0 c1
          go_upto_region 19 with fail
          have HSe := Lib.hid (HSd.out.set 1 (.int .i64 (j : Int)))
          simp only [List.setIfInBounds_toArray, List.set_cons_zero, List.set_cons_succ] at HSe
          obtain ⟨We, hWe⟩ : ∃ w2, Wd.setCell ⟨b, 1, none⟩ (.int .i64 (j : Int)) = w2 := ⟨_, rfl⟩
          rw [hWe] at HSe
          rw [hWe]
          clear hWe c0 c1 f1
          have c0 := HSe.out.cell 0
          have c1 := HSe.out.cell 1
          have f1 := HSe.out.free 1
          simp at c0 c1
          go_wp2_with fail
          have H9 := Lib.hid (HSe.out.set 1 (.int .i64 ((j : Int) + 1)))
          simp only [List.setIfInBounds_toArray, List.set_cons_zero, List.set_cons_succ] at H9
          go_roundg (n + 1 - (j + 1))
          case measure => have := HG.out; omega
          case rel => exact ⟨j + 1, f, d, rfl, by omega, by omega, by omega, by omega, rfl, HU2.out, by rw [Int.natCast_add]; exact H9.out⟩

        · have n34 := hc
          clear hc
          by_cases hc : m = 39
          · obtain rfl : x = 39 := UInt8.toNat_inj.1 (HMX.out.trans hc)
            subst hc
            have hux := HU1.out
            rw [if_pos (by decide)] at hux
            unfold quoteJ at hux
            rw [HN.out] at hux
            have hct := fun w E => cut_any (s.drop (k + 1)) [39] (by simp; have := HN.out; omega) w E
            obtain ⟨V, hV⟩ : ∃ V, (Lib.cut (s.drop (k + 1)) [39]).1 = V := ⟨_, rfl⟩
            obtain ⟨V2, hV2⟩ : ∃ V, (Lib.cut (s.drop (k + 1)) [39]).2.1 = V := ⟨_, rfl⟩
            obtain ⟨V3, hV3⟩ : ∃ V, (Lib.cut (s.drop (k + 1)) [39]).2.2 = V := ⟨_, rfl⟩
            simp only [hV, hV2, hV3] at hct hux
            have hVl : V.length ≤ n := by rw [← hV]; have := cut_le (s.drop (k + 1)) [39]; rw [List.length_drop, HN.out] at this; omega
            obtain ⟨vv, hvv⟩ : ∃ z, S V = z := ⟨_, rfl⟩
            have hvz : vv.size = V.length := by rw [← hvv, S_size]
            obtain ⟨vl, hvl⟩ : ∃ z, V.length = z := ⟨_, rfl⟩
            rw [hvl] at hvz hux hVl
            obtain ⟨j, hj⟩ : ∃ j, min (k + vl + 1) (n - 1) = j := ⟨_, rfl⟩
            rw [hj] at hux
            have hex : sv.extract (k + 1) n = S (s.drop (k + 1)) := by rw [← HSV.out, S_ext, List.take_of_length_le (by rw [List.length_drop, HN.out]; omega)]
            obtain ⟨sd, hsd⟩ : ∃ z, S (s.drop (k + 1)) = z := ⟨_, rfl⟩
            rw [hsd] at hex
            have hct2 : ∀ w, Env w → Calls Tryz.prog 37 #[.string sd, .string (Utf8.encode 39)] w fun e w' => e = .returned (.tuple #[.string vv, vS V2, .bool V3]) ∧ Below w.heap.size w w' := by
              intro w E; rw [← hsd, ← hvv, show Utf8.encode 39 = S [39] from by decide +kernel]; exact hct w E
            have HCT := Lib.hid hct2
            have HU2 := Lib.hid hux
            have HJ := Lib.hid hj
            have g2 := wrapS (a := (k : Int) + (vl : Int)) (by omega) (by omega)
            have g3 := wrapS (a := (k : Int) + (vl : Int) + 1) (by omega) (by omega)
            have g4 := wrapS (a := (n : Int) - 1) (by omega) (by omega)
            have g5 := wrapS (a := (j : Int) + 1) (by omega) (by omega)
            have m1 : ∀ a b : Int, (if b < a then b else a) = min a b := fun a b => by omega
            have m2 : min ((k : Int) + (vl : Int) + 1) ((n : Int) - 1) = (j : Int) := by omega
            have hsz := HSZ.out
            have kle : (k : Int) + 1 ≤ (n : Int) := by omega
            have k1p : (0 : Int) ≤ (k : Int) + 1 := by omega
            have ktn : ((k : Int) + 1).toNat = k + 1 := by omega
            have jk : k + 1 ≤ j + 1 := by have := HJ.out; omega
            have jn : j + 1 ≤ n := by have := HJ.out; omega
            clear hct hct2 hux hj hV hV2 hV3 hsd hvv HU1
            have cA := Lib.hid (fun d os => Calls.regrown_of (w := Wb) (d := d) (os := os) (HCT.out _ ((HE.out.below HSb.out.bel).below (below_regrown Wb d os))))
            go_upto_region 9 with (go_at_call 60; refine (HIBm.out _).mono ?_; rintro e w2 ⟨rfl, hw2⟩; rw [hw2]; clear hw2)
            have k1 := fun d os => cell_regrown (d := d) (os := os) c0
            have k2 := fun d os => cell_regrown (d := d) (os := os) c1
            refine wp_region_quiet_below (by kernel_rfl) (by kernel_rfl) ?_
            repeat (go_big_quiet_step (first | with_reducible exact cA.out _ _))

            refine wpQuiet_nil ?_
            intro _ hw'
            obtain ⟨⟨dq, osq⟩, hw''⟩ := hw'
            obtain ⟨Wc, hWc⟩ : ∃ w2, Sort.grow (redrawn Wb dq) osq = w2 := ⟨_, rfl⟩
            have hb : Below Wb.heap.size Wb Wc := by rw [← hWc]; exact below_regrown Wb dq osq
            subst hw''
            rw [show Sort.grow (redrawn Wb (⟨dq, osq⟩ : Regrown).d) (⟨dq, osq⟩ : Regrown).os = Wc from hWc]
            have HSc := Lib.hid (HSb.out.of_below hb)
            clear hWc hb k1 k2 cA c0 c1 f1
            have c0 := HSc.out.cell 0
            have c1 := HSc.out.cell 1
            have f1 := HSc.out.free 1
            simp at c0 c1
            go_upto_region 10 with fail
            go_still_tail 18, (by kernel_rfl)
            change wpList _ _ _ _ _ Wc.drew
            have HSd := Lib.hid HSc.out.drew
            obtain ⟨Wd, hWd⟩ : ∃ w2, Wc.drew = w2 := ⟨_, rfl⟩
            rw [hWd] at HSd
            rw [hWd]
            clear hWd c0 c1 f1
            have c0 := HSd.out.cell 0
            have c1 := HSd.out.cell 1
            have f1 := HSd.out.free 1
            simp at c0 c1
            go_upto_region 19 with fail
            have HSe := Lib.hid (HSd.out.set 1 (.int .i64 (j : Int)))
            simp only [List.setIfInBounds_toArray, List.set_cons_zero, List.set_cons_succ] at HSe
            obtain ⟨We, hWe⟩ : ∃ w2, Wd.setCell ⟨b, 1, none⟩ (.int .i64 (j : Int)) = w2 := ⟨_, rfl⟩
            rw [hWe] at HSe
            rw [hWe]
            clear hWe c0 c1 f1
            have c0 := HSe.out.cell 0
            have c1 := HSe.out.cell 1
            have f1 := HSe.out.free 1
            simp at c0 c1
            go_wp2_with fail
            have H9 := Lib.hid (HSe.out.set 1 (.int .i64 ((j : Int) + 1)))
            simp only [List.setIfInBounds_toArray, List.set_cons_zero, List.set_cons_succ] at H9
            go_roundg (n + 1 - (j + 1))
            case measure => have := HG.out; omega
            case rel => exact ⟨j + 1, f, d, rfl, by omega, by omega, by omega, by omega, rfl, HU2.out, by rw [Int.natCast_add]; exact H9.out⟩

          · have n39 := hc
            clear hc
            by_cases hc : m = 40
            · obtain rfl : x = 40 := UInt8.toNat_inj.1 (HMX.out.trans hc)
              subst hc
              have hux := HU1.out
              rw [if_neg (by decide), if_pos (by decide)] at hux
              have HU2 := Lib.hid hux
              clear hux HU1
              have g6 := wrapS (a := (d : Int) + 1) (by omega) (by omega)
              go_wp2_with (go_at_call 60; refine (HIBm.out _).mono ?_; rintro e w2 ⟨rfl, hw2⟩; rw [hw2]; clear hw2)
              have H9 := Lib.hid (HSb.out.set 1 (.int .i64 ((k : Int) + 1)))
              simp only [List.setIfInBounds_toArray, List.set_cons_zero, List.set_cons_succ] at H9
              go_roundg (n + 1 - (k + 1))
              case measure => have := HG.out; omega
              case rel => exact ⟨k + 1, f, d + 1, rfl, by omega, by omega, by omega, by omega, by rw [Int.natCast_add]; rfl, HU2.out, by rw [Int.natCast_add]; exact H9.out⟩

            · have n40 := hc
              clear hc
              by_cases hc : m = 91
              · obtain rfl : x = 91 := UInt8.toNat_inj.1 (HMX.out.trans hc)
                subst hc
                have hux := HU1.out
                rw [if_neg (by decide), if_pos (by decide)] at hux
                have HU2 := Lib.hid hux
                clear hux HU1
                have g6 := wrapS (a := (d : Int) + 1) (by omega) (by omega)
                go_wp2_with (go_at_call 60; refine (HIBm.out _).mono ?_; rintro e w2 ⟨rfl, hw2⟩; rw [hw2]; clear hw2)
                have H9 := Lib.hid (HSb.out.set 1 (.int .i64 ((k : Int) + 1)))
                simp only [List.setIfInBounds_toArray, List.set_cons_zero, List.set_cons_succ] at H9
                go_roundg (n + 1 - (k + 1))
                case measure => have := HG.out; omega
                case rel => exact ⟨k + 1, f, d + 1, rfl, by omega, by omega, by omega, by omega, by rw [Int.natCast_add]; rfl, HU2.out, by rw [Int.natCast_add]; exact H9.out⟩

              · have n91 := hc
                clear hc
                by_cases hc : m = 123
                · obtain rfl : x = 123 := UInt8.toNat_inj.1 (HMX.out.trans hc)
                  subst hc
                  have hux := HU1.out
                  rw [if_neg (by decide), if_pos (by decide)] at hux
                  have HU2 := Lib.hid hux
                  clear hux HU1
                  have g6 := wrapS (a := (d : Int) + 1) (by omega) (by omega)
                  go_wp2_with (go_at_call 60; refine (HIBm.out _).mono ?_; rintro e w2 ⟨rfl, hw2⟩; rw [hw2]; clear hw2)
                  have H9 := Lib.hid (HSb.out.set 1 (.int .i64 ((k : Int) + 1)))
                  simp only [List.setIfInBounds_toArray, List.set_cons_zero, List.set_cons_succ] at H9
                  go_roundg (n + 1 - (k + 1))
                  case measure => have := HG.out; omega
                  case rel => exact ⟨k + 1, f, d + 1, rfl, by omega, by omega, by omega, by omega, by rw [Int.natCast_add]; rfl, HU2.out, by rw [Int.natCast_add]; exact H9.out⟩

                · have n123 := hc
                  clear hc
                  by_cases hc : m = 41
                  · obtain rfl : x = 41 := UInt8.toNat_inj.1 (HMX.out.trans hc)
                    subst hc
                    have hux := HU1.out
                    rw [if_neg (by decide), if_neg (by decide), if_pos (by decide)] at hux
                    have HU2 := Lib.hid hux
                    clear hux HU1
                    have g6 := wrapS (a := (d : Int) - 1) (by omega) (by omega)
                    obtain ⟨d2, hd2⟩ : ∃ z, d - 1 = z := ⟨_, rfl⟩
                    rw [hd2] at HU2
                    have m1 : ∀ a b : Int, (if a < b then b else a) = max a b := fun a b => by omega
                    have m2 : max (0 : Int) ((d : Int) - 1) = (d2 : Int) := by omega
                    have hd3 : d2 ≤ k := by omega
                    clear hd2
                    go_wp2_with (go_at_call 60; refine (HIBm.out _).mono ?_; rintro e w2 ⟨rfl, hw2⟩; rw [hw2]; clear hw2)
                    have H9 := Lib.hid (HSb.out.set 1 (.int .i64 ((k : Int) + 1)))
                    simp only [List.setIfInBounds_toArray, List.set_cons_zero, List.set_cons_succ] at H9
                    go_roundg (n + 1 - (k + 1))
                    case measure => have := HG.out; omega
                    case rel => exact ⟨k + 1, f, d2, rfl, by omega, by omega, by omega, by omega, rfl, HU2.out, by rw [Int.natCast_add]; exact H9.out⟩

                  · have n41 := hc
                    clear hc
                    by_cases hc : m = 93
                    · obtain rfl : x = 93 := UInt8.toNat_inj.1 (HMX.out.trans hc)
                      subst hc
                      have hux := HU1.out
                      rw [if_neg (by decide), if_neg (by decide), if_pos (by decide)] at hux
                      have HU2 := Lib.hid hux
                      clear hux HU1
                      have g6 := wrapS (a := (d : Int) - 1) (by omega) (by omega)
                      obtain ⟨d2, hd2⟩ : ∃ z, d - 1 = z := ⟨_, rfl⟩
                      rw [hd2] at HU2
                      have m1 : ∀ a b : Int, (if a < b then b else a) = max a b := fun a b => by omega
                      have m2 : max (0 : Int) ((d : Int) - 1) = (d2 : Int) := by omega
                      have hd3 : d2 ≤ k := by omega
                      clear hd2
                      go_wp2_with (go_at_call 60; refine (HIBm.out _).mono ?_; rintro e w2 ⟨rfl, hw2⟩; rw [hw2]; clear hw2)
                      have H9 := Lib.hid (HSb.out.set 1 (.int .i64 ((k : Int) + 1)))
                      simp only [List.setIfInBounds_toArray, List.set_cons_zero, List.set_cons_succ] at H9
                      go_roundg (n + 1 - (k + 1))
                      case measure => have := HG.out; omega
                      case rel => exact ⟨k + 1, f, d2, rfl, by omega, by omega, by omega, by omega, rfl, HU2.out, by rw [Int.natCast_add]; exact H9.out⟩

                    · have n93 := hc
                      clear hc
                      by_cases hc : m = 125
                      · obtain rfl : x = 125 := UInt8.toNat_inj.1 (HMX.out.trans hc)
                        subst hc
                        have hux := HU1.out
                        rw [if_neg (by decide), if_neg (by decide), if_pos (by decide)] at hux
                        have HU2 := Lib.hid hux
                        clear hux HU1
                        have g6 := wrapS (a := (d : Int) - 1) (by omega) (by omega)
                        obtain ⟨d2, hd2⟩ : ∃ z, d - 1 = z := ⟨_, rfl⟩
                        rw [hd2] at HU2
                        have m1 : ∀ a b : Int, (if a < b then b else a) = max a b := fun a b => by omega
                        have m2 : max (0 : Int) ((d : Int) - 1) = (d2 : Int) := by omega
                        have hd3 : d2 ≤ k := by omega
                        clear hd2
                        go_wp2_with (go_at_call 60; refine (HIBm.out _).mono ?_; rintro e w2 ⟨rfl, hw2⟩; rw [hw2]; clear hw2)
                        have H9 := Lib.hid (HSb.out.set 1 (.int .i64 ((k : Int) + 1)))
                        simp only [List.setIfInBounds_toArray, List.set_cons_zero, List.set_cons_succ] at H9
                        go_roundg (n + 1 - (k + 1))
                        case measure => have := HG.out; omega
                        case rel => exact ⟨k + 1, f, d2, rfl, by omega, by omega, by omega, by omega, rfl, HU2.out, by rw [Int.natCast_add]; exact H9.out⟩

                      · have n125 := hc
                        clear hc
                        have b34 : ((m : Int) == 34) = false := by rw [beq_eq_false_iff_ne]; omega
                        have u34 : ¬ x = 34 := fun h => n34 (by rw [← HMX.out, h]; rfl)
                        have b39 : ((m : Int) == 39) = false := by rw [beq_eq_false_iff_ne]; omega
                        have u39 : ¬ x = 39 := fun h => n39 (by rw [← HMX.out, h]; rfl)
                        have b40 : ((m : Int) == 40) = false := by rw [beq_eq_false_iff_ne]; omega
                        have u40 : ¬ x = 40 := fun h => n40 (by rw [← HMX.out, h]; rfl)
                        have b91 : ((m : Int) == 91) = false := by rw [beq_eq_false_iff_ne]; omega
                        have u91 : ¬ x = 91 := fun h => n91 (by rw [← HMX.out, h]; rfl)
                        have b123 : ((m : Int) == 123) = false := by rw [beq_eq_false_iff_ne]; omega
                        have u123 : ¬ x = 123 := fun h => n123 (by rw [← HMX.out, h]; rfl)
                        have b41 : ((m : Int) == 41) = false := by rw [beq_eq_false_iff_ne]; omega
                        have u41 : ¬ x = 41 := fun h => n41 (by rw [← HMX.out, h]; rfl)
                        have b93 : ((m : Int) == 93) = false := by rw [beq_eq_false_iff_ne]; omega
                        have u93 : ¬ x = 93 := fun h => n93 (by rw [← HMX.out, h]; rfl)
                        have b125 : ((m : Int) == 125) = false := by rw [beq_eq_false_iff_ne]; omega
                        have u125 : ¬ x = 125 := fun h => n125 (by rw [← HMX.out, h]; rfl)
                        have hux := HU1.out
                        rw [if_neg (by rintro (h | h); exact u34 h; exact u39 h), if_neg (by rintro (h | h | h); exact u40 h; exact u91 h; exact u123 h), if_neg (by rintro (h | h | h); exact u41 h; exact u93 h; exact u125 h)] at hux
                        have HU2 := Lib.hid hux
                        clear hux HU1 u34 u39 u40 u41 u91 u93 u123 u125
                        go_wp2_with (go_at_call 60; refine (HIBm.out _).mono ?_; rintro e w2 ⟨rfl, hw2⟩; rw [hw2]; clear hw2)
                        have H9 := Lib.hid (HSb.out.set 1 (.int .i64 ((k : Int) + 1)))
                        simp only [List.setIfInBounds_toArray, List.set_cons_zero, List.set_cons_succ] at H9
                        go_roundg (n + 1 - (k + 1))
                        case measure => have := HG.out; omega
                        case rel => exact ⟨k + 1, f, d, rfl, by omega, by omega, by omega, by omega, rfl, HU2.out, by rw [Int.natCast_add]; exact H9.out⟩

    · have hke : k = n := by omega
      subst hke
      have hkI : ¬ (k : Int) < (sv.size : Int) := by have := HSZ.out; omega
      have hum := HUM.out
      have hr := HR.out.symm.trans hum
      rw [until_end (Nat.le_of_eq HN.out)] at hr
      obtain ⟨rfl, rfl⟩ := Prod.mk.inj hr
      clear hum hr
      go_wp2_with go_quiet (fail)
      have hle := Nat.le_of_eq HN.out.symm
      refine bodyPost_ret (results_tmp Tryz.results36 _ _ _) rfl ?_
      first
        | exact ⟨rfl, hle, hik, HS.out.drewN _⟩
        | exact ⟨rfl, hle, HS.out.drewN _⟩
        | exact ⟨rfl, hik, HS.out.drewN _⟩
        | (trace_state; fail)
end Go.Proofs.YtldembadjgibjaaGreatDoor
