/-
  Shapes: Count, Few.
-/
import Derived.Test.YtfjjgebfeklnhaaIa
set_option linter.unusedVariables false
set_option linter.unusedSimpArgs false
namespace Go.Proofs.Ytfjjgebfeklnhaa
open Go.RowKit Go.K

def CnRel (n : Nat) (ks : List Sh) (w : World) (g : Nat) (v5 v10 : Value) (wr : World) : Prop :=
  ∃ k s : Nat, g = ks.length - k ∧ k ≤ ks.length ∧ v10 = .int .i64 k ∧ v5 = .int .i64 s ∧ s ≤ 1000 ∧ Below w.heap.size w wr ∧ cntL n s (ks.drop k) = cntL n 1 ks
set_option maxHeartbeats 1000000 in
theorem count_c : ∀ (d : Nat) (t : Sh) (w : World), ShAt w t → deepB d t = false → d ≤ 8 →
    Calls Try.prog 33 #[.agg (shc t).toArray, .int .i64 40] w fun e w' => e = .returned (.int .i64 (t.cnt 40)) ∧ Below w.heap.size w w' := by
    intro d
    induction d using Nat.strongRecOn with
    | ind d ih =>
    rintro ⟨a, ks⟩ w h hdp hd
    cases h with
    | mk _ _ ho hl hr hk =>
    show Calls Try.prog 33 #[.agg #[.int .i8 a.x, .int .i8 a.y, .int .u8 a.w, .int .u8 a.h, .int .u8 a.kd, .int .u8 a.bd, .slice a.s ks.length a.c], .int .i64 40] w _
    have hcnt : (Sh.mk a ks).cnt 40 = cntL 40 1 ks := by rw [Sh.cnt]
    rw [hcnt]
    obtain ⟨r, hr0⟩ : ∃ r, cntL 40 1 ks = r := ⟨_, rfl⟩
    rw [hr0]
    have IHD := Lib.hid ih
    clear ih
    have hkids : ∀ k ∈ ks, 1 ≤ d ∧ deepB (d - 1) k = false := fun k hk2 => by
      cases d with
      | zero => rw [deep_zero hdp] at hk2; cases hk2
      | succ d => exact ⟨by omega, deep_kid hdp k hk2⟩
    have HKD := Lib.hid hkids
    have HK := Lib.hid hk
    have HRD := Lib.hid hr
    have HR0 := Lib.hid hr0
    clear hk hr hkids hdp hr0 hcnt
    go_enter Try.func33, Try.ntmps33
    go_upto_region 2 with fail
    obtain ⟨W, hW⟩ : ∃ W, w.alloc (.cells #[.int .i8 a.x, .int .i8 a.y, .int .u8 a.w, .int .u8 a.h, .int .u8 a.kd, .int .u8 a.bd, .slice a.s ks.length a.c] 39) = W := ⟨_, rfl⟩
    obtain ⟨b2, hb2⟩ : ∃ b, w.heap.size = b := ⟨_, rfl⟩
    have HW := Lib.hid (show Below w.heap.size w W by rw [← hW]; exact (Below.refl _ w).alloc (Nat.le_refl _) _)
    have KA := Blk.new w #[.int .i8 a.x, .int .i8 a.y, .int .u8 a.w, .int .u8 a.h, .int .u8 a.kd, .int .u8 a.bd, .slice a.s ks.length a.c] 39
    rw [hW, hb2] at KA
    have HKA := Lib.hid KA
    have z6 := KA.cell 6
    simp only [List.getElem?_toArray, List.getElem?_cons_succ, List.getElem?_cons_zero] at z6
    try simp only [hW, hb2]
    clear hW hb2 KA
    go_wp2_with fail
    clear z6
    go_loopg [5, 10] ks.length (CnRel 40 ks W)
    case atStart => exact ⟨0, 1, rfl, Nat.zero_le _, rfl, rfl, by omega, Below.refl _ _, by simp⟩
    case round =>
      obtain ⟨k, s, hg, hk2, rfl, rfl, hs, hb, hc⟩ := hrel
      have HB := Lib.hid (HW.out.trans (hb.mono HW.out.size))
      have HC := Lib.hid hc
      have Hg := Lib.hid hg
      have HBW := Lib.hid hb
      have z6 := (HKA.out.kept (Fr.of_below hb) (fun q => q)).cell 6
      simp only [List.getElem?_toArray, List.getElem?_cons_succ, List.getElem?_cons_zero] at z6
      clear hb hc hg
      by_cases hkn : k < ks.length
      · have hkI : (k : Int) < (ks.length : Int) := by omega
        have hkI0 : (0 : Int) ≤ (k : Int) := by omega
        by_cases h40 : 40 < s
        · have h40I : (40 : Int) < (s : Int) := by omega
          go_wp2_with fail
          go_ret
          refine ⟨?_, HB.out⟩
          rw [← HR0.out, ← HC.out, cntL_stop h40]; rfl
        · have h40I : ¬ (40 : Int) < (s : Int) := by omega
          have hrd := HRD.out.below HB.out
          obtain ⟨g, off, hsa, -⟩ := hrd.addr (by omega)
          rw [hsa] at hrd z6
          obtain ⟨b, l, hx⟩ : ∃ b l, ks[k] = Sh.mk b l := by cases ks[k] with | mk b l => exact ⟨b, l, rfl⟩
          obtain ⟨d0, d1, d2, d3, d4, d5, d6⟩ := s_at hrd hkn b l hx
          have hat := (HK.out _ (List.getElem_mem hkn)).stay HB.out
          obtain ⟨hd1, hd2⟩ := HKD.out _ (List.getElem_mem hkn)
          rw [hx] at hat hd2
          have IH := Lib.hid (IHD.out (d - 1) (by omega) (.mk b l) wr hat hd2 (by omega))
          have hbd := cnt_bd 40 (by omega) (d - 1) _ hd2
          have hstep := HC.out
          rw [List.drop_eq_getElem_cons hkn, hx, cntL_go h40] at hstep
          obtain ⟨u, hu⟩ : ∃ u, (Sh.mk b l).cnt 40 = u := ⟨_, rfl⟩
          rw [hu] at IH hbd hstep
          have hu2 : u ≤ 400 := by
            have : 40 * (d - 1 + 1) ≤ 40 * 8 := Nat.mul_le_mul_left _ (by omega)
            omega
          have HST := Lib.hid hstep
          have HSA := Lib.hid hsa
          have hwr : IntKind.i64.wrap ((s : Int) + (u : Int)) = (s : Int) + (u : Int) := by rw [IntKind.wrap_i64]; omega
          clear hrd hsa hx hat hstep hd2 hu
          go_wp2_with (go_at_call 33; refine (IH.out).mono ?_; rintro e w3 ⟨rfl, hb3⟩; have HB3 := Lib.hid (HBW.out.trans (hb3.mono HBW.out.size)); clear hb3)
          try rw [← HSA.out]
          go_roundg (ks.length - (k + 1))
          case measure => have := Hg.out; omega
          case rel => exact ⟨k + 1, s + u, rfl, by omega, by simp, by simp, by omega, HB3.out, HST.out⟩
      · have hkI : ¬ (k : Int) < (ks.length : Int) := by omega
        go_wp2_with fail
        go_ret
        refine ⟨?_, HB.out⟩
        rw [← HR0.out, ← HC.out, List.drop_of_length_le (by omega), cntL]; rfl

theorem cells7 {W : World} {b : Nat} {t : TypeId} {v0 v1 v2 v3 v4 v5 v6 : Value} (h : Blk W b #[v0, v1, v2, v3, v4, v5, v6] t) :
    W.cell? ⟨b, 0, none⟩ = some v0 ∧ W.cell? ⟨b, 1, none⟩ = some v1 ∧ W.cell? ⟨b, 2, none⟩ = some v2 ∧ W.cell? ⟨b, 3, none⟩ = some v3 ∧ W.cell? ⟨b, 4, none⟩ = some v4 ∧ W.cell? ⟨b, 5, none⟩ = some v5 ∧ W.cell? ⟨b, 6, none⟩ = some v6 :=
  ⟨(h.cell 0).trans rfl, (h.cell 1).trans rfl, (h.cell 2).trans rfl, (h.cell 3).trans rfl, (h.cell 4).trans rfl, (h.cell 5).trans rfl, (h.cell 6).trans rfl⟩
def fewS (t : Sh) : Bool := !deepB 8 t && decide (t.cnt 40 ≤ 40)
theorem few_sz {t : Sh} (h : fewS t = true) : deepB 8 t = false ∧ t.sz ≤ 40 := by
  unfold fewS at h
  simp only [Bool.and_eq_true, Bool.not_eq_true', decide_eq_true_eq] at h
  exact ⟨h.1, by rw [← cnt_sz 40 t h.2]; exact h.2⟩
set_option maxHeartbeats 1000000 in
theorem fewS_c (t : Sh) (w : World) (h : ShAt w t) :
    Calls Try.prog 14 #[.agg (shc t).toArray] w fun e w' => e = .returned (.bool (fewS t)) ∧ Below w.heap.size w w' := by
  obtain ⟨a, ks⟩ := t
  obtain ⟨r, hr0⟩ : ∃ r, fewS (.mk a ks) = r := ⟨_, rfl⟩
  rw [hr0]
  show Calls Try.prog 14 #[.agg #[.int .i8 a.x, .int .i8 a.y, .int .u8 a.w, .int .u8 a.h, .int .u8 a.kd, .int .u8 a.bd, .slice a.s ks.length a.c]] w _
  have HA := Lib.hid h
  have HR0 := Lib.hid hr0
  clear h hr0
  go_enter Try.func14, Try.ntmps14
  go_upto_region 1 with fail
  obtain ⟨W, hW⟩ : ∃ W, w.alloc (.cells #[.int .i8 a.x, .int .i8 a.y, .int .u8 a.w, .int .u8 a.h, .int .u8 a.kd, .int .u8 a.bd, .slice a.s ks.length a.c] 39) = W := ⟨_, rfl⟩
  obtain ⟨b2, hb2⟩ : ∃ b, w.heap.size = b := ⟨_, rfl⟩
  have HW := Lib.hid (show Below w.heap.size w W by rw [← hW]; exact (Below.refl _ w).alloc (Nat.le_refl _) _)
  have KA := Blk.new w #[.int .i8 a.x, .int .i8 a.y, .int .u8 a.w, .int .u8 a.h, .int .u8 a.kd, .int .u8 a.bd, .slice a.s ks.length a.c] 39
  rw [hW, hb2] at KA
  have HKA := Lib.hid KA
  have HAW := Lib.hid (HA.out.stay HW.out)
  try simp only [hW, hb2]
  clear hW hb2 KA
  obtain ⟨z0, z1, z2, z3, z4, z5, z6⟩ := cells7 HKA.out
  have KD := Lib.hid (deep_c 8 8 (.mk a ks) W HAW.out rfl (by omega))
  obtain ⟨u, hu⟩ : ∃ u, deepB 8 (.mk a ks) = u := ⟨_, rfl⟩
  rw [hu] at KD
  have HU := Lib.hid hu
  clear hu
  cases u with
  | true =>
    go_wp2_with (go_at_call 32; refine (KD.out).mono ?_; rintro e w3 ⟨rfl, hb3⟩; have HB3 := Lib.hid (HW.out.trans (hb3.mono HW.out.size)); clear hb3)
    go_ret
    exact ⟨by rw [← HR0.out]; simp [fewS, HU.out], HB3.out⟩
  | false =>
    have KC := Lib.hid (fun w' (hb : Below W.heap.size W w') => count_c 8 (.mk a ks) w' (HAW.out.stay hb) HU.out (by omega))
    obtain ⟨n, hn⟩ : ∃ n, (Sh.mk a ks).cnt 40 = n := ⟨_, rfl⟩
    rw [hn] at KC
    have HN := Lib.hid hn
    clear hn
    by_cases h40 : n ≤ 40
    · have h40I : (n : Int) ≤ 40 := by omega
      go_wp2_with (first
        | (go_at_call 32; refine (KD.out).mono ?_; rintro e w3 ⟨rfl, hb3⟩; have HB3 := Lib.hid hb3; clear hb3 z0 z1 z2 z3 z4 z5 z6; obtain ⟨z0, z1, z2, z3, z4, z5, z6⟩ := cells7 (HKA.out.kept (Fr.of_below HB3.out) (fun q => q)))
        | (go_at_call 33; refine (KC.out _ HB3.out).mono ?_; rintro e w4 ⟨rfl, hb4⟩; have HB4 := Lib.hid (HW.out.trans ((HB3.out.trans (hb4.mono HB3.out.size)).mono HW.out.size)); clear hb4))
      go_ret
      exact ⟨by rw [← HR0.out]; simp [fewS, HU.out, HN.out, h40], HB4.out⟩
    · have h40I : ¬ (n : Int) ≤ 40 := by omega
      go_wp2_with (first
        | (go_at_call 32; refine (KD.out).mono ?_; rintro e w3 ⟨rfl, hb3⟩; have HB3 := Lib.hid hb3; clear hb3 z0 z1 z2 z3 z4 z5 z6; obtain ⟨z0, z1, z2, z3, z4, z5, z6⟩ := cells7 (HKA.out.kept (Fr.of_below HB3.out) (fun q => q)))
        | (go_at_call 33; refine (KC.out _ HB3.out).mono ?_; rintro e w4 ⟨rfl, hb4⟩; have HB4 := Lib.hid (HW.out.trans ((HB3.out.trans (hb4.mono HB3.out.size)).mono HW.out.size)); clear hb4))
      go_ret
      refine ⟨?_, HB4.out⟩
      rw [← HR0.out]
      have e : decide (n ≤ 40) = false := decide_eq_false h40
      simp only [fewS, HU.out, HN.out, e]
      congr 2
      simpa using h40I
end Go.Proofs.Ytfjjgebfeklnhaa
