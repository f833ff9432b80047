/-
  Cascade: clean.
-/
import Derived.Test.YtldembadjgibjaaGreatDoorAq
import Derived.Test.YtldembadjgibjaaGreatDoorAr
set_option linter.unusedVariables false
set_option linter.unusedSimpArgs false
namespace Go.Proofs.YtldembadjgibjaaGreatDoor
open Go.RowKit Go.K Go.PlainAid Go.Lib

/-- the text from byte i on, inside a string that q ends (0: outside) -/
def cleanM (s : List UInt8) : Nat → Nat → UInt8 → List UInt8
  | 0, _, _ => []
  | f + 1, i, q => match s[i]? with
    | none => []
    | some x =>
      if q ≠ 0 then x :: cleanM s f (i + 1) (if x = q then 0 else q)
      else if x = 34 ∨ x = 39 then x :: cleanM s f (i + 1) x
      else if Lib.hasPrefix (s.drop i) [47, 42] = true then 32 :: cleanM s f (min (i + (Lib.cut (s.drop (i + 2)) [42, 47]).1.length + 3) s.length + 1) 0
      else x :: cleanM s f (i + 1) 0
theorem clean_end {s : List UInt8} {f i : Nat} {q : UInt8} (h : s.length ≤ i) : cleanM s f i q = [] := by
  cases f with
  | zero => rfl
  | succ f => rw [cleanM, List.getElem?_eq_none h]
theorem clean_step {s : List UInt8} {f i : Nat} {q x : UInt8} (hx : s[i]? = some x) : cleanM s (f + 1) i q =
      if q ≠ 0 then x :: cleanM s f (i + 1) (if x = q then 0 else q)
      else if x = 34 ∨ x = 39 then x :: cleanM s f (i + 1) x
      else if Lib.hasPrefix (s.drop i) [47, 42] = true then 32 :: cleanM s f (min (i + (Lib.cut (s.drop (i + 2)) [42, 47]).1.length + 3) s.length + 1) 0
      else x :: cleanM s f (i + 1) 0 := by rw [cleanM, hx]
def cleanT (s : List UInt8) : List UInt8 := cleanM (repairM s) ((repairM s).length + 1) 0 0
/-- the builder's bytes so far, and what is left -/
def ClRel (s : List UInt8) (B n : Nat) (w1 : World) (g : Nat) (v4 v5 v6 v7 v8 : Value) (wr : World) : Prop :=
  ∃ (k f : Nat) (q : UInt8) (acc : List UInt8), g = n + 1 - k ∧ k ≤ n + 1 ∧ n + 1 ≤ f + k ∧ v4 = .int .u8 (q.toNat : Int) ∧ v5 = .int .i64 (k : Int) ∧ acc.length ≤ k ∧ cleanM s (n + 1) 0 0 = acc ++ cleanM s f k q ∧ IsBuilderF 93 5 B B (Lib.byteCells acc) wr ∧ Below B w1 wr
theorem pre2 {s : List UInt8} {k : Nat} (h : Lib.hasPrefix (s.drop k) [47, 42] = true) : k + 2 ≤ s.length := by
  have h2 := h
  unfold Lib.hasPrefix at h2
  have : ([47, 42] : List UInt8).length ≤ (s.drop k).length := by
    first
      | exact (List.isPrefixOf_iff_prefix.1 h2).length_le
      | (simp at h2; have := congrArg List.length h2; simp at this ⊢; omega)
  rw [List.length_drop] at this
  simp at this
  omega
set_option maxRecDepth 100000 in
set_option maxHeartbeats 4000000 in
theorem clean_any [Inhabited TbBox] (s : List UInt8) (hs : s.length ≤ 5000) (w : World) (hT : Tabs w) (E : Env w) : Calls Tryz.prog 16 #[.string (S s)] w fun e w' => e = .returned (.string (S (cleanT s))) ∧ Below w.heap.size w w' := by
  have hrp := repair_any s w (by omega) hT
  have hrl := repairM_len s
  unfold cleanT
  obtain ⟨r, hr⟩ : ∃ r, repairM s = r := ⟨_, rfl⟩
  rw [hr] at hrp hrl ⊢
  obtain ⟨RES, hRES⟩ : ∃ z, cleanM r (r.length + 1) 0 0 = z := ⟨_, rfl⟩
  rw [hRES]
  obtain ⟨sv, hsv⟩ : ∃ sv, S r = sv := ⟨_, rfl⟩
  rw [hsv] at hrp
  obtain ⟨n, hn⟩ : ∃ n, r.length = n := ⟨_, rfl⟩
  have hsz : sv.size = n := by rw [← hsv, S_size, hn]
  rw [hn] at hrl hRES
  have hnI : n ≤ 20000 := by omega
  have HRP := Lib.hid hrp
  have HSV := Lib.hid hsv
  have HSZ := Lib.hid hsz
  have HN := Lib.hid hn
  have HRES := Lib.hid hRES
  have HE := Lib.hid E
  clear hrp hr hRES hsv hn hsz hrl E hT hs
  go_enter Tryz.func16, Tryz.ntmps16
  go_wp2_with (go_at_call 42; refine HRP.out.mono ?_; rintro e w1 ⟨rfl, hb1⟩; have HB1 := Lib.hid hb1; clear hb1)
  have h0 : IsBuilderF 93 5 w1.heap.size w1.heap.size (Lib.byteCells []) (w1.alloc (.cells #[.pointer none, .slice none 0 0] 93)) := IsBuilderF.of (fresh_isBuilder 93 5 w1)
  have H0 := Lib.hid h0
  clear h0
  go_loopg [4, 5, 6, 7, 8] (n + 1) (ClRel r w1.heap.size n w1)
  case atStart => exact ⟨0, n + 1, 0, [], rfl, Nat.zero_le _, by omega, rfl, rfl, Nat.le_refl _, rfl, H0.out, (Below.refl _ _).alloc (Nat.le_refl _) _⟩
  case round =>
    obtain ⟨k, f, q, acc, hg, hkn, hfk, rfl, rfl, hal, hcl, hB, hbl⟩ := hrel
    have HG := Lib.hid hg
    have HCL := Lib.hid hcl
    have HB := Lib.hid hB
    have HBL := Lib.hid hbl
    clear hg hcl hB hbl
    by_cases hlt : k < n
    · have hkI : (k : Int) < (sv.size : Int) := by have := HSZ.out; omega
      have hkI2 : (k : Int) < (n : Int) := by omega
      have hk0 : (0 : Int) ≤ (k : Int) := by omega
      obtain ⟨x, hx⟩ : ∃ x, r[k]? = some x := ⟨_, List.getElem?_eq_getElem (by rw [HN.out]; exact hlt)⟩
      obtain ⟨m, hm⟩ : ∃ m, x.toNat = m := ⟨_, rfl⟩
      obtain ⟨qn, hq⟩ : ∃ m, q.toNat = m := ⟨_, rfl⟩
      have hgb := get_bt sv
      have hbt : bt sv k = (m : Int) := by rw [← HSV.out, bt_S r k x hx, hm]
      obtain ⟨f, rfl⟩ : ∃ g, f = g + 1 := ⟨f - 1, by omega⟩
      have hcl := HCL.out
      rw [clean_step hx] at hcl
      have HC := Lib.hid hcl
      have HMX := Lib.hid hm
      have HQ := Lib.hid hq
      have HX := Lib.hid hx
      have g1 := wrapS (a := (k : Int) + 1) (by omega) (by omega)
      have HWB := Lib.hid (fun (c : Int) => write_byte w1.heap.size w1.heap.size (Lib.byteCells acc) c wr HB.out (by rw [Lib.byteCells_length]; omega) HBL.out.size)
      clear hcl hm hx HCL
      by_cases hqz : q = 0
      · subst hqz
        have hqn : qn = 0 := HQ.out.symm
        subst hqn
        by_cases hc : m = 34
        · obtain rfl : x = 34 := UInt8.toNat_inj.1 (HMX.out.trans hc)
          subst hc
          have hc := HC.out
          rw [if_neg (by decide), if_pos (by decide)] at hc
          have HC2 := Lib.hid hc
          clear hc
          go_wp2_with (go_at_call 44; refine (HWB.out _).mono ?_; rintro e w5 ⟨rfl, hA, hb5, -⟩)
          go_roundg (n + 1 - (k + 1))
          case measure => have := HG.out; omega
          case rel => exact ⟨k + 1, f, 34, acc ++ [34], rfl, by omega, by omega, rfl, by rw [Int.natCast_add]; rfl, by simp; omega, by rw [HC2.out]; simp, .inr (by rw [Lib.byteCells_append, show Lib.byteCells [34] = [.int .u8 34] from rfl]; exact hA), HBL.out.trans hb5⟩
        · have n34 := hc
          clear hc
          by_cases hc : m = 39
          · obtain rfl : x = 39 := UInt8.toNat_inj.1 (HMX.out.trans hc)
            subst hc
            have hc := HC.out
            rw [if_neg (by decide), if_pos (by decide)] at hc
            have HC2 := Lib.hid hc
            clear hc
            go_wp2_with (go_at_call 44; refine (HWB.out _).mono ?_; rintro e w5 ⟨rfl, hA, hb5, -⟩)
            go_roundg (n + 1 - (k + 1))
            case measure => have := HG.out; omega
            case rel => exact ⟨k + 1, f, 39, acc ++ [39], rfl, by omega, by omega, rfl, by rw [Int.natCast_add]; rfl, by simp; omega, by rw [HC2.out]; simp, .inr (by rw [Lib.byteCells_append, show Lib.byteCells [39] = [.int .u8 39] from rfl]; exact hA), HBL.out.trans hb5⟩
          · have n39 := hc
            clear hc
            have b34 : ((m : Int) == 34) = false := by rw [beq_eq_false_iff_ne]; omega
            have b39 : ((m : Int) == 39) = false := by rw [beq_eq_false_iff_ne]; omega
            have u34 : ¬ x = 34 := fun h => n34 (by rw [← HMX.out, h]; rfl)
            have u39 : ¬ x = 39 := fun h => n39 (by rw [← HMX.out, h]; rfl)
            by_cases hpf : Lib.hasPrefix (r.drop k) [47, 42] = true
            · have hp2 := pre2 hpf
              rw [HN.out] at hp2
              have hex : sv.extract k n = S (r.drop k) := by rw [← HSV.out, S_ext, List.take_of_length_le (by rw [List.length_drop, HN.out]; omega)]
              have hex2 : sv.extract (k + 2) n = S (r.drop (k + 2)) := by rw [← HSV.out, S_ext, List.take_of_length_le (by rw [List.length_drop, HN.out]; omega)]
              obtain ⟨sk, hsk⟩ : ∃ z, S (r.drop k) = z := ⟨_, rfl⟩
              obtain ⟨sk2, hsk2⟩ : ∃ z, S (r.drop (k + 2)) = z := ⟨_, rfl⟩
              rw [hsk] at hex
              rw [hsk2] at hex2
              have hhp : ∀ w, Calls Tryz.prog 43 #[.string sk, .string (S [47, 42])] w fun e w' => e = .returned (.bool true) ∧ w' = w := by
                intro w
                have h := Tryz.strings_HasPrefix sk (S [47, 42]) w
                rw [← hsk] at h ⊢
                rw [S_list, S_list, hpf] at h
                exact h
              have hct : ∀ w, Env w → Calls Tryz.prog 37 #[.string sk2, .string (S [42, 47])] w fun e w' => e = .returned (.tuple #[vS (Lib.cut (r.drop (k + 2)) [42, 47]).1, vS (Lib.cut (r.drop (k + 2)) [42, 47]).2.1, .bool (Lib.cut (r.drop (k + 2)) [42, 47]).2.2]) ∧ ∃ nq, w' = w.drewN nq := by
                intro w E
                obtain ⟨z, hz⟩ := E.ml
                have h := Tryz.strings_Cut (S (r.drop (k + 2))) (S [42, 47]) z w (by rw [S_size, List.length_drop, HN.out]; omega) hz
                rw [S_list, S_list] at h
                rw [← hsk2]
                exact h
              have hVl := cut_le (r.drop (k + 2)) [42, 47]
              rw [List.length_drop, HN.out] at hVl
              have hc := HC.out
              rw [if_neg (by decide), if_neg (by rintro (h | h); exact u34 h; exact u39 h), if_pos hpf, HN.out] at hc
              obtain ⟨V, hV⟩ : ∃ V, (Lib.cut (r.drop (k + 2)) [42, 47]).1 = V := ⟨_, rfl⟩
              obtain ⟨V2, hV2⟩ : ∃ V, (Lib.cut (r.drop (k + 2)) [42, 47]).2.1 = V := ⟨_, rfl⟩
              obtain ⟨V3, hV3⟩ : ∃ V, (Lib.cut (r.drop (k + 2)) [42, 47]).2.2 = V := ⟨_, rfl⟩
              simp only [hV, hV2, hV3] at hct hc hVl
              obtain ⟨vv, hvv⟩ : ∃ z, S V = z := ⟨_, rfl⟩
              have hvz : vv.size = V.length := by rw [← hvv, S_size]
              obtain ⟨vl, hvl⟩ : ∃ z, V.length = z := ⟨_, rfl⟩
              rw [hvl] at hvz hc hVl
              obtain ⟨j, hj⟩ : ∃ j, min (k + vl + 3) n = j := ⟨_, rfl⟩
              rw [hj] at hc
              have hct2 : ∀ w, Env w → Calls Tryz.prog 37 #[.string sk2, .string (S [42, 47])] w fun e w' => e = .returned (.tuple #[.string vv, vS V2, .bool V3]) ∧ ∃ nq, w' = w.drewN nq := by
                intro w E; rw [← hvv]; exact hct w E
              have HHP := Lib.hid hhp
              have HCT := Lib.hid hct2
              have HC2 := Lib.hid hc
              have HJ := Lib.hid hj
              have hsz := HSZ.out
              have g6 := wrapS (a := (k : Int) + 2) (by omega) (by omega)
              have g7 := wrapS (a := (k : Int) + (vl : Int)) (by omega) (by omega)
              have g8 := wrapS (a := (k : Int) + (vl : Int) + 3) (by omega) (by omega)
              have g9 := wrapS (a := (j : Int) + 1) (by omega) (by omega)
              have m1 : ∀ a b : Int, (if b < a then b else a) = min a b := fun a b => by omega
              have m2 : min ((k : Int) + (vl : Int) + 3) (n : Int) = (j : Int) := by omega
              have kle : (k : Int) ≤ (n : Int) := by omega
              have kle2 : (k : Int) + 2 ≤ (n : Int) := by omega
              have k2p : (0 : Int) ≤ (k : Int) + 2 := by omega
              have ktn : ((k : Int) + 2).toNat = k + 2 := by omega
              have jk : k ≤ j := by omega
              have jn : j ≤ n := by omega
              clear hhp hct hct2 hc hj hV hV2 hV3 hsk hsk2 hvv HC hpf u34 u39
              go_wp2_with (first
                | (go_at_call 43; refine (HHP.out _).mono ?_; rintro e w2 ⟨rfl, hw2⟩; rw [hw2]; clear hw2)
                | (go_at_call 37; refine (HCT.out _ (HE.out.below (HB1.out.trans (HBL.out.mono HB1.out.size)))).mono ?_; rintro e w3 ⟨rfl, nq, hw3⟩; rw [hw3]; clear hw3)
                | (go_at_call 44; refine (write_byte w1.heap.size w1.heap.size (Lib.byteCells acc) 32 (wr.drewN nq) (show IsBuilderF 93 5 w1.heap.size w1.heap.size (Lib.byteCells acc) (wr.drewN nq) from HB.out) (by rw [Lib.byteCells_length]; omega) HBL.out.size).mono ?_; rintro e w5 ⟨rfl, hA, hb5, -⟩))
              go_roundg (n + 1 - (j + 1))
              case measure => have := HG.out; omega
              case rel => exact ⟨j + 1, f, 0, acc ++ [32], rfl, by omega, by omega, rfl, by rw [Int.natCast_add]; rfl, by simp; omega, by rw [HC2.out]; simp, .inr (by rw [Lib.byteCells_append, show Lib.byteCells [32] = [.int .u8 32] from rfl]; exact hA), HBL.out.trans (show Below w1.heap.size wr w5 from ⟨hb5.os, hb5.tape, hb5.output, hb5.size, hb5.block⟩)⟩
            · have hex : sv.extract k n = S (r.drop k) := by rw [← HSV.out, S_ext, List.take_of_length_le (by rw [List.length_drop, HN.out]; omega)]
              obtain ⟨sk, hsk⟩ : ∃ z, S (r.drop k) = z := ⟨_, rfl⟩
              rw [hsk] at hex
              have hpf2 : Lib.hasPrefix (r.drop k) [47, 42] = false := by simpa using hpf
              have hhp : ∀ w, Calls Tryz.prog 43 #[.string sk, .string (S [47, 42])] w fun e w' => e = .returned (.bool false) ∧ w' = w := by
                intro w
                have h := Tryz.strings_HasPrefix sk (S [47, 42]) w
                rw [← hsk] at h ⊢
                rw [S_list, S_list, hpf2] at h
                exact h
              have HHP := Lib.hid hhp
              have hsz := HSZ.out
              have kle : (k : Int) ≤ (n : Int) := by omega
              have hc := HC.out
              rw [if_neg (by decide), if_neg (by rintro (h | h); exact u34 h; exact u39 h), if_neg hpf] at hc
              have HC2 := Lib.hid hc
              clear hc hhp hpf hpf2 hsk HC u34 u39
              go_wp2_with (first
                | (go_at_call 43; refine (HHP.out _).mono ?_; rintro e w2 ⟨rfl, hw2⟩; rw [hw2]; clear hw2)
                | (go_at_call 44; refine (HWB.out _).mono ?_; rintro e w5 ⟨rfl, hA, hb5, -⟩))
              go_roundg (n + 1 - (k + 1))
              case measure => have := HG.out; omega
              case rel => exact ⟨k + 1, f, 0, acc ++ [x], rfl, by omega, by omega, rfl, by rw [Int.natCast_add]; rfl, by simp; omega, by rw [HC2.out]; simp, .inr (by rw [Lib.byteCells_append, show Lib.byteCells [x] = [.int .u8 (x.toNat : Int)] from rfl, HMX.out]; exact hA), HBL.out.trans hb5⟩
      · have hqn : ¬ qn = 0 := fun h => hqz (UInt8.toNat_inj.1 (HQ.out.trans h))
        have bq : ((qn : Int) == 0) = false := by rw [beq_eq_false_iff_ne]; omega
        by_cases hxq : m = qn
        · have hxe : x = q := UInt8.toNat_inj.1 (HMX.out.trans (hxq.trans HQ.out.symm))
          have bxq : ((m : Int) == (qn : Int)) = true := by simp [hxq]
          have hc := HC.out
          rw [if_pos hqz, if_pos hxe] at hc
          have HC2 := Lib.hid hc
          clear hc
          clear hxe hqz hxq HC
          go_wp2_with (go_at_call 44; refine (HWB.out _).mono ?_; rintro e w5 ⟨rfl, hA, hb5, -⟩)
          go_roundg (n + 1 - (k + 1))
          case measure => have := HG.out; omega
          case rel => exact ⟨k + 1, f, 0, acc ++ [x], rfl, by omega, by omega, rfl, by rw [Int.natCast_add]; rfl, by simp; omega, by rw [HC2.out]; simp, .inr (by rw [Lib.byteCells_append, show Lib.byteCells [x] = [.int .u8 (x.toNat : Int)] from rfl, HMX.out]; exact hA), HBL.out.trans hb5⟩
        · have hxe : ¬ x = q := fun h => hxq (by rw [← HMX.out, ← HQ.out, h])
          have bxq : ((m : Int) == (qn : Int)) = false := by rw [beq_eq_false_iff_ne]; omega
          have hc := HC.out
          rw [if_pos hqz, if_neg hxe] at hc
          have HC2 := Lib.hid hc
          clear hc
          clear hxe hqz hxq HC
          go_wp2_with (go_at_call 44; refine (HWB.out _).mono ?_; rintro e w5 ⟨rfl, hA, hb5, -⟩)
          go_roundg (n + 1 - (k + 1))
          case measure => have := HG.out; omega
          case rel => exact ⟨k + 1, f, q, acc ++ [x], rfl, by omega, by omega, by rw [HQ.out], by rw [Int.natCast_add]; rfl, by simp; omega, by rw [HC2.out]; simp, .inr (by rw [Lib.byteCells_append, show Lib.byteCells [x] = [.int .u8 (x.toNat : Int)] from rfl, HMX.out]; exact hA), HBL.out.trans hb5⟩

    · have hkI : ¬ (k : Int) < (sv.size : Int) := by have := HSZ.out; omega
      have hcl := HCL.out
      rw [clean_end (f := f) (i := k) (q := q) (by rw [HN.out]; omega), List.append_nil] at hcl
      have hres := HRES.out.symm.trans hcl
      have HRR := Lib.hid hres
      have HSR := Lib.hid (Tryz.Builder_String_any_k w1.heap.size w1.heap.size acc wr HB.out HBL.out.size)
      clear hcl hres
      go_wp2_with (go_at_call 45; refine HSR.out.mono ?_; rintro e w5 ⟨rfl, hA, hb5, hk5⟩)
      exact bodyPost_ret (results_tmp Tryz.results16 _ _ _) rfl ⟨by rw [HRR.out]; rfl, HB1.out.trans ((HBL.out.trans hb5).mono HB1.out.size)⟩
end Go.Proofs.YtldembadjgibjaaGreatDoor
