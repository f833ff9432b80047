/-
  Cascade: FormatValue.
-/
import Derived.Test.YtldembadjgibjaaGreatDoorIt
import Derived.Lib.ItoaLen
set_option linter.unusedVariables false
set_option linter.unusedSimpArgs false
namespace Go.Proofs.YtldembadjgibjaaGreatDoor
open Go.RowKit Go.K Go.PlainAid Go.Lib

def absD (n : Int) : Int := if n < 0 then -n else n
def fracD [Inhabited TbBox] (r : Int) : List UInt8 := Lib.trimRightB ((itoaT (1000 + r)).drop 1) 48
/-- a number in thousandths -/
def fmtN [Inhabited TbBox] (nm : Int) : List UInt8 := ((if nm < 0 then [45] else []) ++ itoaT ((absD nm).tdiv 1000)) ++ (if (absD nm).tmod 1000 = 0 then [] else 46 :: fracD ((absD nm).tmod 1000))
def fmtU (kd : Int) : List UInt8 := if kd = 3 then [112, 120] else if kd = 4 then [101, 109] else if kd = 5 then [37] else []
def fmtM [Inhabited TbBox] (v : Va) : List UInt8 := if v.kd = 1 ∨ v.kd = 6 then v.wd else fmtN v.nm ++ fmtU v.kd
abbrev vQ (x : List UInt8) : Value := .string (S x)
theorem trim_len (l : List UInt8) : (Lib.trimRightB l 48).length ≤ l.length := by
  unfold Lib.trimRightB
  rw [List.length_reverse]
  refine Nat.le_trans (List.dropWhile_sublist _).length_le ?_
  rw [List.length_reverse]; exact Nat.le_refl _
theorem fracD_len [Inhabited TbBox] (r : Int) (h0 : 0 ≤ r) (h1 : r < 1000) : (fracD r).length ≤ 21 := by
  unfold fracD
  refine Nat.le_trans (trim_len _) ?_
  rw [List.length_drop]
  have := itoaT_len (1000 + r) (by omega) (by omega)
  omega
set_option maxRecDepth 100000 in
set_option maxHeartbeats 4000000 in
theorem fmt_word (kd nm : Int) (wd : List UInt8) (h : kd = 1 ∨ kd = 6) (w : World) : Calls Tryz.prog 54 #[.agg #[.int .i64 kd, .int .i64 nm, vQ wd]] w fun e w' => e = .returned (.string (S wd)) ∧ Below w.heap.size w w' := by
  rcases h with rfl | rfl
  · go_enter Tryz.func54, Tryz.ntmps54
    go_wp2_with fail
    exact bodyPost_ret (results_tmp Tryz.results54 _ _ _) rfl ⟨rfl, (Below.refl _ _).alloc (Nat.le_refl _) _⟩
  · go_enter Tryz.func54, Tryz.ntmps54
    go_wp2_with fail
    exact bodyPost_ret (results_tmp Tryz.results54 _ _ _) rfl ⟨rfl, (Below.refl _ _).alloc (Nat.le_refl _) _⟩
set_option maxRecDepth 100000 in
set_option maxHeartbeats 4000000 in
theorem fmt_nf3 [Inhabited TbBox] (kd nm : Int) (wd : List UInt8) (h1 : ¬ kd = 1) (h6 : ¬ kd = 6) (hk : kd = 3) (hb0 : -1048999999 ≤ nm) (hb1 : nm ≤ 1048999999) (hn : nm < 0) (hf : ¬ (absD nm).tmod 1000 = 0) (w : World) (E : Env w) :
    Calls Tryz.prog 54 #[.agg #[.int .i64 kd, .int .i64 nm, vQ wd]] w fun e w' => e = .returned (.string (S (fmtN nm ++ fmtU kd))) ∧ Below w.heap.size w w' := by
  subst hk
  obtain ⟨RES, hRES⟩ : ∃ z, S (fmtN nm ++ fmtU 3) = z := ⟨_, rfl⟩
  rw [hRES]
  have habs : absD nm = -nm := by unfold absD; rw [if_pos hn]
  unfold fmtN fmtU at hRES
  rw [if_pos hn, habs] at hRES
  rw [habs] at hf
  obtain ⟨a, ha⟩ : ∃ a, -nm = a := ⟨_, rfl⟩
  rw [ha] at hRES hf
  have ha0 : 0 ≤ a := by omega
  have ha1 : a ≤ 1048999999 := by omega
  obtain ⟨d, hd⟩ : ∃ d, a.tdiv 1000 = d := ⟨_, rfl⟩
  obtain ⟨r, hr⟩ : ∃ d, a.tmod 1000 = d := ⟨_, rfl⟩
  have hda : d = a / 1000 := by rw [← hd]; exact Int.tdiv_eq_ediv_of_nonneg ha0
  have hra : r = a % 1000 := by rw [← hr]; exact Int.tmod_eq_emod_of_nonneg ha0
  have hd0 : 0 ≤ d := by omega
  have hd1 : d ≤ 1048999 := by omega
  have hr0 : 0 ≤ r := by omega
  have hr1 : r < 1000 := by omega
  rw [hd, hr] at hRES
  rw [hr] at hf
  have g1 := wrapS (a := d) (by omega) (by omega)
  have g2 := wrapS (a := 1000 + r) (by omega) (by omega)
  have g3 := wrapS (a := r) (by omega) (by omega)
  have g4 := wrapS (a := a) (by omega) (by omega)
  have hit := fun w E => itoa_any d (by omega) (by omega) w E
  have hil := itoaT_len d (by omega) (by omega)
  obtain ⟨sI, hI⟩ : ∃ z, S (itoaT d) = z := ⟨_, rfl⟩
  have hIz : sI.size ≤ 21 := by rw [← hI, S_size]; exact hil
  rw [hI] at hit
  obtain ⟨v1, t1⟩ : ∃ z, ({ data := #[45] } : ByteArray) ++ sI = z := ⟨_, rfl⟩
  have l1 : v1 = S ([45] ++ itoaT d) := by rw [← t1, ← hI]; exact S_app [45] _
  have z1 : v1.size ≤ 22 := by rw [← t1, ByteArray.size_append]; have : ({ data := #[45] } : ByteArray).size = 1 := rfl; omega
  have q1 : ¬ ({ data := #[45] } : ByteArray).size + sI.size > 9223372036854775807 := by have : ({ data := #[45] } : ByteArray).size = 1 := rfl; omega
  have hrb : (r == 0) = false := by rw [beq_eq_false_iff_ne]; exact hf
  have hit2 := fun w E => itoa_any (1000 + r) (by omega) (by omega) w E
  have hjl := itoaT_len (1000 + r) (by omega) (by omega)
  have hjp := itoaT_pos (1000 + r) (by omega)
  have hfl := fracD_len r hr0 hr1
  have htr := fun w => Tryz.strings_TrimRight_one (S ((itoaT (1000 + r)).drop 1)) 48 (by decide) w (by rw [S_size, List.length_drop]; omega)
  have hfr : (⟨(Lib.trimRightB (S ((itoaT (1000 + r)).drop 1)).data.toList 48).toArray⟩ : ByteArray) = S (fracD r) := rfl
  simp only [hfr] at htr
  have hx1 : (S (itoaT (1000 + r))).extract 1 (S (itoaT (1000 + r))).size = S ((itoaT (1000 + r)).drop 1) := by rw [S_ext, S_size, List.take_of_length_le (by rw [List.length_drop]; exact Nat.le_refl _)]
  obtain ⟨sJ, hJ⟩ : ∃ z, S (itoaT (1000 + r)) = z := ⟨_, rfl⟩
  have hJz : sJ.size ≤ 21 := by rw [← hJ, S_size]; exact hjl
  have hJp : 1 ≤ sJ.size := by rw [← hJ, S_size]; exact hjp
  have hJi : (1 : Int) ≤ (sJ.size : Int) := by omega
  rw [hJ] at hit2 hx1
  obtain ⟨sK, hK⟩ : ∃ z, S ((itoaT (1000 + r)).drop 1) = z := ⟨_, rfl⟩
  rw [hK] at htr hx1
  obtain ⟨sF, hF⟩ : ∃ z, S (fracD r) = z := ⟨_, rfl⟩
  have hFz : sF.size ≤ 21 := by rw [← hF, S_size]; exact hfl
  rw [hF] at htr
  obtain ⟨v2, t2⟩ : ∃ z, ({ data := #[46] } : ByteArray) ++ sF = z := ⟨_, rfl⟩
  have z2 : v2.size ≤ 22 := by rw [← t2, ByteArray.size_append]; have : ({ data := #[46] } : ByteArray).size = 1 := rfl; omega
  have l2 : v2 = S (46 :: fracD r) := by rw [← t2, ← hF]; exact S_app [46] _
  have q2 : ¬ ({ data := #[46] } : ByteArray).size + sF.size > 9223372036854775807 := by have : ({ data := #[46] } : ByteArray).size = 1 := rfl; omega
  obtain ⟨v3, t3⟩ : ∃ z, v1 ++ v2 = z := ⟨_, rfl⟩
  have z3 : v3.size ≤ 44 := by rw [← t3, ByteArray.size_append]; omega
  have l3 : v3 = S (([45] ++ itoaT d) ++ (46 :: fracD r)) := by rw [← t3, l1, l2, S_app]
  have q3 : ¬ v1.size + v2.size > 9223372036854775807 := by omega
  have HT := Lib.hid htr
  have HI2 := Lib.hid hit2
  clear htr hit2 hfr hJ hK hF hjl hjp hfl
  rw [if_neg hf, if_pos rfl] at hRES
  obtain ⟨v4, t4⟩ : ∃ z, v3 ++ ({ data := #[112, 120] } : ByteArray) = z := ⟨_, rfl⟩
  have q4 : ¬ v3.size + ({ data := #[112, 120] } : ByteArray).size > 9223372036854775807 := by have h9 : ({ data := #[112, 120] } : ByteArray).size ≤ 2 := (by decide); omega
  have hfin : v4 = RES := by rw [← hRES, ← t4, l3]; exact S_app _ [112, 120]
  have HF := Lib.hid hfin
  have HI := Lib.hid hit
  have HE := Lib.hid E
  have H0 := Lib.hid ((St.start w (Below.refl _ w)).new #[.int .i64 3, .int .i64 nm, vQ wd] 68)
  clear hfin hit E hRES l1 l2 l3 hI hil hda hra 
  have d0 := H0.out.cell 0
  have d1 := H0.out.cell 1
  simp at d0 d1
  go_enter Tryz.func54, Tryz.ntmps54
  go_upto_region 4 with go_quiet (fail)
  have HQ := Lib.hid (H0.out.drewN nq)
  obtain ⟨Wa, hWa⟩ : ∃ W, (w.alloc (.cells #[.int .i64 3, .int .i64 nm, vQ wd] 68)).drewN nq = W := ⟨_, rfl⟩
  rw [hWa] at HQ
  rw [hWa]
  clear hWa d0 d1 H0
  go_wp2_with (first
    | (go_at_call 83; refine (HI.out _ (HE.out.below HQ.out.bel)).mono ?_; rintro e w1 ⟨rfl, hb1⟩; have H1 := Lib.hid (HQ.out.of_below hb1); clear hb1; have d0 := H1.out.cell 0; simp at d0)
    | (go_at_call 83; refine (HI2.out _ (HE.out.below H1.out.bel)).mono ?_; rintro e w2 ⟨rfl, hb2⟩; have H2 := Lib.hid (H1.out.of_below hb2); clear hb2 d0; have d0 := H2.out.cell 0; simp at d0)
    | (go_at_call 84; refine (HT.out _).mono ?_; rintro e w3 ⟨rfl, hw3⟩; rw [hw3]; clear hw3))
  exact bodyPost_ret (results_tmp Tryz.results54 _ _ _) rfl ⟨by rw [← HF.out]; rfl, H2.out.bel⟩
set_option maxRecDepth 100000 in
set_option maxHeartbeats 4000000 in
theorem fmt_nf4 [Inhabited TbBox] (kd nm : Int) (wd : List UInt8) (h1 : ¬ kd = 1) (h6 : ¬ kd = 6) (hk : kd = 4) (hb0 : -1048999999 ≤ nm) (hb1 : nm ≤ 1048999999) (hn : nm < 0) (hf : ¬ (absD nm).tmod 1000 = 0) (w : World) (E : Env w) :
    Calls Tryz.prog 54 #[.agg #[.int .i64 kd, .int .i64 nm, vQ wd]] w fun e w' => e = .returned (.string (S (fmtN nm ++ fmtU kd))) ∧ Below w.heap.size w w' := by
  subst hk
  obtain ⟨RES, hRES⟩ : ∃ z, S (fmtN nm ++ fmtU 4) = z := ⟨_, rfl⟩
  rw [hRES]
  have habs : absD nm = -nm := by unfold absD; rw [if_pos hn]
  unfold fmtN fmtU at hRES
  rw [if_pos hn, habs] at hRES
  rw [habs] at hf
  obtain ⟨a, ha⟩ : ∃ a, -nm = a := ⟨_, rfl⟩
  rw [ha] at hRES hf
  have ha0 : 0 ≤ a := by omega
  have ha1 : a ≤ 1048999999 := by omega
  obtain ⟨d, hd⟩ : ∃ d, a.tdiv 1000 = d := ⟨_, rfl⟩
  obtain ⟨r, hr⟩ : ∃ d, a.tmod 1000 = d := ⟨_, rfl⟩
  have hda : d = a / 1000 := by rw [← hd]; exact Int.tdiv_eq_ediv_of_nonneg ha0
  have hra : r = a % 1000 := by rw [← hr]; exact Int.tmod_eq_emod_of_nonneg ha0
  have hd0 : 0 ≤ d := by omega
  have hd1 : d ≤ 1048999 := by omega
  have hr0 : 0 ≤ r := by omega
  have hr1 : r < 1000 := by omega
  rw [hd, hr] at hRES
  rw [hr] at hf
  have g1 := wrapS (a := d) (by omega) (by omega)
  have g2 := wrapS (a := 1000 + r) (by omega) (by omega)
  have g3 := wrapS (a := r) (by omega) (by omega)
  have g4 := wrapS (a := a) (by omega) (by omega)
  have hit := fun w E => itoa_any d (by omega) (by omega) w E
  have hil := itoaT_len d (by omega) (by omega)
  obtain ⟨sI, hI⟩ : ∃ z, S (itoaT d) = z := ⟨_, rfl⟩
  have hIz : sI.size ≤ 21 := by rw [← hI, S_size]; exact hil
  rw [hI] at hit
  obtain ⟨v1, t1⟩ : ∃ z, ({ data := #[45] } : ByteArray) ++ sI = z := ⟨_, rfl⟩
  have l1 : v1 = S ([45] ++ itoaT d) := by rw [← t1, ← hI]; exact S_app [45] _
  have z1 : v1.size ≤ 22 := by rw [← t1, ByteArray.size_append]; have : ({ data := #[45] } : ByteArray).size = 1 := rfl; omega
  have q1 : ¬ ({ data := #[45] } : ByteArray).size + sI.size > 9223372036854775807 := by have : ({ data := #[45] } : ByteArray).size = 1 := rfl; omega
  have hrb : (r == 0) = false := by rw [beq_eq_false_iff_ne]; exact hf
  have hit2 := fun w E => itoa_any (1000 + r) (by omega) (by omega) w E
  have hjl := itoaT_len (1000 + r) (by omega) (by omega)
  have hjp := itoaT_pos (1000 + r) (by omega)
  have hfl := fracD_len r hr0 hr1
  have htr := fun w => Tryz.strings_TrimRight_one (S ((itoaT (1000 + r)).drop 1)) 48 (by decide) w (by rw [S_size, List.length_drop]; omega)
  have hfr : (⟨(Lib.trimRightB (S ((itoaT (1000 + r)).drop 1)).data.toList 48).toArray⟩ : ByteArray) = S (fracD r) := rfl
  simp only [hfr] at htr
  have hx1 : (S (itoaT (1000 + r))).extract 1 (S (itoaT (1000 + r))).size = S ((itoaT (1000 + r)).drop 1) := by rw [S_ext, S_size, List.take_of_length_le (by rw [List.length_drop]; exact Nat.le_refl _)]
  obtain ⟨sJ, hJ⟩ : ∃ z, S (itoaT (1000 + r)) = z := ⟨_, rfl⟩
  have hJz : sJ.size ≤ 21 := by rw [← hJ, S_size]; exact hjl
  have hJp : 1 ≤ sJ.size := by rw [← hJ, S_size]; exact hjp
  have hJi : (1 : Int) ≤ (sJ.size : Int) := by omega
  rw [hJ] at hit2 hx1
  obtain ⟨sK, hK⟩ : ∃ z, S ((itoaT (1000 + r)).drop 1) = z := ⟨_, rfl⟩
  rw [hK] at htr hx1
  obtain ⟨sF, hF⟩ : ∃ z, S (fracD r) = z := ⟨_, rfl⟩
  have hFz : sF.size ≤ 21 := by rw [← hF, S_size]; exact hfl
  rw [hF] at htr
  obtain ⟨v2, t2⟩ : ∃ z, ({ data := #[46] } : ByteArray) ++ sF = z := ⟨_, rfl⟩
  have z2 : v2.size ≤ 22 := by rw [← t2, ByteArray.size_append]; have : ({ data := #[46] } : ByteArray).size = 1 := rfl; omega
  have l2 : v2 = S (46 :: fracD r) := by rw [← t2, ← hF]; exact S_app [46] _
  have q2 : ¬ ({ data := #[46] } : ByteArray).size + sF.size > 9223372036854775807 := by have : ({ data := #[46] } : ByteArray).size = 1 := rfl; omega
  obtain ⟨v3, t3⟩ : ∃ z, v1 ++ v2 = z := ⟨_, rfl⟩
  have z3 : v3.size ≤ 44 := by rw [← t3, ByteArray.size_append]; omega
  have l3 : v3 = S (([45] ++ itoaT d) ++ (46 :: fracD r)) := by rw [← t3, l1, l2, S_app]
  have q3 : ¬ v1.size + v2.size > 9223372036854775807 := by omega
  have HT := Lib.hid htr
  have HI2 := Lib.hid hit2
  clear htr hit2 hfr hJ hK hF hjl hjp hfl
  rw [if_neg hf, if_neg (by decide), if_pos rfl] at hRES
  obtain ⟨v4, t4⟩ : ∃ z, v3 ++ ({ data := #[101, 109] } : ByteArray) = z := ⟨_, rfl⟩
  have q4 : ¬ v3.size + ({ data := #[101, 109] } : ByteArray).size > 9223372036854775807 := by have h9 : ({ data := #[101, 109] } : ByteArray).size ≤ 2 := (by decide); omega
  have hfin : v4 = RES := by rw [← hRES, ← t4, l3]; exact S_app _ [101, 109]
  have HF := Lib.hid hfin
  have HI := Lib.hid hit
  have HE := Lib.hid E
  have H0 := Lib.hid ((St.start w (Below.refl _ w)).new #[.int .i64 4, .int .i64 nm, vQ wd] 68)
  clear hfin hit E hRES l1 l2 l3 hI hil hda hra 
  have d0 := H0.out.cell 0
  have d1 := H0.out.cell 1
  simp at d0 d1
  go_enter Tryz.func54, Tryz.ntmps54
  go_upto_region 4 with go_quiet (fail)
  have HQ := Lib.hid (H0.out.drewN nq)
  obtain ⟨Wa, hWa⟩ : ∃ W, (w.alloc (.cells #[.int .i64 4, .int .i64 nm, vQ wd] 68)).drewN nq = W := ⟨_, rfl⟩
  rw [hWa] at HQ
  rw [hWa]
  clear hWa d0 d1 H0
  go_wp2_with (first
    | (go_at_call 83; refine (HI.out _ (HE.out.below HQ.out.bel)).mono ?_; rintro e w1 ⟨rfl, hb1⟩; have H1 := Lib.hid (HQ.out.of_below hb1); clear hb1; have d0 := H1.out.cell 0; simp at d0)
    | (go_at_call 83; refine (HI2.out _ (HE.out.below H1.out.bel)).mono ?_; rintro e w2 ⟨rfl, hb2⟩; have H2 := Lib.hid (H1.out.of_below hb2); clear hb2 d0; have d0 := H2.out.cell 0; simp at d0)
    | (go_at_call 84; refine (HT.out _).mono ?_; rintro e w3 ⟨rfl, hw3⟩; rw [hw3]; clear hw3))
  exact bodyPost_ret (results_tmp Tryz.results54 _ _ _) rfl ⟨by rw [← HF.out]; rfl, H2.out.bel⟩
set_option maxRecDepth 100000 in
set_option maxHeartbeats 4000000 in
theorem fmt_nf5 [Inhabited TbBox] (kd nm : Int) (wd : List UInt8) (h1 : ¬ kd = 1) (h6 : ¬ kd = 6) (hk : kd = 5) (hb0 : -1048999999 ≤ nm) (hb1 : nm ≤ 1048999999) (hn : nm < 0) (hf : ¬ (absD nm).tmod 1000 = 0) (w : World) (E : Env w) :
    Calls Tryz.prog 54 #[.agg #[.int .i64 kd, .int .i64 nm, vQ wd]] w fun e w' => e = .returned (.string (S (fmtN nm ++ fmtU kd))) ∧ Below w.heap.size w w' := by
  subst hk
  obtain ⟨RES, hRES⟩ : ∃ z, S (fmtN nm ++ fmtU 5) = z := ⟨_, rfl⟩
  rw [hRES]
  have habs : absD nm = -nm := by unfold absD; rw [if_pos hn]
  unfold fmtN fmtU at hRES
  rw [if_pos hn, habs] at hRES
  rw [habs] at hf
  obtain ⟨a, ha⟩ : ∃ a, -nm = a := ⟨_, rfl⟩
  rw [ha] at hRES hf
  have ha0 : 0 ≤ a := by omega
  have ha1 : a ≤ 1048999999 := by omega
  obtain ⟨d, hd⟩ : ∃ d, a.tdiv 1000 = d := ⟨_, rfl⟩
  obtain ⟨r, hr⟩ : ∃ d, a.tmod 1000 = d := ⟨_, rfl⟩
  have hda : d = a / 1000 := by rw [← hd]; exact Int.tdiv_eq_ediv_of_nonneg ha0
  have hra : r = a % 1000 := by rw [← hr]; exact Int.tmod_eq_emod_of_nonneg ha0
  have hd0 : 0 ≤ d := by omega
  have hd1 : d ≤ 1048999 := by omega
  have hr0 : 0 ≤ r := by omega
  have hr1 : r < 1000 := by omega
  rw [hd, hr] at hRES
  rw [hr] at hf
  have g1 := wrapS (a := d) (by omega) (by omega)
  have g2 := wrapS (a := 1000 + r) (by omega) (by omega)
  have g3 := wrapS (a := r) (by omega) (by omega)
  have g4 := wrapS (a := a) (by omega) (by omega)
  have hit := fun w E => itoa_any d (by omega) (by omega) w E
  have hil := itoaT_len d (by omega) (by omega)
  obtain ⟨sI, hI⟩ : ∃ z, S (itoaT d) = z := ⟨_, rfl⟩
  have hIz : sI.size ≤ 21 := by rw [← hI, S_size]; exact hil
  rw [hI] at hit
  obtain ⟨v1, t1⟩ : ∃ z, ({ data := #[45] } : ByteArray) ++ sI = z := ⟨_, rfl⟩
  have l1 : v1 = S ([45] ++ itoaT d) := by rw [← t1, ← hI]; exact S_app [45] _
  have z1 : v1.size ≤ 22 := by rw [← t1, ByteArray.size_append]; have : ({ data := #[45] } : ByteArray).size = 1 := rfl; omega
  have q1 : ¬ ({ data := #[45] } : ByteArray).size + sI.size > 9223372036854775807 := by have : ({ data := #[45] } : ByteArray).size = 1 := rfl; omega
  have hrb : (r == 0) = false := by rw [beq_eq_false_iff_ne]; exact hf
  have hit2 := fun w E => itoa_any (1000 + r) (by omega) (by omega) w E
  have hjl := itoaT_len (1000 + r) (by omega) (by omega)
  have hjp := itoaT_pos (1000 + r) (by omega)
  have hfl := fracD_len r hr0 hr1
  have htr := fun w => Tryz.strings_TrimRight_one (S ((itoaT (1000 + r)).drop 1)) 48 (by decide) w (by rw [S_size, List.length_drop]; omega)
  have hfr : (⟨(Lib.trimRightB (S ((itoaT (1000 + r)).drop 1)).data.toList 48).toArray⟩ : ByteArray) = S (fracD r) := rfl
  simp only [hfr] at htr
  have hx1 : (S (itoaT (1000 + r))).extract 1 (S (itoaT (1000 + r))).size = S ((itoaT (1000 + r)).drop 1) := by rw [S_ext, S_size, List.take_of_length_le (by rw [List.length_drop]; exact Nat.le_refl _)]
  obtain ⟨sJ, hJ⟩ : ∃ z, S (itoaT (1000 + r)) = z := ⟨_, rfl⟩
  have hJz : sJ.size ≤ 21 := by rw [← hJ, S_size]; exact hjl
  have hJp : 1 ≤ sJ.size := by rw [← hJ, S_size]; exact hjp
  have hJi : (1 : Int) ≤ (sJ.size : Int) := by omega
  rw [hJ] at hit2 hx1
  obtain ⟨sK, hK⟩ : ∃ z, S ((itoaT (1000 + r)).drop 1) = z := ⟨_, rfl⟩
  rw [hK] at htr hx1
  obtain ⟨sF, hF⟩ : ∃ z, S (fracD r) = z := ⟨_, rfl⟩
  have hFz : sF.size ≤ 21 := by rw [← hF, S_size]; exact hfl
  rw [hF] at htr
  obtain ⟨v2, t2⟩ : ∃ z, ({ data := #[46] } : ByteArray) ++ sF = z := ⟨_, rfl⟩
  have z2 : v2.size ≤ 22 := by rw [← t2, ByteArray.size_append]; have : ({ data := #[46] } : ByteArray).size = 1 := rfl; omega
  have l2 : v2 = S (46 :: fracD r) := by rw [← t2, ← hF]; exact S_app [46] _
  have q2 : ¬ ({ data := #[46] } : ByteArray).size + sF.size > 9223372036854775807 := by have : ({ data := #[46] } : ByteArray).size = 1 := rfl; omega
  obtain ⟨v3, t3⟩ : ∃ z, v1 ++ v2 = z := ⟨_, rfl⟩
  have z3 : v3.size ≤ 44 := by rw [← t3, ByteArray.size_append]; omega
  have l3 : v3 = S (([45] ++ itoaT d) ++ (46 :: fracD r)) := by rw [← t3, l1, l2, S_app]
  have q3 : ¬ v1.size + v2.size > 9223372036854775807 := by omega
  have HT := Lib.hid htr
  have HI2 := Lib.hid hit2
  clear htr hit2 hfr hJ hK hF hjl hjp hfl
  rw [if_neg hf, if_neg (by decide), if_neg (by decide), if_pos rfl] at hRES
  obtain ⟨v4, t4⟩ : ∃ z, v3 ++ ({ data := #[37] } : ByteArray) = z := ⟨_, rfl⟩
  have q4 : ¬ v3.size + ({ data := #[37] } : ByteArray).size > 9223372036854775807 := by have h9 : ({ data := #[37] } : ByteArray).size ≤ 2 := (by decide); omega
  have hfin : v4 = RES := by rw [← hRES, ← t4, l3]; exact S_app _ [37]
  have HF := Lib.hid hfin
  have HI := Lib.hid hit
  have HE := Lib.hid E
  have H0 := Lib.hid ((St.start w (Below.refl _ w)).new #[.int .i64 5, .int .i64 nm, vQ wd] 68)
  clear hfin hit E hRES l1 l2 l3 hI hil hda hra 
  have d0 := H0.out.cell 0
  have d1 := H0.out.cell 1
  simp at d0 d1
  go_enter Tryz.func54, Tryz.ntmps54
  go_upto_region 4 with go_quiet (fail)
  have HQ := Lib.hid (H0.out.drewN nq)
  obtain ⟨Wa, hWa⟩ : ∃ W, (w.alloc (.cells #[.int .i64 5, .int .i64 nm, vQ wd] 68)).drewN nq = W := ⟨_, rfl⟩
  rw [hWa] at HQ
  rw [hWa]
  clear hWa d0 d1 H0
  go_wp2_with (first
    | (go_at_call 83; refine (HI.out _ (HE.out.below HQ.out.bel)).mono ?_; rintro e w1 ⟨rfl, hb1⟩; have H1 := Lib.hid (HQ.out.of_below hb1); clear hb1; have d0 := H1.out.cell 0; simp at d0)
    | (go_at_call 83; refine (HI2.out _ (HE.out.below H1.out.bel)).mono ?_; rintro e w2 ⟨rfl, hb2⟩; have H2 := Lib.hid (H1.out.of_below hb2); clear hb2 d0; have d0 := H2.out.cell 0; simp at d0)
    | (go_at_call 84; refine (HT.out _).mono ?_; rintro e w3 ⟨rfl, hw3⟩; rw [hw3]; clear hw3))
  exact bodyPost_ret (results_tmp Tryz.results54 _ _ _) rfl ⟨by rw [← HF.out]; rfl, H2.out.bel⟩
set_option maxRecDepth 100000 in
set_option maxHeartbeats 4000000 in
theorem fmt_nfo [Inhabited TbBox] (kd nm : Int) (wd : List UInt8) (h1 : ¬ kd = 1) (h6 : ¬ kd = 6) (k3 : ¬ kd = 3) (k4 : ¬ kd = 4) (k5 : ¬ kd = 5) (hb0 : -1048999999 ≤ nm) (hb1 : nm ≤ 1048999999) (hn : nm < 0) (hf : ¬ (absD nm).tmod 1000 = 0) (w : World) (E : Env w) :
    Calls Tryz.prog 54 #[.agg #[.int .i64 kd, .int .i64 nm, vQ wd]] w fun e w' => e = .returned (.string (S (fmtN nm ++ fmtU kd))) ∧ Below w.heap.size w w' := by
  have e1 : (kd == 1) = false := by rw [beq_eq_false_iff_ne]; exact h1
  have e6 : (kd == 6) = false := by rw [beq_eq_false_iff_ne]; exact h6
  have e3 : (kd == 3) = false := by rw [beq_eq_false_iff_ne]; exact k3
  have e4 : (kd == 4) = false := by rw [beq_eq_false_iff_ne]; exact k4
  have e5 : (kd == 5) = false := by rw [beq_eq_false_iff_ne]; exact k5
  obtain ⟨RES, hRES⟩ : ∃ z, S (fmtN nm ++ fmtU kd) = z := ⟨_, rfl⟩
  rw [hRES]
  have habs : absD nm = -nm := by unfold absD; rw [if_pos hn]
  unfold fmtN fmtU at hRES
  rw [if_pos hn, habs] at hRES
  rw [habs] at hf
  obtain ⟨a, ha⟩ : ∃ a, -nm = a := ⟨_, rfl⟩
  rw [ha] at hRES hf
  have ha0 : 0 ≤ a := by omega
  have ha1 : a ≤ 1048999999 := by omega
  obtain ⟨d, hd⟩ : ∃ d, a.tdiv 1000 = d := ⟨_, rfl⟩
  obtain ⟨r, hr⟩ : ∃ d, a.tmod 1000 = d := ⟨_, rfl⟩
  have hda : d = a / 1000 := by rw [← hd]; exact Int.tdiv_eq_ediv_of_nonneg ha0
  have hra : r = a % 1000 := by rw [← hr]; exact Int.tmod_eq_emod_of_nonneg ha0
  have hd0 : 0 ≤ d := by omega
  have hd1 : d ≤ 1048999 := by omega
  have hr0 : 0 ≤ r := by omega
  have hr1 : r < 1000 := by omega
  rw [hd, hr] at hRES
  rw [hr] at hf
  have g1 := wrapS (a := d) (by omega) (by omega)
  have g2 := wrapS (a := 1000 + r) (by omega) (by omega)
  have g3 := wrapS (a := r) (by omega) (by omega)
  have g4 := wrapS (a := a) (by omega) (by omega)
  have hit := fun w E => itoa_any d (by omega) (by omega) w E
  have hil := itoaT_len d (by omega) (by omega)
  obtain ⟨sI, hI⟩ : ∃ z, S (itoaT d) = z := ⟨_, rfl⟩
  have hIz : sI.size ≤ 21 := by rw [← hI, S_size]; exact hil
  rw [hI] at hit
  obtain ⟨v1, t1⟩ : ∃ z, ({ data := #[45] } : ByteArray) ++ sI = z := ⟨_, rfl⟩
  have l1 : v1 = S ([45] ++ itoaT d) := by rw [← t1, ← hI]; exact S_app [45] _
  have z1 : v1.size ≤ 22 := by rw [← t1, ByteArray.size_append]; have : ({ data := #[45] } : ByteArray).size = 1 := rfl; omega
  have q1 : ¬ ({ data := #[45] } : ByteArray).size + sI.size > 9223372036854775807 := by have : ({ data := #[45] } : ByteArray).size = 1 := rfl; omega
  have hrb : (r == 0) = false := by rw [beq_eq_false_iff_ne]; exact hf
  have hit2 := fun w E => itoa_any (1000 + r) (by omega) (by omega) w E
  have hjl := itoaT_len (1000 + r) (by omega) (by omega)
  have hjp := itoaT_pos (1000 + r) (by omega)
  have hfl := fracD_len r hr0 hr1
  have htr := fun w => Tryz.strings_TrimRight_one (S ((itoaT (1000 + r)).drop 1)) 48 (by decide) w (by rw [S_size, List.length_drop]; omega)
  have hfr : (⟨(Lib.trimRightB (S ((itoaT (1000 + r)).drop 1)).data.toList 48).toArray⟩ : ByteArray) = S (fracD r) := rfl
  simp only [hfr] at htr
  have hx1 : (S (itoaT (1000 + r))).extract 1 (S (itoaT (1000 + r))).size = S ((itoaT (1000 + r)).drop 1) := by rw [S_ext, S_size, List.take_of_length_le (by rw [List.length_drop]; exact Nat.le_refl _)]
  obtain ⟨sJ, hJ⟩ : ∃ z, S (itoaT (1000 + r)) = z := ⟨_, rfl⟩
  have hJz : sJ.size ≤ 21 := by rw [← hJ, S_size]; exact hjl
  have hJp : 1 ≤ sJ.size := by rw [← hJ, S_size]; exact hjp
  have hJi : (1 : Int) ≤ (sJ.size : Int) := by omega
  rw [hJ] at hit2 hx1
  obtain ⟨sK, hK⟩ : ∃ z, S ((itoaT (1000 + r)).drop 1) = z := ⟨_, rfl⟩
  rw [hK] at htr hx1
  obtain ⟨sF, hF⟩ : ∃ z, S (fracD r) = z := ⟨_, rfl⟩
  have hFz : sF.size ≤ 21 := by rw [← hF, S_size]; exact hfl
  rw [hF] at htr
  obtain ⟨v2, t2⟩ : ∃ z, ({ data := #[46] } : ByteArray) ++ sF = z := ⟨_, rfl⟩
  have z2 : v2.size ≤ 22 := by rw [← t2, ByteArray.size_append]; have : ({ data := #[46] } : ByteArray).size = 1 := rfl; omega
  have l2 : v2 = S (46 :: fracD r) := by rw [← t2, ← hF]; exact S_app [46] _
  have q2 : ¬ ({ data := #[46] } : ByteArray).size + sF.size > 9223372036854775807 := by have : ({ data := #[46] } : ByteArray).size = 1 := rfl; omega
  obtain ⟨v3, t3⟩ : ∃ z, v1 ++ v2 = z := ⟨_, rfl⟩
  have z3 : v3.size ≤ 44 := by rw [← t3, ByteArray.size_append]; omega
  have l3 : v3 = S (([45] ++ itoaT d) ++ (46 :: fracD r)) := by rw [← t3, l1, l2, S_app]
  have q3 : ¬ v1.size + v2.size > 9223372036854775807 := by omega
  have HT := Lib.hid htr
  have HI2 := Lib.hid hit2
  clear htr hit2 hfr hJ hK hF hjl hjp hfl
  rw [if_neg hf, if_neg k3, if_neg k4, if_neg k5] at hRES
  rw [List.append_nil] at hRES
  have hfin : v3 = RES := by rw [← hRES, l3]
  have HF := Lib.hid hfin
  have HI := Lib.hid hit
  have HE := Lib.hid E
  have H0 := Lib.hid ((St.start w (Below.refl _ w)).new #[.int .i64 kd, .int .i64 nm, vQ wd] 68)
  clear hfin hit E hRES l1 l2 l3 hI hil hda hra k3 k4 k5
  have d0 := H0.out.cell 0
  have d1 := H0.out.cell 1
  simp at d0 d1
  go_enter Tryz.func54, Tryz.ntmps54
  go_upto_region 4 with go_quiet (fail)
  have HQ := Lib.hid (H0.out.drewN nq)
  obtain ⟨Wa, hWa⟩ : ∃ W, (w.alloc (.cells #[.int .i64 kd, .int .i64 nm, vQ wd] 68)).drewN nq = W := ⟨_, rfl⟩
  rw [hWa] at HQ
  rw [hWa]
  clear hWa d0 d1 H0
  go_wp2_with (first
    | (go_at_call 83; refine (HI.out _ (HE.out.below HQ.out.bel)).mono ?_; rintro e w1 ⟨rfl, hb1⟩; have H1 := Lib.hid (HQ.out.of_below hb1); clear hb1; have d0 := H1.out.cell 0; simp at d0)
    | (go_at_call 83; refine (HI2.out _ (HE.out.below H1.out.bel)).mono ?_; rintro e w2 ⟨rfl, hb2⟩; have H2 := Lib.hid (H1.out.of_below hb2); clear hb2 d0; have d0 := H2.out.cell 0; simp at d0)
    | (go_at_call 84; refine (HT.out _).mono ?_; rintro e w3 ⟨rfl, hw3⟩; rw [hw3]; clear hw3))
  exact bodyPost_ret (results_tmp Tryz.results54 _ _ _) rfl ⟨by rw [← HF.out]; rfl, H2.out.bel⟩
set_option maxRecDepth 100000 in
set_option maxHeartbeats 4000000 in
theorem fmt_ni3 [Inhabited TbBox] (kd nm : Int) (wd : List UInt8) (h1 : ¬ kd = 1) (h6 : ¬ kd = 6) (hk : kd = 3) (hb0 : -1048999999 ≤ nm) (hb1 : nm ≤ 1048999999) (hn : nm < 0) (hf : (absD nm).tmod 1000 = 0) (w : World) (E : Env w) :
    Calls Tryz.prog 54 #[.agg #[.int .i64 kd, .int .i64 nm, vQ wd]] w fun e w' => e = .returned (.string (S (fmtN nm ++ fmtU kd))) ∧ Below w.heap.size w w' := by
  subst hk
  obtain ⟨RES, hRES⟩ : ∃ z, S (fmtN nm ++ fmtU 3) = z := ⟨_, rfl⟩
  rw [hRES]
  have habs : absD nm = -nm := by unfold absD; rw [if_pos hn]
  unfold fmtN fmtU at hRES
  rw [if_pos hn, habs] at hRES
  rw [habs] at hf
  obtain ⟨a, ha⟩ : ∃ a, -nm = a := ⟨_, rfl⟩
  rw [ha] at hRES hf
  have ha0 : 0 ≤ a := by omega
  have ha1 : a ≤ 1048999999 := by omega
  obtain ⟨d, hd⟩ : ∃ d, a.tdiv 1000 = d := ⟨_, rfl⟩
  obtain ⟨r, hr⟩ : ∃ d, a.tmod 1000 = d := ⟨_, rfl⟩
  have hda : d = a / 1000 := by rw [← hd]; exact Int.tdiv_eq_ediv_of_nonneg ha0
  have hra : r = a % 1000 := by rw [← hr]; exact Int.tmod_eq_emod_of_nonneg ha0
  have hd0 : 0 ≤ d := by omega
  have hd1 : d ≤ 1048999 := by omega
  have hr0 : 0 ≤ r := by omega
  have hr1 : r < 1000 := by omega
  rw [hd, hr] at hRES
  rw [hr] at hf
  have g1 := wrapS (a := d) (by omega) (by omega)
  have g2 := wrapS (a := 1000 + r) (by omega) (by omega)
  have g3 := wrapS (a := r) (by omega) (by omega)
  have g4 := wrapS (a := a) (by omega) (by omega)
  have hit := fun w E => itoa_any d (by omega) (by omega) w E
  have hil := itoaT_len d (by omega) (by omega)
  obtain ⟨sI, hI⟩ : ∃ z, S (itoaT d) = z := ⟨_, rfl⟩
  have hIz : sI.size ≤ 21 := by rw [← hI, S_size]; exact hil
  rw [hI] at hit
  obtain ⟨v1, t1⟩ : ∃ z, ({ data := #[45] } : ByteArray) ++ sI = z := ⟨_, rfl⟩
  have l1 : v1 = S ([45] ++ itoaT d) := by rw [← t1, ← hI]; exact S_app [45] _
  have z1 : v1.size ≤ 22 := by rw [← t1, ByteArray.size_append]; have : ({ data := #[45] } : ByteArray).size = 1 := rfl; omega
  have q1 : ¬ ({ data := #[45] } : ByteArray).size + sI.size > 9223372036854775807 := by have : ({ data := #[45] } : ByteArray).size = 1 := rfl; omega
  subst hf
  rw [if_pos rfl, if_pos rfl] at hRES
  rw [List.append_nil] at hRES
  obtain ⟨v4, t4⟩ : ∃ z, v1 ++ ({ data := #[112, 120] } : ByteArray) = z := ⟨_, rfl⟩
  have q4 : ¬ v1.size + ({ data := #[112, 120] } : ByteArray).size > 9223372036854775807 := by have h9 : ({ data := #[112, 120] } : ByteArray).size ≤ 2 := (by decide); omega
  have hfin : v4 = RES := by rw [← hRES, ← t4, l1]; exact S_app _ [112, 120]
  have HF := Lib.hid hfin
  have HI := Lib.hid hit
  have HE := Lib.hid E
  have H0 := Lib.hid ((St.start w (Below.refl _ w)).new #[.int .i64 3, .int .i64 nm, vQ wd] 68)
  clear hfin hit E hRES l1  hI hil hda hra 
  have d0 := H0.out.cell 0
  have d1 := H0.out.cell 1
  simp at d0 d1
  go_enter Tryz.func54, Tryz.ntmps54
  go_upto_region 4 with go_quiet (fail)
  have HQ := Lib.hid (H0.out.drewN nq)
  obtain ⟨Wa, hWa⟩ : ∃ W, (w.alloc (.cells #[.int .i64 3, .int .i64 nm, vQ wd] 68)).drewN nq = W := ⟨_, rfl⟩
  rw [hWa] at HQ
  rw [hWa]
  clear hWa d0 d1 H0
  go_wp2_with (first
    | (go_at_call 83; refine (HI.out _ (HE.out.below HQ.out.bel)).mono ?_; rintro e w1 ⟨rfl, hb1⟩; have H1 := Lib.hid (HQ.out.of_below hb1); clear hb1; have d0 := H1.out.cell 0; simp at d0)
    | (go_at_call 83; refine (HI2.out _ (HE.out.below H1.out.bel)).mono ?_; rintro e w2 ⟨rfl, hb2⟩; have H2 := Lib.hid (H1.out.of_below hb2); clear hb2 d0; have d0 := H2.out.cell 0; simp at d0)
    | (go_at_call 84; refine (HT.out _).mono ?_; rintro e w3 ⟨rfl, hw3⟩; rw [hw3]; clear hw3))
  exact bodyPost_ret (results_tmp Tryz.results54 _ _ _) rfl ⟨by rw [← HF.out]; rfl, H1.out.bel⟩
set_option maxRecDepth 100000 in
set_option maxHeartbeats 4000000 in
theorem fmt_ni4 [Inhabited TbBox] (kd nm : Int) (wd : List UInt8) (h1 : ¬ kd = 1) (h6 : ¬ kd = 6) (hk : kd = 4) (hb0 : -1048999999 ≤ nm) (hb1 : nm ≤ 1048999999) (hn : nm < 0) (hf : (absD nm).tmod 1000 = 0) (w : World) (E : Env w) :
    Calls Tryz.prog 54 #[.agg #[.int .i64 kd, .int .i64 nm, vQ wd]] w fun e w' => e = .returned (.string (S (fmtN nm ++ fmtU kd))) ∧ Below w.heap.size w w' := by
  subst hk
  obtain ⟨RES, hRES⟩ : ∃ z, S (fmtN nm ++ fmtU 4) = z := ⟨_, rfl⟩
  rw [hRES]
  have habs : absD nm = -nm := by unfold absD; rw [if_pos hn]
  unfold fmtN fmtU at hRES
  rw [if_pos hn, habs] at hRES
  rw [habs] at hf
  obtain ⟨a, ha⟩ : ∃ a, -nm = a := ⟨_, rfl⟩
  rw [ha] at hRES hf
  have ha0 : 0 ≤ a := by omega
  have ha1 : a ≤ 1048999999 := by omega
  obtain ⟨d, hd⟩ : ∃ d, a.tdiv 1000 = d := ⟨_, rfl⟩
  obtain ⟨r, hr⟩ : ∃ d, a.tmod 1000 = d := ⟨_, rfl⟩
  have hda : d = a / 1000 := by rw [← hd]; exact Int.tdiv_eq_ediv_of_nonneg ha0
  have hra : r = a % 1000 := by rw [← hr]; exact Int.tmod_eq_emod_of_nonneg ha0
  have hd0 : 0 ≤ d := by omega
  have hd1 : d ≤ 1048999 := by omega
  have hr0 : 0 ≤ r := by omega
  have hr1 : r < 1000 := by omega
  rw [hd, hr] at hRES
  rw [hr] at hf
  have g1 := wrapS (a := d) (by omega) (by omega)
  have g2 := wrapS (a := 1000 + r) (by omega) (by omega)
  have g3 := wrapS (a := r) (by omega) (by omega)
  have g4 := wrapS (a := a) (by omega) (by omega)
  have hit := fun w E => itoa_any d (by omega) (by omega) w E
  have hil := itoaT_len d (by omega) (by omega)
  obtain ⟨sI, hI⟩ : ∃ z, S (itoaT d) = z := ⟨_, rfl⟩
  have hIz : sI.size ≤ 21 := by rw [← hI, S_size]; exact hil
  rw [hI] at hit
  obtain ⟨v1, t1⟩ : ∃ z, ({ data := #[45] } : ByteArray) ++ sI = z := ⟨_, rfl⟩
  have l1 : v1 = S ([45] ++ itoaT d) := by rw [← t1, ← hI]; exact S_app [45] _
  have z1 : v1.size ≤ 22 := by rw [← t1, ByteArray.size_append]; have : ({ data := #[45] } : ByteArray).size = 1 := rfl; omega
  have q1 : ¬ ({ data := #[45] } : ByteArray).size + sI.size > 9223372036854775807 := by have : ({ data := #[45] } : ByteArray).size = 1 := rfl; omega
  subst hf
  rw [if_pos rfl, if_neg (by decide), if_pos rfl] at hRES
  rw [List.append_nil] at hRES
  obtain ⟨v4, t4⟩ : ∃ z, v1 ++ ({ data := #[101, 109] } : ByteArray) = z := ⟨_, rfl⟩
  have q4 : ¬ v1.size + ({ data := #[101, 109] } : ByteArray).size > 9223372036854775807 := by have h9 : ({ data := #[101, 109] } : ByteArray).size ≤ 2 := (by decide); omega
  have hfin : v4 = RES := by rw [← hRES, ← t4, l1]; exact S_app _ [101, 109]
  have HF := Lib.hid hfin
  have HI := Lib.hid hit
  have HE := Lib.hid E
  have H0 := Lib.hid ((St.start w (Below.refl _ w)).new #[.int .i64 4, .int .i64 nm, vQ wd] 68)
  clear hfin hit E hRES l1  hI hil hda hra 
  have d0 := H0.out.cell 0
  have d1 := H0.out.cell 1
  simp at d0 d1
  go_enter Tryz.func54, Tryz.ntmps54
  go_upto_region 4 with go_quiet (fail)
  have HQ := Lib.hid (H0.out.drewN nq)
  obtain ⟨Wa, hWa⟩ : ∃ W, (w.alloc (.cells #[.int .i64 4, .int .i64 nm, vQ wd] 68)).drewN nq = W := ⟨_, rfl⟩
  rw [hWa] at HQ
  rw [hWa]
  clear hWa d0 d1 H0
  go_wp2_with (first
    | (go_at_call 83; refine (HI.out _ (HE.out.below HQ.out.bel)).mono ?_; rintro e w1 ⟨rfl, hb1⟩; have H1 := Lib.hid (HQ.out.of_below hb1); clear hb1; have d0 := H1.out.cell 0; simp at d0)
    | (go_at_call 83; refine (HI2.out _ (HE.out.below H1.out.bel)).mono ?_; rintro e w2 ⟨rfl, hb2⟩; have H2 := Lib.hid (H1.out.of_below hb2); clear hb2 d0; have d0 := H2.out.cell 0; simp at d0)
    | (go_at_call 84; refine (HT.out _).mono ?_; rintro e w3 ⟨rfl, hw3⟩; rw [hw3]; clear hw3))
  exact bodyPost_ret (results_tmp Tryz.results54 _ _ _) rfl ⟨by rw [← HF.out]; rfl, H1.out.bel⟩
set_option maxRecDepth 100000 in
set_option maxHeartbeats 4000000 in
theorem fmt_ni5 [Inhabited TbBox] (kd nm : Int) (wd : List UInt8) (h1 : ¬ kd = 1) (h6 : ¬ kd = 6) (hk : kd = 5) (hb0 : -1048999999 ≤ nm) (hb1 : nm ≤ 1048999999) (hn : nm < 0) (hf : (absD nm).tmod 1000 = 0) (w : World) (E : Env w) :
    Calls Tryz.prog 54 #[.agg #[.int .i64 kd, .int .i64 nm, vQ wd]] w fun e w' => e = .returned (.string (S (fmtN nm ++ fmtU kd))) ∧ Below w.heap.size w w' := by
  subst hk
  obtain ⟨RES, hRES⟩ : ∃ z, S (fmtN nm ++ fmtU 5) = z := ⟨_, rfl⟩
  rw [hRES]
  have habs : absD nm = -nm := by unfold absD; rw [if_pos hn]
  unfold fmtN fmtU at hRES
  rw [if_pos hn, habs] at hRES
  rw [habs] at hf
  obtain ⟨a, ha⟩ : ∃ a, -nm = a := ⟨_, rfl⟩
  rw [ha] at hRES hf
  have ha0 : 0 ≤ a := by omega
  have ha1 : a ≤ 1048999999 := by omega
  obtain ⟨d, hd⟩ : ∃ d, a.tdiv 1000 = d := ⟨_, rfl⟩
  obtain ⟨r, hr⟩ : ∃ d, a.tmod 1000 = d := ⟨_, rfl⟩
  have hda : d = a / 1000 := by rw [← hd]; exact Int.tdiv_eq_ediv_of_nonneg ha0
  have hra : r = a % 1000 := by rw [← hr]; exact Int.tmod_eq_emod_of_nonneg ha0
  have hd0 : 0 ≤ d := by omega
  have hd1 : d ≤ 1048999 := by omega
  have hr0 : 0 ≤ r := by omega
  have hr1 : r < 1000 := by omega
  rw [hd, hr] at hRES
  rw [hr] at hf
  have g1 := wrapS (a := d) (by omega) (by omega)
  have g2 := wrapS (a := 1000 + r) (by omega) (by omega)
  have g3 := wrapS (a := r) (by omega) (by omega)
  have g4 := wrapS (a := a) (by omega) (by omega)
  have hit := fun w E => itoa_any d (by omega) (by omega) w E
  have hil := itoaT_len d (by omega) (by omega)
  obtain ⟨sI, hI⟩ : ∃ z, S (itoaT d) = z := ⟨_, rfl⟩
  have hIz : sI.size ≤ 21 := by rw [← hI, S_size]; exact hil
  rw [hI] at hit
  obtain ⟨v1, t1⟩ : ∃ z, ({ data := #[45] } : ByteArray) ++ sI = z := ⟨_, rfl⟩
  have l1 : v1 = S ([45] ++ itoaT d) := by rw [← t1, ← hI]; exact S_app [45] _
  have z1 : v1.size ≤ 22 := by rw [← t1, ByteArray.size_append]; have : ({ data := #[45] } : ByteArray).size = 1 := rfl; omega
  have q1 : ¬ ({ data := #[45] } : ByteArray).size + sI.size > 9223372036854775807 := by have : ({ data := #[45] } : ByteArray).size = 1 := rfl; omega
  subst hf
  rw [if_pos rfl, if_neg (by decide), if_neg (by decide), if_pos rfl] at hRES
  rw [List.append_nil] at hRES
  obtain ⟨v4, t4⟩ : ∃ z, v1 ++ ({ data := #[37] } : ByteArray) = z := ⟨_, rfl⟩
  have q4 : ¬ v1.size + ({ data := #[37] } : ByteArray).size > 9223372036854775807 := by have h9 : ({ data := #[37] } : ByteArray).size ≤ 2 := (by decide); omega
  have hfin : v4 = RES := by rw [← hRES, ← t4, l1]; exact S_app _ [37]
  have HF := Lib.hid hfin
  have HI := Lib.hid hit
  have HE := Lib.hid E
  have H0 := Lib.hid ((St.start w (Below.refl _ w)).new #[.int .i64 5, .int .i64 nm, vQ wd] 68)
  clear hfin hit E hRES l1  hI hil hda hra 
  have d0 := H0.out.cell 0
  have d1 := H0.out.cell 1
  simp at d0 d1
  go_enter Tryz.func54, Tryz.ntmps54
  go_upto_region 4 with go_quiet (fail)
  have HQ := Lib.hid (H0.out.drewN nq)
  obtain ⟨Wa, hWa⟩ : ∃ W, (w.alloc (.cells #[.int .i64 5, .int .i64 nm, vQ wd] 68)).drewN nq = W := ⟨_, rfl⟩
  rw [hWa] at HQ
  rw [hWa]
  clear hWa d0 d1 H0
  go_wp2_with (first
    | (go_at_call 83; refine (HI.out _ (HE.out.below HQ.out.bel)).mono ?_; rintro e w1 ⟨rfl, hb1⟩; have H1 := Lib.hid (HQ.out.of_below hb1); clear hb1; have d0 := H1.out.cell 0; simp at d0)
    | (go_at_call 83; refine (HI2.out _ (HE.out.below H1.out.bel)).mono ?_; rintro e w2 ⟨rfl, hb2⟩; have H2 := Lib.hid (H1.out.of_below hb2); clear hb2 d0; have d0 := H2.out.cell 0; simp at d0)
    | (go_at_call 84; refine (HT.out _).mono ?_; rintro e w3 ⟨rfl, hw3⟩; rw [hw3]; clear hw3))
  exact bodyPost_ret (results_tmp Tryz.results54 _ _ _) rfl ⟨by rw [← HF.out]; rfl, H1.out.bel⟩
set_option maxRecDepth 100000 in
set_option maxHeartbeats 4000000 in
theorem fmt_nio [Inhabited TbBox] (kd nm : Int) (wd : List UInt8) (h1 : ¬ kd = 1) (h6 : ¬ kd = 6) (k3 : ¬ kd = 3) (k4 : ¬ kd = 4) (k5 : ¬ kd = 5) (hb0 : -1048999999 ≤ nm) (hb1 : nm ≤ 1048999999) (hn : nm < 0) (hf : (absD nm).tmod 1000 = 0) (w : World) (E : Env w) :
    Calls Tryz.prog 54 #[.agg #[.int .i64 kd, .int .i64 nm, vQ wd]] w fun e w' => e = .returned (.string (S (fmtN nm ++ fmtU kd))) ∧ Below w.heap.size w w' := by
  have e1 : (kd == 1) = false := by rw [beq_eq_false_iff_ne]; exact h1
  have e6 : (kd == 6) = false := by rw [beq_eq_false_iff_ne]; exact h6
  have e3 : (kd == 3) = false := by rw [beq_eq_false_iff_ne]; exact k3
  have e4 : (kd == 4) = false := by rw [beq_eq_false_iff_ne]; exact k4
  have e5 : (kd == 5) = false := by rw [beq_eq_false_iff_ne]; exact k5
  obtain ⟨RES, hRES⟩ : ∃ z, S (fmtN nm ++ fmtU kd) = z := ⟨_, rfl⟩
  rw [hRES]
  have habs : absD nm = -nm := by unfold absD; rw [if_pos hn]
  unfold fmtN fmtU at hRES
  rw [if_pos hn, habs] at hRES
  rw [habs] at hf
  obtain ⟨a, ha⟩ : ∃ a, -nm = a := ⟨_, rfl⟩
  rw [ha] at hRES hf
  have ha0 : 0 ≤ a := by omega
  have ha1 : a ≤ 1048999999 := by omega
  obtain ⟨d, hd⟩ : ∃ d, a.tdiv 1000 = d := ⟨_, rfl⟩
  obtain ⟨r, hr⟩ : ∃ d, a.tmod 1000 = d := ⟨_, rfl⟩
  have hda : d = a / 1000 := by rw [← hd]; exact Int.tdiv_eq_ediv_of_nonneg ha0
  have hra : r = a % 1000 := by rw [← hr]; exact Int.tmod_eq_emod_of_nonneg ha0
  have hd0 : 0 ≤ d := by omega
  have hd1 : d ≤ 1048999 := by omega
  have hr0 : 0 ≤ r := by omega
  have hr1 : r < 1000 := by omega
  rw [hd, hr] at hRES
  rw [hr] at hf
  have g1 := wrapS (a := d) (by omega) (by omega)
  have g2 := wrapS (a := 1000 + r) (by omega) (by omega)
  have g3 := wrapS (a := r) (by omega) (by omega)
  have g4 := wrapS (a := a) (by omega) (by omega)
  have hit := fun w E => itoa_any d (by omega) (by omega) w E
  have hil := itoaT_len d (by omega) (by omega)
  obtain ⟨sI, hI⟩ : ∃ z, S (itoaT d) = z := ⟨_, rfl⟩
  have hIz : sI.size ≤ 21 := by rw [← hI, S_size]; exact hil
  rw [hI] at hit
  obtain ⟨v1, t1⟩ : ∃ z, ({ data := #[45] } : ByteArray) ++ sI = z := ⟨_, rfl⟩
  have l1 : v1 = S ([45] ++ itoaT d) := by rw [← t1, ← hI]; exact S_app [45] _
  have z1 : v1.size ≤ 22 := by rw [← t1, ByteArray.size_append]; have : ({ data := #[45] } : ByteArray).size = 1 := rfl; omega
  have q1 : ¬ ({ data := #[45] } : ByteArray).size + sI.size > 9223372036854775807 := by have : ({ data := #[45] } : ByteArray).size = 1 := rfl; omega
  subst hf
  rw [if_pos rfl, if_neg k3, if_neg k4, if_neg k5] at hRES
  rw [List.append_nil] at hRES
  rw [List.append_nil] at hRES
  have hfin : v1 = RES := by rw [← hRES, l1]
  have HF := Lib.hid hfin
  have HI := Lib.hid hit
  have HE := Lib.hid E
  have H0 := Lib.hid ((St.start w (Below.refl _ w)).new #[.int .i64 kd, .int .i64 nm, vQ wd] 68)
  clear hfin hit E hRES l1  hI hil hda hra k3 k4 k5
  have d0 := H0.out.cell 0
  have d1 := H0.out.cell 1
  simp at d0 d1
  go_enter Tryz.func54, Tryz.ntmps54
  go_upto_region 4 with go_quiet (fail)
  have HQ := Lib.hid (H0.out.drewN nq)
  obtain ⟨Wa, hWa⟩ : ∃ W, (w.alloc (.cells #[.int .i64 kd, .int .i64 nm, vQ wd] 68)).drewN nq = W := ⟨_, rfl⟩
  rw [hWa] at HQ
  rw [hWa]
  clear hWa d0 d1 H0
  go_wp2_with (first
    | (go_at_call 83; refine (HI.out _ (HE.out.below HQ.out.bel)).mono ?_; rintro e w1 ⟨rfl, hb1⟩; have H1 := Lib.hid (HQ.out.of_below hb1); clear hb1; have d0 := H1.out.cell 0; simp at d0)
    | (go_at_call 83; refine (HI2.out _ (HE.out.below H1.out.bel)).mono ?_; rintro e w2 ⟨rfl, hb2⟩; have H2 := Lib.hid (H1.out.of_below hb2); clear hb2 d0; have d0 := H2.out.cell 0; simp at d0)
    | (go_at_call 84; refine (HT.out _).mono ?_; rintro e w3 ⟨rfl, hw3⟩; rw [hw3]; clear hw3))
  exact bodyPost_ret (results_tmp Tryz.results54 _ _ _) rfl ⟨by rw [← HF.out]; rfl, H1.out.bel⟩
set_option maxRecDepth 100000 in
set_option maxHeartbeats 4000000 in
theorem fmt_pf3 [Inhabited TbBox] (kd nm : Int) (wd : List UInt8) (h1 : ¬ kd = 1) (h6 : ¬ kd = 6) (hk : kd = 3) (hb0 : -1048999999 ≤ nm) (hb1 : nm ≤ 1048999999) (hn : ¬ nm < 0) (hf : ¬ (absD nm).tmod 1000 = 0) (w : World) (E : Env w) :
    Calls Tryz.prog 54 #[.agg #[.int .i64 kd, .int .i64 nm, vQ wd]] w fun e w' => e = .returned (.string (S (fmtN nm ++ fmtU kd))) ∧ Below w.heap.size w w' := by
  subst hk
  obtain ⟨RES, hRES⟩ : ∃ z, S (fmtN nm ++ fmtU 3) = z := ⟨_, rfl⟩
  rw [hRES]
  have habs : absD nm = nm := by unfold absD; rw [if_neg hn]
  unfold fmtN fmtU at hRES
  rw [if_neg hn, habs] at hRES
  rw [habs] at hf
  obtain ⟨a, rfl⟩ : ∃ a, a = nm := ⟨nm, rfl⟩
  have ha0 : 0 ≤ a := by omega
  have ha1 : a ≤ 1048999999 := by omega
  obtain ⟨d, hd⟩ : ∃ d, a.tdiv 1000 = d := ⟨_, rfl⟩
  obtain ⟨r, hr⟩ : ∃ d, a.tmod 1000 = d := ⟨_, rfl⟩
  have hda : d = a / 1000 := by rw [← hd]; exact Int.tdiv_eq_ediv_of_nonneg ha0
  have hra : r = a % 1000 := by rw [← hr]; exact Int.tmod_eq_emod_of_nonneg ha0
  have hd0 : 0 ≤ d := by omega
  have hd1 : d ≤ 1048999 := by omega
  have hr0 : 0 ≤ r := by omega
  have hr1 : r < 1000 := by omega
  rw [hd, hr] at hRES
  rw [hr] at hf
  have g1 := wrapS (a := d) (by omega) (by omega)
  have g2 := wrapS (a := 1000 + r) (by omega) (by omega)
  have g3 := wrapS (a := r) (by omega) (by omega)
  have hit := fun w E => itoa_any d (by omega) (by omega) w E
  have hil := itoaT_len d (by omega) (by omega)
  obtain ⟨sI, hI⟩ : ∃ z, S (itoaT d) = z := ⟨_, rfl⟩
  have hIz : sI.size ≤ 21 := by rw [← hI, S_size]; exact hil
  rw [hI] at hit
  obtain ⟨v1, t1⟩ : ∃ z, ({ data := #[] } : ByteArray) ++ sI = z := ⟨_, rfl⟩
  have l1 : v1 = S (([] : List UInt8) ++ itoaT d) := by rw [← t1, ← hI]; exact S_app [] _
  have z1 : v1.size ≤ 22 := by rw [← t1, ByteArray.size_append]; have : ({ data := #[] } : ByteArray).size = 0 := rfl; omega
  have q1 : ¬ ({ data := #[] } : ByteArray).size + sI.size > 9223372036854775807 := by have : ({ data := #[] } : ByteArray).size = 0 := rfl; omega
  have hrb : (r == 0) = false := by rw [beq_eq_false_iff_ne]; exact hf
  have hit2 := fun w E => itoa_any (1000 + r) (by omega) (by omega) w E
  have hjl := itoaT_len (1000 + r) (by omega) (by omega)
  have hjp := itoaT_pos (1000 + r) (by omega)
  have hfl := fracD_len r hr0 hr1
  have htr := fun w => Tryz.strings_TrimRight_one (S ((itoaT (1000 + r)).drop 1)) 48 (by decide) w (by rw [S_size, List.length_drop]; omega)
  have hfr : (⟨(Lib.trimRightB (S ((itoaT (1000 + r)).drop 1)).data.toList 48).toArray⟩ : ByteArray) = S (fracD r) := rfl
  simp only [hfr] at htr
  have hx1 : (S (itoaT (1000 + r))).extract 1 (S (itoaT (1000 + r))).size = S ((itoaT (1000 + r)).drop 1) := by rw [S_ext, S_size, List.take_of_length_le (by rw [List.length_drop]; exact Nat.le_refl _)]
  obtain ⟨sJ, hJ⟩ : ∃ z, S (itoaT (1000 + r)) = z := ⟨_, rfl⟩
  have hJz : sJ.size ≤ 21 := by rw [← hJ, S_size]; exact hjl
  have hJp : 1 ≤ sJ.size := by rw [← hJ, S_size]; exact hjp
  have hJi : (1 : Int) ≤ (sJ.size : Int) := by omega
  rw [hJ] at hit2 hx1
  obtain ⟨sK, hK⟩ : ∃ z, S ((itoaT (1000 + r)).drop 1) = z := ⟨_, rfl⟩
  rw [hK] at htr hx1
  obtain ⟨sF, hF⟩ : ∃ z, S (fracD r) = z := ⟨_, rfl⟩
  have hFz : sF.size ≤ 21 := by rw [← hF, S_size]; exact hfl
  rw [hF] at htr
  obtain ⟨v2, t2⟩ : ∃ z, ({ data := #[46] } : ByteArray) ++ sF = z := ⟨_, rfl⟩
  have z2 : v2.size ≤ 22 := by rw [← t2, ByteArray.size_append]; have : ({ data := #[46] } : ByteArray).size = 1 := rfl; omega
  have l2 : v2 = S (46 :: fracD r) := by rw [← t2, ← hF]; exact S_app [46] _
  have q2 : ¬ ({ data := #[46] } : ByteArray).size + sF.size > 9223372036854775807 := by have : ({ data := #[46] } : ByteArray).size = 1 := rfl; omega
  obtain ⟨v3, t3⟩ : ∃ z, v1 ++ v2 = z := ⟨_, rfl⟩
  have z3 : v3.size ≤ 44 := by rw [← t3, ByteArray.size_append]; omega
  have l3 : v3 = S ((([] : List UInt8) ++ itoaT d) ++ (46 :: fracD r)) := by rw [← t3, l1, l2, S_app]
  have q3 : ¬ v1.size + v2.size > 9223372036854775807 := by omega
  have HT := Lib.hid htr
  have HI2 := Lib.hid hit2
  clear htr hit2 hfr hJ hK hF hjl hjp hfl
  rw [if_neg hf, if_pos rfl] at hRES
  obtain ⟨v4, t4⟩ : ∃ z, v3 ++ ({ data := #[112, 120] } : ByteArray) = z := ⟨_, rfl⟩
  have q4 : ¬ v3.size + ({ data := #[112, 120] } : ByteArray).size > 9223372036854775807 := by have h9 : ({ data := #[112, 120] } : ByteArray).size ≤ 2 := (by decide); omega
  have hfin : v4 = RES := by rw [← hRES, ← t4, l3]; exact S_app _ [112, 120]
  have HF := Lib.hid hfin
  have HI := Lib.hid hit
  have HE := Lib.hid E
  have H0 := Lib.hid ((St.start w (Below.refl _ w)).new #[.int .i64 3, .int .i64 a, vQ wd] 68)
  clear hfin hit E hRES l1 l2 l3 hI hil hda hra 
  have d0 := H0.out.cell 0
  have d1 := H0.out.cell 1
  simp at d0 d1
  go_enter Tryz.func54, Tryz.ntmps54
  go_upto_region 4 with go_quiet (fail)
  have HQ := Lib.hid (H0.out.drewN nq)
  obtain ⟨Wa, hWa⟩ : ∃ W, (w.alloc (.cells #[.int .i64 3, .int .i64 a, vQ wd] 68)).drewN nq = W := ⟨_, rfl⟩
  rw [hWa] at HQ
  rw [hWa]
  clear hWa d0 d1 H0
  go_wp2_with (first
    | (go_at_call 83; refine (HI.out _ (HE.out.below HQ.out.bel)).mono ?_; rintro e w1 ⟨rfl, hb1⟩; have H1 := Lib.hid (HQ.out.of_below hb1); clear hb1; have d0 := H1.out.cell 0; simp at d0)
    | (go_at_call 83; refine (HI2.out _ (HE.out.below H1.out.bel)).mono ?_; rintro e w2 ⟨rfl, hb2⟩; have H2 := Lib.hid (H1.out.of_below hb2); clear hb2 d0; have d0 := H2.out.cell 0; simp at d0)
    | (go_at_call 84; refine (HT.out _).mono ?_; rintro e w3 ⟨rfl, hw3⟩; rw [hw3]; clear hw3))
  exact bodyPost_ret (results_tmp Tryz.results54 _ _ _) rfl ⟨by rw [← HF.out]; rfl, H2.out.bel⟩
set_option maxRecDepth 100000 in
set_option maxHeartbeats 4000000 in
theorem fmt_pf4 [Inhabited TbBox] (kd nm : Int) (wd : List UInt8) (h1 : ¬ kd = 1) (h6 : ¬ kd = 6) (hk : kd = 4) (hb0 : -1048999999 ≤ nm) (hb1 : nm ≤ 1048999999) (hn : ¬ nm < 0) (hf : ¬ (absD nm).tmod 1000 = 0) (w : World) (E : Env w) :
    Calls Tryz.prog 54 #[.agg #[.int .i64 kd, .int .i64 nm, vQ wd]] w fun e w' => e = .returned (.string (S (fmtN nm ++ fmtU kd))) ∧ Below w.heap.size w w' := by
  subst hk
  obtain ⟨RES, hRES⟩ : ∃ z, S (fmtN nm ++ fmtU 4) = z := ⟨_, rfl⟩
  rw [hRES]
  have habs : absD nm = nm := by unfold absD; rw [if_neg hn]
  unfold fmtN fmtU at hRES
  rw [if_neg hn, habs] at hRES
  rw [habs] at hf
  obtain ⟨a, rfl⟩ : ∃ a, a = nm := ⟨nm, rfl⟩
  have ha0 : 0 ≤ a := by omega
  have ha1 : a ≤ 1048999999 := by omega
  obtain ⟨d, hd⟩ : ∃ d, a.tdiv 1000 = d := ⟨_, rfl⟩
  obtain ⟨r, hr⟩ : ∃ d, a.tmod 1000 = d := ⟨_, rfl⟩
  have hda : d = a / 1000 := by rw [← hd]; exact Int.tdiv_eq_ediv_of_nonneg ha0
  have hra : r = a % 1000 := by rw [← hr]; exact Int.tmod_eq_emod_of_nonneg ha0
  have hd0 : 0 ≤ d := by omega
  have hd1 : d ≤ 1048999 := by omega
  have hr0 : 0 ≤ r := by omega
  have hr1 : r < 1000 := by omega
  rw [hd, hr] at hRES
  rw [hr] at hf
  have g1 := wrapS (a := d) (by omega) (by omega)
  have g2 := wrapS (a := 1000 + r) (by omega) (by omega)
  have g3 := wrapS (a := r) (by omega) (by omega)
  have hit := fun w E => itoa_any d (by omega) (by omega) w E
  have hil := itoaT_len d (by omega) (by omega)
  obtain ⟨sI, hI⟩ : ∃ z, S (itoaT d) = z := ⟨_, rfl⟩
  have hIz : sI.size ≤ 21 := by rw [← hI, S_size]; exact hil
  rw [hI] at hit
  obtain ⟨v1, t1⟩ : ∃ z, ({ data := #[] } : ByteArray) ++ sI = z := ⟨_, rfl⟩
  have l1 : v1 = S (([] : List UInt8) ++ itoaT d) := by rw [← t1, ← hI]; exact S_app [] _
  have z1 : v1.size ≤ 22 := by rw [← t1, ByteArray.size_append]; have : ({ data := #[] } : ByteArray).size = 0 := rfl; omega
  have q1 : ¬ ({ data := #[] } : ByteArray).size + sI.size > 9223372036854775807 := by have : ({ data := #[] } : ByteArray).size = 0 := rfl; omega
  have hrb : (r == 0) = false := by rw [beq_eq_false_iff_ne]; exact hf
  have hit2 := fun w E => itoa_any (1000 + r) (by omega) (by omega) w E
  have hjl := itoaT_len (1000 + r) (by omega) (by omega)
  have hjp := itoaT_pos (1000 + r) (by omega)
  have hfl := fracD_len r hr0 hr1
  have htr := fun w => Tryz.strings_TrimRight_one (S ((itoaT (1000 + r)).drop 1)) 48 (by decide) w (by rw [S_size, List.length_drop]; omega)
  have hfr : (⟨(Lib.trimRightB (S ((itoaT (1000 + r)).drop 1)).data.toList 48).toArray⟩ : ByteArray) = S (fracD r) := rfl
  simp only [hfr] at htr
  have hx1 : (S (itoaT (1000 + r))).extract 1 (S (itoaT (1000 + r))).size = S ((itoaT (1000 + r)).drop 1) := by rw [S_ext, S_size, List.take_of_length_le (by rw [List.length_drop]; exact Nat.le_refl _)]
  obtain ⟨sJ, hJ⟩ : ∃ z, S (itoaT (1000 + r)) = z := ⟨_, rfl⟩
  have hJz : sJ.size ≤ 21 := by rw [← hJ, S_size]; exact hjl
  have hJp : 1 ≤ sJ.size := by rw [← hJ, S_size]; exact hjp
  have hJi : (1 : Int) ≤ (sJ.size : Int) := by omega
  rw [hJ] at hit2 hx1
  obtain ⟨sK, hK⟩ : ∃ z, S ((itoaT (1000 + r)).drop 1) = z := ⟨_, rfl⟩
  rw [hK] at htr hx1
  obtain ⟨sF, hF⟩ : ∃ z, S (fracD r) = z := ⟨_, rfl⟩
  have hFz : sF.size ≤ 21 := by rw [← hF, S_size]; exact hfl
  rw [hF] at htr
  obtain ⟨v2, t2⟩ : ∃ z, ({ data := #[46] } : ByteArray) ++ sF = z := ⟨_, rfl⟩
  have z2 : v2.size ≤ 22 := by rw [← t2, ByteArray.size_append]; have : ({ data := #[46] } : ByteArray).size = 1 := rfl; omega
  have l2 : v2 = S (46 :: fracD r) := by rw [← t2, ← hF]; exact S_app [46] _
  have q2 : ¬ ({ data := #[46] } : ByteArray).size + sF.size > 9223372036854775807 := by have : ({ data := #[46] } : ByteArray).size = 1 := rfl; omega
  obtain ⟨v3, t3⟩ : ∃ z, v1 ++ v2 = z := ⟨_, rfl⟩
  have z3 : v3.size ≤ 44 := by rw [← t3, ByteArray.size_append]; omega
  have l3 : v3 = S ((([] : List UInt8) ++ itoaT d) ++ (46 :: fracD r)) := by rw [← t3, l1, l2, S_app]
  have q3 : ¬ v1.size + v2.size > 9223372036854775807 := by omega
  have HT := Lib.hid htr
  have HI2 := Lib.hid hit2
  clear htr hit2 hfr hJ hK hF hjl hjp hfl
  rw [if_neg hf, if_neg (by decide), if_pos rfl] at hRES
  obtain ⟨v4, t4⟩ : ∃ z, v3 ++ ({ data := #[101, 109] } : ByteArray) = z := ⟨_, rfl⟩
  have q4 : ¬ v3.size + ({ data := #[101, 109] } : ByteArray).size > 9223372036854775807 := by have h9 : ({ data := #[101, 109] } : ByteArray).size ≤ 2 := (by decide); omega
  have hfin : v4 = RES := by rw [← hRES, ← t4, l3]; exact S_app _ [101, 109]
  have HF := Lib.hid hfin
  have HI := Lib.hid hit
  have HE := Lib.hid E
  have H0 := Lib.hid ((St.start w (Below.refl _ w)).new #[.int .i64 4, .int .i64 a, vQ wd] 68)
  clear hfin hit E hRES l1 l2 l3 hI hil hda hra 
  have d0 := H0.out.cell 0
  have d1 := H0.out.cell 1
  simp at d0 d1
  go_enter Tryz.func54, Tryz.ntmps54
  go_upto_region 4 with go_quiet (fail)
  have HQ := Lib.hid (H0.out.drewN nq)
  obtain ⟨Wa, hWa⟩ : ∃ W, (w.alloc (.cells #[.int .i64 4, .int .i64 a, vQ wd] 68)).drewN nq = W := ⟨_, rfl⟩
  rw [hWa] at HQ
  rw [hWa]
  clear hWa d0 d1 H0
  go_wp2_with (first
    | (go_at_call 83; refine (HI.out _ (HE.out.below HQ.out.bel)).mono ?_; rintro e w1 ⟨rfl, hb1⟩; have H1 := Lib.hid (HQ.out.of_below hb1); clear hb1; have d0 := H1.out.cell 0; simp at d0)
    | (go_at_call 83; refine (HI2.out _ (HE.out.below H1.out.bel)).mono ?_; rintro e w2 ⟨rfl, hb2⟩; have H2 := Lib.hid (H1.out.of_below hb2); clear hb2 d0; have d0 := H2.out.cell 0; simp at d0)
    | (go_at_call 84; refine (HT.out _).mono ?_; rintro e w3 ⟨rfl, hw3⟩; rw [hw3]; clear hw3))
  exact bodyPost_ret (results_tmp Tryz.results54 _ _ _) rfl ⟨by rw [← HF.out]; rfl, H2.out.bel⟩
set_option maxRecDepth 100000 in
set_option maxHeartbeats 4000000 in
theorem fmt_pf5 [Inhabited TbBox] (kd nm : Int) (wd : List UInt8) (h1 : ¬ kd = 1) (h6 : ¬ kd = 6) (hk : kd = 5) (hb0 : -1048999999 ≤ nm) (hb1 : nm ≤ 1048999999) (hn : ¬ nm < 0) (hf : ¬ (absD nm).tmod 1000 = 0) (w : World) (E : Env w) :
    Calls Tryz.prog 54 #[.agg #[.int .i64 kd, .int .i64 nm, vQ wd]] w fun e w' => e = .returned (.string (S (fmtN nm ++ fmtU kd))) ∧ Below w.heap.size w w' := by
  subst hk
  obtain ⟨RES, hRES⟩ : ∃ z, S (fmtN nm ++ fmtU 5) = z := ⟨_, rfl⟩
  rw [hRES]
  have habs : absD nm = nm := by unfold absD; rw [if_neg hn]
  unfold fmtN fmtU at hRES
  rw [if_neg hn, habs] at hRES
  rw [habs] at hf
  obtain ⟨a, rfl⟩ : ∃ a, a = nm := ⟨nm, rfl⟩
  have ha0 : 0 ≤ a := by omega
  have ha1 : a ≤ 1048999999 := by omega
  obtain ⟨d, hd⟩ : ∃ d, a.tdiv 1000 = d := ⟨_, rfl⟩
  obtain ⟨r, hr⟩ : ∃ d, a.tmod 1000 = d := ⟨_, rfl⟩
  have hda : d = a / 1000 := by rw [← hd]; exact Int.tdiv_eq_ediv_of_nonneg ha0
  have hra : r = a % 1000 := by rw [← hr]; exact Int.tmod_eq_emod_of_nonneg ha0
  have hd0 : 0 ≤ d := by omega
  have hd1 : d ≤ 1048999 := by omega
  have hr0 : 0 ≤ r := by omega
  have hr1 : r < 1000 := by omega
  rw [hd, hr] at hRES
  rw [hr] at hf
  have g1 := wrapS (a := d) (by omega) (by omega)
  have g2 := wrapS (a := 1000 + r) (by omega) (by omega)
  have g3 := wrapS (a := r) (by omega) (by omega)
  have hit := fun w E => itoa_any d (by omega) (by omega) w E
  have hil := itoaT_len d (by omega) (by omega)
  obtain ⟨sI, hI⟩ : ∃ z, S (itoaT d) = z := ⟨_, rfl⟩
  have hIz : sI.size ≤ 21 := by rw [← hI, S_size]; exact hil
  rw [hI] at hit
  obtain ⟨v1, t1⟩ : ∃ z, ({ data := #[] } : ByteArray) ++ sI = z := ⟨_, rfl⟩
  have l1 : v1 = S (([] : List UInt8) ++ itoaT d) := by rw [← t1, ← hI]; exact S_app [] _
  have z1 : v1.size ≤ 22 := by rw [← t1, ByteArray.size_append]; have : ({ data := #[] } : ByteArray).size = 0 := rfl; omega
  have q1 : ¬ ({ data := #[] } : ByteArray).size + sI.size > 9223372036854775807 := by have : ({ data := #[] } : ByteArray).size = 0 := rfl; omega
  have hrb : (r == 0) = false := by rw [beq_eq_false_iff_ne]; exact hf
  have hit2 := fun w E => itoa_any (1000 + r) (by omega) (by omega) w E
  have hjl := itoaT_len (1000 + r) (by omega) (by omega)
  have hjp := itoaT_pos (1000 + r) (by omega)
  have hfl := fracD_len r hr0 hr1
  have htr := fun w => Tryz.strings_TrimRight_one (S ((itoaT (1000 + r)).drop 1)) 48 (by decide) w (by rw [S_size, List.length_drop]; omega)
  have hfr : (⟨(Lib.trimRightB (S ((itoaT (1000 + r)).drop 1)).data.toList 48).toArray⟩ : ByteArray) = S (fracD r) := rfl
  simp only [hfr] at htr
  have hx1 : (S (itoaT (1000 + r))).extract 1 (S (itoaT (1000 + r))).size = S ((itoaT (1000 + r)).drop 1) := by rw [S_ext, S_size, List.take_of_length_le (by rw [List.length_drop]; exact Nat.le_refl _)]
  obtain ⟨sJ, hJ⟩ : ∃ z, S (itoaT (1000 + r)) = z := ⟨_, rfl⟩
  have hJz : sJ.size ≤ 21 := by rw [← hJ, S_size]; exact hjl
  have hJp : 1 ≤ sJ.size := by rw [← hJ, S_size]; exact hjp
  have hJi : (1 : Int) ≤ (sJ.size : Int) := by omega
  rw [hJ] at hit2 hx1
  obtain ⟨sK, hK⟩ : ∃ z, S ((itoaT (1000 + r)).drop 1) = z := ⟨_, rfl⟩
  rw [hK] at htr hx1
  obtain ⟨sF, hF⟩ : ∃ z, S (fracD r) = z := ⟨_, rfl⟩
  have hFz : sF.size ≤ 21 := by rw [← hF, S_size]; exact hfl
  rw [hF] at htr
  obtain ⟨v2, t2⟩ : ∃ z, ({ data := #[46] } : ByteArray) ++ sF = z := ⟨_, rfl⟩
  have z2 : v2.size ≤ 22 := by rw [← t2, ByteArray.size_append]; have : ({ data := #[46] } : ByteArray).size = 1 := rfl; omega
  have l2 : v2 = S (46 :: fracD r) := by rw [← t2, ← hF]; exact S_app [46] _
  have q2 : ¬ ({ data := #[46] } : ByteArray).size + sF.size > 9223372036854775807 := by have : ({ data := #[46] } : ByteArray).size = 1 := rfl; omega
  obtain ⟨v3, t3⟩ : ∃ z, v1 ++ v2 = z := ⟨_, rfl⟩
  have z3 : v3.size ≤ 44 := by rw [← t3, ByteArray.size_append]; omega
  have l3 : v3 = S ((([] : List UInt8) ++ itoaT d) ++ (46 :: fracD r)) := by rw [← t3, l1, l2, S_app]
  have q3 : ¬ v1.size + v2.size > 9223372036854775807 := by omega
  have HT := Lib.hid htr
  have HI2 := Lib.hid hit2
  clear htr hit2 hfr hJ hK hF hjl hjp hfl
  rw [if_neg hf, if_neg (by decide), if_neg (by decide), if_pos rfl] at hRES
  obtain ⟨v4, t4⟩ : ∃ z, v3 ++ ({ data := #[37] } : ByteArray) = z := ⟨_, rfl⟩
  have q4 : ¬ v3.size + ({ data := #[37] } : ByteArray).size > 9223372036854775807 := by have h9 : ({ data := #[37] } : ByteArray).size ≤ 2 := (by decide); omega
  have hfin : v4 = RES := by rw [← hRES, ← t4, l3]; exact S_app _ [37]
  have HF := Lib.hid hfin
  have HI := Lib.hid hit
  have HE := Lib.hid E
  have H0 := Lib.hid ((St.start w (Below.refl _ w)).new #[.int .i64 5, .int .i64 a, vQ wd] 68)
  clear hfin hit E hRES l1 l2 l3 hI hil hda hra 
  have d0 := H0.out.cell 0
  have d1 := H0.out.cell 1
  simp at d0 d1
  go_enter Tryz.func54, Tryz.ntmps54
  go_upto_region 4 with go_quiet (fail)
  have HQ := Lib.hid (H0.out.drewN nq)
  obtain ⟨Wa, hWa⟩ : ∃ W, (w.alloc (.cells #[.int .i64 5, .int .i64 a, vQ wd] 68)).drewN nq = W := ⟨_, rfl⟩
  rw [hWa] at HQ
  rw [hWa]
  clear hWa d0 d1 H0
  go_wp2_with (first
    | (go_at_call 83; refine (HI.out _ (HE.out.below HQ.out.bel)).mono ?_; rintro e w1 ⟨rfl, hb1⟩; have H1 := Lib.hid (HQ.out.of_below hb1); clear hb1; have d0 := H1.out.cell 0; simp at d0)
    | (go_at_call 83; refine (HI2.out _ (HE.out.below H1.out.bel)).mono ?_; rintro e w2 ⟨rfl, hb2⟩; have H2 := Lib.hid (H1.out.of_below hb2); clear hb2 d0; have d0 := H2.out.cell 0; simp at d0)
    | (go_at_call 84; refine (HT.out _).mono ?_; rintro e w3 ⟨rfl, hw3⟩; rw [hw3]; clear hw3))
  exact bodyPost_ret (results_tmp Tryz.results54 _ _ _) rfl ⟨by rw [← HF.out]; rfl, H2.out.bel⟩
set_option maxRecDepth 100000 in
set_option maxHeartbeats 4000000 in
theorem fmt_pfo [Inhabited TbBox] (kd nm : Int) (wd : List UInt8) (h1 : ¬ kd = 1) (h6 : ¬ kd = 6) (k3 : ¬ kd = 3) (k4 : ¬ kd = 4) (k5 : ¬ kd = 5) (hb0 : -1048999999 ≤ nm) (hb1 : nm ≤ 1048999999) (hn : ¬ nm < 0) (hf : ¬ (absD nm).tmod 1000 = 0) (w : World) (E : Env w) :
    Calls Tryz.prog 54 #[.agg #[.int .i64 kd, .int .i64 nm, vQ wd]] w fun e w' => e = .returned (.string (S (fmtN nm ++ fmtU kd))) ∧ Below w.heap.size w w' := by
  have e1 : (kd == 1) = false := by rw [beq_eq_false_iff_ne]; exact h1
  have e6 : (kd == 6) = false := by rw [beq_eq_false_iff_ne]; exact h6
  have e3 : (kd == 3) = false := by rw [beq_eq_false_iff_ne]; exact k3
  have e4 : (kd == 4) = false := by rw [beq_eq_false_iff_ne]; exact k4
  have e5 : (kd == 5) = false := by rw [beq_eq_false_iff_ne]; exact k5
  obtain ⟨RES, hRES⟩ : ∃ z, S (fmtN nm ++ fmtU kd) = z := ⟨_, rfl⟩
  rw [hRES]
  have habs : absD nm = nm := by unfold absD; rw [if_neg hn]
  unfold fmtN fmtU at hRES
  rw [if_neg hn, habs] at hRES
  rw [habs] at hf
  obtain ⟨a, rfl⟩ : ∃ a, a = nm := ⟨nm, rfl⟩
  have ha0 : 0 ≤ a := by omega
  have ha1 : a ≤ 1048999999 := by omega
  obtain ⟨d, hd⟩ : ∃ d, a.tdiv 1000 = d := ⟨_, rfl⟩
  obtain ⟨r, hr⟩ : ∃ d, a.tmod 1000 = d := ⟨_, rfl⟩
  have hda : d = a / 1000 := by rw [← hd]; exact Int.tdiv_eq_ediv_of_nonneg ha0
  have hra : r = a % 1000 := by rw [← hr]; exact Int.tmod_eq_emod_of_nonneg ha0
  have hd0 : 0 ≤ d := by omega
  have hd1 : d ≤ 1048999 := by omega
  have hr0 : 0 ≤ r := by omega
  have hr1 : r < 1000 := by omega
  rw [hd, hr] at hRES
  rw [hr] at hf
  have g1 := wrapS (a := d) (by omega) (by omega)
  have g2 := wrapS (a := 1000 + r) (by omega) (by omega)
  have g3 := wrapS (a := r) (by omega) (by omega)
  have hit := fun w E => itoa_any d (by omega) (by omega) w E
  have hil := itoaT_len d (by omega) (by omega)
  obtain ⟨sI, hI⟩ : ∃ z, S (itoaT d) = z := ⟨_, rfl⟩
  have hIz : sI.size ≤ 21 := by rw [← hI, S_size]; exact hil
  rw [hI] at hit
  obtain ⟨v1, t1⟩ : ∃ z, ({ data := #[] } : ByteArray) ++ sI = z := ⟨_, rfl⟩
  have l1 : v1 = S (([] : List UInt8) ++ itoaT d) := by rw [← t1, ← hI]; exact S_app [] _
  have z1 : v1.size ≤ 22 := by rw [← t1, ByteArray.size_append]; have : ({ data := #[] } : ByteArray).size = 0 := rfl; omega
  have q1 : ¬ ({ data := #[] } : ByteArray).size + sI.size > 9223372036854775807 := by have : ({ data := #[] } : ByteArray).size = 0 := rfl; omega
  have hrb : (r == 0) = false := by rw [beq_eq_false_iff_ne]; exact hf
  have hit2 := fun w E => itoa_any (1000 + r) (by omega) (by omega) w E
  have hjl := itoaT_len (1000 + r) (by omega) (by omega)
  have hjp := itoaT_pos (1000 + r) (by omega)
  have hfl := fracD_len r hr0 hr1
  have htr := fun w => Tryz.strings_TrimRight_one (S ((itoaT (1000 + r)).drop 1)) 48 (by decide) w (by rw [S_size, List.length_drop]; omega)
  have hfr : (⟨(Lib.trimRightB (S ((itoaT (1000 + r)).drop 1)).data.toList 48).toArray⟩ : ByteArray) = S (fracD r) := rfl
  simp only [hfr] at htr
  have hx1 : (S (itoaT (1000 + r))).extract 1 (S (itoaT (1000 + r))).size = S ((itoaT (1000 + r)).drop 1) := by rw [S_ext, S_size, List.take_of_length_le (by rw [List.length_drop]; exact Nat.le_refl _)]
  obtain ⟨sJ, hJ⟩ : ∃ z, S (itoaT (1000 + r)) = z := ⟨_, rfl⟩
  have hJz : sJ.size ≤ 21 := by rw [← hJ, S_size]; exact hjl
  have hJp : 1 ≤ sJ.size := by rw [← hJ, S_size]; exact hjp
  have hJi : (1 : Int) ≤ (sJ.size : Int) := by omega
  rw [hJ] at hit2 hx1
  obtain ⟨sK, hK⟩ : ∃ z, S ((itoaT (1000 + r)).drop 1) = z := ⟨_, rfl⟩
  rw [hK] at htr hx1
  obtain ⟨sF, hF⟩ : ∃ z, S (fracD r) = z := ⟨_, rfl⟩
  have hFz : sF.size ≤ 21 := by rw [← hF, S_size]; exact hfl
  rw [hF] at htr
  obtain ⟨v2, t2⟩ : ∃ z, ({ data := #[46] } : ByteArray) ++ sF = z := ⟨_, rfl⟩
  have z2 : v2.size ≤ 22 := by rw [← t2, ByteArray.size_append]; have : ({ data := #[46] } : ByteArray).size = 1 := rfl; omega
  have l2 : v2 = S (46 :: fracD r) := by rw [← t2, ← hF]; exact S_app [46] _
  have q2 : ¬ ({ data := #[46] } : ByteArray).size + sF.size > 9223372036854775807 := by have : ({ data := #[46] } : ByteArray).size = 1 := rfl; omega
  obtain ⟨v3, t3⟩ : ∃ z, v1 ++ v2 = z := ⟨_, rfl⟩
  have z3 : v3.size ≤ 44 := by rw [← t3, ByteArray.size_append]; omega
  have l3 : v3 = S ((([] : List UInt8) ++ itoaT d) ++ (46 :: fracD r)) := by rw [← t3, l1, l2, S_app]
  have q3 : ¬ v1.size + v2.size > 9223372036854775807 := by omega
  have HT := Lib.hid htr
  have HI2 := Lib.hid hit2
  clear htr hit2 hfr hJ hK hF hjl hjp hfl
  rw [if_neg hf, if_neg k3, if_neg k4, if_neg k5] at hRES
  rw [List.append_nil] at hRES
  have hfin : v3 = RES := by rw [← hRES, l3]
  have HF := Lib.hid hfin
  have HI := Lib.hid hit
  have HE := Lib.hid E
  have H0 := Lib.hid ((St.start w (Below.refl _ w)).new #[.int .i64 kd, .int .i64 a, vQ wd] 68)
  clear hfin hit E hRES l1 l2 l3 hI hil hda hra k3 k4 k5
  have d0 := H0.out.cell 0
  have d1 := H0.out.cell 1
  simp at d0 d1
  go_enter Tryz.func54, Tryz.ntmps54
  go_upto_region 4 with go_quiet (fail)
  have HQ := Lib.hid (H0.out.drewN nq)
  obtain ⟨Wa, hWa⟩ : ∃ W, (w.alloc (.cells #[.int .i64 kd, .int .i64 a, vQ wd] 68)).drewN nq = W := ⟨_, rfl⟩
  rw [hWa] at HQ
  rw [hWa]
  clear hWa d0 d1 H0
  go_wp2_with (first
    | (go_at_call 83; refine (HI.out _ (HE.out.below HQ.out.bel)).mono ?_; rintro e w1 ⟨rfl, hb1⟩; have H1 := Lib.hid (HQ.out.of_below hb1); clear hb1; have d0 := H1.out.cell 0; simp at d0)
    | (go_at_call 83; refine (HI2.out _ (HE.out.below H1.out.bel)).mono ?_; rintro e w2 ⟨rfl, hb2⟩; have H2 := Lib.hid (H1.out.of_below hb2); clear hb2 d0; have d0 := H2.out.cell 0; simp at d0)
    | (go_at_call 84; refine (HT.out _).mono ?_; rintro e w3 ⟨rfl, hw3⟩; rw [hw3]; clear hw3))
  exact bodyPost_ret (results_tmp Tryz.results54 _ _ _) rfl ⟨by rw [← HF.out]; rfl, H2.out.bel⟩
set_option maxRecDepth 100000 in
set_option maxHeartbeats 4000000 in
theorem fmt_pi3 [Inhabited TbBox] (kd nm : Int) (wd : List UInt8) (h1 : ¬ kd = 1) (h6 : ¬ kd = 6) (hk : kd = 3) (hb0 : -1048999999 ≤ nm) (hb1 : nm ≤ 1048999999) (hn : ¬ nm < 0) (hf : (absD nm).tmod 1000 = 0) (w : World) (E : Env w) :
    Calls Tryz.prog 54 #[.agg #[.int .i64 kd, .int .i64 nm, vQ wd]] w fun e w' => e = .returned (.string (S (fmtN nm ++ fmtU kd))) ∧ Below w.heap.size w w' := by
  subst hk
  obtain ⟨RES, hRES⟩ : ∃ z, S (fmtN nm ++ fmtU 3) = z := ⟨_, rfl⟩
  rw [hRES]
  have habs : absD nm = nm := by unfold absD; rw [if_neg hn]
  unfold fmtN fmtU at hRES
  rw [if_neg hn, habs] at hRES
  rw [habs] at hf
  obtain ⟨a, rfl⟩ : ∃ a, a = nm := ⟨nm, rfl⟩
  have ha0 : 0 ≤ a := by omega
  have ha1 : a ≤ 1048999999 := by omega
  obtain ⟨d, hd⟩ : ∃ d, a.tdiv 1000 = d := ⟨_, rfl⟩
  obtain ⟨r, hr⟩ : ∃ d, a.tmod 1000 = d := ⟨_, rfl⟩
  have hda : d = a / 1000 := by rw [← hd]; exact Int.tdiv_eq_ediv_of_nonneg ha0
  have hra : r = a % 1000 := by rw [← hr]; exact Int.tmod_eq_emod_of_nonneg ha0
  have hd0 : 0 ≤ d := by omega
  have hd1 : d ≤ 1048999 := by omega
  have hr0 : 0 ≤ r := by omega
  have hr1 : r < 1000 := by omega
  rw [hd, hr] at hRES
  rw [hr] at hf
  have g1 := wrapS (a := d) (by omega) (by omega)
  have g2 := wrapS (a := 1000 + r) (by omega) (by omega)
  have g3 := wrapS (a := r) (by omega) (by omega)
  have hit := fun w E => itoa_any d (by omega) (by omega) w E
  have hil := itoaT_len d (by omega) (by omega)
  obtain ⟨sI, hI⟩ : ∃ z, S (itoaT d) = z := ⟨_, rfl⟩
  have hIz : sI.size ≤ 21 := by rw [← hI, S_size]; exact hil
  rw [hI] at hit
  obtain ⟨v1, t1⟩ : ∃ z, ({ data := #[] } : ByteArray) ++ sI = z := ⟨_, rfl⟩
  have l1 : v1 = S (([] : List UInt8) ++ itoaT d) := by rw [← t1, ← hI]; exact S_app [] _
  have z1 : v1.size ≤ 22 := by rw [← t1, ByteArray.size_append]; have : ({ data := #[] } : ByteArray).size = 0 := rfl; omega
  have q1 : ¬ ({ data := #[] } : ByteArray).size + sI.size > 9223372036854775807 := by have : ({ data := #[] } : ByteArray).size = 0 := rfl; omega
  subst hf
  rw [if_pos rfl, if_pos rfl] at hRES
  rw [List.append_nil] at hRES
  obtain ⟨v4, t4⟩ : ∃ z, v1 ++ ({ data := #[112, 120] } : ByteArray) = z := ⟨_, rfl⟩
  have q4 : ¬ v1.size + ({ data := #[112, 120] } : ByteArray).size > 9223372036854775807 := by have h9 : ({ data := #[112, 120] } : ByteArray).size ≤ 2 := (by decide); omega
  have hfin : v4 = RES := by rw [← hRES, ← t4, l1]; exact S_app _ [112, 120]
  have HF := Lib.hid hfin
  have HI := Lib.hid hit
  have HE := Lib.hid E
  have H0 := Lib.hid ((St.start w (Below.refl _ w)).new #[.int .i64 3, .int .i64 a, vQ wd] 68)
  clear hfin hit E hRES l1  hI hil hda hra 
  have d0 := H0.out.cell 0
  have d1 := H0.out.cell 1
  simp at d0 d1
  go_enter Tryz.func54, Tryz.ntmps54
  go_upto_region 4 with go_quiet (fail)
  have HQ := Lib.hid (H0.out.drewN nq)
  obtain ⟨Wa, hWa⟩ : ∃ W, (w.alloc (.cells #[.int .i64 3, .int .i64 a, vQ wd] 68)).drewN nq = W := ⟨_, rfl⟩
  rw [hWa] at HQ
  rw [hWa]
  clear hWa d0 d1 H0
  go_wp2_with (first
    | (go_at_call 83; refine (HI.out _ (HE.out.below HQ.out.bel)).mono ?_; rintro e w1 ⟨rfl, hb1⟩; have H1 := Lib.hid (HQ.out.of_below hb1); clear hb1; have d0 := H1.out.cell 0; simp at d0)
    | (go_at_call 83; refine (HI2.out _ (HE.out.below H1.out.bel)).mono ?_; rintro e w2 ⟨rfl, hb2⟩; have H2 := Lib.hid (H1.out.of_below hb2); clear hb2 d0; have d0 := H2.out.cell 0; simp at d0)
    | (go_at_call 84; refine (HT.out _).mono ?_; rintro e w3 ⟨rfl, hw3⟩; rw [hw3]; clear hw3))
  exact bodyPost_ret (results_tmp Tryz.results54 _ _ _) rfl ⟨by rw [← HF.out]; rfl, H1.out.bel⟩
set_option maxRecDepth 100000 in
set_option maxHeartbeats 4000000 in
theorem fmt_pi4 [Inhabited TbBox] (kd nm : Int) (wd : List UInt8) (h1 : ¬ kd = 1) (h6 : ¬ kd = 6) (hk : kd = 4) (hb0 : -1048999999 ≤ nm) (hb1 : nm ≤ 1048999999) (hn : ¬ nm < 0) (hf : (absD nm).tmod 1000 = 0) (w : World) (E : Env w) :
    Calls Tryz.prog 54 #[.agg #[.int .i64 kd, .int .i64 nm, vQ wd]] w fun e w' => e = .returned (.string (S (fmtN nm ++ fmtU kd))) ∧ Below w.heap.size w w' := by
  subst hk
  obtain ⟨RES, hRES⟩ : ∃ z, S (fmtN nm ++ fmtU 4) = z := ⟨_, rfl⟩
  rw [hRES]
  have habs : absD nm = nm := by unfold absD; rw [if_neg hn]
  unfold fmtN fmtU at hRES
  rw [if_neg hn, habs] at hRES
  rw [habs] at hf
  obtain ⟨a, rfl⟩ : ∃ a, a = nm := ⟨nm, rfl⟩
  have ha0 : 0 ≤ a := by omega
  have ha1 : a ≤ 1048999999 := by omega
  obtain ⟨d, hd⟩ : ∃ d, a.tdiv 1000 = d := ⟨_, rfl⟩
  obtain ⟨r, hr⟩ : ∃ d, a.tmod 1000 = d := ⟨_, rfl⟩
  have hda : d = a / 1000 := by rw [← hd]; exact Int.tdiv_eq_ediv_of_nonneg ha0
  have hra : r = a % 1000 := by rw [← hr]; exact Int.tmod_eq_emod_of_nonneg ha0
  have hd0 : 0 ≤ d := by omega
  have hd1 : d ≤ 1048999 := by omega
  have hr0 : 0 ≤ r := by omega
  have hr1 : r < 1000 := by omega
  rw [hd, hr] at hRES
  rw [hr] at hf
  have g1 := wrapS (a := d) (by omega) (by omega)
  have g2 := wrapS (a := 1000 + r) (by omega) (by omega)
  have g3 := wrapS (a := r) (by omega) (by omega)
  have hit := fun w E => itoa_any d (by omega) (by omega) w E
  have hil := itoaT_len d (by omega) (by omega)
  obtain ⟨sI, hI⟩ : ∃ z, S (itoaT d) = z := ⟨_, rfl⟩
  have hIz : sI.size ≤ 21 := by rw [← hI, S_size]; exact hil
  rw [hI] at hit
  obtain ⟨v1, t1⟩ : ∃ z, ({ data := #[] } : ByteArray) ++ sI = z := ⟨_, rfl⟩
  have l1 : v1 = S (([] : List UInt8) ++ itoaT d) := by rw [← t1, ← hI]; exact S_app [] _
  have z1 : v1.size ≤ 22 := by rw [← t1, ByteArray.size_append]; have : ({ data := #[] } : ByteArray).size = 0 := rfl; omega
  have q1 : ¬ ({ data := #[] } : ByteArray).size + sI.size > 9223372036854775807 := by have : ({ data := #[] } : ByteArray).size = 0 := rfl; omega
  subst hf
  rw [if_pos rfl, if_neg (by decide), if_pos rfl] at hRES
  rw [List.append_nil] at hRES
  obtain ⟨v4, t4⟩ : ∃ z, v1 ++ ({ data := #[101, 109] } : ByteArray) = z := ⟨_, rfl⟩
  have q4 : ¬ v1.size + ({ data := #[101, 109] } : ByteArray).size > 9223372036854775807 := by have h9 : ({ data := #[101, 109] } : ByteArray).size ≤ 2 := (by decide); omega
  have hfin : v4 = RES := by rw [← hRES, ← t4, l1]; exact S_app _ [101, 109]
  have HF := Lib.hid hfin
  have HI := Lib.hid hit
  have HE := Lib.hid E
  have H0 := Lib.hid ((St.start w (Below.refl _ w)).new #[.int .i64 4, .int .i64 a, vQ wd] 68)
  clear hfin hit E hRES l1  hI hil hda hra 
  have d0 := H0.out.cell 0
  have d1 := H0.out.cell 1
  simp at d0 d1
  go_enter Tryz.func54, Tryz.ntmps54
  go_upto_region 4 with go_quiet (fail)
  have HQ := Lib.hid (H0.out.drewN nq)
  obtain ⟨Wa, hWa⟩ : ∃ W, (w.alloc (.cells #[.int .i64 4, .int .i64 a, vQ wd] 68)).drewN nq = W := ⟨_, rfl⟩
  rw [hWa] at HQ
  rw [hWa]
  clear hWa d0 d1 H0
  go_wp2_with (first
    | (go_at_call 83; refine (HI.out _ (HE.out.below HQ.out.bel)).mono ?_; rintro e w1 ⟨rfl, hb1⟩; have H1 := Lib.hid (HQ.out.of_below hb1); clear hb1; have d0 := H1.out.cell 0; simp at d0)
    | (go_at_call 83; refine (HI2.out _ (HE.out.below H1.out.bel)).mono ?_; rintro e w2 ⟨rfl, hb2⟩; have H2 := Lib.hid (H1.out.of_below hb2); clear hb2 d0; have d0 := H2.out.cell 0; simp at d0)
    | (go_at_call 84; refine (HT.out _).mono ?_; rintro e w3 ⟨rfl, hw3⟩; rw [hw3]; clear hw3))
  exact bodyPost_ret (results_tmp Tryz.results54 _ _ _) rfl ⟨by rw [← HF.out]; rfl, H1.out.bel⟩
set_option maxRecDepth 100000 in
set_option maxHeartbeats 4000000 in
theorem fmt_pi5 [Inhabited TbBox] (kd nm : Int) (wd : List UInt8) (h1 : ¬ kd = 1) (h6 : ¬ kd = 6) (hk : kd = 5) (hb0 : -1048999999 ≤ nm) (hb1 : nm ≤ 1048999999) (hn : ¬ nm < 0) (hf : (absD nm).tmod 1000 = 0) (w : World) (E : Env w) :
    Calls Tryz.prog 54 #[.agg #[.int .i64 kd, .int .i64 nm, vQ wd]] w fun e w' => e = .returned (.string (S (fmtN nm ++ fmtU kd))) ∧ Below w.heap.size w w' := by
  subst hk
  obtain ⟨RES, hRES⟩ : ∃ z, S (fmtN nm ++ fmtU 5) = z := ⟨_, rfl⟩
  rw [hRES]
  have habs : absD nm = nm := by unfold absD; rw [if_neg hn]
  unfold fmtN fmtU at hRES
  rw [if_neg hn, habs] at hRES
  rw [habs] at hf
  obtain ⟨a, rfl⟩ : ∃ a, a = nm := ⟨nm, rfl⟩
  have ha0 : 0 ≤ a := by omega
  have ha1 : a ≤ 1048999999 := by omega
  obtain ⟨d, hd⟩ : ∃ d, a.tdiv 1000 = d := ⟨_, rfl⟩
  obtain ⟨r, hr⟩ : ∃ d, a.tmod 1000 = d := ⟨_, rfl⟩
  have hda : d = a / 1000 := by rw [← hd]; exact Int.tdiv_eq_ediv_of_nonneg ha0
  have hra : r = a % 1000 := by rw [← hr]; exact Int.tmod_eq_emod_of_nonneg ha0
  have hd0 : 0 ≤ d := by omega
  have hd1 : d ≤ 1048999 := by omega
  have hr0 : 0 ≤ r := by omega
  have hr1 : r < 1000 := by omega
  rw [hd, hr] at hRES
  rw [hr] at hf
  have g1 := wrapS (a := d) (by omega) (by omega)
  have g2 := wrapS (a := 1000 + r) (by omega) (by omega)
  have g3 := wrapS (a := r) (by omega) (by omega)
  have hit := fun w E => itoa_any d (by omega) (by omega) w E
  have hil := itoaT_len d (by omega) (by omega)
  obtain ⟨sI, hI⟩ : ∃ z, S (itoaT d) = z := ⟨_, rfl⟩
  have hIz : sI.size ≤ 21 := by rw [← hI, S_size]; exact hil
  rw [hI] at hit
  obtain ⟨v1, t1⟩ : ∃ z, ({ data := #[] } : ByteArray) ++ sI = z := ⟨_, rfl⟩
  have l1 : v1 = S (([] : List UInt8) ++ itoaT d) := by rw [← t1, ← hI]; exact S_app [] _
  have z1 : v1.size ≤ 22 := by rw [← t1, ByteArray.size_append]; have : ({ data := #[] } : ByteArray).size = 0 := rfl; omega
  have q1 : ¬ ({ data := #[] } : ByteArray).size + sI.size > 9223372036854775807 := by have : ({ data := #[] } : ByteArray).size = 0 := rfl; omega
  subst hf
  rw [if_pos rfl, if_neg (by decide), if_neg (by decide), if_pos rfl] at hRES
  rw [List.append_nil] at hRES
  obtain ⟨v4, t4⟩ : ∃ z, v1 ++ ({ data := #[37] } : ByteArray) = z := ⟨_, rfl⟩
  have q4 : ¬ v1.size + ({ data := #[37] } : ByteArray).size > 9223372036854775807 := by have h9 : ({ data := #[37] } : ByteArray).size ≤ 2 := (by decide); omega
  have hfin : v4 = RES := by rw [← hRES, ← t4, l1]; exact S_app _ [37]
  have HF := Lib.hid hfin
  have HI := Lib.hid hit
  have HE := Lib.hid E
  have H0 := Lib.hid ((St.start w (Below.refl _ w)).new #[.int .i64 5, .int .i64 a, vQ wd] 68)
  clear hfin hit E hRES l1  hI hil hda hra 
  have d0 := H0.out.cell 0
  have d1 := H0.out.cell 1
  simp at d0 d1
  go_enter Tryz.func54, Tryz.ntmps54
  go_upto_region 4 with go_quiet (fail)
  have HQ := Lib.hid (H0.out.drewN nq)
  obtain ⟨Wa, hWa⟩ : ∃ W, (w.alloc (.cells #[.int .i64 5, .int .i64 a, vQ wd] 68)).drewN nq = W := ⟨_, rfl⟩
  rw [hWa] at HQ
  rw [hWa]
  clear hWa d0 d1 H0
  go_wp2_with (first
    | (go_at_call 83; refine (HI.out _ (HE.out.below HQ.out.bel)).mono ?_; rintro e w1 ⟨rfl, hb1⟩; have H1 := Lib.hid (HQ.out.of_below hb1); clear hb1; have d0 := H1.out.cell 0; simp at d0)
    | (go_at_call 83; refine (HI2.out _ (HE.out.below H1.out.bel)).mono ?_; rintro e w2 ⟨rfl, hb2⟩; have H2 := Lib.hid (H1.out.of_below hb2); clear hb2 d0; have d0 := H2.out.cell 0; simp at d0)
    | (go_at_call 84; refine (HT.out _).mono ?_; rintro e w3 ⟨rfl, hw3⟩; rw [hw3]; clear hw3))
  exact bodyPost_ret (results_tmp Tryz.results54 _ _ _) rfl ⟨by rw [← HF.out]; rfl, H1.out.bel⟩
set_option maxRecDepth 100000 in
set_option maxHeartbeats 4000000 in
theorem fmt_pio [Inhabited TbBox] (kd nm : Int) (wd : List UInt8) (h1 : ¬ kd = 1) (h6 : ¬ kd = 6) (k3 : ¬ kd = 3) (k4 : ¬ kd = 4) (k5 : ¬ kd = 5) (hb0 : -1048999999 ≤ nm) (hb1 : nm ≤ 1048999999) (hn : ¬ nm < 0) (hf : (absD nm).tmod 1000 = 0) (w : World) (E : Env w) :
    Calls Tryz.prog 54 #[.agg #[.int .i64 kd, .int .i64 nm, vQ wd]] w fun e w' => e = .returned (.string (S (fmtN nm ++ fmtU kd))) ∧ Below w.heap.size w w' := by
  have e1 : (kd == 1) = false := by rw [beq_eq_false_iff_ne]; exact h1
  have e6 : (kd == 6) = false := by rw [beq_eq_false_iff_ne]; exact h6
  have e3 : (kd == 3) = false := by rw [beq_eq_false_iff_ne]; exact k3
  have e4 : (kd == 4) = false := by rw [beq_eq_false_iff_ne]; exact k4
  have e5 : (kd == 5) = false := by rw [beq_eq_false_iff_ne]; exact k5
  obtain ⟨RES, hRES⟩ : ∃ z, S (fmtN nm ++ fmtU kd) = z := ⟨_, rfl⟩
  rw [hRES]
  have habs : absD nm = nm := by unfold absD; rw [if_neg hn]
  unfold fmtN fmtU at hRES
  rw [if_neg hn, habs] at hRES
  rw [habs] at hf
  obtain ⟨a, rfl⟩ : ∃ a, a = nm := ⟨nm, rfl⟩
  have ha0 : 0 ≤ a := by omega
  have ha1 : a ≤ 1048999999 := by omega
  obtain ⟨d, hd⟩ : ∃ d, a.tdiv 1000 = d := ⟨_, rfl⟩
  obtain ⟨r, hr⟩ : ∃ d, a.tmod 1000 = d := ⟨_, rfl⟩
  have hda : d = a / 1000 := by rw [← hd]; exact Int.tdiv_eq_ediv_of_nonneg ha0
  have hra : r = a % 1000 := by rw [← hr]; exact Int.tmod_eq_emod_of_nonneg ha0
  have hd0 : 0 ≤ d := by omega
  have hd1 : d ≤ 1048999 := by omega
  have hr0 : 0 ≤ r := by omega
  have hr1 : r < 1000 := by omega
  rw [hd, hr] at hRES
  rw [hr] at hf
  have g1 := wrapS (a := d) (by omega) (by omega)
  have g2 := wrapS (a := 1000 + r) (by omega) (by omega)
  have g3 := wrapS (a := r) (by omega) (by omega)
  have hit := fun w E => itoa_any d (by omega) (by omega) w E
  have hil := itoaT_len d (by omega) (by omega)
  obtain ⟨sI, hI⟩ : ∃ z, S (itoaT d) = z := ⟨_, rfl⟩
  have hIz : sI.size ≤ 21 := by rw [← hI, S_size]; exact hil
  rw [hI] at hit
  obtain ⟨v1, t1⟩ : ∃ z, ({ data := #[] } : ByteArray) ++ sI = z := ⟨_, rfl⟩
  have l1 : v1 = S (([] : List UInt8) ++ itoaT d) := by rw [← t1, ← hI]; exact S_app [] _
  have z1 : v1.size ≤ 22 := by rw [← t1, ByteArray.size_append]; have : ({ data := #[] } : ByteArray).size = 0 := rfl; omega
  have q1 : ¬ ({ data := #[] } : ByteArray).size + sI.size > 9223372036854775807 := by have : ({ data := #[] } : ByteArray).size = 0 := rfl; omega
  subst hf
  rw [if_pos rfl, if_neg k3, if_neg k4, if_neg k5] at hRES
  rw [List.append_nil] at hRES
  rw [List.append_nil] at hRES
  have hfin : v1 = RES := by rw [← hRES, l1]
  have HF := Lib.hid hfin
  have HI := Lib.hid hit
  have HE := Lib.hid E
  have H0 := Lib.hid ((St.start w (Below.refl _ w)).new #[.int .i64 kd, .int .i64 a, vQ wd] 68)
  clear hfin hit E hRES l1  hI hil hda hra k3 k4 k5
  have d0 := H0.out.cell 0
  have d1 := H0.out.cell 1
  simp at d0 d1
  go_enter Tryz.func54, Tryz.ntmps54
  go_upto_region 4 with go_quiet (fail)
  have HQ := Lib.hid (H0.out.drewN nq)
  obtain ⟨Wa, hWa⟩ : ∃ W, (w.alloc (.cells #[.int .i64 kd, .int .i64 a, vQ wd] 68)).drewN nq = W := ⟨_, rfl⟩
  rw [hWa] at HQ
  rw [hWa]
  clear hWa d0 d1 H0
  go_wp2_with (first
    | (go_at_call 83; refine (HI.out _ (HE.out.below HQ.out.bel)).mono ?_; rintro e w1 ⟨rfl, hb1⟩; have H1 := Lib.hid (HQ.out.of_below hb1); clear hb1; have d0 := H1.out.cell 0; simp at d0)
    | (go_at_call 83; refine (HI2.out _ (HE.out.below H1.out.bel)).mono ?_; rintro e w2 ⟨rfl, hb2⟩; have H2 := Lib.hid (H1.out.of_below hb2); clear hb2 d0; have d0 := H2.out.cell 0; simp at d0)
    | (go_at_call 84; refine (HT.out _).mono ?_; rintro e w3 ⟨rfl, hw3⟩; rw [hw3]; clear hw3))
  exact bodyPost_ret (results_tmp Tryz.results54 _ _ _) rfl ⟨by rw [← HF.out]; rfl, H1.out.bel⟩
theorem fmt_any [Inhabited TbBox] (v : Va) (hb0 : -1048999999 ≤ v.nm) (hb1 : v.nm ≤ 1048999999) (w : World) (E : Env w) : Calls Tryz.prog 54 #[.agg v.cells] w fun e w' => e = .returned (.string (S (fmtM v))) ∧ Below w.heap.size w w' := by
  obtain ⟨kd, nm, wd⟩ := v
  unfold fmtM Va.cells
  simp only at hb0 hb1 ⊢
  by_cases h : kd = 1 ∨ kd = 6
  · rw [if_pos h]; exact fmt_word kd nm wd h w
  rw [if_neg h]
  have h1 : ¬ kd = 1 := fun q => h (.inl q)
  have h6 : ¬ kd = 6 := fun q => h (.inr q)
  by_cases hn : nm < 0
  · by_cases hf : (absD nm).tmod 1000 = 0
    · by_cases k3 : kd = 3
      · exact fmt_ni3 kd nm wd h1 h6 k3 hb0 hb1 hn hf w E
      by_cases k4 : kd = 4
      · exact fmt_ni4 kd nm wd h1 h6 k4 hb0 hb1 hn hf w E
      by_cases k5 : kd = 5
      · exact fmt_ni5 kd nm wd h1 h6 k5 hb0 hb1 hn hf w E
      · exact fmt_nio kd nm wd h1 h6 k3 k4 k5 hb0 hb1 hn hf w E
    · by_cases k3 : kd = 3
      · exact fmt_nf3 kd nm wd h1 h6 k3 hb0 hb1 hn hf w E
      by_cases k4 : kd = 4
      · exact fmt_nf4 kd nm wd h1 h6 k4 hb0 hb1 hn hf w E
      by_cases k5 : kd = 5
      · exact fmt_nf5 kd nm wd h1 h6 k5 hb0 hb1 hn hf w E
      · exact fmt_nfo kd nm wd h1 h6 k3 k4 k5 hb0 hb1 hn hf w E
  · by_cases hf : (absD nm).tmod 1000 = 0
    · by_cases k3 : kd = 3
      · exact fmt_pi3 kd nm wd h1 h6 k3 hb0 hb1 hn hf w E
      by_cases k4 : kd = 4
      · exact fmt_pi4 kd nm wd h1 h6 k4 hb0 hb1 hn hf w E
      by_cases k5 : kd = 5
      · exact fmt_pi5 kd nm wd h1 h6 k5 hb0 hb1 hn hf w E
      · exact fmt_pio kd nm wd h1 h6 k3 k4 k5 hb0 hb1 hn hf w E
    · by_cases k3 : kd = 3
      · exact fmt_pf3 kd nm wd h1 h6 k3 hb0 hb1 hn hf w E
      by_cases k4 : kd = 4
      · exact fmt_pf4 kd nm wd h1 h6 k4 hb0 hb1 hn hf w E
      by_cases k5 : kd = 5
      · exact fmt_pf5 kd nm wd h1 h6 k5 hb0 hb1 hn hf w E
      · exact fmt_pfo kd nm wd h1 h6 k3 k4 k5 hb0 hb1 hn hf w E
end Go.Proofs.YtldembadjgibjaaGreatDoor
