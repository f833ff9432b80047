/-
  Cascade: the walk of the law CascadeInherits, over what its callees answer.
-/
import Derived.Test.YtldembadjgibjaaGreatDoorBk
import Derived.Test.YtldembadjgibjaaGreatDoorKc
import Derived.Test.YtldembadjgibjaaGreatDoorKb
set_option linter.unusedVariables false
set_option linter.unusedSimpArgs false
namespace Go.Proofs.YtldembadjgibjaaGreatDoor
open Go.RowKit Go.K Go.PlainAid Go.Lib

theorem sz28 : (Tryz.prog.info? 28).map (·.size) = some 53 := by kernel_rfl
abbrev y28 : Array Value := #[.int .i64 0, .int .i64 0, .int .i64 0, .int .i64 0, .int .i64 0, .int .i64 0, .int .i64 0, .int .i64 0, .int .i64 0, .int .i64 0, .int .i64 0, .int .i64 0, .int .i64 0, .int .i64 0, .int .i64 0, .int .i64 0, .int .i64 0, .int .i64 0, .int .i64 0, .int .i64 0, .int .i64 0, .int .i64 0, .int .i64 0, .int .i64 0, .int .i64 0, .int .i64 0, .int .i64 0, .int .i64 0, .int .i64 0, .int .i64 0, .int .i64 0, .int .i64 0, .int .i64 0, .int .i64 0, .string ⟨#[]⟩, .string ⟨#[]⟩, .string ⟨#[]⟩, .int .i64 0, .int .i64 0, .int .i64 0, .int .i64 0, .int .i64 0, .int .i64 0, .bool false, .int .i64 0, .int .i64 0, .int .i64 0, .int .i64 0, .int .i64 0, .int .i64 0, .bool false, .int .i64 0, .int .i64 0]
/-- what stands behind each name in the text of all properties -/
abbrev tailT : List UInt8 := [58, 32, 105, 110, 104, 101, 114, 105, 116, 59, 32]
/-- the fields that are inherited -/
def setsL (A : Array Value) (c : ByteArray) (a b d e f : Int) : Array Value := ((((((A.setIfInBounds 35 (.string c)).setIfInBounds 34 (.string c)).setIfInBounds 37 (.int .i64 a)).setIfInBounds 38 (.int .i64 b)).setIfInBounds 39 (.int .i64 d)).setIfInBounds 40 (.int .i64 e)).setIfInBounds 52 (.int .i64 f)
set_option maxRecDepth 100000 in
theorem law_long (sv : ByteArray) (hlen : (600 : Int) < sv.size) (w : World)
    (haw : ∀ w', St w w' [] → Calls Tryz.prog 5 #[] w' fun e w'' => e = .returned (.bool true) ∧ St w w'' []) :
    Calls Tryz.prog 3 #[.string sv] w fun e w' => e = .returned (.bool true) ∧ Below w.heap.size w w' := by
  have Xhaw := Lib.hid haw
  have H0 := Lib.hid (St.start w (Below.refl _ w))
  clear haw
  go_enter Tryz.func3, Tryz.ntmps3
  go_upto_if 15 with (first | (go_at_call 5; refine (Xhaw.out _ H0.out).mono ?_; rintro e w1 ⟨rfl, h1⟩; have H1 := Lib.hid h1; clear h1) | fail)
  go_wp2_with (first | (go_at_call 5; refine (Xhaw.out _ H1.out).mono ?_; rintro e w2 ⟨rfl, h2⟩; have H2 := Lib.hid h2; clear h2) | fail)
  exact bodyPost_ret (results_tmp Tryz.results3 _ _ _) rfl ⟨rfl, H2.out.bel⟩
set_option maxRecDepth 100000 in
set_option maxHeartbeats 4000000 in
theorem law_walk (sv : ByteArray) (hlen : ¬ (600 : Int) < sv.size) (w : World) (INI : List Value) (UP : List Value) (lUP : UP.length = 53) (oUP : ∀ v ∈ UP, v.oneCell' = true) (P4 : List Value) (lP4 : P4.length = 53) (oP4 : ∀ v ∈ P4, v.oneCell' = true) (P5 : List Value) (lP5 : P5.length = 53) (oP5 : ∀ v ∈ P5, v.oneCell' = true)
    (cc : ByteArray) (i37 i38 i39 i40 i52 : Int)
    (u35 : UP[35]? = some (.string cc)) (u37 : UP[37]? = some (.int .i64 i37)) (u38 : UP[38]? = some (.int .i64 i38)) (u39 : UP[39]? = some (.int .i64 i39)) (u40 : UP[40]? = some (.int .i64 i40)) (u52 : UP[52]? = some (.int .i64 i52))
    (A0 A1 A2 A3 A4 A5 A6 : Array Value) (g0 : P5.toArray = A0) (g1 : A0.setIfInBounds 35 (.string cc) = A1) (g2 : A1.setIfInBounds 34 (.string cc) = A2) (g3 : A2.setIfInBounds 37 (.int .i64 i37) = A3) (g4 : A3.setIfInBounds 38 (.int .i64 i38) = A4) (g5 : A4.setIfInBounds 39 (.int .i64 i39) = A5) (g6 : A5.setIfInBounds 40 (.int .i64 i40) = A6) (g7 : A6.setIfInBounds 52 (.int .i64 i52) = P4.toArray)
    (nD nX : Nat) (D DX : List Value) (tx : Nat → List UInt8) (nm : List (List UInt8)) (hnm : nm.length = 37)
    (ht0 : tx 0 = []) (hts : ∀ k n, nm[k]? = some n → tx (k + 1) = tx k ++ (n ++ tailT)) (htl : ∀ k, (tx k).length ≤ 40 * k) (hnl : ∀ n ∈ nm, n.length ≤ 29)
    (haw : ∀ w', St w w' [] → Calls Tryz.prog 5 #[] w' fun e w'' => e = .returned (.bool true) ∧ St w w'' [])
    (hde : ∀ w', Below w.heap.size w w' → Calls Tryz.prog 7 #[.string sv] w' fun e w'' => ∃ sl c, e = .returned (.slice sl nD c) ∧ K.Own w' w'' 70 5 sl nD c D)
    (hdx : ∀ w', Below w.heap.size w w' → Calls Tryz.prog 7 #[.string (S (tx 37))] w' fun e w'' => ∃ sl c, e = .returned (.slice sl nX c) ∧ K.Own w' w'' 70 5 sl nX c DX)
    (hin : ∀ w' L, St w w' L → Calls Tryz.prog 8 #[] w' fun e w'' => e = .returned (.agg INI.toArray) ∧ St w w'' L)
    (ha1 : ∀ sl c w' L, St w w' (As.row 70 5 sl nD c D :: L) → Calls Tryz.prog 6 #[.slice sl nD c, .agg INI.toArray] w' fun e w'' => e = .returned (.agg UP.toArray) ∧ St w w'' (As.row 70 5 sl nD c D :: L))
    (ha2 : ∀ w' L, St w w' L → Calls Tryz.prog 6 #[.slice none 0 0, .agg UP.toArray] w' fun e w'' => e = .returned (.agg P4.toArray) ∧ St w w'' L)
    (ha3 : ∀ w' L, St w w' L → Calls Tryz.prog 6 #[.slice none 0 0, .agg INI.toArray] w' fun e w'' => e = .returned (.agg P5.toArray) ∧ St w w'' L)
    (ha4 : ∀ sl c w' L, St w w' (As.row 70 5 sl nX c DX :: L) → Calls Tryz.prog 6 #[.slice sl nX c, .agg UP.toArray] w' fun e w'' => e = .returned (.agg UP.toArray) ∧ St w w'' (As.row 70 5 sl nX c DX :: L))
    (hpr : ∀ w', Below w.heap.size w w' → Calls Tryz.prog 9 #[] w' fun e w'' => ∃ sl c, e = .returned (.slice sl 37 c) ∧ K.Own w' w'' 9 1 sl 37 c (nm.map vS))
    (hne : ∀ w, (binOp .neq 28 (.agg P4.toArray) (.agg P4.toArray)).run Tryz.prog w = .ok (.bool false) w)
    (heq : ∀ w, (binOp .eql 28 (.agg UP.toArray) (.agg UP.toArray)).run Tryz.prog w = .ok (.bool true) w) :
    Calls Tryz.prog 3 #[.string sv] w fun e w' => e = .returned (.bool true) ∧ Below w.heap.size w w' := by
  have XlUP := Lib.hid lUP
  have XoUP := Lib.hid oUP
  have XlP4 := Lib.hid lP4
  have XoP4 := Lib.hid oP4
  have XlP5 := Lib.hid lP5
  have XoP5 := Lib.hid oP5
  have Xu35 := Lib.hid u35
  have Xu37 := Lib.hid u37
  have Xu38 := Lib.hid u38
  have Xu39 := Lib.hid u39
  have Xu40 := Lib.hid u40
  have Xu52 := Lib.hid u52
  have Xg0 := Lib.hid g0
  have Xg1 := Lib.hid g1
  have Xg2 := Lib.hid g2
  have Xg3 := Lib.hid g3
  have Xg4 := Lib.hid g4
  have Xg5 := Lib.hid g5
  have Xg6 := Lib.hid g6
  have Xg7 := Lib.hid g7
  have Xhnm := Lib.hid hnm
  have Xht0 := Lib.hid ht0
  have Xhts := Lib.hid hts
  have Xhtl := Lib.hid htl
  have Xhnl := Lib.hid hnl
  have Xhaw := Lib.hid haw
  have Xhde := Lib.hid hde
  have Xhdx := Lib.hid hdx
  have Xhin := Lib.hid hin
  have Xha1 := Lib.hid ha1
  have Xha2 := Lib.hid ha2
  have Xha3 := Lib.hid ha3
  have Xha4 := Lib.hid ha4
  have Xhpr := Lib.hid hpr
  have Xhne := Lib.hid hne
  have Xheq := Lib.hid heq
  have H0 := Lib.hid (St.start w (Below.refl _ w))
  clear lUP oUP lP4 oP4 lP5 oP5 u35 u37 u38 u39 u40 u52 g0 g1 g2 g3 g4 g5 g6 g7 hnm ht0 hts htl hnl haw hde hdx hin ha1 ha2 ha3 ha4 hpr hne heq
  go_enter Tryz.func3, Tryz.ntmps3
  go_upto_if 15 with (first | (go_at_call 5; refine (Xhaw.out _ H0.out).mono ?_; rintro e w1 ⟨rfl, h1⟩; have H1 := Lib.hid h1; clear h1) | fail)
  clear H0
  go_upto_region 4 with (first
    | (go_at_call 7; refine (Xhde.out _ H1.out.bel).mono ?_; rintro e w2 ⟨sl, c, rfl, ho⟩; have H2 := Lib.hid (H1.out.own_new ho); clear ho)
    | (go_at_call 8; refine (Xhin.out _ _ H2.out).mono ?_; rintro e w3 ⟨rfl, h3⟩; have H3 := Lib.hid h3; clear h3)
    | (go_at_call 6; refine (Xha1.out _ _ _ _ H3.out).mono ?_; rintro e w4 ⟨rfl, h4⟩; have H4 := Lib.hid (h4.drop.new y28 28); clear h4)
    | (refine st_store rfl (.tmp 3) (.tmp 20) rfl H4.out UP rfl rfl rfl XlUP.out sz28 XoUP.out ?_; intro W5 HW5; have H5 := Lib.hid HW5; clear HW5)
    | fail)
  obtain ⟨b3, hb3⟩ : ∃ z, w4.heap.size = z := ⟨_, rfl⟩
  rw [hb3] at H5
  simp only [hb3]
  clear hb3 H4 H3 H2 H1 Xhde Xha1 hlen
  go_upto_region 5 with (first
    | (refine st_load rfl (.tmp 3) rfl UP H5.out (.head _) rfl XlUP.out Tryz.underlying28 rfl sz28 ?_)
    | (go_at_call 6; refine (Xha2.out _ _ H5.out).mono ?_; rintro e w6 ⟨rfl, h6⟩; have H6 := Lib.hid (h6.new y28 28); clear h6)
    | (refine st_store rfl (.tmp 4) (.tmp 22) rfl H6.out P4 rfl rfl rfl XlP4.out sz28 XoP4.out ?_; intro W7 HW7; have H7 := Lib.hid HW7; clear HW7)
    | fail)
  obtain ⟨b4, hb4⟩ : ∃ z, w6.heap.size = z := ⟨_, rfl⟩
  rw [hb4] at H7
  simp only [hb4]
  clear hb4 H6 H5 Xha2
  go_upto_region 6 with (first
    | (go_at_call 8; refine (Xhin.out _ _ H7.out).mono ?_; rintro e w8 ⟨rfl, h8⟩; have H8 := Lib.hid h8; clear h8)
    | (go_at_call 6; refine (Xha3.out _ _ H8.out).mono ?_; rintro e w9 ⟨rfl, h9⟩; have H9 := Lib.hid (h9.new y28 28); clear h9)
    | (refine st_store rfl (.tmp 5) (.tmp 24) rfl H9.out P5 rfl rfl rfl XlP5.out sz28 XoP5.out ?_; intro V0 HV0; have K0 := Lib.hid HV0; clear HV0)
    | fail)
  obtain ⟨b5, hb5⟩ : ∃ z, w9.heap.size = z := ⟨_, rfl⟩
  rw [hb5] at K0
  simp only [hb5]
  clear hb5 H9 H8 H7 Xha3 Xhin
  have Z0 := Lib.hid (show A0.size = 53 from by rw [← Xg0.out, List.size_toArray]; exact XlP5.out)
  rw [Xg0.out] at K0
  have hl0 : V0.cell? ⟨b3, 35, none⟩ = some (.string cc) := (K0.out.front2.cell 35).trans (by rw [List.getElem?_toArray]; exact Xu35.out)
  have hd0 : V0.cell? ⟨b5, 35, none⟩ = some (A0[35]'(by have := Z0.out; omega)) := (K0.out.cell 35).trans (Array.getElem?_eq_getElem _)
  have hf0 := K0.out.free 35
  obtain ⟨q0, hq0⟩ : ∃ z, A0[35]'(by have := Z0.out; omega) = z := ⟨_, rfl⟩
  rw [hq0] at hd0; clear hq0
  go_upto_region 7 with fail
  obtain ⟨V1, hV1⟩ : ∃ z, V0.setCell ⟨b5, 35, none⟩ (.string cc) = z := ⟨_, rfl⟩
  rw [hV1]
  have hK1 := K0.out.set 35 (.string cc)
  rw [hV1] at hK1
  have Z1 := Lib.hid (show A1.size = 53 from by rw [← Xg1.out, Array.size_setIfInBounds]; exact Z0.out)
  rw [Xg1.out] at hK1
  have K1 := Lib.hid hK1
  clear hV1 hK1 hl0 hd0 hf0 K0
  have hl1 : V1.cell? ⟨b3, 35, none⟩ = some (.string cc) := (K1.out.front2.cell 35).trans (by rw [List.getElem?_toArray]; exact Xu35.out)
  have hd1 : V1.cell? ⟨b5, 34, none⟩ = some (A1[34]'(by have := Z1.out; omega)) := (K1.out.cell 34).trans (Array.getElem?_eq_getElem _)
  have hf1 := K1.out.free 34
  obtain ⟨q1, hq1⟩ : ∃ z, A1[34]'(by have := Z1.out; omega) = z := ⟨_, rfl⟩
  rw [hq1] at hd1; clear hq1
  go_upto_region 8 with fail
  obtain ⟨V2, hV2⟩ : ∃ z, V1.setCell ⟨b5, 34, none⟩ (.string cc) = z := ⟨_, rfl⟩
  rw [hV2]
  have hK2 := K1.out.set 34 (.string cc)
  rw [hV2] at hK2
  have Z2 := Lib.hid (show A2.size = 53 from by rw [← Xg2.out, Array.size_setIfInBounds]; exact Z1.out)
  rw [Xg2.out] at hK2
  have K2 := Lib.hid hK2
  clear hV2 hK2 hl1 hd1 hf1 K1
  have hl2 : V2.cell? ⟨b3, 37, none⟩ = some (.int .i64 i37) := (K2.out.front2.cell 37).trans (by rw [List.getElem?_toArray]; exact Xu37.out)
  have hd2 : V2.cell? ⟨b5, 37, none⟩ = some (A2[37]'(by have := Z2.out; omega)) := (K2.out.cell 37).trans (Array.getElem?_eq_getElem _)
  have hf2 := K2.out.free 37
  obtain ⟨q2, hq2⟩ : ∃ z, A2[37]'(by have := Z2.out; omega) = z := ⟨_, rfl⟩
  rw [hq2] at hd2; clear hq2
  go_upto_region 9 with fail
  obtain ⟨V3, hV3⟩ : ∃ z, V2.setCell ⟨b5, 37, none⟩ (.int .i64 i37) = z := ⟨_, rfl⟩
  rw [hV3]
  have hK3 := K2.out.set 37 (.int .i64 i37)
  rw [hV3] at hK3
  have Z3 := Lib.hid (show A3.size = 53 from by rw [← Xg3.out, Array.size_setIfInBounds]; exact Z2.out)
  rw [Xg3.out] at hK3
  have K3 := Lib.hid hK3
  clear hV3 hK3 hl2 hd2 hf2 K2
  have hl3 : V3.cell? ⟨b3, 38, none⟩ = some (.int .i64 i38) := (K3.out.front2.cell 38).trans (by rw [List.getElem?_toArray]; exact Xu38.out)
  have hd3 : V3.cell? ⟨b5, 38, none⟩ = some (A3[38]'(by have := Z3.out; omega)) := (K3.out.cell 38).trans (Array.getElem?_eq_getElem _)
  have hf3 := K3.out.free 38
  obtain ⟨q3, hq3⟩ : ∃ z, A3[38]'(by have := Z3.out; omega) = z := ⟨_, rfl⟩
  rw [hq3] at hd3; clear hq3
  go_upto_region 10 with fail
  obtain ⟨V4, hV4⟩ : ∃ z, V3.setCell ⟨b5, 38, none⟩ (.int .i64 i38) = z := ⟨_, rfl⟩
  rw [hV4]
  have hK4 := K3.out.set 38 (.int .i64 i38)
  rw [hV4] at hK4
  have Z4 := Lib.hid (show A4.size = 53 from by rw [← Xg4.out, Array.size_setIfInBounds]; exact Z3.out)
  rw [Xg4.out] at hK4
  have K4 := Lib.hid hK4
  clear hV4 hK4 hl3 hd3 hf3 K3
  have hl4 : V4.cell? ⟨b3, 39, none⟩ = some (.int .i64 i39) := (K4.out.front2.cell 39).trans (by rw [List.getElem?_toArray]; exact Xu39.out)
  have hd4 : V4.cell? ⟨b5, 39, none⟩ = some (A4[39]'(by have := Z4.out; omega)) := (K4.out.cell 39).trans (Array.getElem?_eq_getElem _)
  have hf4 := K4.out.free 39
  obtain ⟨q4, hq4⟩ : ∃ z, A4[39]'(by have := Z4.out; omega) = z := ⟨_, rfl⟩
  rw [hq4] at hd4; clear hq4
  go_upto_region 11 with fail
  obtain ⟨V5, hV5⟩ : ∃ z, V4.setCell ⟨b5, 39, none⟩ (.int .i64 i39) = z := ⟨_, rfl⟩
  rw [hV5]
  have hK5 := K4.out.set 39 (.int .i64 i39)
  rw [hV5] at hK5
  have Z5 := Lib.hid (show A5.size = 53 from by rw [← Xg5.out, Array.size_setIfInBounds]; exact Z4.out)
  rw [Xg5.out] at hK5
  have K5 := Lib.hid hK5
  clear hV5 hK5 hl4 hd4 hf4 K4
  have hl5 : V5.cell? ⟨b3, 40, none⟩ = some (.int .i64 i40) := (K5.out.front2.cell 40).trans (by rw [List.getElem?_toArray]; exact Xu40.out)
  have hd5 : V5.cell? ⟨b5, 40, none⟩ = some (A5[40]'(by have := Z5.out; omega)) := (K5.out.cell 40).trans (Array.getElem?_eq_getElem _)
  have hf5 := K5.out.free 40
  obtain ⟨q5, hq5⟩ : ∃ z, A5[40]'(by have := Z5.out; omega) = z := ⟨_, rfl⟩
  rw [hq5] at hd5; clear hq5
  go_upto_region 12 with fail
  obtain ⟨V6, hV6⟩ : ∃ z, V5.setCell ⟨b5, 40, none⟩ (.int .i64 i40) = z := ⟨_, rfl⟩
  rw [hV6]
  have hK6 := K5.out.set 40 (.int .i64 i40)
  rw [hV6] at hK6
  have Z6 := Lib.hid (show A6.size = 53 from by rw [← Xg6.out, Array.size_setIfInBounds]; exact Z5.out)
  rw [Xg6.out] at hK6
  have K6 := Lib.hid hK6
  clear hV6 hK6 hl5 hd5 hf5 K5
  have hl6 : V6.cell? ⟨b3, 52, none⟩ = some (.int .i64 i52) := (K6.out.front2.cell 52).trans (by rw [List.getElem?_toArray]; exact Xu52.out)
  have hd6 : V6.cell? ⟨b5, 52, none⟩ = some (A6[52]'(by have := Z6.out; omega)) := (K6.out.cell 52).trans (Array.getElem?_eq_getElem _)
  have hf6 := K6.out.free 52
  obtain ⟨q6, hq6⟩ : ∃ z, A6[52]'(by have := Z6.out; omega) = z := ⟨_, rfl⟩
  rw [hq6] at hd6; clear hq6
  go_upto_region 13 with fail
  obtain ⟨V7, hV7⟩ : ∃ z, V6.setCell ⟨b5, 52, none⟩ (.int .i64 i52) = z := ⟨_, rfl⟩
  rw [hV7]
  have hK7 := K6.out.set 52 (.int .i64 i52)
  rw [hV7] at hK7
  rw [Xg7.out] at hK7
  have K7 := Lib.hid hK7
  clear hV7 hK7 hl6 hd6 hf6 K6
  clear Xg0 Xg1 Xg2 Xg3 Xg4 Xg5 Xg6 Xg7 Z0 Z1 Z2 Z3 Z4 Z5 Z6
  have hne := Xhne.out
  go_upto_if 48 with (first
    | (refine st_load rfl (.tmp 4) rfl P4 K7.out.swap (.head _) rfl XlP4.out Tryz.underlying28 rfl sz28 ?_)
    | (refine st_load rfl (.tmp 5) rfl P4 K7.out (.head _) rfl XlP4.out Tryz.underlying28 rfl sz28 ?_)
    | fail)
  clear hne
  have C3 := Lib.hid K7.out.drop.drop
  clear K7
  go_wp2_with (first
    | (go_at_call 9; refine (Xhpr.out _ C3.out.bel).mono ?_; rintro e w8 ⟨sl, c, rfl, ho⟩; have C4 := Lib.hid (C3.out.own_new ho); clear ho)
    | fail)
  go_loopg [6, 8] 37 (fun g v6 v8 wr => ∃ k : Nat, g = 37 - k ∧ k ≤ 37 ∧ v6 = .string (S (tx k)) ∧ v8 = .int .i64 (k : Int) ∧ St w wr [As.row 9 1 sl 37 c (nm.map vS), As.cells b3 UP.toArray 28])
  case atStart => exact ⟨0, rfl, Nat.zero_le _, by rw [Xht0.out], rfl, C4.out⟩
  case round =>
    obtain ⟨k, hg, hk, rfl, rfl, hS⟩ := hrel
    have HG := Lib.hid hg
    have HS := Lib.hid hS
    clear hg hS
    by_cases hkn : k < 37
    · obtain ⟨n, hn⟩ : ∃ n, nm[k]? = some n := ⟨_, List.getElem?_eq_getElem (by rw [Xhnm.out]; exact hkn)⟩
      have hkI : (k : Int) < 37 := by omega
      have g1 := wrapS (a := (k : Int) + 1) (by omega) (by omega)
      obtain ⟨gr, or, rfl, hcr⟩ := HS.out.sl.rd.addr (by omega)
      have hck : wr.cell? ⟨gr, or + k, none⟩ = some (.string (S n)) := hcr k (vS n) (by rw [List.getElem?_map, hn]; rfl)
      clear hcr
      have ex : tx (k + 1) = tx k ++ (n ++ tailT) := Xhts.out k n hn
      have lx := Xhtl.out (k + 1)
      rw [ex] at lx
      have el : (n ++ tailT).length = n.length + 11 := by simp
      have eb : (tx k ++ (n ++ tailT)).length = (tx k).length + (n ++ tailT).length := List.length_append
      obtain ⟨t1, q1⟩ : ∃ z, S n ++ ({ data := #[58, 32, 105, 110, 104, 101, 114, 105, 116, 59, 32] } : ByteArray) = z := ⟨_, rfl⟩
      have r1 : t1 = S (n ++ tailT) := by rw [← q1]; exact S_app _ _
      have z1 : t1.size = n.length + 11 := by rw [r1, S_size, el]
      have z0 : (S n).size = n.length := S_size _
      have zt : ({ data := #[58, 32, 105, 110, 104, 101, 114, 105, 116, 59, 32] } : ByteArray).size = 11 := rfl
      have p1 : ¬ (S n).size + ({ data := #[58, 32, 105, 110, 104, 101, 114, 105, 116, 59, 32] } : ByteArray).size > 9223372036854775807 := by omega
      obtain ⟨t2, q2⟩ : ∃ z, S (tx k) ++ t1 = z := ⟨_, rfl⟩
      have r2 : t2 = S (tx (k + 1)) := by rw [← q2, r1, ex]; exact S_app _ _
      have zk : (S (tx k)).size = (tx k).length := S_size _
      have p2 : ¬ (S (tx k)).size + t1.size > 9223372036854775807 := by omega
      have R2 := Lib.hid r2
      clear r1 r2 lx el eb ex
      obtain ⟨sn, hsn⟩ : ∃ z, S n = z := ⟨_, rfl⟩
      simp only [hsn] at hck q1 p1
      clear hsn z0
      obtain ⟨sk, hsk⟩ : ∃ z, S (tx k) = z := ⟨_, rfl⟩
      simp only [hsk] at q2 p2 ⊢
      clear hsk zk
      go_wp2_with fail
      go_roundg (37 - (k + 1))
      case measure => have := HG.out; omega
      case rel => exact ⟨k + 1, rfl, by omega, by rw [R2.out], by rw [Int.natCast_add]; rfl, HS.out⟩
    · have hke : k = 37 := by omega
      subst hke
      clear hkn hk
      have b3' := Lib.hid (HS.out.perm (List.Perm.swap _ _ _)).blk.1.range
      go_upto_region 21 with fail
      have hS : St w wr.drew [As.cells b3 UP.toArray 28] := HS.out.drop.drew
      clear HS HG
      refine wp_region_held (S := fun w' : World => St w w' [As.cells b3 UP.toArray 28]) (by kernel_rfl) ?_
      change wpAnyH _ _ _ _ _ _ _ _ (World.drew _)
      refine' wpAnyH_take (i := 0) (v := .string (S (tx 37))) rfl (by kernel_rfl) (by kernel_rfl) (by kernel_rfl) (fun _ _ _ h => h) (Or.inl ⟨by rfl, ?hy0⟩) hS ?rest0
      case hy0 => (intro w' hSw; go_simp; try with_reducible rfl)
      try simp only [Act.put, List.getElem_toArray, List.getElem_cons_zero, List.getElem_cons_succ, List.setIfInBounds_toArray, List.set_cons_zero, List.set_cons_succ]
      refine' wpAnyH_take (i := 2) (v := .agg UP.toArray) rfl (by kernel_rfl) (by kernel_rfl) (by kernel_rfl) (fun _ _ _ h => h) (yieldsIf_load_mid (by rfl) 28 (.tmp 3) rfl b3 0 rfl UP _ (fun w' hw => hw.blk.1.range) Tryz.underlying28 rfl (by rw [XlUP.out]; exact sz28)) hS ?rest2
      try simp only [Act.put, List.getElem_toArray, List.getElem_cons_zero, List.getElem_cons_succ, List.setIfInBounds_toArray, List.set_cons_zero, List.set_cons_succ]
      refine' wpAnyH_take (i := 4) (v := .agg UP.toArray) rfl (by kernel_rfl) (by kernel_rfl) (by kernel_rfl) (fun _ _ _ h => h) (yieldsIf_load_mid (by rfl) 28 (.tmp 3) rfl b3 0 rfl UP _ (fun w' hw => hw.blk.1.range) Tryz.underlying28 rfl (by rw [XlUP.out]; exact sz28)) hS ?rest4
      try simp only [Act.put, List.getElem_toArray, List.getElem_cons_zero, List.getElem_cons_succ, List.setIfInBounds_toArray, List.set_cons_zero, List.set_cons_succ]
      refine held1 (i := 1) rfl (by kernel_rfl) ?_
      apply hstep_callR (Xhdx.out _ hS.bel)
      case hg => rfl
      case ho => rfl
      case hf => exact Tryz.func7
      case hn => kernel_rfl
      case hb => kernel_rfl
      case ha => kernel_rfl
      rintro e w3 ⟨sl2, c2, rfl, ho⟩
      have H3 := Lib.hid (hS.own_new ho)
      clear hS ho
      refine ⟨_, rfl, H3.out.drop, ?_⟩
      try simp only [Act.put, List.getElem_toArray, List.getElem_cons_zero, List.getElem_cons_succ, List.setIfInBounds_toArray, List.set_cons_zero, List.set_cons_succ]
      refine held1 (i := 3) rfl (by kernel_rfl) ?_
      apply hstep_callR (Xha4.out _ _ _ _ H3.out)
      case hg => rfl
      case ho => rfl
      case hf => exact Tryz.func6
      case hn => kernel_rfl
      case hb => kernel_rfl
      case ha => kernel_rfl
      rintro e w4 ⟨rfl, h4⟩
      have hS := h4.drop
      refine ⟨_, rfl, hS, ?_⟩
      try simp only [Act.put, List.getElem_toArray, List.getElem_cons_zero, List.getElem_cons_succ, List.setIfInBounds_toArray, List.set_cons_zero, List.set_cons_succ]
      refine' wpAnyH_take (i := 5) (v := .bool true) rfl (by kernel_rfl) (by kernel_rfl) (by kernel_rfl) (fun _ _ _ h => h) (Or.inl ⟨by rfl, ?hy5⟩) hS ?rest5
      case hy5 => (intro w' hSw; have hh := Xheq.out; go_simp; try with_reducible rfl)
      try simp only [Act.put, List.getElem_toArray, List.getElem_cons_zero, List.getElem_cons_succ, List.setIfInBounds_toArray, List.set_cons_zero, List.set_cons_succ]
      refine' wpAnyH_take (i := 6) (v := .bool true) rfl (by kernel_rfl) (by kernel_rfl) (by kernel_rfl) (fun _ _ _ h => h) (Or.inl ⟨by rfl, ?hy6⟩) hS ?rest6
      case hy6 => (intro w' hSw; go_simp; try with_reducible rfl)
      try simp only [Act.put, List.getElem_toArray, List.getElem_cons_zero, List.getElem_cons_succ, List.setIfInBounds_toArray, List.set_cons_zero, List.set_cons_succ]
      refine wpAnyH_done (by kernel_rfl) ?_ _
      go_wp2_with fail
      exact bodyPost_ret (results_tmp Tryz.results3 _ _ _) rfl ⟨rfl, hS.bel⟩
theorem props_cells : tabE.map (fun x => vS x.1) = allN.map vS := by
  unfold allN
  rw [List.map_map]
  rfl
/-- the text of the first k properties -/
def txtK (k : Nat) : List UInt8 := (allN.take k).foldl (fun a n => a ++ (n ++ tailT)) []
theorem allN_len : allN.length = 37 := by unfold allN; rw [List.length_map]; rfl
theorem txt_all : txtK 37 = allT := by
  unfold txtK allT
  rw [List.take_of_length_le (by rw [allN_len]; exact Nat.le_refl _)]
theorem txt_step (k : Nat) (n : List UInt8) (h : allN[k]? = some n) : txtK (k + 1) = txtK k ++ (n ++ tailT) := by
  unfold txtK
  rw [List.take_add_one, h, List.foldl_append]
  rfl
theorem name_len : ∀ n ∈ allN, n.length ≤ 29 := by
  have : allN.all (fun n => decide (n.length ≤ 29)) = true := by decide +kernel
  intro n hn
  simpa using List.all_eq_true.1 this n hn
theorem txt_small : ∀ k, (txtK k).length ≤ 40 * k := by
  intro k
  induction k with
  | zero => exact Nat.le_refl _
  | succ k ih =>
    by_cases hk : k < allN.length
    · rw [txt_step k _ (List.getElem?_eq_getElem hk)]
      have := name_len _ (List.getElem_mem hk)
      simp only [List.length_append, List.length_cons, List.length_nil]
      omega
    · have e : txtK (k + 1) = txtK k := by
        unfold txtK
        rw [List.take_of_length_le (by omega), List.take_of_length_le (by omega)]
      rw [e]
      omega
theorem ini_lo : 0 ≤ iniS.I 37 := by decide +kernel
theorem ini_hi : iniS.I 37 ≤ 1000000 := by decide +kernel
theorem law_go [Inhabited TbBox] (own : List UInt8) (w : World) (E : Env w) (T : Tabs w) : Calls Tryz.prog 3 #[.string (S own)] w fun e w' => e = .returned (.bool true) ∧ Below w.heap.size w w' := by
  by_cases hlen : (600 : Int) < (S own).size
  · exact law_long (S own) hlen w (fun w' h => awake_any w w' [] h E)
  · have hl : own.length ≤ 4000 := by rw [S_size] at hlen; omega
    have htb : ∀ w', Below w.heap.size w w' → Tabs w' := fun w' hb => Utf8Tabs_below T hb
    have hup : 0 ≤ (applyM (lkOf (declsOf own)) iniS).I 37 ∧ (applyM (lkOf (declsOf own)) iniS).I 37 ≤ 1000000 := fontM_in _ _ ini_lo ini_hi
    refine law_walk (S own) hlen w iniS.cells (applyM (lkOf (declsOf own)) iniS).cells (Sty.len _) (Sty.one _) (applyM noLk (applyM (lkOf (declsOf own)) iniS)).cells (Sty.len _) (Sty.one _) (applyM noLk iniS).cells (Sty.len _) (Sty.one _)
      (S ((applyM (lkOf (declsOf own)) iniS).T 35)) ((applyM (lkOf (declsOf own)) iniS).I 37) ((applyM (lkOf (declsOf own)) iniS).I 38) ((applyM (lkOf (declsOf own)) iniS).I 39) ((applyM (lkOf (declsOf own)) iniS).I 40) ((applyM (lkOf (declsOf own)) iniS).I 52)
      (Sty.get _ 35 (by decide)) (Sty.get _ 37 (by decide)) (Sty.get _ 38 (by decide)) (Sty.get _ 39 (by decide)) (Sty.get _ 40 (by decide)) (Sty.get _ 52 (by decide))
      _ _ _ _ _ _ _ rfl rfl rfl rfl rfl rfl rfl (law1 _)
      (declsOf own).length (declsOf allT).length (flat De.cells (declsOf own)) (flat De.cells (declsOf allT)) txtK allN allN_len rfl txt_step txt_small name_len
      (fun w' h => awake_any w w' [] h E)
      (fun w' hb => Decls_any own hl w' (htb w' hb) (E.below hb))
      ?_ (fun w' L h => Initial_any w w' L h E) ?_ ?_ ?_ ?_ ?_ (fun w => sty_neq _ w) (fun w => sty_eql _ w)
    · intro w' hb
      rw [txt_all]
      exact Decls_any allT allT_len w' (htb w' hb) (E.below hb)
    · intro sl c w' L h
      exact Apply_any (declsOf own) (declsOf_ok own hl) (declsOf_len own hl) sl c w w' _ h E (fun w'' h => h.sl.rc) iniS ini_lo ini_hi
    · intro w' L h
      exact Apply_any [] (by intro d hd; cases hd) (Nat.zero_le _) none 0 w w' L h E (fun w' _ => empty_rc w') _ hup.1 hup.2
    · intro w' L h
      exact Apply_any [] (by intro d hd; cases hd) (Nat.zero_le _) none 0 w w' L h E (fun w' _ => empty_rc w') iniS ini_lo ini_hi
    · intro sl c w' L h
      have h2 := law2 _ lk_all (applyM (lkOf (declsOf own)) iniS) (apply_fix _ _)
      rw [← h2]
      have := Apply_any (declsOf allT) (declsOf_ok allT allT_len) (declsOf_len allT allT_len) sl c w w' _ h E (fun w'' h => h.sl.rc) (applyM (lkOf (declsOf own)) iniS) hup.1 hup.2
      rw [h2] at this ⊢
      exact this
    · intro w' hb
      rw [← props_cells]
      exact props_any w' (E.below hb)
end Go.Proofs.YtldembadjgibjaaGreatDoor
