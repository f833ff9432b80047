/-
  Cascade: two styles compared; Apply, Initial, awake.
-/
import Derived.Test.YtldembadjgibjaaGreatDoorBf
import Derived.ChangeKeysEq
set_option linter.unusedVariables false
set_option linter.unusedSimpArgs false
namespace Go.Proofs.YtldembadjgibjaaGreatDoor
open Go.RowKit Go.K Go.PlainAid Go.Lib Go.Maps Go.WideMaps

theorem cells24 : Tryz.prog.cellsOf 24 = 2 := by kernel_rfl
theorem eq25 (a b c d e f g h : Int) (w : World) : (Op.equalIn 9999 25 (.agg #[.int .i64 a, .int .i64 b, .int .i64 c, .int .i64 d, .int .i64 e, .int .i64 f, .int .i64 g, .int .i64 h]) (.agg #[.int .i64 a, .int .i64 b, .int .i64 c, .int .i64 d, .int .i64 e, .int .i64 f, .int .i64 g, .int .i64 h])).run Tryz.prog w = .ok true w := by
  obtain ⟨i, hi, -⟩ := Option.map_eq_some_iff.1 size24
  rw [run_equalIn_array w 9998 _ _ Tryz.underlying25 hi, cells24]
  simp [List.range, List.range.loop, Op.eqItems, go_sem, Tryz.underlying24]
theorem eq26 (a b c d : Int) (w : World) : (Op.equalIn 9999 26 (.agg #[.int .i64 a, .int .i64 b, .int .i64 c, .int .i64 d]) (.agg #[.int .i64 a, .int .i64 b, .int .i64 c, .int .i64 d])).run Tryz.prog w = .ok true w := by
  obtain ⟨i, hi, -⟩ := Option.map_eq_some_iff.1 size3
  rw [run_equalIn_array w 9998 _ _ Tryz.underlying26 hi, cells3]
  simp [List.range, List.range.loop, Op.eqItems, go_sem]
set_option maxRecDepth 100000 in
set_option maxHeartbeats 2000000 in
theorem eq28 (i0 i1 i2 i3 i4 i5 i6 i7 i8 i9 i10 i11 i12 i13 i14 i15 i16 i17 i18 i19 i20 i21 i22 i23 i24 i25 i26 i27 i28 i29 i30 i31 i32 i33 i37 i38 i39 i40 i41 i42 i44 i45 i46 i47 i48 i49 i51 i52 : Int) (b43 b50 : Bool) (s34 s35 s36 : ByteArray) (w : World) : (Op.equalIn 10000 28 (.agg #[.int .i64 i0, .int .i64 i1, .int .i64 i2, .int .i64 i3, .int .i64 i4, .int .i64 i5, .int .i64 i6, .int .i64 i7, .int .i64 i8, .int .i64 i9, .int .i64 i10, .int .i64 i11, .int .i64 i12, .int .i64 i13, .int .i64 i14, .int .i64 i15, .int .i64 i16, .int .i64 i17, .int .i64 i18, .int .i64 i19, .int .i64 i20, .int .i64 i21, .int .i64 i22, .int .i64 i23, .int .i64 i24, .int .i64 i25, .int .i64 i26, .int .i64 i27, .int .i64 i28, .int .i64 i29, .int .i64 i30, .int .i64 i31, .int .i64 i32, .int .i64 i33, .string s34, .string s35, .string s36, .int .i64 i37, .int .i64 i38, .int .i64 i39, .int .i64 i40, .int .i64 i41, .int .i64 i42, .bool b43, .int .i64 i44, .int .i64 i45, .int .i64 i46, .int .i64 i47, .int .i64 i48, .int .i64 i49, .bool b50, .int .i64 i51, .int .i64 i52]) (.agg #[.int .i64 i0, .int .i64 i1, .int .i64 i2, .int .i64 i3, .int .i64 i4, .int .i64 i5, .int .i64 i6, .int .i64 i7, .int .i64 i8, .int .i64 i9, .int .i64 i10, .int .i64 i11, .int .i64 i12, .int .i64 i13, .int .i64 i14, .int .i64 i15, .int .i64 i16, .int .i64 i17, .int .i64 i18, .int .i64 i19, .int .i64 i20, .int .i64 i21, .int .i64 i22, .int .i64 i23, .int .i64 i24, .int .i64 i25, .int .i64 i26, .int .i64 i27, .int .i64 i28, .int .i64 i29, .int .i64 i30, .int .i64 i31, .int .i64 i32, .int .i64 i33, .string s34, .string s35, .string s36, .int .i64 i37, .int .i64 i38, .int .i64 i39, .int .i64 i40, .int .i64 i41, .int .i64 i42, .bool b43, .int .i64 i44, .int .i64 i45, .int .i64 i46, .int .i64 i47, .int .i64 i48, .int .i64 i49, .bool b50, .int .i64 i51, .int .i64 i52])).run Tryz.prog w = .ok true w := by
  simp [go_sem, Tryz.underlying28, Tryz.underlying24, eq25, eq26]
theorem Sty.list (p : Sty) : p.cells = [.int .i64 (p.I 0), .int .i64 (p.I 1), .int .i64 (p.I 2), .int .i64 (p.I 3), .int .i64 (p.I 4), .int .i64 (p.I 5), .int .i64 (p.I 6), .int .i64 (p.I 7), .int .i64 (p.I 8), .int .i64 (p.I 9), .int .i64 (p.I 10), .int .i64 (p.I 11), .int .i64 (p.I 12), .int .i64 (p.I 13), .int .i64 (p.I 14), .int .i64 (p.I 15), .int .i64 (p.I 16), .int .i64 (p.I 17), .int .i64 (p.I 18), .int .i64 (p.I 19), .int .i64 (p.I 20), .int .i64 (p.I 21), .int .i64 (p.I 22), .int .i64 (p.I 23), .int .i64 (p.I 24), .int .i64 (p.I 25), .int .i64 (p.I 26), .int .i64 (p.I 27), .int .i64 (p.I 28), .int .i64 (p.I 29), .int .i64 (p.I 30), .int .i64 (p.I 31), .int .i64 (p.I 32), .int .i64 (p.I 33), .string (S (p.T 34)), .string (S (p.T 35)), .string (S (p.T 36)), .int .i64 (p.I 37), .int .i64 (p.I 38), .int .i64 (p.I 39), .int .i64 (p.I 40), .int .i64 (p.I 41), .int .i64 (p.I 42), .bool (p.B 43), .int .i64 (p.I 44), .int .i64 (p.I 45), .int .i64 (p.I 46), .int .i64 (p.I 47), .int .i64 (p.I 48), .int .i64 (p.I 49), .bool (p.B 50), .int .i64 (p.I 51), .int .i64 (p.I 52)] := rfl
theorem sty_eql (p : Sty) (w : World) : (binOp .eql 28 (.agg p.cells.toArray) (.agg p.cells.toArray)).run Tryz.prog w = .ok (.bool true) w := by
  rw [run_eql_struct, p.list, eq28]
  rfl
theorem sty_neq (p : Sty) (w : World) : (binOp .neq 28 (.agg p.cells.toArray) (.agg p.cells.toArray)).run Tryz.prog w = .ok (.bool false) w := by
  rw [run_neq_struct, p.list, eq28]
  rfl
theorem kn_new [Inhabited TbBox] {w0 w : World} {L : List As} (H : St w0 w L) : St w0 (w.alloc (.map #[] 0)) (As.kn w.heap.size 0 :: L) :=
  (mp_new kl knR DOk (k := 70) H).shut_ex ⟨fun _ => none, fun _ _ _ h => by cases h⟩
set_option maxRecDepth 100000 in
set_option maxHeartbeats 4000000 in
theorem Apply_any [Inhabited TbBox] (ds : List De) (hds : ∀ d ∈ ds, DOk d) (hlen : ds.length ≤ 100000) (sd : Option Addr) (cd : Nat) (w0 w : World) (L : List As) (h : St w0 w L) (E : Env w0)
    (hrk : ∀ w', St w0 w' L → Rc w' 5 sd ds.length cd (flat De.cells ds)) (p : Sty) (ha0 : 0 ≤ p.I 37) (ha1 : p.I 37 ≤ 1000000) :
    Calls Tryz.prog 6 #[.slice sd ds.length cd, .agg p.cells.toArray] w fun e w' => e = .returned (.agg (applyM (lkOf ds) p).cells.toArray) ∧ St w0 w' L := by
  have H0 := (h.new p.cells.toArray 28).new z28 28
  have e1 : (w.alloc (.cells p.cells.toArray 28)).heap.size = w.heap.size + 1 := by simp
  rw [e1] at H0
  obtain ⟨W0, hW0⟩ : ∃ z, (w.alloc (.cells p.cells.toArray 28)).alloc (.cells z28 28) = z := ⟨_, rfl⟩
  rw [hW0] at H0
  have hap := fun w' H => apply_any ds hds hlen sd cd W0.heap.size 0 (by omega) w0 w' (As.cells (w.heap.size + 1) z28 28 :: As.cells w.heap.size p.cells.toArray 28 :: L) H E (fun w' h => hrk w' h.drop.drop) p ha0 ha1
  obtain ⟨R, hR⟩ : ∃ z, applyM (lkOf ds) p = z := ⟨_, rfl⟩
  simp only [hR] at hap
  rw [hR]
  obtain ⟨pl, hpl⟩ : ∃ z, p.cells = z := ⟨_, rfl⟩
  have hlen2 : pl.length = 53 := by rw [← hpl]; exact p.len
  simp only [hpl] at hap H0 hW0
  rw [hpl]
  have HAP := Lib.hid hap
  have H := Lib.hid H0
  have HW := Lib.hid hW0
  have HPL := Lib.hid hlen2
  have hmm := @run_makeMap Tryz.prog
  obtain ⟨N, hN⟩ : ∃ n, ds.length = n := ⟨_, rfl⟩
  rw [hN] at HAP ⊢
  obtain ⟨pa, hpa⟩ : ∃ z, pl.toArray = z := ⟨_, rfl⟩
  have HPA := Lib.hid hpa
  rw [hpa] at HAP H HW ⊢
  clear hap H0 hW0 hlen2 hR hrk hds hlen hN hpa h E e1 ha0 ha1
  go_enter Tryz.func6, Tryz.ntmps6
  go_upto_region 1 with fail
  change Code.wp _ _ _ _ ((w.alloc (.cells pa 28)).alloc (.cells z28 28))
  rw [HW.out]
  obtain ⟨zz, hzz⟩ : ∃ z, z28 = z := ⟨_, rfl⟩
  have HZZ := Lib.hid (show zz.size = 53 from by rw [← hzz]; rfl)
  rw [hzz] at H HAP
  clear HW hzz
  go_wp2_with (first
    | (refine st_load rfl (.tmp 3) rfl pl (show St w0 W0 (As.cells w.heap.size pl.toArray 28 :: As.cells (w.heap.size + 1) zz 28 :: L) from by rw [HPA.out]; exact H.out.swap) (.head _) rfl HPL.out Tryz.underlying28 rfl size28 ?_; rw [HPA.out])
    | (go_at_call 14; refine (HAP.out _ (kn_new H.out)).mono ?_; rintro e w2 ⟨rfl, m', -, h2⟩; have H2 := Lib.hid h2.drop; clear h2)
    | (refine st_store rfl (.tmp 4) (.tmp 8) rfl H2.out R.cells rfl rfl HZZ.out (Sty.len R) size28 (Sty.one R) ?_; intro W8 HW8; have H8 := Lib.hid HW8; clear HW8)
    | fail)
  refine bodyPost_ret (results_cell_row (P := Tryz.prog) Tryz.results6 _ _ (w.heap.size + 1) 28 R.cells.toArray _ _ rfl H8.out.blk.1 Tryz.underlying28 rfl size28) rfl ⟨rfl, H8.out.drop.drop⟩
/-- the parent of the document itself -/
def p0 : Sty where
  I := fun i => if i = 37 then 16 else if i = 38 then 20 else 0
  T := fun i => if i = 35 then blackL else []
  B := fun _ => false
/-- the style of the document itself -/
def iniS : Sty where
  I := fun i => if i = 0 then 1 else (applyM (fun _ => none) p0).I i
  T := (applyM (fun _ => none) p0).T
  B := (applyM (fun _ => none) p0).B
theorem ini_cells : (applyM (fun _ => none) p0).cells.toArray.setIfInBounds 0 (.int .i64 1) = iniS.cells.toArray := rfl
theorem p0_lit : p0.cells.toArray = #[.int .i64 0, .int .i64 0, .int .i64 0, .int .i64 0, .int .i64 0, .int .i64 0, .int .i64 0, .int .i64 0, .int .i64 0, .int .i64 0, .int .i64 0, .int .i64 0, .int .i64 0, .int .i64 0, .int .i64 0, .int .i64 0, .int .i64 0, .int .i64 0, .int .i64 0, .int .i64 0, .int .i64 0, .int .i64 0, .int .i64 0, .int .i64 0, .int .i64 0, .int .i64 0, .int .i64 0, .int .i64 0, .int .i64 0, .int .i64 0, .int .i64 0, .int .i64 0, .int .i64 0, .int .i64 0, .string ⟨#[]⟩, .string ⟨#[35, 48, 48, 48, 48, 48, 48]⟩, .string ⟨#[]⟩, .int .i64 16, .int .i64 20, .int .i64 0, .int .i64 0, .int .i64 0, .int .i64 0, .bool false, .int .i64 0, .int .i64 0, .int .i64 0, .int .i64 0, .int .i64 0, .int .i64 0, .bool false, .int .i64 0, .int .i64 0] := rfl
theorem empty_rc (w : World) : Rc w 5 none 0 0 (flat De.cells []) := (Sl.nil w 70 5).rc
set_option maxRecDepth 100000 in
set_option maxHeartbeats 4000000 in
theorem Initial_any [Inhabited TbBox] (w0 w : World) (L : List As) (h : St w0 w L) (E : Env w0) : Calls Tryz.prog 8 #[] w fun e w' => e = .returned (.agg iniS.cells.toArray) ∧ St w0 w' L := by
  have hap := fun w' H => Apply_any [] (by intro d hd; cases hd) (by simp) none 0 w0 w' (As.cells w.heap.size z28 28 :: L) H E (fun w' _ => empty_rc w') p0 (by decide) (by decide)
  have hlk : lkOf [] = (fun _ => none) := rfl
  rw [hlk] at hap
  obtain ⟨R, hR⟩ : ∃ z, applyM (fun _ => none) p0 = z := ⟨_, rfl⟩
  have hini := ini_cells
  simp only [hR] at hap hini
  rw [p0_lit] at hap
  obtain ⟨IR, hIR⟩ : ∃ z, iniS.cells = z := ⟨_, rfl⟩
  have hil : IR.length = 53 := by rw [← hIR]; exact iniS.len
  have hio : ∀ v ∈ IR, v.oneCell' = true := by rw [← hIR]; exact iniS.one
  rw [hIR] at hini ⊢
  have HAP := Lib.hid hap
  have HI := Lib.hid hini
  have HIL := Lib.hid hil
  have HIO := Lib.hid hio
  have H := Lib.hid (h.new z28 28)
  clear hap hlk hR hini hIR hil hio h E
  go_enter Tryz.func8, Tryz.ntmps8
  go_upto_region 1 with fail
  change Code.wp _ _ _ _ (w.alloc (.cells z28 28))
  obtain ⟨W0, hW0⟩ : ∃ z, w.alloc (.cells z28 28) = z := ⟨_, rfl⟩
  rw [hW0] at H
  rw [hW0]
  clear hW0
  go_upto_region 2 with (first
    | (go_at_call 6; refine (HAP.out _ H.out).mono ?_; rintro e w2 ⟨rfl, h2⟩; have H2 := Lib.hid (h2.new z28 28); have HB1 := Lib.hid h2; clear h2)
    | (refine st_store rfl (.tmp 1) (.tmp 3) rfl H2.out R.cells rfl rfl rfl (Sty.len R) size28 (Sty.one R) ?_; intro W3 HW3; have H3 := Lib.hid HW3; clear HW3)
    | fail)
  obtain ⟨b1, hb1⟩ : ∃ z, w2.heap.size = z := ⟨_, rfl⟩
  rw [hb1] at H3
  simp only [hb1]
  clear hb1 H2 H HAP
  have d0 := (H3.out.cell 0).trans (show R.cells.toArray[0]? = some (R.at 0) from by rw [List.getElem?_toArray]; exact R.get 0 (by decide))
  have f0 := H3.out.free 0
  go_upto_region 3 with fail
  have h4 := H3.out.set 0 (.int .i64 1)
  rw [HI.out] at h4
  have H4 := Lib.hid h4
  obtain ⟨W4, hW4⟩ : ∃ z, W3.setCell ⟨b1, 0, none⟩ (.int .i64 1) = z := ⟨_, rfl⟩
  rw [hW4] at H4
  rw [hW4]
  obtain ⟨zz, hzz⟩ : ∃ z, z28 = z := ⟨_, rfl⟩
  have HZZ := Lib.hid (show zz.size = 53 from by rw [← hzz]; rfl)
  rw [hzz] at H4
  clear hW4 h4 d0 f0 H3 hzz
  go_wp2_with (first
    | (refine st_load rfl (.tmp 1) rfl IR H4.out (.head _) rfl HIL.out Tryz.underlying28 rfl size28 ?_)
    | (refine st_store rfl (.tmp 0) (.tmp 5) rfl H4.out.swap IR rfl rfl HZZ.out HIL.out size28 HIO.out ?_; intro W8 HW8; have H8 := Lib.hid HW8; clear HW8)
    | fail)
  exact bodyPost_ret (results_cell_row (P := Tryz.prog) Tryz.results8 _ _ w.heap.size 28 IR.toArray _ _ rfl H8.out.blk.1 Tryz.underlying28 rfl (by rw [size28, List.size_toArray, HIL.out])) rfl ⟨rfl, H8.out.drop.drop⟩
theorem ini37 : iniS.at 37 = .int .i64 16 := rfl
theorem ini35 : iniS.at 35 = .string ⟨#[35, 48, 48, 48, 48, 48, 48]⟩ := rfl
theorem ini0 : iniS.at 0 = .int .i64 1 := rfl
set_option maxRecDepth 100000 in
set_option maxHeartbeats 4000000 in
theorem awake_any [Inhabited TbBox] (w0 w : World) (L : List As) (h : St w0 w L) (E : Env w0) : Calls Tryz.prog 5 #[] w fun e w' => e = .returned (.bool true) ∧ St w0 w' L := by
  have hin := fun w' H => Initial_any w0 w' L H E
  have g37 := iniS.get 37 (by decide)
  have g35 := iniS.get 35 (by decide)
  have g0 := iniS.get 0 (by decide)
  rw [ini37] at g37
  rw [ini35] at g35
  rw [ini0] at g0
  obtain ⟨IR, hIR⟩ : ∃ z, iniS.cells = z := ⟨_, rfl⟩
  have hil : IR.length = 53 := by rw [← hIR]; exact iniS.len
  have hio : ∀ v ∈ IR, v.oneCell' = true := by rw [← hIR]; exact iniS.one
  rw [hIR] at g37 g35 g0
  simp only [hIR] at hin
  have HIN := Lib.hid hin
  have HIL := Lib.hid hil
  have HIO := Lib.hid hio
  have H := Lib.hid h
  have G37 := Lib.hid g37
  have G35 := Lib.hid g35
  have G0 := Lib.hid g0
  clear hin hIR hil hio h E g37 g35 g0
  go_enter Tryz.func5, Tryz.ntmps5
  go_upto_region 2 with (first
    | (go_at_call 8; refine (HIN.out _ H.out).mono ?_; rintro e w2 ⟨rfl, h2⟩; have H2 := Lib.hid (h2.new z28 28); clear h2)
    | (refine st_store rfl (.tmp 1) (.tmp 2) rfl H2.out IR rfl rfl rfl HIL.out size28 HIO.out ?_; intro W3 HW3; have H3 := Lib.hid HW3; clear HW3)
    | fail)
  obtain ⟨b1, hb1⟩ : ∃ z, w2.heap.size = z := ⟨_, rfl⟩
  rw [hb1] at H3
  simp only [hb1]
  clear hb1 H2 H HIN
  have d0 := (H3.out.cell 0).trans (show IR.toArray[0]? = some (.int .i64 1) from by rw [List.getElem?_toArray]; exact G0.out)
  have d35 := (H3.out.cell 35).trans (show IR.toArray[35]? = some (.string ⟨#[35, 48, 48, 48, 48, 48, 48]⟩) from by rw [List.getElem?_toArray]; exact G35.out)
  have d37 := (H3.out.cell 37).trans (show IR.toArray[37]? = some (.int .i64 16) from by rw [List.getElem?_toArray]; exact G37.out)
  go_wp2_with fail
  exact bodyPost_ret (results_tmp Tryz.results5 _ _ _) rfl ⟨rfl, H3.out.drop⟩
end Go.Proofs.YtldembadjgibjaaGreatDoor
