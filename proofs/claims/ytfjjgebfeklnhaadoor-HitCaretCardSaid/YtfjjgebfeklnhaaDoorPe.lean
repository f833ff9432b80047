/-
  HitCaret: the walk of the law.
-/
import Derived.Test.YtfjjgebfeklnhaaDoorPd
import Derived.Test.YtfjjgebfeklnhaaDoorHh
import Derived.Test.YtfjjgebfeklnhaaDoorHe
import Derived.Deep.CutBlock
import Derived.Lib.QuietBelow
import Derived.BigQuiet
import Derived.Deep.LoopGhost
set_option linter.unusedVariables false
set_option linter.unusedSimpArgs false
namespace Go.Proofs.YtfjjgebfeklnhaaDoor
open Go.RowKit Go.K Go.Lib

theorem covering_n {n : Nat} {x y : Int} {L : List GI} (hL : L.length = n) (s : Option Addr) (c : Nat) (w : World) (h : Rd w 13 s n (flat icells L)) (hn : n ≤ 1000000) :
    Calls Tryd.prog 7 #[.slice s n c, .int .i64 x, .int .i64 y] w (CvPost x y L w) := by subst hL; exact covering_any s c L x y w h hn
theorem caret_n {n : Nat} {x y : Int} {L : List GI} (hL : L.length = n) (s : Option Addr) (c : Nat) (w : World) (h : Rd w 13 s n (flat icells L)) (hn : n ≤ 1000000) :
    Calls Tryd.prog 8 #[.slice s n c, .int .i64 x, .int .i64 y] w (CarPost x y L w) := by subst hL; exact caret_any s c L x y w h hn
theorem car_hits (x y : Int) (L : List GI) : carOf x y L = (hits x y L).find? (fun g => decide (g.1.kd = 3)) := by
  unfold carOf hits selB
  rw [List.find?_filter]
  congr 1
  funext g
  simp [Bool.and_comm]
/-- the answer of Caret in parts -/
theorem car_parts (x : Int) (o : Option GI) : ∃ (nd ix : Int) (ok : Bool), carV x o = .tuple #[.int .i64 nd, .int .i64 ix, .bool ok] ∧ (o = none → nd = 0 ∧ ix = 0 ∧ ok = false) ∧
    (∀ g, o = some g → nd = g.1.nd ∧ ix = (offN (chW g.1.sz) g.1.tx (x - g.1.r.x) : Nat) ∧ ok = true) := by
  cases o with
  | none => exact ⟨0, 0, false, rfl, fun _ => ⟨rfl, rfl, rfl⟩, fun g h => by cases h⟩
  | some g =>
    refine ⟨_, _, _, rfl, ?_, ?_⟩
    · intro h; cases h
    · intro g' h
      cases h
      exact ⟨rfl, rfl, rfl⟩
theorem find_first {H : List GI} {k : Nat} {hx : GI} (hq : H[k]? = some hx) (hk : hx.1.kd = 3) (hb : ∀ (i : Nat) (g : GI), i < k → H[i]? = some g → g.1.kd ≠ 3) : H.find? (fun g => decide (g.1.kd = 3)) = some hx := by
  induction H generalizing k with
  | nil => simp at hq
  | cons a t ih =>
    cases k with
    | zero =>
      simp at hq
      subst hq
      simp [hk]
    | succ k =>
      have h0 := hb 0 a (by omega) rfl
      rw [List.find?_cons_of_neg (by simpa using h0)]
      exact ih (by simpa using hq) (fun i g hi hg => hb (i + 1) g (by omega) (by simpa using hg))
theorem dist_any (a b : Int) (w : World) (h1 : -(2 ^ 61) ≤ a ∧ a ≤ 2 ^ 61) (h2 : -(2 ^ 61) ≤ b ∧ b ≤ 2 ^ 61) : Calls Tryd.prog 11 #[.int .i64 a, .int .i64 b] w fun e w' => e = .returned (.int .i64 (max (a - b) (b - a))) ∧ w' = w := by
  have m1 : ∀ a b : Int, (if a < b then b else a) = max a b := by intro a b; split <;> omega
  have w1 := wrapS (a := a - b) (by omega) (by omega)
  have w2 := wrapS (a := b - a) (by omega) (by omega)
  go_enter Tryd.func11, Tryd.ntmps11
  go_wp2_with fail
  exact bodyPost_ret (results_tmp Tryd.results11 _ _ _) rfl ⟨rfl, rfl⟩
theorem toList_ne {a b : ByteArray} (h : b.size < a.size) : (a.toList == b.toList) = false := by
  rw [beq_eq_false_iff_ne]
  intro e
  rw [ByteArray.toList_eq, ByteArray.toList_eq] at e
  have := congrArg List.length e
  rw [Array.length_toList, Array.length_toList] at this
  have h1 : a.data.size = a.size := rfl
  have h2 : b.data.size = b.size := rfl
  omega
def CmRel (n : Nat) (w : World) (g : Nat) (v : Value) (wr : World) : Prop :=
  ∃ k : Nat, g = n - k ∧ k ≤ n ∧ v = .int .i64 k ∧ Below w.heap.size w wr
def LwRel (n : Nat) (H : List GI) (w : World) (g : Nat) (v : Value) (wr : World) : Prop :=
  ∃ k : Nat, g = n - k ∧ k ≤ n ∧ v = .int .i64 k ∧ Below w.heap.size w wr ∧ ∀ (i : Nat) (g : GI), i < k → H[i]? = some g → g.1.kd ≠ 3
set_option maxRecDepth 100000 in
set_option maxHeartbeats 1000000 in
theorem caret_go (s : Option Addr) (c : Nat) (ls : List GB) (x y : Int) (w : World) (h : Rd w 12 s ls.length (flat bcells ls)) (hT : Tabs w)
    (l0 : List GL) (hl0 : l0.length = ls.length) (h0 : Rd w 12 s l0.length (flat lcells l0)) (hfw : fewB l0 = true) :
    Calls Tryd.prog 3 #[.slice s ls.length c, .int .i64 x, .int .i64 y] w fun e w' => e = .returned (.bool true) ∧ Below w.heap.size w w' := by
  have HR := Lib.hid h
  have HR0 := Lib.hid h0
  have HT := Lib.hid hT
  have HFW := Lib.hid hfw
  have hlen : ls.length ≤ 40 := by
    have := hfw
    unfold fewB at this
    simp only [Bool.and_eq_true, decide_eq_true_eq] at this
    omega
  clear h h0 hT hfw
  have hL : (ls.map gOf).length = ls.length := by simp
  obtain ⟨L, hLL⟩ : ∃ L, ls.map gOf = L := ⟨_, rfl⟩
  rw [hLL] at hL
  obtain ⟨H, hH⟩ : ∃ H, hits x y L = H := ⟨_, rfl⟩
  have HLL := Lib.hid hLL
  have hCl := cov_len x y L
  have hHl : H.length ≤ ls.length := by
    rw [← hH]
    unfold hits
    refine Nat.le_trans (List.length_filter_le _ _) (by simp [hL])
  rw [hH] at hCl
  have HCC := Lib.hid (cov_hits x y L)
  have HCR := Lib.hid (cov_range x y L)
  obtain ⟨o, ho⟩ : ∃ o, carOf x y L = o := ⟨_, rfl⟩
  have HO := Lib.hid (ho.symm.trans (car_hits x y L))
  rw [hH] at HO
  obtain ⟨nd, ix, ok, hcv, hno, hso⟩ := car_parts x o
  have HNO := Lib.hid hno
  have HSO := Lib.hid hso
  have HCA := Lib.hid (fun (sI : Option Addr) (cI : Nat) (w : World) (h : Rd w 13 sI ls.length (flat icells L)) => (caret_n (x := x) (y := y) hL sI cI w h (by omega)).mono (fun e w' (q : CarPost x y L w e w') => (show e = .returned (.tuple #[.int .i64 nd, .int .i64 ix, .bool ok]) ∧ Below w.heap.size w w' from ⟨by rw [q.1, ho, hcv], q.2⟩)))
  obtain ⟨C, hC⟩ : ∃ C, covD x y L 0 = C := ⟨_, rfl⟩
  have HC := Lib.hid hC
  rw [hC] at HCC HCR hCl
  rw [hH] at HCC
  have hcov : ∀ g ∈ H, cov g.1.r g.1.c x y = true := by
    intro g hg
    rw [← hH] at hg
    unfold hits at hg
    exact (List.mem_filter.1 hg).2
  have HCOV := Lib.hid hcov
  clear hLL hH hC ho hcv hno hso hcov
  have hi0 : (l0.length : Int) ≤ 9223372036854775807 := by omega
  go_enter Tryd.func3, Tryd.ntmps3
  go_upto_region 7 with (first
    | (go_at_call 4; refine (awake_any _).mono ?_; rintro e wa ⟨rfl, hba⟩; have HB1 := Lib.hid hba; clear hba)
    | (go_at_call 5; rw [← hl0]; refine (few_any _ _ _ _ (HR0.out.below HB1.out) hi0).mono ?_; rintro e wb ⟨rfl, rfl⟩; rw [HFW.out]; rw [hl0])
    | (go_at_call 6; refine (items_any _ _ _ _ (HR.out.below HB1.out) (by omega)).mono ?_; rintro e w1 ⟨sI, cI, rfl, hI⟩; rw [HLL.out] at hI; have HI := Lib.hid hI.sl.rd; have HB2 := Lib.hid (HB1.out.trans (hI.bel.mono HB1.out.size)); clear hI HB1)
    | (go_at_call 7; refine (covering_n hL _ _ _ HI.out (by omega)).mono ?_; rintro e w2 ⟨sC, cC, rfl, hCv⟩; rw [HC.out] at hCv ⊢; have HCv := Lib.hid hCv.sl.rd; have HI2 := Lib.hid (HI.out.below hCv.bel); have HB3 := Lib.hid (HB2.out.trans (hCv.bel.mono HB2.out.size)); clear hCv HI HB2)
    | (go_at_call 8; refine (HCA.out _ _ _ HI2.out).mono ?_; rintro e w3 ⟨rfl, hb3⟩; have HI3 := Lib.hid (HI2.out.below hb3); have HCv3 := Lib.hid (HCv.out.below hb3); have HB4 := Lib.hid (HB3.out.trans (hb3.mono HB3.out.size)); clear hb3 HI2 HB3 HCv))
  have HB0 := Lib.hid (HB4.out.size)
  go_loopg [43] H.length (LwRel H.length H w3)
  case atStart => exact ⟨0, rfl, Nat.zero_le _, rfl, Below.refl _ _, fun i g h => absurd h (Nat.not_lt_zero _)⟩
  case round =>
    obtain ⟨k, hg, hk, rfl, hp, hbf⟩ := hrel
    have Hg := Lib.hid hg
    have Hp := Lib.hid hp
    have HBF := Lib.hid hbf
    clear hg hp hbf
    by_cases hkn : k < H.length
    · have hri := HI3.out.below Hp.out
      have hrc := HCv3.out.below Hp.out
      obtain ⟨gC, oC, rfl, -⟩ := hrc.addr (by omega)
      obtain ⟨gI, oI, rfl, -⟩ := hri.addr (by omega)
      have hkC : k < C.length := by omega
      obtain ⟨ck, hck, hckl⟩ := HCR.out C[k] (List.getElem_mem hkC)
      obtain ⟨hx, hhx⟩ : ∃ hx, H[k] = hx := ⟨_, rfl⟩
      have hLk : L[ck] = hx := by
        rw [← hhx]
        have := List.getElem_of_eq HCC.out (i := k) (by simpa using hkC)
        simpa [hck, List.getElem?_eq_getElem hckl] using this
      have hc0 := ints_at hrc k hkC ck hck
      obtain ⟨d0, d1, d2, d3, d4, d5, d6, d7, d8, d9, d10, d11, d12⟩ := i_at hri hckl hx hLk
      have hkI : (k : Int) < (H.length : Int) := by omega
      have hckI : (ck : Int) < (ls.length : Int) := by omega
      have hck0 : (0 : Int) ≤ (ck : Int) := by omega
      have HHX := Lib.hid hhx
      have hcvx := HCOV.out hx (by rw [← hhx]; exact List.getElem_mem hkn)
      have HCX := Lib.hid hcvx
      have hq : H[k]? = some hx := by rw [List.getElem?_eq_getElem hkn, hhx]
      have HQ := Lib.hid hq
      clear hhx hLk hri hrc hck hcvx hq
      by_cases hkd : hx.1.kd = 3
      · rw [hkd] at d0
        have hos : o = some hx := by rw [HO.out]; exact find_first HQ.out hkd HBF.out
        obtain ⟨rfl, rfl, rfl⟩ := HSO.out hx hos
        go_upto_region 11 with fail
        have hbk := Blk.new wr #[.int .i64 3, .int .i64 hx.1.r.x, .int .i64 hx.1.r.y, .int .i64 hx.1.r.w, .int .i64 hx.1.r.h, .int .i64 hx.1.c.x, .int .i64 hx.1.c.y, .int .i64 hx.1.c.w, .int .i64 hx.1.c.h, .string hx.1.col, .string hx.1.tx, .int .i64 hx.1.sz, .int .i64 hx.1.nd] 34
        have hb5 : Below w3.heap.size w3 (wr.alloc (.cells #[.int .i64 3, .int .i64 hx.1.r.x, .int .i64 hx.1.r.y, .int .i64 hx.1.r.w, .int .i64 hx.1.r.h, .int .i64 hx.1.c.x, .int .i64 hx.1.c.y, .int .i64 hx.1.c.w, .int .i64 hx.1.c.h, .string hx.1.col, .string hx.1.tx, .int .i64 hx.1.sz, .int .i64 hx.1.nd] 34)) := Hp.out.alloc Hp.out.size _
        obtain ⟨W5, hW5⟩ : ∃ W5, wr.alloc (.cells #[.int .i64 3, .int .i64 hx.1.r.x, .int .i64 hx.1.r.y, .int .i64 hx.1.r.w, .int .i64 hx.1.r.h, .int .i64 hx.1.c.x, .int .i64 hx.1.c.y, .int .i64 hx.1.c.w, .int .i64 hx.1.c.h, .string hx.1.col, .string hx.1.tx, .int .i64 hx.1.sz, .int .i64 hx.1.nd] 34) = W5 := ⟨_, rfl⟩
        rw [hW5] at hbk hb5 ⊢
        obtain ⟨Bx, hBx⟩ : ∃ Bx, wr.heap.size = Bx := ⟨_, rfl⟩
        rw [hBx] at hbk ⊢
        obtain ⟨-, r1, -, -, -, -, -, -, -, -, r10, r11, r12, -⟩ := blk13 hbk
        have HBK := Lib.hid hbk
        have HB5 := Lib.hid (HB4.out.trans (hb5.mono HB0.out))
        have HT5 := Lib.hid (show Tabs W5 from Utf8Tabs_below HT.out (HB4.out.trans (hb5.mono HB0.out)))
        have hxr := (has_iff _ _ _).1 (show hasR hx.1.r x y = true by have := HCX.out; unfold cov at this; exact (Bool.and_eq_true_iff.1 this).1)
        obtain ⟨b1, b2, b3, b4, b5, b6, -⟩ := hx.2.1
        have htxz := hx.2.2.2
        clear hW5 hBx hbk hb5 d0 d1 d2 d3 d4 d5 d6 d7 d8 d9 d10 d11 d12 hc0
        obtain ⟨tx, htx⟩ : ∃ tx, hx.1.tx = tx := ⟨_, rfl⟩
        obtain ⟨sz, hsz⟩ : ∃ sz, hx.1.sz = sz := ⟨_, rfl⟩
        obtain ⟨rx, hrx⟩ : ∃ rx, hx.1.r.x = rx := ⟨_, rfl⟩
        obtain ⟨ndx, hndx⟩ : ∃ ndx, hx.1.nd = ndx := ⟨_, rfl⟩
        simp only [htx, hsz, hrx, hndx] at *
        obtain ⟨q, hq⟩ : ∃ q, offN (chW sz) tx (x - rx) = q := ⟨_, rfl⟩
        have hqn : q ≤ runeCount tx := by rw [← hq]; exact off_le _ _ _ (fun r => (chW_in _ r).1)
        have HBEST := Lib.hid (fun j hj => off_best (f := chW sz) (fun r => (chW_in _ r).1) tx (x - rx) (by omega) j hj)
        rw [hq] at HBEST ⊢
        have HRP := Lib.hid (repair_any tx W5 htxz HT5.out)
        by_cases hv : validD tx.data.toList = true
        · have HV := Lib.hid hv
          have hq0 : ¬ (q : Int) < 0 := by omega
          have hqn1 : ¬ ((runeCount tx : Nat) : Int) < (q : Int) := by omega
          clear hv hq
          go_upto_region 17 with (first
            | (go_at_call 9; refine HRP.out.mono ?_; rintro e w6 ⟨t6, rfl, ht6, -, hb6⟩; obtain rfl := (ht6 HV.out).symm; have HB6 := Lib.hid (HB5.out.trans (hb6.mono HB5.out.size)); have HBK6 := Lib.hid (HBK.out.kept (Fr.of_below hb6) (fun q => q)); have HT6 := Lib.hid (show Tabs w6 from Utf8Tabs_below HT5.out hb6); clear ht6 hb6 r1 r10 r11 r12; obtain ⟨-, r1, -, -, -, -, -, -, -, -, r10, r11, r12, -⟩ := blk13 HBK6.out)
            | (go_at_call 10; refine (len_any _ _ htxz).mono ?_; rintro e w7 ⟨rfl, hb7⟩; have HB7 := Lib.hid (HB6.out.trans (hb7.mono HB6.out.size)); have HBK7 := Lib.hid (HBK6.out.kept (Fr.of_below hb7) (fun q => q)); have HT7 := Lib.hid (show Tabs w7 from Utf8Tabs_below HT6.out hb7); clear hb7 r1 r10 r11 r12; obtain ⟨-, r1, -, -, -, -, -, -, -, -, r10, r11, r12, -⟩ := blk13 HBK7.out))
          have hW7 := Lib.hid (HT7.out)
          have cS := Lib.hid (fun (j : Nat) (hj : j ≤ runeCount tx) d os => Calls.regrown_of (w := w7) (d := d) (os := os) (slice_any tx j _ htxz (Utf8Tabs_below HT7.out (below_regrown w7 d os)) HV.out hj))
          have cW := Lib.hid (fun (j : Nat) (hj : j ≤ runeCount tx) d os => Calls.regrown_of (w := w7) (d := d) (os := os) ((width_any (pre tx j) sz (Go.Sort.grow (redrawn w7 d) os) (by rw [pre_size]; have := posAt_le tx j; omega)).mono (fun e w' (q : _ ∧ _) => (show e = .returned (.int .i64 (cumW (chW sz) tx j)) ∧ Below _ _ w' from ⟨by rw [q.1, pre_count _ hj, pre_cum _ _ hj (Nat.le_refl _)], by obtain ⟨pos, h⟩ := q.2; rw [h]; exact (Below.refl _ _).alloc (Nat.le_refl _) _⟩))))
          have hXb : -(2 ^ 61) ≤ x - rx ∧ x - rx ≤ 2 ^ 61 := by omega
          have hwx := wrapS (a := x - rx) (by omega) (by omega)
          have hcb : ∀ j, j ≤ runeCount tx → 0 ≤ cumW (chW sz) tx j ∧ cumW (chW sz) tx j ≤ 1048577000 := fun j hj => cum_in sz tx htxz hj
          have cD := Lib.hid (fun (W : World) (j : Nat) (hj : j ≤ runeCount tx) d os => Calls.regrown_of (w := W) (d := d) (os := os) ((dist_any (cumW (chW sz) tx j) (x - rx) (Go.Sort.grow (redrawn W d) os) (by have := hcb j hj; omega) hXb).mono (fun e w' (q : _ ∧ _) => (show e = .returned (.int .i64 (max (cumW (chW sz) tx j - (x - rx)) (x - rx - cumW (chW sz) tx j))) ∧ Below _ _ w' from ⟨q.1, by rw [q.2]; exact Below.refl _ _⟩))))
          have r1 := cell_regrown r1
          have r11 := cell_regrown r11
          clear hcb
          refine wp_region_quiet_below (by kernel_rfl) (by kernel_rfl) ?_
          repeat (go_big_quiet_step (first | with_reducible exact cS.out q hqn _ _ | with_reducible exact cW.out q hqn _ _ | exact cD.out w7 q hqn _ _))
          refine wpQuiet_nil ?_
          intro _ hw'
          obtain ⟨⟨dq, osq⟩, hw''⟩ := hw'
          subst hw''
          have h8 := below_regrown w7 dq osq
          obtain ⟨W8, hW8⟩ : ∃ W, W = Go.Sort.grow (redrawn w7 dq) osq := ⟨_, rfl⟩
          rw [show Go.Sort.grow (redrawn w7 (Regrown.mk dq osq).d) (Regrown.mk dq osq).os = W8 from hW8.symm]
          rw [← hW8] at h8
          have HB8 := Lib.hid (HB7.out.trans (h8.mono HB7.out.size))
          have HBK8 := Lib.hid (HBK7.out.kept (Fr.of_below h8) (fun q => q))
          have HT8 := Lib.hid (show Tabs W8 from Utf8Tabs_below HT7.out h8)
          clear h8 hW8 r1 r11 r10 r12
          have HDB := Lib.hid (fun j (hj : j ≤ runeCount tx) => HBEST.out j hj)
          obtain ⟨Dq, hDq⟩ : ∃ Dq, max (cumW (chW sz) tx q - (x - rx)) (x - rx - cumW (chW sz) tx q) = Dq := ⟨_, rfl⟩
          have HDQ := Lib.hid hDq
          rw [hDq]
          clear hDq
          have hNb0 := runeCount_le tx
          have hNb : runeCount tx ≤ 1000 := by omega
          have hNw := wrapS (a := ((runeCount tx : Nat) : Int) + 1) (by omega) (by omega)
          go_upto_region 19 with fail
          have e87 : decide (runeCount tx < q) = false := decide_eq_false (by omega)
          have e88 : decide ((q : Int) < 0) = false := decide_eq_false (by omega)
          simp only [e87, e88, Bool.or_false]
          go_loopg [103] (runeCount tx + 1) (CmRel (runeCount tx + 1) W8)
          case atStart => exact ⟨0, rfl, Nat.zero_le _, rfl, Below.refl _ _⟩
          case round =>
            obtain ⟨j, hg3, hj, rfl, hb9⟩ := hrel
            have Hg3 := Lib.hid hg3
            have HB9 := Lib.hid hb9
            clear hg3 hb9
            by_cases hjn : j < runeCount tx + 1
            · have hjI : (j : Int) < ((runeCount tx : Nat) : Int) + 1 := by omega
              have hjN : j ≤ runeCount tx := by omega
              have HTr := Lib.hid (show Tabs wr from Utf8Tabs_below HT8.out HB9.out)
              have HBKr := Lib.hid (HBK8.out.kept (Fr.of_below HB9.out) (fun q => q))
              obtain ⟨-, r1, -, -, -, -, -, -, -, -, r10, r11, r12, -⟩ := blk13 HBKr.out
              have hgood := HDB.out j hjN
              rw [HDQ.out] at hgood
              obtain ⟨Dj, hDj⟩ : ∃ Dj, max (cumW (chW sz) tx j - (x - rx)) (x - rx - cumW (chW sz) tx j) = Dj := ⟨_, rfl⟩
              rw [hDj] at hgood
              have HDJ := Lib.hid hDj
              have cS := Lib.hid (fun d os => Calls.regrown_of (w := wr) (d := d) (os := os) (slice_any tx j _ htxz (Utf8Tabs_below HTr.out (below_regrown wr d os)) HV.out hjN))
              have cW := Lib.hid (fun d os => Calls.regrown_of (w := wr) (d := d) (os := os) ((width_any (pre tx j) sz (Go.Sort.grow (redrawn wr d) os) (by rw [pre_size]; have := posAt_le tx j; omega)).mono (fun e w' (q : _ ∧ _) => (show e = .returned (.int .i64 (cumW (chW sz) tx j)) ∧ Below _ _ w' from ⟨by rw [q.1, pre_count _ hjN, pre_cum _ _ hjN (Nat.le_refl _)], by obtain ⟨pos, h⟩ := q.2; rw [h]; exact (Below.refl _ _).alloc (Nat.le_refl _) _⟩))))
              have cDj := Lib.hid (fun d os => cD.out wr j hjN d os)
              rw [hDj] at cDj
              have r1 := cell_regrown r1
              have r11 := cell_regrown r11
              obtain ⟨g1, g2⟩ := not_or.1 hgood
              have hgood2 : ¬ Dj < Dq := g1
              clear hgood hDj g1
              go_upto_region 21 with fail
              refine wp_region_quiet_below (by kernel_rfl) (by kernel_rfl) ?_
              repeat (go_big_quiet_step (first | with_reducible exact cS.out _ _ | with_reducible exact cW.out _ _ | exact cDj.out _ _))
              refine wpQuiet_nil ?_
              intro _ hw'
              obtain ⟨⟨dq, osq⟩, hw''⟩ := hw'
              subst hw''
              have h10 := below_regrown wr dq osq
              obtain ⟨W10, hW10⟩ : ∃ W, W = Go.Sort.grow (redrawn wr dq) osq := ⟨_, rfl⟩
              rw [show Go.Sort.grow (redrawn wr (Regrown.mk dq osq).d) (Regrown.mk dq osq).os = W10 from hW10.symm]
              rw [← hW10] at h10
              have HB10 := Lib.hid (HB9.out.trans (h10.mono HB9.out.size))
              clear h10 hW10 r1 r11 r10 r12
              by_cases he : Dj = Dq
              · have hjq : ¬ (j : Int) < (q : Int) := by have := g2; intro hlt; exact this ⟨he, by omega⟩
                subst he
                clear g2
                go_wp2_with fail
                go_roundg (runeCount tx + 1 - (j + 1))
                case measure => have := Hg3.out; omega
                case rel => exact ⟨j + 1, rfl, by omega, rfl, HB10.out⟩
              · clear g2
                go_wp2_with fail
                go_roundg (runeCount tx + 1 - (j + 1))
                case measure => have := Hg3.out; omega
                case rel => exact ⟨j + 1, rfl, by omega, rfl, HB10.out⟩
            · have hjI : ¬ (j : Int) < ((runeCount tx : Nat) : Int) + 1 := by omega
              go_wp2_with fail
              exact bodyPost_ret (results_tmp Tryd.results3 _ _ _) rfl ⟨rfl, HB8.out.trans (HB9.out.mono HB8.out.size)⟩
        · have hv' : validD tx.data.toList = false := by simpa using hv
          have HV := Lib.hid hv'
          clear hv hv' hq
          go_wp2_with (go_at_call 9; refine HRP.out.mono ?_; rintro e w6 ⟨t6, rfl, -, ht6, hb6⟩; have hneb := toList_ne (ht6 HV.out); have HB6 := Lib.hid (HB5.out.trans (hb6.mono HB5.out.size)); have HBK6 := Lib.hid (HBK.out.kept (Fr.of_below hb6) (fun q => q)); clear ht6 hb6 r1 r10 r11 r12; obtain ⟨-, r1, -, -, -, -, -, -, -, -, r10, r11, r12, -⟩ := blk13 HBK6.out)
          exact bodyPost_ret (results_tmp Tryd.results3 _ _ _) rfl ⟨rfl, HB6.out⟩
      · go_wp2_with fail
        go_roundg (H.length - (k + 1))
        case measure => have := Hg.out; omega
        case rel =>
          refine ⟨k + 1, rfl, by omega, rfl, Hp.out.alloc Hp.out.size _, fun i g hi hgi => ?_⟩
          rcases Nat.lt_or_ge i k with q | q
          · exact HBF.out i g q hgi
          · obtain rfl : i = k := by omega
            rw [HQ.out] at hgi
            cases hgi
            exact hkd
    · have hkI : ¬ (k : Int) < (H.length : Int) := by omega
      have hke : k = H.length := by omega
      have HKE := Lib.hid hke
      have hon : o = none := by
        rw [HO.out, List.find?_eq_none]
        intro g hg
        obtain ⟨i, hi, rfl⟩ := List.getElem_of_mem hg
        have := HBF.out i H[i] (by rw [hke]; exact hi) (List.getElem?_eq_getElem hi)
        simpa using this
      obtain ⟨rfl, rfl, rfl⟩ := HNO.out hon
      clear hke
      go_wp2_with fail
      exact bodyPost_ret (results_tmp Tryd.results3 _ _ _) rfl ⟨rfl, HB4.out.trans (Hp.out.mono HB0.out)⟩
end Go.Proofs.YtfjjgebfeklnhaaDoor
