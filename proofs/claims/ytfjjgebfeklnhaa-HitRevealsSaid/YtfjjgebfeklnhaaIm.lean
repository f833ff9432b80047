/-
  hit.span, hit.Clamp.
-/
import Derived.Test.YtfjjgebfeklnhaaIl
set_option linter.unusedVariables false
set_option linter.unusedSimpArgs false
namespace Go.Proofs.Ytfjjgebfeklnhaa
open Go.RowKit Go.K

/-! plain -/
def gmax {α : Type} (f : α → Int) : List α → Int
  | [] => 0
  | r :: rs => rs.foldl (fun m q => max m (f q)) (f r)
theorem gmax_snoc {α : Type} (f : α → Int) (l : List α) (r : α) : gmax f (l ++ [r]) = if l = [] then f r else max (gmax f l) (f r) := by
  cases l with
  | nil => simp [gmax]
  | cons a l => simp [gmax]
def kR (b : Int) (k : Ft) : Int := wr (wr (extW k + k.a.x) - b)
def kC (b : Int) (k : Ft) : Int := wr (wr (extH k + k.a.y) - b)
def spanX (x : Ft) : Int × Int :=
  if x.a.ov ≠ 2 ∨ x.ks = [] then (0, 0) else
    (max (wr (gmax (kR x.a.bd) x.ks - max (wr (wr (x.a.w - x.a.bd) - x.a.bd)) 0)) 0, max (wr (gmax (kC x.a.bd) x.ks - max (wr (wr (x.a.h - x.a.bd) - x.a.bd)) 0)) 0)
def spanT (t : Ft) (nd wd ht : Int) : Int × Int :=
  if nd = 0 then (0, 0) else
  if nd = t.a.nd then (max (wr (extW t - max wd 0)) 0, max (wr (extH t - max ht 0)) 0) else
  match findT nd t with
  | none => (0, 0)
  | some p => spanX p.1

theorem ks_sz (x : Ft) : Ft.szL x.ks + 1 = x.sz := by cases x; rw [Ft.sz]; simp only [Ft.ks]; omega
def SpRel (w : World) (m bx bb : Nat) (t x : Ft) (g : Nat) (v15 v16 v17 v69 : Value) (wr' : World) : Prop :=
  ∃ k : Nat, g = x.ks.length - k ∧ k ≤ x.ks.length ∧ v69 = .int .i64 k ∧ v15 = .int .i64 (gmax (kR x.a.bd) (x.ks.take k)) ∧ v16 = .int .i64 (gmax (kC x.a.bd) (x.ks.take k)) ∧ v17 = .bool (k == 0) ∧
    St w wr' [As.cells bb #[.int .i64 x.a.bd, .int .i64 x.a.bd, .int .i64 x.a.bd, .int .i64 x.a.bd] 44, As.cells bx (fc x).toArray 51, As.cells m (fc t).toArray 51]
theorem extent_w (t : Ft) (w : World) (h : FtAt w t) (hs : t.sz ≤ 100000) (X Y : Int) (hX : extW t = X) (hY : extH t = Y) :
    Calls Try.prog 16 #[.agg (fc t).toArray] w fun e w' => e = .returned (.tuple #[.int .i64 X, .int .i64 Y]) ∧ Below w.heap.size w w' := by
  subst hX hY; exact extent_any t w h hs

set_option maxRecDepth 100000 in
set_option maxHeartbeats 2000000 in
theorem span_kids (t x : Ft) (xr : R4) (nd wd ht : Int) (w : World) (hT : FtAt w t) (hsz : t.sz ≤ 100000) (h0b : (nd == 0) = false) (h1b : (nd == t.a.nd) = false) (ho : findT nd t = some (x, xr)) (hxat : FtAt w x) (hxsz : x.sz ≤ t.sz) (hov : x.a.ov = 2) (hne : x.ks ≠ []) :
    Calls Try.prog 36 #[.agg (fc t).toArray, .int .i64 nd, .int .i64 wd, .int .i64 ht] w fun e w' => e = .returned (.tuple #[.int .i64 (spanX x).1, .int .i64 (spanX x).2]) ∧ Below w.heap.size w w' := by
  have hsx : spanX x = (max (wr (gmax (kR x.a.bd) x.ks - max (wr (wr (x.a.w - x.a.bd) - x.a.bd)) 0)) 0, max (wr (gmax (kC x.a.bd) x.ks - max (wr (wr (x.a.h - x.a.bd) - x.a.bd)) 0)) 0) := by
    unfold spanX
    rw [if_neg (by
      rintro (q | q)
      · exact q hov
      · exact hne q)]
  rw [hsx]
  clear hsx
  obtain ⟨U, hU⟩ : ∃ U, gmax (kR x.a.bd) x.ks = U := ⟨_, rfl⟩
  obtain ⟨V, hV⟩ : ∃ V, gmax (kC x.a.bd) x.ks = V := ⟨_, rfl⟩
  rw [hU, hV]
  have HU := Lib.hid hU
  have HV := Lib.hid hV
  clear hU hV
  have hov2 := Lib.hid hov
  have hovb : (x.a.ov != 2) = false := by simp [hov]
  have HT := Lib.hid hT
  have HXA := Lib.hid hxat
  clear hT hxat
  have H1 := Lib.hid ((St.start w (Below.refl _ w)).new (fc t).toArray 51)
  obtain ⟨-, c1, -⟩ := bigI t.a t.ks.length 51 _ _ H1.out.blk.1
  have HF := Lib.hid (fun (w' : World) (h : FtAt w' t) => find_c t nd w' h hsz)
  have z51 := zv51
  unfold FiPost at HF
  rw [ho] at HF
  have HO := Lib.hid ho
  clear ho
  simp only [Option.map_some, Option.getD_some, Option.isSome_some] at HF
  have hlb : ((x.ks.length : Int) == 0) = false := by
    have : 0 < x.ks.length := List.length_pos_iff.2 hne
    simp; omega
  have hkz := ks_sz x
  have hkl : x.ks.length ≤ 100000 := by
    have := szL_ge x.ks
    omega
  have hklI : (x.ks.length : Int) ≤ 100000 := by omega
  have HNE := Lib.hid hne
  clear hne
  go_enter Try.func36, Try.ntmps36
  go_upto_region 9 with (first
    | (refine st_load rfl (.tmp 4) rfl (fc t) H1.out (.head _) rfl rfl Try.underlying51 rfl size51 ?_)
    | (go_at_call 46; refine (HF.out _ (HT.out.stay H1.out.bel)).mono ?_; rintro e w2 ⟨rfl, hb2⟩; have H2 := Lib.hid ((H1.out.of_below hb2).new (fv Fz 0).toArray 51); clear hb2)
    | (refine st_store rfl (.tmp 12) (.tmp 47) rfl H2.out (fc x) rfl rfl rfl rfl size51 (fc_one _) ?_; intro W4 HW4; have H4 := Lib.hid HW4; clear HW4; obtain ⟨-, -, -, -, -, -, c59, c66⟩ := bigI x.a x.ks.length 51 _ _ H4.out.blk.1))
  obtain ⟨c38, c39, c40, c41⟩ := bigB x.a x.ks.length 51 _ _ H4.out.blk.1
  clear z51
  have h5 := H4.out.new #[.int .i64 x.a.bd, .int .i64 x.a.bd, .int .i64 x.a.bd, .int .i64 x.a.bd] 44
  have H5 := Lib.hid h5
  obtain ⟨-, -, -, -, -, -, -, c66n⟩ := bigI x.a x.ks.length 51 _ _ (h5.blkm (.tail _ (.head _)))
  clear h5
  go_upto_region 11 with fail
  obtain ⟨W5, hW5⟩ : ∃ W5, W4.alloc (.cells #[.int .i64 x.a.bd, .int .i64 x.a.bd, .int .i64 x.a.bd, .int .i64 x.a.bd] 44) = W5 := ⟨_, rfl⟩
  rw [hW5] at H5 c66n ⊢
  clear hW5 c66 c59 c38 c39 c40 c41 H4 H2
  obtain ⟨bx, hbx⟩ : ∃ bx, w2.heap.size = bx := ⟨_, rfl⟩
  obtain ⟨bb, hbb⟩ : ∃ bb, W4.heap.size = bb := ⟨_, rfl⟩
  obtain ⟨m, hm⟩ : ∃ m, w.heap.size = m := ⟨_, rfl⟩
  simp only [hbx, hbb, hm] at H5 c66n ⊢
  go_wp2_with fail
  go_loopg [15, 16, 17, 69] x.ks.length (SpRel w m bx bb t x)
  case atStart => exact ⟨0, rfl, Nat.zero_le _, rfl, by simp [gmax], by simp [gmax], rfl, H5.out⟩
  case round =>
    clear c66n
    obtain ⟨k, hg, hk, rfl, rfl, rfl, rfl, hst⟩ := hrel
    have Hg := Lib.hid hg
    have HS := Lib.hid hst
    clear hg hst
    by_cases hkn : k < x.ks.length
    · have hkI : (k : Int) < (x.ks.length : Int) := by omega
      have hkI0 : (0 : Int) ≤ (k : Int) := by omega
      have hat2 := HXA.out.stay HS.out.bel
      have hrd : Rd wr 67 x.a.s x.ks.length (flat fc x.ks) := hat2.rd
      obtain ⟨g, off, hsa, -⟩ := hrd.addr (by omega)
      rw [hsa] at hrd
      have hrg := Lib.hid (row_range hrd hkn)
      have hkid := HXA.out.kid x.ks[k] (List.getElem_mem hkn)
      have hks : x.ks[k].sz ≤ Ft.szL x.ks := sz_kid (List.getElem_mem hkn)
      have hks2 : Ft.szL x.ks ≤ 100000 := by omega
      obtain ⟨kd, hkd⟩ : ∃ kd, x.ks[k] = kd := ⟨_, rfl⟩
      have e1 : gmax (kR x.a.bd) (x.ks.take (k + 1)) = if x.ks.take k = [] then kR x.a.bd kd else max (gmax (kR x.a.bd) (x.ks.take k)) (kR x.a.bd kd) := by rw [List.take_succ_eq_append_getElem hkn, gmax_snoc, hkd]
      have e2 : gmax (kC x.a.bd) (x.ks.take (k + 1)) = if x.ks.take k = [] then kC x.a.bd kd else max (gmax (kC x.a.bd) (x.ks.take k)) (kC x.a.bd kd) := by rw [List.take_succ_eq_append_getElem hkn, gmax_snoc, hkd]
      have htk : x.ks.take k = [] ↔ k = 0 := by
        constructor
        · intro e
          have := congrArg List.length e
          rw [List.length_take, Nat.min_eq_left (by omega)] at this
          simpa using this
        · rintro rfl; rfl
      rw [hkd] at hkid hrg hks
      obtain ⟨u, hu⟩ : ∃ u, gmax (kR x.a.bd) (x.ks.take k) = u := ⟨_, rfl⟩
      obtain ⟨v, hv⟩ : ∃ v, gmax (kC x.a.bd) (x.ks.take k) = v := ⟨_, rfl⟩
      rw [hu] at e1
      rw [hv] at e2
      have E1 := Lib.hid e1
      have E2 := Lib.hid e2
      have HTK := Lib.hid htk
      have HKD := Lib.hid hkid
      have HSA := Lib.hid hsa
      rw [hu, hv, hsa]
      clear hat2 hrd hkid hkd hsa e1 e2 hu hv htk
      obtain ⟨X, hX⟩ : ∃ X, extW kd = X := ⟨_, rfl⟩
      obtain ⟨Y, hY⟩ : ∃ Y, extH kd = Y := ⟨_, rfl⟩
      have HX := Lib.hid hX
      have HY := Lib.hid hY
      clear hX hY
      have z51 := zv51
      have H6 := Lib.hid (HS.out.new (fv Fz 0).toArray 51)
      go_upto_region 15 with (first
        | (refine rg_load rfl (.tmp 71) rfl (fc kd) hrg.out rfl rfl Try.underlying51 rfl size51 ?_)
        | (refine st_store rfl (.tmp 19) (.tmp 72) rfl H6.out (fc kd) rfl rfl rfl rfl size51 (fc_one _) ?_; intro W7 HW7; have H7 := Lib.hid HW7; clear HW7)
        | (refine st_load rfl (.tmp 19) rfl (fc kd) H7.out (.head _) rfl rfl Try.underlying51 rfl size51 ?_)
        | (go_at_call 16; refine (extent_w kd _ (HKD.out.stay H7.out.bel) (by omega) X Y HX.out HY.out).mono ?_; rintro e w8 ⟨rfl, hb8⟩; have H8 := Lib.hid (H7.out.of_below hb8); clear hb8))
      clear z51
      obtain ⟨-, -, k2, k3, -⟩ := bigI kd.a kd.ks.length 51 _ _ H8.out.blk.1
      have b0 : w8.cell? ⟨bb, 0, none⟩ = some (.int .i64 x.a.bd) := (H8.out.blkm (b := bb) (.tail _ (.head _))).cell 0
      have b3 : w8.cell? ⟨bb, 3, none⟩ = some (.int .i64 x.a.bd) := (H8.out.blkm (b := bb) (.tail _ (.head _))).cell 3
      go_quiet (fail)
      have f1 : wrap64 (wrap64 (X + kd.a.x) - x.a.bd) = kR x.a.bd kd := by rw [wr64, wr64, kR, HX.out]
      have f2 : wrap64 (wrap64 (Y + kd.a.y) - x.a.bd) = kC x.a.bd kd := by rw [wr64, wr64, kC, HY.out]
      rw [f1, f2]
      obtain ⟨p, hp⟩ : ∃ p, kR x.a.bd kd = p := ⟨_, rfl⟩
      obtain ⟨q, hq⟩ : ∃ q, kC x.a.bd kd = q := ⟨_, rfl⟩
      rw [hp] at E1 ⊢
      rw [hq] at E2 ⊢
      clear f1 f2 hp hq k2 k3 b0 b3
      have m1 : ∀ a b : Int, (if a < b then b else a) = max a b := fun a b => by split <;> omega
      have H9 := Lib.hid (H8.out.drewN nq).drop
      obtain ⟨W9, hW9⟩ : ∃ W9, w8.drewN nq = W9 := ⟨_, rfl⟩
      rw [hW9] at H9 ⊢
      clear hW9
      cases k with
      | zero =>
        go_wp2_with fail
        try rw [← HSA.out]
        go_roundg (x.ks.length - (0 + 1))
        case measure => have := Hg.out; omega
        case rel =>
          refine ⟨1, rfl, hkn, by simp, ?_, ?_, by simp, H9.out⟩
          · have := E1.out
            rw [if_pos (HTK.out.2 (by first | trivial | rfl))] at this
            simp only [Nat.zero_add] at this
            rw [this]
          · have := E2.out
            rw [if_pos (HTK.out.2 (by first | trivial | rfl))] at this
            simp only [Nat.zero_add] at this
            rw [this]
      | succ k =>
        go_wp2_with fail
        try rw [← HSA.out]
        go_roundg (x.ks.length - (k + 1 + 1))
        case measure => have := Hg.out; omega
        case rel =>
          refine ⟨k + 1 + 1, rfl, hkn, by simp, ?_, ?_, by simp, H9.out⟩
          · have := E1.out
            rw [if_neg (fun q => by have := HTK.out.1 q; omega)] at this
            rw [this]
          · have := E2.out
            rw [if_neg (fun q => by have := HTK.out.1 q; omega)] at this
            rw [this]
    · have hkI : ¬ (k : Int) < (x.ks.length : Int) := by omega
      have hke : k = x.ks.length := by omega
      subst hke
      rw [List.take_length]
      rw [HU.out, HV.out]
      have m1 : ∀ a b : Int, (if a < b then b else a) = max a b := fun a b => by split <;> omega
      obtain ⟨-, -, -, -, k4, k5, -⟩ := bigI x.a x.ks.length 51 _ _ (HS.out.blkm (.tail _ (.head _)))
      have b0 : wr.cell? ⟨bb, 0, none⟩ = some (.int .i64 x.a.bd) := (HS.out.blkm (b := bb) (.head _)).cell 0
      have b1 : wr.cell? ⟨bb, 1, none⟩ = some (.int .i64 x.a.bd) := (HS.out.blkm (b := bb) (.head _)).cell 1
      have b2 : wr.cell? ⟨bb, 2, none⟩ = some (.int .i64 x.a.bd) := (HS.out.blkm (b := bb) (.head _)).cell 2
      have b3 : wr.cell? ⟨bb, 3, none⟩ = some (.int .i64 x.a.bd) := (HS.out.blkm (b := bb) (.head _)).cell 3
      go_upto_region 20 with fail
      go_quiet (fail)
      go_wp2_with fail
      refine bodyPost_ret (results_tmp2 rfl _ _ _) rfl ⟨?_, below_drewN (by have := HS.out.bel; rwa [hm] at this)⟩
      show Ending.returned (.tuple #[.int .i64 (max (wrap64 (U - max (wrap64 (wrap64 (x.a.w - x.a.bd) - x.a.bd)) 0)) 0), .int .i64 (max (wrap64 (V - max (wrap64 (wrap64 (x.a.h - x.a.bd) - x.a.bd)) 0)) 0)]) = _
      simp only [wr64]
end Go.Proofs.Ytfjjgebfeklnhaa
