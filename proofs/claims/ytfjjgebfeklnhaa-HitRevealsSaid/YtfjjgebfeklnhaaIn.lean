/-
  hit.span, hit.Clamp.
-/
import Derived.Test.YtfjjgebfeklnhaaIm
set_option linter.unusedVariables false
set_option linter.unusedSimpArgs false
namespace Go.Proofs.Ytfjjgebfeklnhaa
open Go.RowKit Go.K

set_option maxRecDepth 100000 in
set_option maxHeartbeats 2000000 in
theorem span_c (t : Ft) (nd wd ht : Int) (w : World) (hT : FtAt w t) (hsz : t.sz ≤ 100000) :
    Calls Try.prog 36 #[.agg (fc t).toArray, .int .i64 nd, .int .i64 wd, .int .i64 ht] w fun e w' => e = .returned (.tuple #[.int .i64 (spanT t nd wd ht).1, .int .i64 (spanT t nd wd ht).2]) ∧ Below w.heap.size w w' := by
  have HT := Lib.hid hT
  clear hT
  have H1 := Lib.hid ((St.start w (Below.refl _ w)).new (fc t).toArray 51)
  obtain ⟨-, c1, -⟩ := bigI t.a t.ks.length 51 _ _ H1.out.blk.1
  by_cases h0 : nd = 0
  · have hsp : spanT t nd wd ht = (0, 0) := by unfold spanT; rw [if_pos h0]
    rw [hsp]
    subst h0
    clear hsp
    go_enter Try.func36, Try.ntmps36
    go_wp2_with fail
    refine bodyPost_ret (results_tmp2 rfl _ _ _) rfl ?_
    exact ⟨rfl, H1.out.bel⟩
  · have h0b : (nd == 0) = false := by simpa using h0
    by_cases h1 : nd = t.a.nd
    · have h1b : (nd == t.a.nd) = true := by simpa using h1
      have hsp : spanT t nd wd ht = (max (wr (extW t - max wd 0)) 0, max (wr (extH t - max ht 0)) 0) := by unfold spanT; rw [if_neg h0, if_pos h1]
      rw [hsp]
      clear hsp
      obtain ⟨X, hX⟩ : ∃ X, extW t = X := ⟨_, rfl⟩
      obtain ⟨Y, hY⟩ : ∃ Y, extH t = Y := ⟨_, rfl⟩
      rw [hX, hY]
      have HX := Lib.hid hX
      have HY := Lib.hid hY
      clear hX hY h1 h0
      go_enter Try.func36, Try.ntmps36
      go_upto_region 5 with (first
        | (refine st_load rfl (.tmp 4) rfl (fc t) H1.out (.head _) rfl rfl Try.underlying51 rfl size51 ?_)
        | (go_at_call 16; refine (extent_w t _ (HT.out.stay H1.out.bel) hsz X Y HX.out HY.out).mono ?_; rintro e w2 ⟨rfl, hb2⟩; have H2 := Lib.hid (H1.out.of_below hb2); clear hb2))
      have m1 : ∀ a b : Int, (if a < b then b else a) = max a b := fun a b => by split <;> omega
      go_wp2_with fail
      refine bodyPost_ret (results_tmp2 rfl _ _ _) rfl ⟨?_, H2.out.bel⟩
      show Ending.returned (.tuple #[.int .i64 (max (wrap64 (X - max wd 0)) 0), .int .i64 (max (wrap64 (Y - max ht 0)) 0)]) = _
      simp only [wr64]
    · have h1b : (nd == t.a.nd) = false := by simpa using h1
      have hsp : spanT t nd wd ht = (match findT nd t with | none => (0, 0) | some p => spanX p.1) := by unfold spanT; rw [if_neg h0, if_neg h1]; rfl
      have HF := Lib.hid (fun (w' : World) (h : FtAt w' t) => find_c t nd w' h hsz)
      have z51 := zv51
      obtain ⟨o, ho⟩ : ∃ o, findT nd t = o := ⟨_, rfl⟩
      unfold FiPost at HF
      rw [ho] at HF hsp
      have HO := Lib.hid ho
      clear ho h0 h1
      cases o with
      | none =>
        rw [hsp]
        simp only [Option.map_none, Option.getD_none, Option.isSome_none] at HF
        clear hsp
        go_enter Try.func36, Try.ntmps36
        go_wp2_with (first
          | (refine st_load rfl (.tmp 4) rfl (fc t) H1.out (.head _) rfl rfl Try.underlying51 rfl size51 ?_)
          | (go_at_call 46; refine (HF.out _ (HT.out.stay H1.out.bel)).mono ?_; rintro e w2 ⟨rfl, hb2⟩; have H2 := Lib.hid ((H1.out.of_below hb2).new (fv Fz 0).toArray 51); clear hb2)
          | (refine st_store rfl (.tmp 12) (.tmp 47) rfl H2.out (fc zFt) rfl rfl rfl rfl size51 (fc_one _) ?_; intro W4 HW4; have H4 := Lib.hid HW4; clear HW4))
        refine bodyPost_ret (results_tmp2 rfl _ _ _) rfl ?_
        exact ⟨rfl, H4.out.bel⟩
      | some p =>
        obtain ⟨x, xr⟩ := p
        have hxs := (FtAt.sub 0 0 HT.out (x, xr) (by have := HO.out; unfold findT at this; exact List.mem_of_find?_eq_some this))
        rw [hsp]
        simp only [Option.map_some, Option.getD_some, Option.isSome_some] at HF ⊢
        clear hsp
        obtain ⟨hxat, hxsz⟩ := hxs
        simp only at hxat hxsz
        have HXA := Lib.hid hxat
        clear hxat
        by_cases hov : x.a.ov = 2
        · have hovb : (x.a.ov != 2) = false := by simp [hov]
          cases hk0 : x.ks with
          | nil =>
            have hsx : spanX x = (0, 0) := by unfold spanX; rw [if_pos (.inr hk0)]
            rw [hsx]
            clear hsx
            have hlb : ((x.ks.length : Int) == 0) = true := by simp [hk0]
            clear hk0
            go_enter Try.func36, Try.ntmps36
            go_wp2_with (first
              | (refine st_load rfl (.tmp 4) rfl (fc t) H1.out (.head _) rfl rfl Try.underlying51 rfl size51 ?_)
              | (go_at_call 46; refine (HF.out _ (HT.out.stay H1.out.bel)).mono ?_; rintro e w2 ⟨rfl, hb2⟩; have H2 := Lib.hid ((H1.out.of_below hb2).new (fv Fz 0).toArray 51); clear hb2)
              | (refine st_store rfl (.tmp 12) (.tmp 47) rfl H2.out (fc x) rfl rfl rfl rfl size51 (fc_one _) ?_; intro W4 HW4; have H4 := Lib.hid HW4; clear HW4; obtain ⟨-, -, -, -, -, -, c59, c66⟩ := bigI x.a x.ks.length 51 _ _ H4.out.blk.1))
            refine bodyPost_ret (results_tmp2 rfl _ _ _) rfl ?_
            exact ⟨rfl, H4.out.bel⟩
          | cons k0 kr =>
            exact span_kids t x xr nd wd ht w HT.out hsz h0b h1b HO.out HXA.out hxsz hov (by rw [hk0]; simp)
        · have hovb : (x.a.ov != 2) = true := by simp [hov]
          have hsx : spanX x = (0, 0) := by unfold spanX; rw [if_pos (.inl hov)]
          rw [hsx]
          clear hsx
          go_enter Try.func36, Try.ntmps36
          go_wp2_with (first
            | (refine st_load rfl (.tmp 4) rfl (fc t) H1.out (.head _) rfl rfl Try.underlying51 rfl size51 ?_)
            | (go_at_call 46; refine (HF.out _ (HT.out.stay H1.out.bel)).mono ?_; rintro e w2 ⟨rfl, hb2⟩; have H2 := Lib.hid ((H1.out.of_below hb2).new (fv Fz 0).toArray 51); clear hb2)
            | (refine st_store rfl (.tmp 12) (.tmp 47) rfl H2.out (fc x) rfl rfl rfl rfl size51 (fc_one _) ?_; intro W4 HW4; have H4 := Lib.hid HW4; clear HW4; obtain ⟨-, -, -, -, -, -, c59, c66⟩ := bigI x.a x.ks.length 51 _ _ H4.out.blk.1))
          refine bodyPost_ret (results_tmp2 rfl _ _ _) rfl ?_
          exact ⟨rfl, H4.out.bel⟩

def clampT (t : Ft) (nd x y wd ht : Int) : Int × Int := (min (max x 0) (spanT t nd wd ht).1, min (max y 0) (spanT t nd wd ht).2)
abbrev sc3 (n x y : Int) : Value := .agg #[.int .i64 n, .int .i64 x, .int .i64 y]
set_option maxRecDepth 100000 in
set_option maxHeartbeats 1000000 in
theorem clamp_c (t : Ft) (nd x y wd ht : Int) (w : World) (hT : FtAt w t) (hsz : t.sz ≤ 100000) :
    Calls Try.prog 19 #[.agg (fc t).toArray, sc3 nd x y, .int .i64 wd, .int .i64 ht] w fun e w' => e = .returned (sc3 nd (clampT t nd x y wd ht).1 (clampT t nd x y wd ht).2) ∧ Below w.heap.size w w' := by
  have HT := Lib.hid hT
  have h1 := (((St.start w (Below.refl _ w)).new (fc t).toArray 51).new #[.int .i64 nd, .int .i64 x, .int .i64 y] 61).new #[.int .i64 0, .int .i64 0, .int .i64 0] 61
  simp only [World.size_alloc] at h1
  have H1 := Lib.hid h1
  have HS := Lib.hid (fun (w' : World) (h : FtAt w' t) => span_c t nd wd ht w' h hsz)
  obtain ⟨P, hP⟩ : ∃ P, (spanT t nd wd ht).1 = P := ⟨_, rfl⟩
  obtain ⟨Q, hQ⟩ : ∃ Q, (spanT t nd wd ht).2 = Q := ⟨_, rfl⟩
  have e : clampT t nd x y wd ht = (min (max x 0) P, min (max y 0) Q) := by rw [clampT, hP, hQ]
  rw [e]
  rw [hP, hQ] at HS
  clear hT h1 hP hQ e
  have m1 : ∀ a b : Int, (if a < b then b else a) = max a b := fun a b => by split <;> omega
  have m2 : ∀ a b : Int, (if b < a then b else a) = min a b := fun a b => by split <;> omega
  go_enter Try.func19, Try.ntmps19
  have c0 : (((w.alloc (.cells (fc t).toArray 51)).alloc (.cells #[.int .i64 nd, .int .i64 x, .int .i64 y] 61)).alloc (.cells #[.int .i64 0, .int .i64 0, .int .i64 0] 61)).cell? ⟨w.heap.size + 1, 0, none⟩ = some (.int .i64 nd) := (H1.out.blkm (.tail _ (.head _))).cell 0
  go_upto_region 2 with (first
    | (refine st_load rfl (.tmp 4) rfl (fc t) H1.out (.tail _ (.tail _ (.head _))) rfl rfl Try.underlying51 rfl size51 ?_)
    | (go_at_call 36; refine (HS.out _ (HT.out.stay H1.out.bel)).mono ?_; rintro e w2 ⟨rfl, hb2⟩; have H2 := Lib.hid (H1.out.of_below hb2).swap; clear hb2))
  clear c0
  obtain ⟨c0, c1, c2, f0, f1, f2⟩ := H2.out.blk.1.three
  obtain ⟨r0, r1, r2, g0, g1, g2⟩ := (H2.out.blkm (.tail _ (.head _))).three
  go_wp2_with fail
  obtain ⟨p, hp⟩ : ∃ p, min (max x 0) P = p := ⟨_, rfl⟩
  obtain ⟨q, hq⟩ : ∃ q, min (max y 0) Q = q := ⟨_, rfl⟩
  rw [hp, hq]
  have h9 := ((((((H2.out.set 1 (.int .i64 p)).set 2 (.int .i64 q)).swap).set 0 (.int .i64 nd)).set 1 (.int .i64 p)).set 2 (.int .i64 q))
  simp only [List.setIfInBounds_toArray, List.set_cons_zero, List.set_cons_succ] at h9
  refine bodyPost_ret (results_cell_row (P := Try.prog) Try.results19 _ _ (w.heap.size + 1 + 1) 61 #[.int .i64 nd, .int .i64 p, .int .i64 q] _ _ rfl h9.blk.1 Try.underlying61 rfl (by kernel_rfl)) rfl ?_
  exact ⟨rfl, h9.bel⟩
end Go.Proofs.Ytfjjgebfeklnhaa
