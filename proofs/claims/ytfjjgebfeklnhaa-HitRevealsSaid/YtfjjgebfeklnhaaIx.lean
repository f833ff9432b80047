/-
  hit.Reveal.
-/
import Derived.Test.YtfjjgebfeklnhaaIw
set_option linter.unusedVariables false
set_option linter.unusedSimpArgs false
namespace Go.Proofs.Ytfjjgebfeklnhaa
open Go.RowKit Go.K

theorem locate_s (t : Ft) (nd : Int) (w : World) (hT : FtAt w t) (hsz : t.sz ≤ 100000) (p : Ft × R4) (hp : locT nd t = some p) :
    Calls Try.prog 37 #[.agg (fc t).toArray, .int .i64 nd] w fun e w' => e = .returned (.tuple #[.agg #[.int .i64 p.2.x, .int .i64 p.2.y, .int .i64 p.2.w, .int .i64 p.2.h], .bool true]) ∧ Below w.heap.size w w' := by
  refine (locate_any t nd w hT hsz).mono ?_
  rintro e w' ⟨rfl, hb⟩
  rw [hp]
  exact ⟨rfl, hb⟩
theorem locate_n (t : Ft) (nd : Int) (w : World) (hT : FtAt w t) (hsz : t.sz ≤ 100000) (hp : locT nd t = none) :
    Calls Try.prog 37 #[.agg (fc t).toArray, .int .i64 nd] w fun e w' => e = .returned (.tuple #[.agg #[.int .i64 0, .int .i64 0, .int .i64 0, .int .i64 0], .bool false]) ∧ Below w.heap.size w w' := by
  refine (locate_any t nd w hT hsz).mono ?_
  rintro e w' ⟨rfl, hb⟩
  rw [hp]
  exact ⟨rfl, hb⟩
theorem into_n (o f s d X : Int) (w : World) (h : intoT o f s d = X) : Calls Try.prog 39 #[.int .i64 o, .int .i64 f, .int .i64 s, .int .i64 d] w fun e w' => e = .returned (.int .i64 X) ∧ Below w.heap.size w w' := by
  subst h; exact into_c o f s d w
theorem getS_n (l : List Sc) (nd : Int) : (getS l nd).n = nd := by
  unfold getS
  cases h : l.find? (fun s => s.n == nd) with
  | none => rfl
  | some x => have := List.find?_some h; simpa using this
theorem get_x (s : Option Addr) (c n : Nat) (ls : List Sc) (nd x y : Int) (w : World) (h : Rd w 3 s n (flat scc ls)) (hl : ls.length = n) (hn : n ≤ 100000) (hx : (getS ls nd).x = x) (hy : (getS ls nd).y = y) :
    Calls Try.prog 22 #[.slice s n c, .int .i64 nd] w fun e w' => e = .returned (sc3 nd x y) ∧ Below w.heap.size w w' := by
  subst hx hy
  refine (get_any s c n ls nd w h hl hn).mono ?_
  rintro e w' ⟨rfl, hb⟩
  rw [getS_n]
  exact ⟨rfl, hb⟩
theorem scroll_x (t : Ft) (s : Option Addr) (cap n : Nat) (ls : List Sc) (nd yx yy wd ht p q : Int) (w : World) (hT : FtAt w t) (hsz : t.sz ≤ 100000) (h : Rd w 3 s n (flat scc ls)) (hl : ls.length = n) (hn : n ≤ 100000) (hcx : (clampT t nd yx yy wd ht).1 = p) (hcy : (clampT t nd yx yy wd ht).2 = q) (R : List Sc) (hR : scrollL ⟨nd, p, q⟩ ls = R) :
    Calls Try.prog 21 #[.agg (fc t).toArray, .slice s n cap, sc3 nd yx yy, .int .i64 wd, .int .i64 ht] w fun e w' => ∃ s' c', e = .returned (.slice s' R.length c') ∧ K.Own w w' 61 3 s' R.length c' (flat scc R) := by
  refine (scroll_any t s cap n ls yx yy wd ht ⟨nd, p, q⟩ w hT hsz h hl hn hcx hcy).mono ?_
  rintro e w' ⟨s', c', rfl, o⟩
  rw [hR] at o
  exact ⟨s', c', by rw [hR], o⟩

/-- what revealing scrolls to -/
def wantX (t : Ft) (ls : List Sc) (r : R4) (wd : Int) : Int := intoT (getS ls t.a.nd).x (wr (r.x - t.a.x)) r.w (max wd 0)
def wantY (t : Ft) (ls : List Sc) (r : R4) (ht : Int) : Int := intoT (getS ls t.a.nd).y (wr (r.y - t.a.y)) r.h (max ht 0)
def revealR (t : Ft) (ls : List Sc) (r : R4) (wd ht : Int) : List Sc :=
  scrollL ⟨t.a.nd, (clampT t t.a.nd (wantX t ls r wd) (wantY t ls r ht) wd ht).1, (clampT t t.a.nd (wantX t ls r wd) (wantY t ls r ht) wd ht).2⟩ ls

set_option maxRecDepth 100000 in
set_option maxHeartbeats 1000000 in
theorem reveal_none (t : Ft) (s : Option Addr) (c n : Nat) (ls : List Sc) (nd wd ht : Int) (w : World) (hT : FtAt w t) (hsz : t.sz ≤ 100000) (h : Rd w 3 s n (flat scc ls)) (hl : ls.length = n) (hn : n ≤ 1000) (hp : locT nd t = none) :
    Calls Try.prog 23 #[.agg (fc t).toArray, .slice s n c, .int .i64 nd, .int .i64 wd, .int .i64 ht] w fun e w' => ∃ s' c', e = .returned (.slice s' n c') ∧ K.Own w w' 61 3 s' n c' (flat scc ls) := by
  have HR := Lib.hid h
  have HT := Lib.hid hT
  have HL := Lib.hid hl
  have HP := Lib.hid hp
  clear h hT hl hp
  have H1 := Lib.hid ((St.start w (Below.refl _ w)).new (fc t).toArray 51)
  go_enter Try.func23, Try.ntmps23
  go_wp2_with (first
    | (refine st_load rfl (.tmp 5) rfl (fc t) H1.out (.head _) rfl rfl Try.underlying51 rfl size51 ?_)
    | (go_at_call 37; refine (locate_n t nd _ (HT.out.stay H1.out.bel) hsz HP.out).mono ?_; rintro e w2 ⟨rfl, hb2⟩; have H2 := Lib.hid ((H1.out.of_below hb2).new #[.int .i64 0, .int .i64 0, .int .i64 0, .int .i64 0] 30); clear hb2)
    | (go_at_call 38; refine (clone_any s c n ls _ (HR.out.below H2.out.bel) HL.out (by omega)).mono ?_; rintro e w3 ⟨s3, c3, rfl, h3⟩; have H3 := Lib.hid (H2.out.own_new h3); clear h3))
  go_ret
  exact ⟨s3, c3, rfl, H3.out.sl, H3.out.bel, fun k hk => (H3.out.row_blk k hk).2.1⟩

set_option maxRecDepth 100000 in
set_option maxHeartbeats 2000000 in
theorem reveal_some (t : Ft) (s : Option Addr) (c n : Nat) (ls : List Sc) (nd wd ht : Int) (w : World) (hT : FtAt w t) (hsz : t.sz ≤ 100000) (h : Rd w 3 s n (flat scc ls)) (hl : ls.length = n) (hn : n ≤ 1000) (pt : Ft × R4) (hp : locT nd t = some pt) (R : List Sc) (hR : revealR t ls pt.2 wd ht = R) :
    Calls Try.prog 23 #[.agg (fc t).toArray, .slice s n c, .int .i64 nd, .int .i64 wd, .int .i64 ht] w fun e w' => ∃ s' c', e = .returned (.slice s' R.length c') ∧ K.Own w w' 61 3 s' R.length c' (flat scc R) := by
  obtain ⟨xf, ⟨rx, ry, rw', rh⟩⟩ := pt
  have HR := Lib.hid h
  have HT := Lib.hid hT
  have HL := Lib.hid hl
  have HP := Lib.hid hp
  obtain ⟨sx, hsx⟩ : ∃ x, (getS ls t.a.nd).x = x := ⟨_, rfl⟩
  obtain ⟨sy, hsy⟩ : ∃ x, (getS ls t.a.nd).y = x := ⟨_, rfl⟩
  obtain ⟨X, hX⟩ : ∃ X, wantX t ls ⟨rx, ry, rw', rh⟩ wd = X := ⟨_, rfl⟩
  obtain ⟨Y, hY⟩ : ∃ Y, wantY t ls ⟨rx, ry, rw', rh⟩ ht = Y := ⟨_, rfl⟩
  obtain ⟨p, hcp⟩ : ∃ p, (clampT t t.a.nd X Y wd ht).1 = p := ⟨_, rfl⟩
  obtain ⟨q, hcq⟩ : ∃ q, (clampT t t.a.nd X Y wd ht).2 = q := ⟨_, rfl⟩
  have hR' : scrollL ⟨t.a.nd, p, q⟩ ls = R := by rw [← hR, revealR]; simp only [hX, hY, hcp, hcq]
  have hX' : intoT sx (wr (rx - t.a.x)) rw' (max wd 0) = X := by rw [← hX, wantX, hsx]
  have hY' : intoT sy (wr (ry - t.a.y)) rh (max ht 0) = Y := by rw [← hY, wantY, hsy]
  have HSX := Lib.hid hsx
  have HSY := Lib.hid hsy
  have HX := Lib.hid hX'
  have HY := Lib.hid hY'
  have HCP := Lib.hid hcp
  have HCQ := Lib.hid hcq
  have HRR := Lib.hid hR'
  clear h hT hl hp hsx hsy hX hY hX' hY' hcp hcq hR hR'
  have H1 := Lib.hid ((St.start w (Below.refl _ w)).new (fc t).toArray 51)
  obtain ⟨m, hm⟩ : ∃ m, w.heap.size = m := ⟨_, rfl⟩
  rw [hm] at H1
  have m1 : ∀ a b : Int, (if a < b then b else a) = max a b := fun a b => by split <;> omega
  go_enter Try.func23, Try.ntmps23
  go_upto_region 4 with (first
    | (refine st_load rfl (.tmp 5) rfl (fc t) H1.out (.head _) rfl rfl Try.underlying51 rfl size51 ?_)
    | (go_at_call 37; refine (locate_s t nd _ (HT.out.stay H1.out.bel) hsz _ HP.out).mono ?_; rintro e w2 ⟨rfl, hb2⟩; have H2 := Lib.hid ((H1.out.of_below hb2).new #[.int .i64 rx, .int .i64 ry, .int .i64 rw', .int .i64 rh] 30); clear hb2))
  obtain ⟨W2, hW2⟩ : ∃ W2, w2.alloc (.cells #[.int .i64 rx, .int .i64 ry, .int .i64 rw', .int .i64 rh] 30) = W2 := ⟨_, rfl⟩
  obtain ⟨bR, hbR⟩ : ∃ b, w2.heap.size = b := ⟨_, rfl⟩
  rw [hW2, hbR] at H2
  rw [hW2]
  simp only [hbR]
  clear hW2
  obtain ⟨-, c1, -⟩ := bigI t.a t.ks.length 51 W2 m (H2.out.blkm (.tail _ (.head _)))
  go_upto_region 5 with (go_at_call 22; refine (get_x s c n ls t.a.nd sx sy _ (HR.out.below H2.out.bel) HL.out (by omega) HSX.out HSY.out).mono ?_; rintro e w3 ⟨rfl, hb3⟩; have H3 := Lib.hid ((H2.out.of_below hb3).new #[.int .i64 t.a.nd, .int .i64 sx, .int .i64 sy] 61); clear hb3)
  obtain ⟨W3, hW3⟩ : ∃ W3, w3.alloc (.cells #[.int .i64 t.a.nd, .int .i64 sx, .int .i64 sy] 61) = W3 := ⟨_, rfl⟩
  obtain ⟨bS, hbS⟩ : ∃ b, w3.heap.size = b := ⟨_, rfl⟩
  rw [hW3, hbS] at H3
  rw [hW3]
  simp only [hbS]
  clear hW3 c1
  obtain ⟨-, -, c2, c3, -⟩ := bigI t.a t.ks.length 51 W3 m (H3.out.blkm (.tail _ (.tail _ (.head _))))
  obtain ⟨r0, r1, r2, r3, -⟩ := blk_four (H3.out.blkm (b := bR) (.tail _ (.head _)))
  obtain ⟨x0, x1, x2, -⟩ := H3.out.blk.1.three
  go_upto_region 6 with (go_at_call 39; refine (into_n _ _ _ _ X _ (by simp only [wr64]; exact HX.out)).mono ?_; rintro e w4 ⟨rfl, hb4⟩; have H4 := Lib.hid (H3.out.of_below hb4); obtain ⟨y0, y1, y2, y3, y4, y5⟩ := H4.out.blk.1.three; clear hb4)
  have h5 := H4.out.set 1 (.int .i64 X)
  simp only [List.setIfInBounds_toArray, List.set_cons_zero, List.set_cons_succ] at h5
  have H5 := Lib.hid h5
  clear h5
  obtain ⟨W5, hW5⟩ : ∃ W5, w4.setCell ⟨bS, 1, none⟩ (.int .i64 X) = W5 := ⟨_, rfl⟩
  rw [hW5] at H5
  rw [hW5]
  clear hW5 c2 c3 r0 r1 r2 r3 x0 x1 x2 y0 y1 y2 y3 y4 y5
  obtain ⟨-, -, c2, c3, -⟩ := bigI t.a t.ks.length 51 W5 m (H5.out.blkm (.tail _ (.tail _ (.head _))))
  obtain ⟨r0, r1, r2, r3, -⟩ := blk_four (H5.out.blkm (b := bR) (.tail _ (.head _)))
  obtain ⟨x0, x1, x2, -⟩ := H5.out.blk.1.three
  go_upto_region 7 with (go_at_call 39; refine (into_n _ _ _ _ Y _ (by simp only [wr64]; exact HY.out)).mono ?_; rintro e w6 ⟨rfl, hb6⟩; have H6 := Lib.hid (H5.out.of_below hb6); obtain ⟨y0, y1, y2, y3, y4, y5⟩ := H6.out.blk.1.three; clear hb6)
  have h7 := H6.out.set 2 (.int .i64 Y)
  simp only [List.setIfInBounds_toArray, List.set_cons_zero, List.set_cons_succ] at h7
  have H7 := Lib.hid h7
  clear h7
  obtain ⟨W7, hW7⟩ : ∃ W7, w6.setCell ⟨bS, 2, none⟩ (.int .i64 Y) = W7 := ⟨_, rfl⟩
  rw [hW7] at H7
  rw [hW7]
  clear hW7 c2 c3 r0 r1 r2 r3 x0 x1 x2 y0 y1 y2 y3 y4 y5
  obtain ⟨x0, x1, x2, -⟩ := H7.out.blk.1.three
  go_wp2_with (first
    | (refine st_load rfl (.tmp 5) rfl (fc t) H7.out (.tail _ (.tail _ (.head _))) rfl rfl Try.underlying51 rfl size51 ?_)
    | (go_at_call 21; refine (scroll_x t s c n ls t.a.nd X Y wd ht p q _ (HT.out.stay H7.out.bel) hsz (HR.out.below H7.out.bel) HL.out (by omega) HCP.out HCQ.out R HRR.out).mono ?_; rintro e w8 ⟨s8, c8, rfl, h8⟩; have H8 := Lib.hid (H7.out.own_new h8); clear h8))
  go_ret
  have hbl := H8.out.bel
  exact ⟨s8, c8, rfl, H8.out.sl, H8.out.bel, fun k hk => (H8.out.row_blk k hk).2.1⟩
end Go.Proofs.Ytfjjgebfeklnhaa
