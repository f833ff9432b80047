/-
  HitCaret: the walk of hit.Caret.
-/
import Derived.Test.YtfjjgebfeklnhaaDoorPc
import Derived.Test.YtfjjgebfeklnhaaDoorHd
import Derived.Test.YtfjjgebfeklnhaaDoorKx
import Derived.Test.YtfjjgebfeklnhaaDoorKb
import Derived.Sort.CutIn
import Derived.Sort.QuietIn
import Derived.Deep.CutBlock

set_option linter.unusedVariables false
set_option linter.unusedSimpArgs false
namespace Go.Proofs.YtfjjgebfeklnhaaDoor
open Go.RowKit Go.Shelf Go.K Go.Lib

attribute [local go_sem] Oper.semAt_some

/-- the texts that cover a point -/
def selB (x y : Int) (g : GI) : Bool := decide (g.1.kd = 3) && cov g.1.r g.1.c x y
def carOf (x y : Int) (ls : List GI) : Option GI := ls.reverse.find? (selB x y)
/-- what Caret answers -/
def carV (x : Int) (o : Option GI) : Value := match o with
  | some g => .tuple #[.int .i64 g.1.nd, .int .i64 (offN (chW g.1.sz) g.1.tx (x - g.1.r.x)), .bool true]
  | none => .tuple #[.int .i64 0, .int .i64 0, .bool false]
def CarPost (x y : Int) (ls : List GI) (w : World) (e : Ending) (w' : World) : Prop := e = .returned (carV x (carOf x y ls)) ∧ Below w.heap.size w w'
abbrev CaL (m : Nat) (x y : Int) (s : Option Addr) (n c : Nat) (nd ix : Int) (ok : Bool) : List As :=
  [As.cells (m + 1 + 1) #[.int .i64 nd] 3, As.cells (m + 1 + 1 + 1) #[.int .i64 ix] 3, As.cells (m + 1 + 1 + 1 + 1) #[.bool ok] 4, As.cells m #[.int .i64 x] 3, As.cells (m + 1) #[.int .i64 y] 3, As.cells (m + 1 + 1 + 1 + 1 + 1) #[.slice s n c] 25]
theorem caL_co (m : Nat) (x y : Int) (s : Option Addr) (n c : Nat) (nd ix : Int) (ok : Bool) : ∀ A ∈ CaL m x y s n c nd ix ok, A.co := by
  intro A hA
  simp only [List.mem_cons, List.not_mem_nil, or_false] at hA
  rcases hA with rfl | rfl | rfl | rfl | rfl | rfl <;> exact As.cells_co _ _ _
set_option maxRecDepth 100000 in
set_option maxHeartbeats 1000000 in
theorem caret_any (s : Option Addr) (c : Nat) (ls : List GI) (x y : Int) (w : World) (hrd : Rd w 13 s ls.length (flat icells ls)) (hlen : ls.length ≤ 1000000) :
    Calls Tryd.prog 8 #[.slice s ls.length c, .int .i64 x, .int .i64 y] w (CarPost x y ls w) := by
  have HRD := Lib.hid hrd
  clear hrd
  refine (callsIn_wide (n := 6)).1 ?_
  refine callsIn_of_wp_marks Tryd.func8 rfl trivial ?_ rfl
  simp only [Tryd.ntmps8, List.size_toArray, List.length_cons, List.length_nil, Nat.reduceAdd, Nat.reduceSub, Array.replicate_succ, Array.replicate_zero, List.push_toArray, List.append_toArray, List.nil_append, List.cons_append]
  have h0 := ((((((St.start w (Below.refl _ w)).new #[.int .i64 x] 3).new #[.int .i64 y] 3).new #[.int .i64 0] 3).new #[.int .i64 0] 3).new #[.bool false] 4).new #[.slice s ls.length c] 25
  have h1 := St.sh [_, _, _, _, _, _] [3, 2, 1, 5, 4, 0] (by decide) h0
  simp only [List.map_cons, List.map_nil, List.getD_cons_zero, List.getD_cons_succ, List.cons_append, List.nil_append, World.size_alloc] at h1
  gi_wp2_with (refine ⟨trivial, ?_⟩; gi_at_call 17; refine (callsIn_wide.2 (back_any _ _ _ _)).mono ?_; rintro e w' ⟨rfl, rfl⟩)
  obtain ⟨W0, hW0⟩ : ∃ W0, (((((w.alloc (.cells #[.int .i64 x] 3)).alloc (.cells #[.int .i64 y] 3)).alloc (.cells #[.int .i64 0] 3)).alloc (.cells #[.int .i64 0] 3)).alloc (.cells #[.bool false] 4)).alloc (.cells #[.slice s ls.length c] 25) = W0 := ⟨_, rfl⟩
  have hsz : W0.heap.size = w.heap.size + 6 := by rw [← hW0]; simp
  have h2 : St w W0 (CaL w.heap.size x y s ls.length c 0 0 false) := by rw [← hW0]; exact h1
  rw [hW0]
  clear h0 h1 hW0
  obtain ⟨m, hm⟩ : ∃ m, w.heap.size = m := ⟨_, rfl⟩
  have hbel := h2.bel
  simp only [World.size_alloc, hm] at h2 hsz ⊢
  refine wpIn_rangeFunc_ownH rfl (by omega) (gf := 26) (lb := #[.pointer (some ⟨m + 1 + 1 + 1 + 1 + 1, 0, none⟩)]) rfl trivial (enters_of Tryd.func26 (by kernel_rfl) rfl)
    (bw_stops Fence.wide _ trivial rfl (by omega) (m + 1 + 1 + 1 + 1 + 1) w.heap.size s c ls hlen W0 w (by omega) (by omega) ((St.sh [_, _, _, _, _, _] [5, 0, 1, 2, 3, 4] (by decide) h2).cell 0) HRD.out hbel (Nat.le_refl _)) BK.trans (bk_b (by omega) (by omega)) (Below.refl _ _) (fun _ => rfl)
    (fun pre W => (∀ p ∈ pre, selB x y p.2 = false) ∧ St w W (CaL m x y s ls.length c 0 0 false))
    (fun c' pre W => (c' = .ret ∧ ∃ ini last, pre = ini ++ [last] ∧ (∀ p ∈ ini, selB x y p.2 = false) ∧ selB x y last.2 = true ∧ St w W (CaL m x y s ls.length c last.2.1.nd (offN (chW last.2.1.sz) last.2.1.tx (x - last.2.1.r.x)) true)))
    (OwnFrom.and (ownFrom_pure _ _) (st_own (fun _ => caL_co _ _ _ _ _ _ _ _ _) (by omega)))
    (fun c' => by
      intro pre X Y row hs hg hr
      obtain ⟨h3, ini, last, h4, h5, h6, h7⟩ := hs
      exact ⟨h3, ini, last, h4, h5, h6, st_own (β := Unit) (L := fun _ => CaL m x y s ls.length c last.2.1.nd (offN (chW last.2.1.sz) last.2.1.tx (x - last.2.1.r.x)) true) (fun _ => caL_co _ _ _ _ _ _ _ _ _) (B := W0.heap.size) (by omega) () X Y row h7 hg hr⟩)
    ⟨by simp, h2⟩
    (fun x' a' W => ∃ Bx, m + 5 < Bx ∧ Blk W Bx #[.int .i64 x'.2.1.kd, .int .i64 x'.2.1.r.x, .int .i64 x'.2.1.r.y, .int .i64 x'.2.1.r.w, .int .i64 x'.2.1.r.h, .int .i64 x'.2.1.c.x, .int .i64 x'.2.1.c.y, .int .i64 x'.2.1.c.w, .int .i64 x'.2.1.c.h, .string x'.2.1.col, .string x'.2.1.tx, .int .i64 x'.2.1.sz, .int .i64 x'.2.1.nd] 34 ∧ a' = { tmps := #[.slice s ls.length c, .int .i64 x, .int .i64 y, undef, .pointer (some ⟨m, 0, none⟩), .pointer (some ⟨m + 1, 0, none⟩), .pointer (some ⟨m + 1 + 1, 0, none⟩), .pointer (some ⟨m + 1 + 1 + 1, 0, none⟩), .pointer (some ⟨m + 1 + 1 + 1 + 1, 0, none⟩), undef, .pointer (some ⟨Bx, 0, none⟩), undef, .slice s ls.length c, .func (.func 26) #[] #[.pointer (some ⟨m + 1 + 1 + 1 + 1 + 1, 0, none⟩)], .int .i64 x'.1, iv x'.2.1, undef, undef, undef, undef, undef, undef, undef, undef, undef, undef, undef, undef, undef, undef, undef, undef, undef, undef, undef, undef, undef, undef, undef, undef, undef, undef], defers := [] })
    (fun x' a' => by
      intro _ X Y row hs hg hr
      obtain ⟨Bx, h3, h4, h5⟩ := hs
      exact ⟨Bx, h3, blk_own (β := Unit) Bx (fun _ => #[.int .i64 x'.2.1.kd, .int .i64 x'.2.1.r.x, .int .i64 x'.2.1.r.y, .int .i64 x'.2.1.r.w, .int .i64 x'.2.1.r.h, .int .i64 x'.2.1.c.x, .int .i64 x'.2.1.c.y, .int .i64 x'.2.1.c.w, .int .i64 x'.2.1.c.h, .string x'.2.1.col, .string x'.2.1.tx, .int .i64 x'.2.1.sz, .int .i64 x'.2.1.nd]) 34 W0.heap.size () X Y row h4 hg hr, h5⟩)
    ?assign ?body ?done ?stop
  case assign =>
    rintro l pre x' W K ⟨hp, hst⟩ hK
    gi_wp2
    have hs1 := hst.bel.size
    have hlt := (St.sh [_, _, _, _, _, _] [5, 0, 1, 2, 3, 4] (by decide) hst).blk.1.lt
    exact hK _ _ ((KeepsOthers.alloc _ _).from _) (BK.below ((Below.refl _ W).alloc (Nat.le_refl _) _) hlt hs1) ⟨hp, hst.alloc _⟩ ⟨W.heap.size, by omega, Blk.new W _ _, rfl⟩
  case body =>
    rintro l pre x' a' W hl ⟨r, hr⟩ ⟨hp, hst⟩ ⟨Bx, hBx, bX, rfl⟩ hlt
    obtain ⟨xi, xg⟩ := x'
    simp only at bX ⊢
    have HP := Lib.hid hp
    have HST := Lib.hid hst
    have HBX := Lib.hid bX
    obtain ⟨k0, k1, k2, k3, k4, k5, k6, k7, k8, k9, k10, k11, k12, -⟩ := blk13 bX
    have cX := (St.sh [_, _, _, _, _, _] [3, 0, 1, 2, 4, 5] (by decide) hst).cell 0
    have cY := (St.sh [_, _, _, _, _, _] [4, 0, 1, 2, 3, 5] (by decide) hst).cell 0
    simp at cX cY
    have hltB := (St.sh [_, _, _, _, _, _] [5, 0, 1, 2, 3, 4] (by decide) hst).blk.1.lt
    obtain ⟨sv, hsv⟩ : ∃ sv, selB x y xg = sv := ⟨_, rfl⟩
    have HSV := Lib.hid hsv
    clear hp hst hsv bX
    by_cases hkd : xg.1.kd = 3
    · have hcv0 : cov xg.1.r xg.1.c x y = sv := by rw [← HSV.out]; simp [selB, hkd]
      have HCV := Lib.hid hcv0
      clear hcv0
      cases sv with
      | false =>
        gi_wp2_with (refine ⟨trivial, ?_⟩; gi_at_call 18; refine (CallsIn.inRound l (callsIn_wide.2 (covers_c (r := false) _ xg.2.1 xg.2.2.1 HCV.out))).mono ?_; rintro e w2 ⟨rfl, hb2⟩; have HST2 := Lib.hid (HST.out.of_below hb2); have hkf := Lib.hid (keepsFrom_below hb2 W0.heap.size); have hbk := Lib.hid (BK.below hb2 hltB HST.out.bel.size); clear k0 k1 k2 k3 k4 k5 k6 k7 k8 k9 k10 k11 k12 cX cY hb2)
        exact ⟨hkf.out, hbk.out, fun p hp' => (List.mem_append.1 hp').elim (HP.out p) (fun e => by simp at e; subst e; exact HSV.out), HST2.out⟩
      | true =>
        have hxr := (has_iff _ _ _).1 (show hasR xg.1.r x y = true by have := HCV.out; unfold cov at this; exact (Bool.and_eq_true_iff.1 this).1)
        have hbr := xg.2.1
        have hwx : wrap64 (x - xg.1.r.x) = x - xg.1.r.x := by obtain ⟨b1, b2, b3, b4, b5, b6, -⟩ := hbr; unfold wrap64; omega
        have htx1 := xg.2.2.2
        gi_wp2_with (refine ⟨trivial, ?_⟩; gi_at_call 18; refine (CallsIn.inRound l (callsIn_wide.2 (covers_c (r := true) _ xg.2.1 xg.2.2.1 HCV.out))).mono ?_; rintro e w2 ⟨rfl, hb2⟩; have HST2 := Lib.hid (HST.out.of_below hb2); have HBX2 := Lib.hid (HBX.out.kept (Fr.of_below hb2) (fun q => q)); have hkf := Lib.hid (keepsFrom_below hb2 W0.heap.size); have hbk := Lib.hid (BK.below hb2 hltB HST.out.bel.size); clear k0 k1 k2 k3 k4 k5 k6 k7 k8 k9 k10 k11 k12 cX cY hb2; obtain ⟨k0, k1, k2, k3, k4, k5, k6, k7, k8, k9, k10, k11, k12, -⟩ := blk13 HBX2.out; have cX := (St.sh [_, _, _, _, _, _] [3, 0, 1, 2, 4, 5] (by decide) HST2.out).cell 0; simp at cX)
        rw [hwx]
        refine ⟨trivial, ?_⟩
        refine (CallsIn.inRound l (callsIn_wide.2 (offset_any xg.1.tx xg.1.sz (x - xg.1.r.x) w2 htx1))).mono ?_
        rintro e w3 ⟨rfl, hb3⟩
        have HST3 := Lib.hid (HST2.out.of_below hb3)
        have HBX3 := Lib.hid (HBX2.out.kept (Fr.of_below hb3) (fun q => q))
        have hkf3 := Lib.hid (keepsFrom_below hb3 W0.heap.size)
        clear k0 k1 k2 k3 k4 k5 k6 k7 k8 k9 k10 k11 k12 cX hb3
        simp only
        obtain ⟨q, hq⟩ : ∃ q, offN (chW xg.1.sz) xg.1.tx (x - xg.1.r.x) = q := ⟨_, rfl⟩
        have HQ := Lib.hid hq
        have hle := posAt_le xg.1.tx q
        have hqn : q ≤ runeCount xg.1.tx := by rw [← hq]; exact off_le _ _ _ (fun r => (chW_in _ r).1)
        rw [hq]
        clear hq
        gi_upto_region 5 with fail
        have hS : (fun w' : World => w'.cell? ⟨Bx, 12, none⟩ = some (.int .i64 xg.1.nd) ∧ w'.cell? ⟨Bx, 10, none⟩ = some (.string xg.1.tx)) w3.drew := ⟨HBX3.out.cell 12, HBX3.out.cell 10⟩
        refine region_round (by kernel_rfl) (by kernel_rfl) (wpAny_of_held (S := (fun w' : World => w'.cell? ⟨Bx, 12, none⟩ = some (.int .i64 xg.1.nd) ∧ w'.cell? ⟨Bx, 10, none⟩ = some (.string xg.1.tx))) _ _ _ _ ?_)
        change wpAnyH _ _ _ _ _ _ _ _ (World.drew _)
        refine' wpAnyH_take (i := 0) (v := .pointer (some ⟨Bx, 12, none⟩)) rfl (by kernel_rfl) (by kernel_rfl) (by kernel_rfl) (fun _ _ _ h => absurd h.1 (by intro q; cases q)) (Or.inl ⟨by rfl, ?hy0⟩) hS ?rest0
        case hy0 => (intro w' hSw; obtain ⟨k12, k10⟩ := hSw; go_simp; (try with_reducible rfl); (try rfl))
        try simp only [Act.put, List.getElem_toArray, List.getElem_cons_zero, List.getElem_cons_succ, List.setIfInBounds_toArray, List.set_cons_zero, List.set_cons_succ]
        refine' wpAnyH_take (i := 1) (v := .int .i64 xg.1.nd) rfl (by kernel_rfl) (by kernel_rfl) (by kernel_rfl) (fun _ _ _ h => absurd h.1 (by intro q; cases q)) (Or.inl ⟨by rfl, ?hy1⟩) hS ?rest1
        case hy1 => (intro w' hSw; obtain ⟨k12, k10⟩ := hSw; go_simp; (try with_reducible rfl); (try rfl))
        try simp only [Act.put, List.getElem_toArray, List.getElem_cons_zero, List.getElem_cons_succ, List.setIfInBounds_toArray, List.set_cons_zero, List.set_cons_succ]
        refine' wpAnyH_take (i := 2) (v := .pointer (some ⟨Bx, 10, none⟩)) rfl (by kernel_rfl) (by kernel_rfl) (by kernel_rfl) (fun _ _ _ h => absurd h.1 (by intro q; cases q)) (Or.inl ⟨by rfl, ?hy2⟩) hS ?rest2
        case hy2 => (intro w' hSw; obtain ⟨k12, k10⟩ := hSw; go_simp; (try with_reducible rfl); (try rfl))
        try simp only [Act.put, List.getElem_toArray, List.getElem_cons_zero, List.getElem_cons_succ, List.setIfInBounds_toArray, List.set_cons_zero, List.set_cons_succ]
        refine' wpAnyH_take (i := 3) (v := .string xg.1.tx) rfl (by kernel_rfl) (by kernel_rfl) (by kernel_rfl) (fun _ _ _ h => absurd h.1 (by intro q; cases q)) (Or.inl ⟨by rfl, ?hy3⟩) hS ?rest3
        case hy3 => (intro w' hSw; obtain ⟨k12, k10⟩ := hSw; go_simp; (try with_reducible rfl); (try rfl))
        try simp only [Act.put, List.getElem_toArray, List.getElem_cons_zero, List.getElem_cons_succ, List.setIfInBounds_toArray, List.set_cons_zero, List.set_cons_succ]
        refine' wpAnyH_take (i := 4) (v := .int .i64 (posAt xg.1.tx q : Nat)) rfl (by kernel_rfl) (by kernel_rfl) (by kernel_rfl) (fun _ _ _ h => absurd h.1 (by intro q; cases q)) (Or.inl ⟨by rfl, ?hy4⟩) hS ?rest4
        case hy4 => (intro w' hSw; obtain ⟨k12, k10⟩ := hSw; go_simp; (try with_reducible rfl); (try rfl))
        try simp only [Act.put, List.getElem_toArray, List.getElem_cons_zero, List.getElem_cons_succ, List.setIfInBounds_toArray, List.set_cons_zero, List.set_cons_succ]
        refine' wpAnyH_take (i := 5) (v := .string (Go.K.pre xg.1.tx q)) rfl (by kernel_rfl) (by kernel_rfl) (by kernel_rfl) (fun _ _ _ h => absurd h.1 (by intro q; cases q)) (Or.inl ⟨by rfl, ?hy5⟩) hS ?rest5
        case hy5 => (intro w' hSw; obtain ⟨k12, k10⟩ := hSw; go_simp; (try with_reducible rfl); (try rfl))
        try simp only [Act.put, List.getElem_toArray, List.getElem_cons_zero, List.getElem_cons_succ, List.setIfInBounds_toArray, List.set_cons_zero, List.set_cons_succ]
        refine held_one (i := 6) rfl (by kernel_rfl) ?_
        intro K' hK; have HK' := Lib.hid hK; clear hK
        refine wp_call (by rfl) (by rfl) Tryd.func10 (by kernel_rfl) (by kernel_rfl) (by kernel_rfl) (len_any (Go.K.pre xg.1.tx q) _ (by rw [pre_size]; omega)) ?_
        rintro e w4 ⟨rfl, hb4⟩
        rw [pre_count _ hqn]
        have HST4 := Lib.hid (HST3.out.drew.of_below hb4)
        have HBX4 := Lib.hid (HBX3.out.drew.kept (Fr.of_below hb4) (fun q => q))
        have hkf4 := Lib.hid (keepsFrom_below hb4 W0.heap.size)
        refine ⟨_, rfl, HK'.out _ _ ⟨⟨HBX4.out.cell 12, HBX4.out.cell 10⟩, ?_⟩⟩
        clear HK' K' hS hb4
        try simp only [Act.put, List.getElem_toArray, List.getElem_cons_zero, List.getElem_cons_succ, List.setIfInBounds_toArray, List.set_cons_zero, List.set_cons_succ]
        refine held_one (i := 7) rfl (by kernel_rfl) ?_
        intro K' hK; have HK' := Lib.hid hK; clear hK
        have hx := St.sh [_, _, _, _, _, _] [0, 1, 2, 3, 4, 5] (by decide) HST4.out
        have rb := hx.blk.1.cell 0
        have fb := hx.blk.1.free 0
        simp at rb
        have HBX5 := Lib.hid (HBX4.out.kept ((Fr.refl (fun k => k = m + 1 + 1) _).setCell (p := ⟨m + 1 + 1, 0, none⟩) (fun _ => rfl) (.int .i64 xg.1.nd)) (by omega))
        have hkf7 := Lib.hid (kf_sets hx.blk.1 hx.blk.1 [] (.int .i64 xg.1.nd) W0.heap.size)
        have HST5 := Lib.hid (show St w _ (CaL m x y s ls.length c xg.1.nd 0 false) from St.sh [_, _, _, _, _, _] [0, 1, 2, 3, 4, 5] (by decide) (hx.set 0 (.int .i64 xg.1.nd)))
        go_simp
        refine HK'.out _ _ ⟨⟨HBX5.out.cell 12, HBX5.out.cell 10⟩, ?_⟩
        clear HK' K' hx rb fb
        try simp only [Act.put, List.getElem_toArray, List.getElem_cons_zero, List.getElem_cons_succ, List.setIfInBounds_toArray, List.set_cons_zero, List.set_cons_succ]
        refine held_one (i := 8) rfl (by kernel_rfl) ?_
        intro K' hK; have HK' := Lib.hid hK; clear hK
        have hx := St.sh [_, _, _, _, _, _] [1, 0, 2, 3, 4, 5] (by decide) HST5.out
        have rb := hx.blk.1.cell 0
        have fb := hx.blk.1.free 0
        simp at rb
        have HBX6 := Lib.hid (HBX5.out.kept ((Fr.refl (fun k => k = m + 1 + 1 + 1) _).setCell (p := ⟨m + 1 + 1 + 1, 0, none⟩) (fun _ => rfl) (.int .i64 (q : Nat))) (by omega))
        have hkf8 := Lib.hid (kf_sets hx.blk.1 hx.blk.1 [] (.int .i64 (q : Nat)) W0.heap.size)
        have HST6 := Lib.hid (show St w _ (CaL m x y s ls.length c xg.1.nd q false) from St.sh [_, _, _, _, _, _] [1, 0, 2, 3, 4, 5] (by decide) (hx.set 0 (.int .i64 (q : Nat))))
        go_simp
        refine HK'.out _ _ ⟨⟨HBX6.out.cell 12, HBX6.out.cell 10⟩, ?_⟩
        clear HK' K' hx rb fb
        try simp only [Act.put, List.getElem_toArray, List.getElem_cons_zero, List.getElem_cons_succ, List.setIfInBounds_toArray, List.set_cons_zero, List.set_cons_succ]
        refine held_one (i := 9) rfl (by kernel_rfl) ?_
        intro K' hK; have HK' := Lib.hid hK; clear hK
        have hx := St.sh [_, _, _, _, _, _] [2, 0, 1, 3, 4, 5] (by decide) HST6.out
        have rb := hx.blk.1.cell 0
        have fb := hx.blk.1.free 0
        simp at rb
        have HBX7 := Lib.hid (HBX6.out.kept ((Fr.refl (fun k => k = m + 1 + 1 + 1 + 1) _).setCell (p := ⟨m + 1 + 1 + 1 + 1, 0, none⟩) (fun _ => rfl) (.bool true)) (by omega))
        have hkf9 := Lib.hid (kf_sets hx.blk.1 hx.blk.1 [] (.bool true) W0.heap.size)
        have HST7 := Lib.hid (show St w _ (CaL m x y s ls.length c xg.1.nd q true) from St.sh [_, _, _, _, _, _] [1, 2, 0, 3, 4, 5] (by decide) (hx.set 0 (.bool true)))
        go_simp
        refine HK'.out _ _ ⟨⟨HBX7.out.cell 12, HBX7.out.cell 10⟩, ?_⟩
        clear HK' K' hx rb fb
        try simp only [Act.put, List.getElem_toArray, List.getElem_cons_zero, List.getElem_cons_succ, List.setIfInBounds_toArray, List.set_cons_zero, List.set_cons_succ]
        refine wpAnyH_done (by kernel_rfl) ?_ _
        refine ⟨rfl, ?_⟩
        gi_wp2_with fail
        exact ⟨hkf.out.trans (hkf3.out.trans ((keepsFrom_below (⟨rfl, rfl, rfl, Nat.le_refl _, fun _ _ => rfl⟩ : Below w3.heap.size w3 w3.drew) _).trans (hkf4.out.trans (hkf7.out.trans (hkf8.out.trans hkf9.out))))), rfl, pre, (xi, xg), rfl, HP.out, HSV.out, by rw [HQ.out]; exact HST7.out⟩

    · have hk0 : selB x y xg = false := by simp [selB, hkd]
      gi_wp2_with fail
      refine ⟨trivial, ?_⟩
      gi_wp2_with fail
      exact ⟨keepsFrom_below (Below.refl _ _) W0.heap.size, BK.refl _ _ _, fun p hp' => (List.mem_append.1 hp').elim (HP.out p) (fun e => by simp at e; subst e; exact hk0), HST.out⟩
  case done =>
    rintro D ys W hD rfl ⟨hp, hst⟩ hK
    have rb := hst.blk.1.cell 0
    have fb := hst.blk.1.free 0
    have hs2 := St.sh [_, _, _, _, _, _] [1, 0, 2, 3, 4, 5] (by decide) hst
    have rb2 := hs2.blk.1.cell 0
    have fb2 := hs2.blk.1.free 0
    have hs3 := St.sh [_, _, _, _, _, _] [2, 0, 1, 3, 4, 5] (by decide) hst
    have rb3 := hs3.blk.1.cell 0
    have fb3 := hs3.blk.1.free 0
    simp at rb rb2 rb3
    have HST := Lib.hid hst
    have HP := Lib.hid hp
    have HK := Lib.hid hK
    clear hst hp hK hs2 hs3
    gi_wp2
    have h1 := HST.out.set 0 (.int .i64 0)
    have h2 := St.sh [_, _, _, _, _, _] [1, 0, 2, 3, 4, 5] (by decide) ((St.sh [_, _, _, _, _, _] [1, 0, 2, 3, 4, 5] (by decide) h1).set 0 (.int .i64 0))
    have h5 : St w _ (CaL m x y s ls.length c 0 0 false) := St.sh [_, _, _, _, _, _] [1, 2, 0, 3, 4, 5] (by decide) ((St.sh [_, _, _, _, _, _] [2, 0, 1, 3, 4, 5] (by decide) h2).set 0 (.bool false))
    have hk1 := kf_sets HST.out.blk.1 HST.out.blk.1 [] (.int .i64 0) W0.heap.size
    have hk2 := kf_sets (St.sh [_, _, _, _, _, _] [1, 0, 2, 3, 4, 5] (by decide) h1).blk.1 (St.sh [_, _, _, _, _, _] [1, 0, 2, 3, 4, 5] (by decide) h1).blk.1 [] (.int .i64 0) W0.heap.size
    have hk3 := kf_sets (St.sh [_, _, _, _, _, _] [2, 0, 1, 3, 4, 5] (by decide) h2).blk.1 (St.sh [_, _, _, _, _, _] [2, 0, 1, 3, 4, 5] (by decide) h2).blk.1 [] (.bool false) W0.heap.size
    have hkk := (hk1.trans (hk2.trans hk3)).same D _ hD HK.out rfl
    refine ⟨by simp, .inl ⟨_, _, rfl, run_takeDeferred hkk, ?_⟩⟩
    have h6 := st_put (caL_co m x y s ls.length c 0 0 false) h5 (D := D) (by omega) hkk rfl (.deferred none)
    have rb := h6.blk.1.cell 0
    have rb2 := (St.sh [_, _, _, _, _, _] [1, 0, 2, 3, 4, 5] (by decide) h6).blk.1.cell 0
    have rb3 := (St.sh [_, _, _, _, _, _] [2, 0, 1, 3, 4, 5] (by decide) h6).blk.1.cell 0
    simp at rb rb2 rb3
    refine ⟨.tuple #[.int .i64 0, .int .i64 0, .bool false], ?_, ?_⟩
    · simp [results, Tryd.f8, go_sem, rb, rb2, rb3]
    · have htop : carOf x y ls = none := by
        unfold carOf
        rw [← bk_upto, List.find?_map, List.find?_eq_none.2 (fun p hp => by simp [HP.out p hp])]
        rfl
      refine ⟨by rw [htop]; rfl, h6.bel⟩
  case stop =>
    rintro D c' pre W hD ⟨k, hk, rfl⟩ ⟨rfl, ini, last, g1, g2, g3, hst⟩ hK
    have HST := Lib.hid hst
    have HK := Lib.hid hK
    clear hst hK
    gi_wp2
    refine ⟨by simp, .inl ⟨_, _, rfl, run_takeDeferred HK.out, ?_⟩⟩
    have h6 := st_put (caL_co m x y s ls.length c last.2.1.nd (offN (chW last.2.1.sz) last.2.1.tx (x - last.2.1.r.x)) true) HST.out (D := D) (by omega) HK.out rfl (.deferred none)
    have rb := h6.blk.1.cell 0
    have rb2 := (St.sh [_, _, _, _, _, _] [1, 0, 2, 3, 4, 5] (by decide) h6).blk.1.cell 0
    have rb3 := (St.sh [_, _, _, _, _, _] [2, 0, 1, 3, 4, 5] (by decide) h6).blk.1.cell 0
    simp at rb rb2 rb3
    refine ⟨.tuple #[.int .i64 last.2.1.nd, .int .i64 (offN (chW last.2.1.sz) last.2.1.tx (x - last.2.1.r.x) : Nat), .bool true], ?_, ?_⟩
    · simp [results, Tryd.f8, go_sem, rb, rb2, rb3]
    · have htop : carOf x y ls = some last.2 := by
        unfold carOf
        rw [← bk_upto, List.find?_map]
        have e3 : upto (bk ls) k = (upto (bk ls) ls.length).take k := by
          unfold upto
          rw [← List.map_take, List.take_range, Nat.min_eq_left hk]
        have : upto (bk ls) ls.length = (ini ++ [last]) ++ (upto (bk ls) ls.length).drop k := by
          conv => lhs; rw [← List.take_append_drop k (upto (bk ls) ls.length), ← e3, g1]
        rw [List.append_assoc] at this
        rw [this, List.find?_append, List.find?_eq_none.2 (fun p hp => by simp [g2 p hp])]
        simp [g3]
      refine ⟨by rw [htop]; rfl, h6.bel⟩
end Go.Proofs.YtfjjgebfeklnhaaDoor
