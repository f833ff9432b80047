/-
  slices.Backward at items as a value that a loop takes; hit.At.
-/
import Derived.Test.YtfjjgebfeklnhaaDoorHc
import Derived.Test.YtfjjgebfeklnhaaDoorKz
set_option linter.unusedVariables false
set_option linter.unusedSimpArgs false
namespace Go.Proofs.YtfjjgebfeklnhaaDoor
open Go.RowKit Go.Shelf Go.K

attribute [local go_sem] Oper.semAt_some

set_option maxRecDepth 100000 in
set_option maxHeartbeats 1000000 in
theorem bw1_nil_in (F : Fence) (n : Nat) (h41 : F.fn 26) (hro : F.round = none) (l Bs : Nat) (J : List (Int × GI) → World → Prop) (W : World) (s : Option Addr) (c : Nat) (hBs : W.cell? ⟨Bs, 0, none⟩ = some (.slice s 0 c)) (h0 : J [] W) :
    CallsIn F n Tryd.prog 26 #[.func (.yield l) #[] #[], .pointer (some ⟨Bs, 0, none⟩)] W fun e W' => (∃ v, e = .returned v) ∧ J [] W' := by
  refine callsIn_of_wp Tryd.func26 rfl h41 ?_ hro
  simp only [Tryd.ntmps26, List.size_toArray, List.length_cons, List.length_nil, Nat.reduceAdd, Nat.reduceSub, Array.replicate_succ, Array.replicate_zero, List.push_toArray, List.append_toArray, List.nil_append, List.cons_append]
  gi_wp2
  gi_loopw [3] (fun i wr => i = .int .i64 (-1) ∧ J [] wr) (fun _ _ => 0)
  case atStart => exact ⟨rfl, h0⟩
  case round =>
    obtain ⟨rfl, hJs⟩ := hrel
    gi_wp2
    go_end0
    exact ⟨⟨_, rfl⟩, hJs⟩

theorem back_any (a : Option Addr) (len cap : Nat) (w : World) :
    Calls Tryd.prog 17 #[.slice a len cap] w fun e w' => e = .returned (.func (.func 26) #[] #[.pointer (some ⟨w.heap.size, 0, none⟩)]) ∧ w' = w.alloc (.cells #[.slice a len cap] 25) := by
  go_enter Tryd.func17, Tryd.ntmps17
  go_wp2_with fail
  go_ret
  exact ⟨rfl, rfl⟩

theorem bw_stops (F : Fence) (n : Nat) (h41 : F.fn 26) (hro : F.round = none) (hn : 1 ≤ n) (Bs n₀ : Nat) (s : Option Addr) (c : Nat) (ls : List GI) (hlen : ls.length ≤ 1000000) (w wa : World) (hBs : Bs < w.heap.size) (hn₀ : n₀ ≤ w.heap.size)
    (hc : w.cell? ⟨Bs, 0, none⟩ = some (.slice s ls.length c)) (hI : Rd wa 13 s ls.length (flat icells ls)) (hwa : Below wa.heap.size wa w) (hwn : wa.heap.size ≤ n₀) :
    SeqStopsK F n Tryd.prog 26 #[.pointer (some ⟨Bs, 0, none⟩)] (fun x : Int × GI => #[Value.int .i64 x.1, iv x.2.1]) (BK n₀ Bs) (fun ys => ys = upto (bk ls) ls.length)
      (fun pre => ∃ k, k ≤ ls.length ∧ pre = upto (bk ls) k) ls.length w := fun l J Jx W hW _ _ hY h0 => by
  have hc' := (hW.cell (p := ⟨Bs, 0, none⟩) hBs).trans hc
  have hI' := hI.below (hwa.trans (hW.mono hwa.size))
  rcases Nat.eq_zero_or_pos ls.length with h | h
  · obtain rfl : ls = [] := List.eq_nil_of_length_eq_zero h
    exact (bw1_nil_in F n h41 hro l Bs J W _ _ hc' h0).mono fun e W' ⟨he, hj⟩ => ⟨he, .inl ⟨_, rfl, hj⟩⟩
  · obtain ⟨g, off, rfl, hcell⟩ := hI.addr (by omega)
    have hb : g < n₀ := by
      have h3 : (flat icells ls)[0]? = some _ := List.getElem?_eq_getElem (by rw [hI.len]; omega)
      have := World.block_lt_of_cell? _ _ (hcell 0 _ h3)
      simp at this
      omega
    exact bw1_in F n h41 hro hn l Bs n₀ g off c ls hlen hb J Jx hY W hc' hI' h0

/-- the topmost item that covers a point -/
def topOf (x y : Int) (ls : List GI) : Option GI := ls.reverse.find? (fun g => cov g.1.r g.1.c x y)
def zIt : It := ⟨0, .zero, .zero, .empty, .empty, 0, 0⟩
def AtPost (x y : Int) (ls : List GI) (w : World) (e : Ending) (w' : World) : Prop :=
  e = .returned (.tuple #[iv ((topOf x y ls).map (·.1) |>.getD zIt), .bool (topOf x y ls).isSome]) ∧ Below w.heap.size w w'

theorem bk_upto (ls : List GI) : (upto (bk ls) ls.length).map (·.2) = ls.reverse := by
  apply List.ext_getElem
  · simp [upto]
  · intro i h1 h2
    simp [upto, bk] at h1 h2 ⊢
    rw [List.getElem?_eq_getElem (by omega)]
    simp [List.getElem_reverse]

abbrev AtL (m : Nat) (x y : Int) (s : Option Addr) (n c : Nat) (r : It) (ok : Bool) : List As :=
  [As.cells (m + 1 + 1) #[.int .i64 r.kd, .int .i64 r.r.x, .int .i64 r.r.y, .int .i64 r.r.w, .int .i64 r.r.h, .int .i64 r.c.x, .int .i64 r.c.y, .int .i64 r.c.w, .int .i64 r.c.h, .string r.col, .string r.tx, .int .i64 r.sz, .int .i64 r.nd] 34, As.cells (m + 1 + 1 + 1) #[.bool ok] 4, As.cells m #[.int .i64 x] 3, As.cells (m + 1) #[.int .i64 y] 3, As.cells (m + 1 + 1 + 1 + 1) #[.slice s n c] 25]
theorem blk13 {W : World} {b : Nat} {t : TypeId} {v0 v1 v2 v3 v4 v5 v6 v7 v8 v9 v10 v11 v12 : Value} (h : Blk W b #[v0, v1, v2, v3, v4, v5, v6, v7, v8, v9, v10, v11, v12] t) :
    W.cell? ⟨b, 0, none⟩ = some v0 ∧ W.cell? ⟨b, 1, none⟩ = some v1 ∧ W.cell? ⟨b, 2, none⟩ = some v2 ∧ W.cell? ⟨b, 3, none⟩ = some v3 ∧ W.cell? ⟨b, 4, none⟩ = some v4 ∧ W.cell? ⟨b, 5, none⟩ = some v5 ∧ W.cell? ⟨b, 6, none⟩ = some v6 ∧ W.cell? ⟨b, 7, none⟩ = some v7 ∧ W.cell? ⟨b, 8, none⟩ = some v8 ∧ W.cell? ⟨b, 9, none⟩ = some v9 ∧ W.cell? ⟨b, 10, none⟩ = some v10 ∧ W.cell? ⟨b, 11, none⟩ = some v11 ∧ W.cell? ⟨b, 12, none⟩ = some v12 ∧ W.frozen? ⟨b, 0, none⟩ = false ∧ W.frozen? ⟨b, 1, none⟩ = false ∧ W.frozen? ⟨b, 2, none⟩ = false ∧ W.frozen? ⟨b, 3, none⟩ = false ∧ W.frozen? ⟨b, 4, none⟩ = false ∧ W.frozen? ⟨b, 5, none⟩ = false ∧ W.frozen? ⟨b, 6, none⟩ = false ∧ W.frozen? ⟨b, 7, none⟩ = false ∧ W.frozen? ⟨b, 8, none⟩ = false ∧ W.frozen? ⟨b, 9, none⟩ = false ∧ W.frozen? ⟨b, 10, none⟩ = false ∧ W.frozen? ⟨b, 11, none⟩ = false ∧ W.frozen? ⟨b, 12, none⟩ = false :=
  ⟨h.cell 0, h.cell 1, h.cell 2, h.cell 3, h.cell 4, h.cell 5, h.cell 6, h.cell 7, h.cell 8, h.cell 9, h.cell 10, h.cell 11, h.cell 12, h.free 0, h.free 1, h.free 2, h.free 3, h.free 4, h.free 5, h.free 6, h.free 7, h.free 8, h.free 9, h.free 10, h.free 11, h.free 12⟩
theorem atL_co (m : Nat) (x y : Int) (s : Option Addr) (n c : Nat) (r : It) (ok : Bool) : ∀ A ∈ AtL m x y s n c r ok, A.co := by
  intro A hA
  simp only [List.mem_cons, List.not_mem_nil, or_false] at hA
  rcases hA with rfl | rfl | rfl | rfl | rfl <;> exact As.cells_co _ _ _

theorem at_set {w W : World} {m : Nat} {x y : Int} {s : Option Addr} {n c : Nat} {r : It} {ok : Bool} (h : St w W (AtL m x y s n c r ok)) (r' : It) (ok' : Bool) :
    ∃ W9, ((((((((((((((W.setCell ⟨m + 1 + 1, 0, none⟩ (.int .i64 r'.kd)).setCell ⟨m + 1 + 1, 1, none⟩ (.int .i64 r'.r.x)).setCell ⟨m + 1 + 1, 2, none⟩ (.int .i64 r'.r.y)).setCell ⟨m + 1 + 1, 3, none⟩ (.int .i64 r'.r.w)).setCell ⟨m + 1 + 1, 4, none⟩ (.int .i64 r'.r.h)).setCell ⟨m + 1 + 1, 5, none⟩ (.int .i64 r'.c.x)).setCell ⟨m + 1 + 1, 6, none⟩ (.int .i64 r'.c.y)).setCell ⟨m + 1 + 1, 7, none⟩ (.int .i64 r'.c.w)).setCell ⟨m + 1 + 1, 8, none⟩ (.int .i64 r'.c.h)).setCell ⟨m + 1 + 1, 9, none⟩ (.string r'.col)).setCell ⟨m + 1 + 1, 10, none⟩ (.string r'.tx)).setCell ⟨m + 1 + 1, 11, none⟩ (.int .i64 r'.sz)).setCell ⟨m + 1 + 1, 12, none⟩ (.int .i64 r'.nd)).setCell ⟨m + 1 + 1 + 1, 0, none⟩ (.bool ok')) = W9 ∧ St w W9 (AtL m x y s n c r' ok') ∧ ∀ B, KeepsFrom B W W9 := by
  have hq := fun B => kf_sets h.blk.1 h.swap.blk.1 [.int .i64 r'.kd, .int .i64 r'.r.x, .int .i64 r'.r.y, .int .i64 r'.r.w, .int .i64 r'.r.h, .int .i64 r'.c.x, .int .i64 r'.c.y, .int .i64 r'.c.w, .int .i64 r'.c.h, .string r'.col, .string r'.tx, .int .i64 r'.sz, .int .i64 r'.nd] (.bool ok') B
  have h5 := ((h.setAll (vs := #[.int .i64 r'.kd, .int .i64 r'.r.x, .int .i64 r'.r.y, .int .i64 r'.r.w, .int .i64 r'.r.h, .int .i64 r'.c.x, .int .i64 r'.c.y, .int .i64 r'.c.w, .int .i64 r'.c.h, .string r'.col, .string r'.tx, .int .i64 r'.sz, .int .i64 r'.nd]) rfl).swap.set 0 (.bool ok')).swap
  simp only [World.setCells, Nat.zero_add, Nat.reduceAdd] at hq h5
  exact ⟨_, rfl, h5, hq⟩

set_option maxRecDepth 100000 in
set_option maxHeartbeats 600000 in
theorem at_any (s : Option Addr) (c : Nat) (ls : List GI) (x y : Int) (w : World) (hrd : Rd w 13 s ls.length (flat icells ls)) (hlen : ls.length ≤ 1000000) :
    Calls Tryd.prog 14 #[.slice s ls.length c, .int .i64 x, .int .i64 y] w (AtPost x y ls w) := by
  have HRD := Lib.hid hrd
  clear hrd
  refine (callsIn_wide (n := 6)).1 ?_
  refine callsIn_of_wp_marks Tryd.func14 rfl trivial ?_ rfl
  simp only [Tryd.ntmps14, List.size_toArray, List.length_cons, List.length_nil, Nat.reduceAdd, Nat.reduceSub, Array.replicate_succ, Array.replicate_zero, List.push_toArray, List.append_toArray, List.nil_append, List.cons_append]
  have h0 := (((((St.start w (Below.refl _ w)).new #[.int .i64 x] 3).new #[.int .i64 y] 3).new #[.int .i64 0, .int .i64 0, .int .i64 0, .int .i64 0, .int .i64 0, .int .i64 0, .int .i64 0, .int .i64 0, .int .i64 0, .string ByteArray.empty, .string ByteArray.empty, .int .i64 0, .int .i64 0] 34).new #[.bool false] 4).new #[.slice s ls.length c] 25
  have h1 := St.sh [_, _, _, _, _] [2, 1, 4, 3, 0] (by decide) h0
  simp only [List.map_cons, List.map_nil, List.getD_cons_zero, List.getD_cons_succ, List.cons_append, List.nil_append, World.size_alloc] at h1
  gi_wp2_with (refine ⟨trivial, ?_⟩; gi_at_call 17; refine (callsIn_wide.2 (back_any _ _ _ _)).mono ?_; rintro e w' ⟨rfl, rfl⟩)
  obtain ⟨W0, hW0⟩ : ∃ W0, ((((w.alloc (.cells #[.int .i64 x] 3)).alloc (.cells #[.int .i64 y] 3)).alloc (.cells #[.int .i64 0, .int .i64 0, .int .i64 0, .int .i64 0, .int .i64 0, .int .i64 0, .int .i64 0, .int .i64 0, .int .i64 0, .string ByteArray.empty, .string ByteArray.empty, .int .i64 0, .int .i64 0] 34)).alloc (.cells #[.bool false] 4)).alloc (.cells #[.slice s ls.length c] 25) = W0 := ⟨_, rfl⟩
  have hsz : W0.heap.size = w.heap.size + 5 := by rw [← hW0]; simp
  have h2 : St w W0 (AtL w.heap.size x y s ls.length c zIt false) := by rw [← hW0]; exact h1
  have e1 : ByteArray.empty = { data := #[] } := rfl
  simp only [← e1]
  rw [hW0]
  have e2 : w.heap.size + 1 + 1 + 1 + 1 = w.heap.size + 4 := rfl
  clear h0 h1 hW0
  obtain ⟨m, hm⟩ : ∃ m, w.heap.size = m := ⟨_, rfl⟩
  have hbel := h2.bel
  simp only [World.size_alloc, hm] at h2 hsz ⊢
  refine wpIn_rangeFunc_ownH rfl (by omega) (gf := 26) (lb := #[.pointer (some ⟨m + 1 + 1 + 1 + 1, 0, none⟩)]) rfl trivial (enters_of Tryd.func26 (by kernel_rfl) rfl)
    (bw_stops Fence.wide _ trivial rfl (by omega) (m + 1 + 1 + 1 + 1) w.heap.size s c ls hlen W0 w (by omega) (by omega) ((St.sh [_, _, _, _, _] [4, 0, 1, 2, 3] (by decide) h2).cell 0) HRD.out hbel (Nat.le_refl _)) BK.trans (bk_b (by omega) (by omega)) (Below.refl _ _) (fun _ => rfl)
    (fun pre W => (∀ p ∈ pre, cov p.2.1.r p.2.1.c x y = false) ∧ St w W (AtL m x y s ls.length c zIt false))
    (fun c' pre W => (c' = .ret ∧ ∃ ini last, pre = ini ++ [last] ∧ (∀ p ∈ ini, cov p.2.1.r p.2.1.c x y = false) ∧ cov last.2.1.r last.2.1.c x y = true ∧ St w W (AtL m x y s ls.length c last.2.1 true)))
    (OwnFrom.and (ownFrom_pure _ _) (st_own (fun _ => atL_co _ _ _ _ _ _ _ _) (by omega)))
    (fun c' => by
      intro pre X Y row hs hg hr
      obtain ⟨h3, ini, last, h4, h5, h6, h7⟩ := hs
      exact ⟨h3, ini, last, h4, h5, h6, st_own (β := Unit) (L := fun _ => AtL m x y s ls.length c last.2.1 true) (fun _ => atL_co _ _ _ _ _ _ _ _) (B := W0.heap.size) (by omega) () X Y row h7 hg hr⟩)
    ⟨by simp, h2⟩
    (fun x' a' W => ∃ Bx, m + 4 < Bx ∧ Blk W Bx #[.int .i64 x'.2.1.kd, .int .i64 x'.2.1.r.x, .int .i64 x'.2.1.r.y, .int .i64 x'.2.1.r.w, .int .i64 x'.2.1.r.h, .int .i64 x'.2.1.c.x, .int .i64 x'.2.1.c.y, .int .i64 x'.2.1.c.w, .int .i64 x'.2.1.c.h, .string x'.2.1.col, .string x'.2.1.tx, .int .i64 x'.2.1.sz, .int .i64 x'.2.1.nd] 34 ∧ a' = { tmps := #[.slice s ls.length c, .int .i64 x, .int .i64 y, undef, .pointer (some ⟨m, 0, none⟩), .pointer (some ⟨m + 1, 0, none⟩), .pointer (some ⟨m + 1 + 1, 0, none⟩), .pointer (some ⟨m + 1 + 1 + 1, 0, none⟩), undef, .pointer (some ⟨Bx, 0, none⟩), .slice s ls.length c, .func (.func 26) #[] #[.pointer (some ⟨m + 1 + 1 + 1 + 1, 0, none⟩)], .int .i64 x'.1, iv x'.2.1, undef, undef, undef, undef, undef, undef], defers := [] })
    (fun x' a' => by
      intro _ X Y row hs hg hr
      obtain ⟨Bx, h3, h4, h5⟩ := hs
      exact ⟨Bx, h3, blk_own (β := Unit) Bx (fun _ => #[.int .i64 x'.2.1.kd, .int .i64 x'.2.1.r.x, .int .i64 x'.2.1.r.y, .int .i64 x'.2.1.r.w, .int .i64 x'.2.1.r.h, .int .i64 x'.2.1.c.x, .int .i64 x'.2.1.c.y, .int .i64 x'.2.1.c.w, .int .i64 x'.2.1.c.h, .string x'.2.1.col, .string x'.2.1.tx, .int .i64 x'.2.1.sz, .int .i64 x'.2.1.nd]) 34 W0.heap.size () X Y row h4 hg hr, h5⟩)
    ?assign ?body ?done ?stop
  case assign =>
    rintro l pre x' W K ⟨hp, hst⟩ hK
    gi_wp2
    have hs1 := hst.bel.size
    have hlt := (St.sh [_, _, _, _, _] [4, 0, 1, 2, 3] (by decide) hst).blk.1.lt
    exact hK _ _ ((KeepsOthers.alloc _ _).from _) (BK.below ((Below.refl _ W).alloc (Nat.le_refl _) _) hlt hs1) ⟨hp, hst.alloc _⟩ ⟨W.heap.size, by omega, Blk.new W _ _, rfl⟩
  case body =>
    rintro l pre x' a' W hl ⟨r, hr⟩ ⟨hp, hst⟩ ⟨Bx, hBx, bX, rfl⟩ hlt
    obtain ⟨xi, xg⟩ := x'
    simp only at bX ⊢
    obtain ⟨cv, hcv⟩ : ∃ cv, cov xg.1.r xg.1.c x y = cv := ⟨_, rfl⟩
    have HCV := Lib.hid hcv
    have HP := Lib.hid hp
    have HST := Lib.hid hst
    have HBX := Lib.hid bX
    obtain ⟨k0, k1, k2, k3, k4, k5, k6, k7, k8, k9, k10, k11, k12, -⟩ := blk13 bX
    have cX := (St.sh [_, _, _, _, _] [2, 0, 1, 3, 4] (by decide) hst).cell 0
    have cY := (St.sh [_, _, _, _, _] [3, 0, 1, 2, 4] (by decide) hst).cell 0
    simp at cX cY
    have hltB := (St.sh [_, _, _, _, _] [4, 0, 1, 2, 3] (by decide) hst).blk.1.lt
    clear hp hst hcv bX
    cases cv with
    | false =>
      gi_wp2_with (refine ⟨trivial, ?_⟩; gi_at_call 18; refine (CallsIn.inRound l (callsIn_wide.2 (covers_c (r := false) _ xg.2.1 xg.2.2.1 HCV.out))).mono ?_; rintro e w2 ⟨rfl, hb2⟩; have HST2 := Lib.hid (HST.out.of_below hb2); have HBX2 := Lib.hid (HBX.out.kept (Fr.of_below hb2) (fun q => q)); have hkf := Lib.hid (keepsFrom_below hb2 W0.heap.size); have hbk := Lib.hid (BK.below hb2 hltB HST.out.bel.size); clear k0 k1 k2 k3 k4 k5 k6 k7 k8 k9 k10 k11 k12 cX cY hb2)
      exact ⟨hkf.out, hbk.out, fun p hp' => (List.mem_append.1 hp').elim (HP.out p) (fun e => by simp at e; subst e; exact HCV.out), HST2.out⟩
    | true =>
      gi_wp2_with (refine ⟨trivial, ?_⟩; gi_at_call 18; refine (CallsIn.inRound l (callsIn_wide.2 (covers_c (r := true) _ xg.2.1 xg.2.2.1 HCV.out))).mono ?_; rintro e w2 ⟨rfl, hb2⟩; have HST2 := Lib.hid (HST.out.of_below hb2); have HBX2 := Lib.hid (HBX.out.kept (Fr.of_below hb2) (fun q => q)); have hkf := Lib.hid (keepsFrom_below hb2 W0.heap.size); have hbk := Lib.hid (BK.below hb2 hltB HST.out.bel.size); clear k0 k1 k2 k3 k4 k5 k6 k7 k8 k9 k10 k11 k12 cX cY hb2; obtain ⟨k0, k1, k2, k3, k4, k5, k6, k7, k8, k9, k10, k11, k12, -⟩ := blk13 HBX2.out; obtain ⟨r0, r1, r2, r3, r4, r5, r6, r7, r8, r9, r10, r11, r12, f0, f1, f2, f3, f4, f5, f6, f7, f8, f9, f10, f11, f12⟩ := blk13 HST2.out.blk.1; have rb := HST2.out.swap.cell 0; have fb := HST2.out.swap.free 0; simp at rb)
      obtain ⟨W9, e9, h5, hk9⟩ := at_set HST2.out xg.1 true
      rw [e9]
      exact ⟨hkf.out.trans (hk9 _), rfl, pre, (xi, xg), rfl, HP.out, HCV.out, h5⟩
  case done =>
    rintro D ys W hD rfl ⟨hp, hst⟩ hK
    obtain ⟨r0, r1, r2, r3, r4, r5, r6, r7, r8, r9, r10, r11, r12, f0, f1, f2, f3, f4, f5, f6, f7, f8, f9, f10, f11, f12⟩ := blk13 hst.blk.1
    have rb := hst.swap.cell 0
    have fb := hst.swap.free 0
    simp at rb
    have HST := Lib.hid hst
    have HP := Lib.hid hp
    have HK := Lib.hid hK
    clear hst hp hK
    gi_wp2
    obtain ⟨W9, e9, h5, hkf⟩ := at_set HST.out zIt false
    simp only [zIt, R4.zero] at e9
    have e0 : ByteArray.empty = { data := #[] } := rfl
    rw [e0] at e9
    rw [e9]
    have hkk := (hkf W0.heap.size).same D _ hD HK.out rfl
    refine ⟨by simp, .inl ⟨_, _, rfl, run_takeDeferred hkk, ?_⟩⟩
    have h6 := st_put (atL_co m x y s ls.length c zIt false) h5 (D := D) (by omega) hkk rfl (.deferred none)
    obtain ⟨q0, q1, q2, q3, q4, q5, q6, q7, q8, q9, q10, q11, q12, -⟩ := blk13 h6.blk.1
    have rb := h6.swap.cell 0
    simp at rb
    refine ⟨.tuple #[iv zIt, .bool false], ?_, ?_⟩
    · simp [results, Tryd.f14, go_sem, q0, q1, q2, q3, q4, q5, q6, q7, q8, q9, q10, q11, q12, rb]
    · have htop : topOf x y ls = none := by
        unfold topOf
        rw [← bk_upto, List.find?_map, List.find?_eq_none.2 (fun p hp => by simp [HP.out p hp])]
        rfl
      refine ⟨by rw [htop]; rfl, h6.bel⟩
  case stop =>
    rintro D c' pre W hD ⟨k, hk, rfl⟩ ⟨rfl, ini, last, g1, g2, g3, hst⟩ hK
    obtain ⟨r0, r1, r2, r3, r4, r5, r6, r7, r8, r9, r10, r11, r12, f0, f1, f2, f3, f4, f5, f6, f7, f8, f9, f10, f11, f12⟩ := blk13 hst.blk.1
    have rb := hst.swap.cell 0
    have fb := hst.swap.free 0
    simp at rb
    have HST := Lib.hid hst
    have HK := Lib.hid hK
    clear hst hK
    gi_wp2
    refine ⟨by simp, .inl ⟨_, _, rfl, run_takeDeferred HK.out, ?_⟩⟩
    have h6 := st_put (atL_co m x y s ls.length c last.2.1 true) HST.out (D := D) (by omega) HK.out rfl (.deferred none)
    obtain ⟨q0, q1, q2, q3, q4, q5, q6, q7, q8, q9, q10, q11, q12, -⟩ := blk13 h6.blk.1
    have rb := h6.swap.cell 0
    simp at rb
    refine ⟨.tuple #[iv last.2.1, .bool true], ?_, ?_⟩
    · simp [results, Tryd.f14, go_sem, q0, q1, q2, q3, q4, q5, q6, q7, q8, q9, q10, q11, q12, rb]
    · have htop : topOf x y ls = some last.2 := by
        unfold topOf
        rw [← bk_upto, List.find?_map]
        have e3 : upto (bk ls) k = (upto (bk ls) ls.length).take k := by
          unfold upto
          rw [← List.map_take, List.take_range, Nat.min_eq_left hk]
        have : upto (bk ls) ls.length = (ini ++ [last]) ++ (upto (bk ls) ls.length).drop k := by
          conv => lhs; rw [← List.take_append_drop k (upto (bk ls) ls.length), ← e3, g1]
        rw [List.append_assoc] at this
        rw [this, List.find?_append, List.find?_eq_none.2 (fun p hp => by simp [g2 p hp])]
        simp [g3]
      refine ⟨by rw [htop]; rfl, h6.bel⟩
end Go.Proofs.YtfjjgebfeklnhaaDoor
