/-
  layout.Locate.
-/
import Derived.Test.YtfjjgebfeklnhaaIl
import Derived.Test.YtfjjgebfeklnhaaIo
set_option linter.unusedVariables false
set_option linter.unusedSimpArgs false
namespace Go.Proofs.Ytfjjgebfeklnhaa
open Go.RowKit Go.Shelf Go.K

attribute [local go_sem] Oper.semAt_some

theorem size30 : (Try.prog.info? 30).map (·.size) = some 4 := by kernel_rfl
theorem load_rect {W : World} {b : Nat} {r : R4} (h : Blk W b #[.int .i64 r.x, .int .i64 r.y, .int .i64 r.w, .int .i64 r.h] 30) : (loadVar 30 ⟨b, 0, none⟩).run Try.prog W = .ok (rv r) W :=
  run_loadVar_mid (P := Try.prog) _ b 0 30 [.int .i64 r.x, .int .i64 r.y, .int .i64 r.w, .int .i64 r.h] _ h.range Try.underlying30 rfl size30
theorem blk_four {w : World} {b : Nat} {x y z u : Value} {t : TypeId} (h : Blk w b #[x, y, z, u] t) : w.cell? ⟨b, 0, none⟩ = some x ∧ w.cell? ⟨b, 1, none⟩ = some y ∧ w.cell? ⟨b, 2, none⟩ = some z ∧ w.cell? ⟨b, 3, none⟩ = some u ∧ w.frozen? ⟨b, 0, none⟩ = false ∧ w.frozen? ⟨b, 1, none⟩ = false ∧ w.frozen? ⟨b, 2, none⟩ = false ∧ w.frozen? ⟨b, 3, none⟩ = false := by
  have h0 := h.cell 0
  have h1 := h.cell 1
  have h2 := h.cell 2
  have h3 := h.cell 3
  exact ⟨by simpa using h0, by simpa using h1, by simpa using h2, by simpa using h3, h.free 0, h.free 1, h.free 2, h.free 3⟩
def locT (nd : Int) (t : Ft) : Option (Ft × R4) := (bxs 0 0 t).find? (isB nd)
abbrev zR4 : R4 := ⟨0, 0, 0, 0⟩
abbrev LoL (m : Nat) (t : Ft) (nd : Int) (r : R4) (ok : Bool) : List As :=
  [As.cells (m + 1 + 1) #[.int .i64 r.x, .int .i64 r.y, .int .i64 r.w, .int .i64 r.h] 30, As.cells (m + 1 + 1 + 1) #[.bool ok] 4, As.cells m (fc t).toArray 51, As.cells (m + 1) #[.int .i64 nd] 3, As.cells (m + 1 + 1 + 1 + 1) (fc t).toArray 51]
theorem loL_co (m : Nat) (t : Ft) (nd : Int) (r : R4) (ok : Bool) : ∀ A ∈ LoL m t nd r ok, A.co := by
  intro A hA
  simp only [List.mem_cons, List.not_mem_nil, or_false] at hA
  rcases hA with rfl | rfl | rfl | rfl | rfl <;> exact As.cells_co _ _ _
theorem lo_set {w W : World} {m : Nat} {t : Ft} {nd : Int} {r0 : R4} {ok0 : Bool} (h : St w W (LoL m t nd r0 ok0)) (r : R4) (ok : Bool) :
    ∃ W9, ((((W.setCell ⟨m + 1 + 1, 0, none⟩ (.int .i64 r.x)).setCell ⟨m + 1 + 1, 1, none⟩ (.int .i64 r.y)).setCell ⟨m + 1 + 1, 2, none⟩ (.int .i64 r.w)).setCell ⟨m + 1 + 1, 3, none⟩ (.int .i64 r.h)).setCell ⟨m + 1 + 1 + 1, 0, none⟩ (.bool ok) = W9 ∧ St w W9 (LoL m t nd r ok) ∧ Fr (FiS m) W W9 := by
  have h5 := (((((h.set 0 (.int .i64 r.x)).set 1 (.int .i64 r.y)).set 2 (.int .i64 r.w)).set 3 (.int .i64 r.h)).swap.set 0 (.bool ok)).swap
  refine ⟨_, rfl, h5, ?_⟩
  have f1 : Fr (FiS m) W (((W.setCell ⟨m + 1 + 1, 0, none⟩ (.int .i64 r.x)).setCell ⟨m + 1 + 1, 1, none⟩ (.int .i64 r.y))) :=
    Fr.setCell (p := ⟨m + 1 + 1, 1, none⟩) (Fr.setCell (p := ⟨m + 1 + 1, 0, none⟩) (Fr.refl _ _) (fun _ => .inl rfl) _) (fun _ => .inl rfl) _
  exact Fr.setCell (p := ⟨m + 1 + 1 + 1, 0, none⟩) (Fr.setCell (p := ⟨m + 1 + 1, 3, none⟩) (Fr.setCell (p := ⟨m + 1 + 1, 2, none⟩) f1 (fun _ => .inl rfl) _) (fun _ => .inl rfl) _) (fun _ => .inr rfl) _
def NoB (nd : Int) (l : List (Ft × R4)) : Prop := ∀ p ∈ l, isB nd p = false
def LastB (nd : Int) (pre : List (Ft × R4)) (r : R4) : Prop := ∃ ini last, pre = ini ++ [last] ∧ NoB nd ini ∧ isB nd last = true ∧ last.2 = r
theorem NoB.snoc {nd : Int} {l : List (Ft × R4)} {p : Ft × R4} (h : NoB nd l) (hp : isB nd p = false) : NoB nd (l ++ [p]) := by
  intro q hq
  rcases List.mem_append.1 hq with e | e
  · exact h q e
  · rw [List.mem_singleton.1 e]; exact hp
def LoPost (nd : Int) (t : Ft) (w : World) (e : Ending) (w' : World) : Prop :=
  e = .returned (.tuple #[rv (((locT nd t).map (·.2)).getD zR4), .bool (locT nd t).isSome]) ∧ Below w.heap.size w w'

set_option maxRecDepth 100000 in
set_option maxHeartbeats 1000000 in
theorem locate_any (t : Ft) (nd : Int) (w : World) (hT : FtAt w t) (hsz : t.sz ≤ 100000) :
    Calls Try.prog 37 #[.agg (fc t).toArray, .int .i64 nd] w (LoPost nd t w) := by
  have HT := Lib.hid hT
  clear hT
  refine (callsIn_wide (n := 6)).1 ?_
  refine callsIn_of_wp_marks Try.func37 rfl trivial ?_ rfl
  simp only [Try.ntmps37, List.size_toArray, List.length_cons, List.length_nil, Nat.reduceAdd, Nat.reduceSub, Array.replicate_succ, Array.replicate_zero, List.push_toArray, List.append_toArray, List.nil_append, List.cons_append]
  have h0 := (((((St.start w (Below.refl _ w)).new (fc t).toArray 51).new #[.int .i64 nd] 3).new #[.int .i64 0, .int .i64 0, .int .i64 0, .int .i64 0] 30).new #[.bool false] 4).new (fc t).toArray 51
  have h1 := St.sh [_, _, _, _, _] [2, 1, 4, 3, 0] (by decide) h0
  simp only [List.map_cons, List.map_nil, List.getD_cons_zero, List.getD_cons_succ, List.cons_append, List.nil_append, World.size_alloc] at h1
  have hb1 : Blk (((((w.alloc (.cells (fc t).toArray 51)).alloc (.cells #[.int .i64 nd] 3)).alloc (.cells #[.int .i64 0, .int .i64 0, .int .i64 0, .int .i64 0] 30)).alloc (.cells #[.bool false] 4))) w.heap.size (fc t).toArray 51 :=
    ((((Blk.new w (fc t).toArray 51).kept (S := fun _ => False) ((Fr.refl _ _).alloc _) (fun q => q)).kept (S := fun _ => False) ((Fr.refl _ _).alloc _) (fun q => q)).kept (S := fun _ => False) ((Fr.refl _ _).alloc _) (fun q => q))
  have HB1 := Lib.hid hb1.range
  clear hb1
  gi_wp2_with (first
    | (refine rg_load_in rfl (.tmp 2) rfl (fc t) HB1.out rfl rfl Try.underlying51 rfl size51 ?_)
    | (refine ⟨trivial, ?_⟩; gi_at_call 34; refine (callsIn_wide.2 (all_any _ _)).mono ?_; rintro e w' ⟨rfl, rfl⟩))
  obtain ⟨W0, hW0⟩ : ∃ W0, ((((w.alloc (.cells (fc t).toArray 51)).alloc (.cells #[.int .i64 nd] 3)).alloc (.cells #[.int .i64 0, .int .i64 0, .int .i64 0, .int .i64 0] 30)).alloc (.cells #[.bool false] 4)).alloc (.cells (fc t).toArray 51) = W0 := ⟨_, rfl⟩
  have hsz0 : W0.heap.size = w.heap.size + 5 := by rw [← hW0]; simp
  have h2 : St w W0 (LoL w.heap.size t nd zR4 false) := by rw [← hW0]; exact h1
  rw [hW0]
  clear h0 h1 hW0 HB1
  obtain ⟨m, hm⟩ : ∃ m, w.heap.size = m := ⟨_, rfl⟩
  have hbel := h2.bel
  have hTb : ∀ k, t.blk k → ¬ FiS m k := fun k hk q => by have := HT.out.blt k hk; rcases q with q | q <;> omega
  simp only [World.size_alloc, hm] at h2 hsz0 ⊢
  refine wpIn_rangeFunc_ownH rfl (by omega) (gf := 44) (lb := #[.pointer (some ⟨m + 1 + 1 + 1 + 1, 0, none⟩)]) rfl trivial (enters_of Try.func44 (by kernel_rfl) rfl)
    (all_stops Fence.wide rfl _ trivial trivial rfl (m + 1 + 1 + 1 + 1) (FiS m) t hsz W0 (fun k hk => by rcases hk with q | q <;> omega) (St.sh [_, _, _, _, _] [4, 0, 1, 2, 3] (by decide) h2).blk.1 (HT.out.stay hbel) hTb) CK.trans (fun W l o o' _ h1 h2 _ => ck_b W l o o' h1 h2) (Below.refl _ _) (fun _ => rfl)
    (fun pre W => NoB nd pre ∧ St w W (LoL m t nd zR4 false))
    (fun c' pre W => c' = .ret ∧ ∃ r, LastB nd pre r ∧ St w W (LoL m t nd r true))
    (OwnFrom.and (ownFrom_pure _ _) (st_own (fun _ => loL_co _ _ _ _ _) (by omega)))
    (fun c' => by
      intro pre X Y row hs hg hr
      obtain ⟨h3, r, h4, h7⟩ := hs
      exact ⟨h3, r, h4, st_own (β := Unit) (L := fun _ => LoL m t nd r true) (fun _ => loL_co _ _ _ _ _) (B := W0.heap.size) (by omega) () X Y row h7 hg hr⟩)
    ⟨fun p hp => (List.not_mem_nil hp).elim, h2⟩
    (fun x' a' W => ∃ Bx, m + 4 < Bx ∧ Blk W Bx #[.int .i64 x'.2.x, .int .i64 x'.2.y, .int .i64 x'.2.w, .int .i64 x'.2.h] 30 ∧ Blk W (Bx + 1) (fc x'.1).toArray 51 ∧ a' = { tmps := #[.agg (fc t).toArray, .int .i64 nd, .pointer (some ⟨m, 0, none⟩), .pointer (some ⟨m + 1, 0, none⟩), .pointer (some ⟨m + 1 + 1, 0, none⟩), .pointer (some ⟨m + 1 + 1 + 1, 0, none⟩), .pointer (some ⟨Bx, 0, none⟩), .pointer (some ⟨Bx + 1, 0, none⟩), .agg (fc t).toArray, .func (.func 44) #[] #[.pointer (some ⟨m + 1 + 1 + 1 + 1, 0, none⟩)], rv x'.2, .agg (fc x'.1).toArray, undef, undef, undef, undef, undef, undef, undef, undef, undef, undef, undef, undef, undef, undef, undef], defers := [] })
    (fun x' a' => by
      intro _ X Y row hs hg hr
      obtain ⟨Bx, h3, h4, h5, h6⟩ := hs
      exact ⟨Bx, h3, blk_own (β := Unit) Bx (fun _ => #[.int .i64 x'.2.x, .int .i64 x'.2.y, .int .i64 x'.2.w, .int .i64 x'.2.h]) 30 W0.heap.size () X Y row h4 hg hr, blk_own (β := Unit) (Bx + 1) (fun _ => (fc x'.1).toArray) 51 W0.heap.size () X Y row h5 hg hr, h6⟩)
    ?assign ?body ?done ?stop
  case assign =>
    rintro l pre x' W K ⟨hp, hst⟩ hK
    have z51 := zv51
    have hb := Blk.new W #[.int .i64 x'.2.x, .int .i64 x'.2.y, .int .i64 x'.2.w, .int .i64 x'.2.h] 30
    obtain ⟨W1, hW1⟩ : ∃ W1, W.alloc (.cells #[.int .i64 x'.2.x, .int .i64 x'.2.y, .int .i64 x'.2.w, .int .i64 x'.2.h] 30) = W1 := ⟨_, rfl⟩
    have hs1 : W1.heap.size = W.heap.size + 1 := by rw [← hW1]; simp
    have hbl1 : Below W.heap.size W W1 := by rw [← hW1]; exact (Below.refl W.heap.size W).alloc (Nat.le_refl _) _
    rw [hW1] at hb
    have hnw : Blk (W1.alloc (.cells (fv Fz 0).toArray 51)) (W.heap.size + 1) (fv Fz 0).toArray 51 := by rw [← hs1]; exact Blk.new _ _ _
    have HNW := Lib.hid hnw
    have HK := Lib.hid hK
    have HST := Lib.hid hst
    have HB := Lib.hid hb
    have HBL := Lib.hid hbl1
    have HS1 := Lib.hid hs1
    clear hK hst hb hnw hbl1
    gi_wp2_with (refine bw_store_in rfl (.tmp 7) (.tmp 11) rfl ((Below.refl W1.heap.size W1).alloc (Nat.le_refl _) _) (Nat.le_refl _) (by have := HS1.out; omega) HNW.out (fc x'.1) rfl rfl rfl rfl size51 (fc_one _) ?_; intro W4 hb4 hk4 _; have HB4 := Lib.hid hb4; have HK4 := Lib.hid hk4; clear hb4 hk4)
    have hb4 : Below W.heap.size W W4 := HBL.out.trans (HB4.out.mono (by have := HS1.out; omega))
    have hsz1 := HST.out.bel.size
    have hlt := (St.sh [_, _, _, _, _] [4, 0, 1, 2, 3] (by decide) HST.out).blk.1.lt
    exact HK.out _ _ (keepsFrom_below hb4 _) (CK.below hb4) ⟨hp, HST.out.of_below hb4⟩ ⟨W.heap.size, by omega, HB.out.kept (Fr.of_below HB4.out) (fun q => q), HK4.out, rfl⟩
  case body =>
    rintro l pre x' a' W hl ⟨r, hr⟩ ⟨hp, hst⟩ ⟨Bx, hBx, bR, bX, rfl⟩ hlt
    obtain ⟨xf, ⟨rx, ry, rw', rh⟩⟩ := x'
    simp only at bX bR ⊢
    obtain ⟨r0, r1, r2, r3⟩ : W.cell? ⟨Bx, 0, none⟩ = some (.int .i64 rx) ∧ W.cell? ⟨Bx, 1, none⟩ = some (.int .i64 ry) ∧ W.cell? ⟨Bx, 2, none⟩ = some (.int .i64 rw') ∧ W.cell? ⟨Bx, 3, none⟩ = some (.int .i64 rh) := ⟨bR.cell 0, bR.cell 1, bR.cell 2, bR.cell 3⟩
    obtain ⟨c0, c1, -⟩ := bigI xf.a xf.ks.length 51 W (Bx + 1) bX
    obtain ⟨cN, -⟩ := (hst.blkm (b := m + 1) (.tail _ (.tail _ (.tail _ (.head _))))).one
    obtain ⟨cB, fB⟩ := (hst.blkm (b := m + 1 + 1 + 1) (.tail _ (.head _))).one
    obtain ⟨z0, z1, z2, z3, f0, f1, f2, f3⟩ := blk_four hst.blk.1
    have HP := Lib.hid hp
    have HST := Lib.hid hst
    obtain ⟨q0, hq0⟩ : ∃ q, (nd != 0) = q := ⟨_, rfl⟩
    obtain ⟨q1, hq1⟩ : ∃ q, (xf.a.kd == 1) = q := ⟨_, rfl⟩
    obtain ⟨q2, hq2⟩ : ∃ q, (xf.a.nd == nd) = q := ⟨_, rfl⟩
    have HIB := Lib.hid (show isB nd (xf, (⟨rx, ry, rw', rh⟩ : R4)) = ((q1 && q2) && q0) by rw [← hq0, ← hq1, ← hq2]; rfl)
    clear hst hp bX bR
    cases q0 with
    | false =>
      gi_wp2
      exact ⟨KeepsFrom.refl _ _, CK.refl _ _, HP.out.snoc (by rw [HIB.out]; simp), HST.out⟩
    | true =>
      cases q1 with
      | false =>
        gi_wp2
        exact ⟨KeepsFrom.refl _ _, CK.refl _ _, HP.out.snoc (by rw [HIB.out]; rfl), HST.out⟩
      | true =>
        cases q2 with
        | false =>
          gi_wp2
          exact ⟨KeepsFrom.refl _ _, CK.refl _ _, HP.out.snoc (by rw [HIB.out]; rfl), HST.out⟩
        | true =>
          gi_wp2
          obtain ⟨W9, hW9, h5, hF5⟩ := lo_set HST.out ⟨rx, ry, rw', rh⟩ true
          simp only at hW9
          rw [hW9]
          refine ⟨keepsFrom_fr hF5 (fun k _ hk => ?_) _, rfl, ⟨rx, ry, rw', rh⟩, ⟨pre, (xf, ⟨rx, ry, rw', rh⟩), rfl, HP.out, HIB.out, rfl⟩, h5⟩
          rcases hk with rfl | rfl
          · exact ⟨_, HST.out.blkm (.head _), rfl⟩
          · exact ⟨_, HST.out.blkm (.tail _ (.head _)), rfl⟩
  case done =>
    rintro D ys W hD rfl ⟨hp, hst⟩ hK
    obtain ⟨cB, fB⟩ := (hst.blkm (b := m + 1 + 1 + 1) (.tail _ (.head _))).one
    obtain ⟨z0, z1, z2, z3, f0, f1, f2, f3⟩ := blk_four hst.blk.1
    have HP := Lib.hid hp
    have HST := Lib.hid hst
    have HK := Lib.hid hK
    clear hst hp hK
    gi_wp2
    obtain ⟨W9, hW9, h5, hF5⟩ := lo_set HST.out zR4 false
    simp only at hW9
    rw [hW9]
    have hkk := (keepsFrom_fr hF5 (fun k _ hk => by
      rcases hk with rfl | rfl
      · exact ⟨_, HST.out.blkm (.head _), rfl⟩
      · exact ⟨_, HST.out.blkm (.tail _ (.head _)), rfl⟩) W0.heap.size).same D _ hD HK.out rfl
    refine ⟨by simp, .inl ⟨_, _, rfl, run_takeDeferred hkk, ?_⟩⟩
    have h6 := st_put (loL_co m t nd zR4 false) h5 (D := D) (by omega) hkk rfl (.deferred none)
    have hft : locT nd t = none := List.find?_eq_none.2 (fun p hp => by simp [HP.out p hp])
    refine ⟨_, results_cells2 Try.results37 _ _ _ rfl rfl (load_rect (r := zR4) h6.blk.1) (load_bool h6.swap.blk.1), ?_⟩
    exact ⟨by rw [hft]; rfl, h6.bel⟩
  case stop =>
    rintro D c' pre W hD hpf ⟨rfl, r, ⟨ini, last, rfl, h5, h6, rfl⟩, hst⟩ hK
    have HST := Lib.hid hst
    have HK := Lib.hid hK
    clear hst hK
    gi_wp2
    refine ⟨by simp, .inl ⟨_, _, rfl, run_takeDeferred HK.out, ?_⟩⟩
    have h7 := st_put (loL_co m t nd last.2 true) HST.out (D := D) (by omega) HK.out rfl (.deferred none)
    have hft : locT nd t = some last := by
      obtain ⟨tl, htl⟩ := hpf
      unfold locT
      rw [← htl, List.append_assoc, List.find?_append, List.find?_eq_none.2 (fun p hp => by simp [h5 p hp])]
      simp [h6]
    refine ⟨_, results_cells2 Try.results37 _ _ _ rfl rfl (load_rect h7.blk.1) (load_bool h7.swap.blk.1), ?_⟩
    exact ⟨by rw [hft]; rfl, h7.bel⟩
end Go.Proofs.Ytfjjgebfeklnhaa
