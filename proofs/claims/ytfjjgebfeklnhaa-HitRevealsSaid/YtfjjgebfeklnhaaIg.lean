/-
  hit.Extent.
-/
import Derived.Test.YtfjjgebfeklnhaaIf
import Derived.Shelf.RegionOpen
import Derived.Sort.CutIn
import Derived.Sort.QuietIn
import Derived.Test.YtfjjgebfeklnhaaKx
set_option linter.unusedVariables false
set_option linter.unusedSimpArgs false
namespace Go.Proofs.Ytfjjgebfeklnhaa
open Go.RowKit Go.Shelf Go.K

attribute [local go_sem] Oper.semAt_some

theorem wr64 (n : Int) : wrap64 n = IntKind.i64.wrap n := by rw [IntKind.wrap_i64, wrap64]
abbrev ExL (m : Nat) (t : Ft) (W H : Int) (B : Bool) : List As :=
  [As.cells (m + 1) #[.int .i64 W] 3, As.cells (m + 1 + 1) #[.int .i64 H] 3, As.cells (m + 1 + 1 + 1) #[.bool B] 4, As.cells m (fc t).toArray 51, As.cells (m + 1 + 1 + 1 + 1) (fc t).toArray 51]
theorem exL_co (m : Nat) (t : Ft) (W H : Int) (B : Bool) : ∀ A ∈ ExL m t W H B, A.co := by
  intro A hA
  simp only [List.mem_cons, List.not_mem_nil, or_false] at hA
  rcases hA with rfl | rfl | rfl | rfl | rfl <;> exact As.cells_co _ _ _
abbrev ExS (m : Nat) : Nat → Prop := fun k => k = m + 1 ∨ k = m + 1 + 1 ∨ k = m + 1 + 1 + 1
theorem ex_set {w W : World} {m : Nat} {t : Ft} {V H : Int} {B : Bool} (h : St w W (ExL m t V H B)) (V' H' : Int) :
    ∃ W9, (W.setCell ⟨m + 1, 0, none⟩ (.int .i64 V')).setCell ⟨m + 1 + 1, 0, none⟩ (.int .i64 H') = W9 ∧ St w W9 (ExL m t V' H' B) ∧ Fr (ExS m) W W9 := by
  have h5 := ((h.set 0 (.int .i64 V')).swap.set 0 (.int .i64 H')).swap
  refine ⟨_, rfl, h5, ?_⟩
  exact Fr.setCell (p := ⟨m + 1 + 1, 0, none⟩) (Fr.setCell (p := ⟨m + 1, 0, none⟩) (Fr.refl _ _) (fun _ => .inl rfl) _) (fun _ => .inr (.inl rfl)) _
theorem ck_fr {S : Nat → Prop} {w W W' : World} {L : List As} (hS : Fr S W W') : CK S W W' := CK.of_fr hS (fun _ q => q)

set_option maxRecDepth 100000 in
set_option maxHeartbeats 1000000 in
theorem extent_any (t : Ft) (w : World) (hT : FtAt w t) (hsz : t.sz ≤ 100000) :
    Calls Try.prog 16 #[.agg (fc t).toArray] w fun e w' => e = .returned (.tuple #[.int .i64 (extW t), .int .i64 (extH t)]) ∧ Below w.heap.size w w' := by
  have HT := Lib.hid hT
  clear hT
  refine (callsIn_wide (n := 6)).1 ?_
  refine callsIn_of_wp_marks Try.func16 rfl trivial ?_ rfl
  simp only [Try.ntmps16, List.size_toArray, List.length_cons, List.length_nil, Nat.reduceAdd, Nat.reduceSub, Array.replicate_succ, Array.replicate_zero, List.push_toArray, List.append_toArray, List.nil_append, List.cons_append]
  have h0 := (((((St.start w (Below.refl _ w)).new (fc t).toArray 51).new #[.int .i64 0] 3).new #[.int .i64 0] 3).new #[.bool true] 4).new (fc t).toArray 51
  have h1 := St.sh [_, _, _, _, _] [3, 2, 1, 4, 0] (by decide) h0
  simp only [List.map_cons, List.map_nil, List.getD_cons_zero, List.getD_cons_succ, List.cons_append, List.nil_append, World.size_alloc] at h1
  have hb1 : Blk (((((w.alloc (.cells (fc t).toArray 51)).alloc (.cells #[.int .i64 0] 3)).alloc (.cells #[.int .i64 0] 3)).alloc (.cells #[.bool true] 4))) w.heap.size (fc t).toArray 51 :=
    ((((Blk.new w (fc t).toArray 51).kept (S := fun _ => False) ((Fr.refl _ _).alloc _) (fun q => q)).kept (S := fun _ => False) ((Fr.refl _ _).alloc _) (fun q => q)).kept (S := fun _ => False) ((Fr.refl _ _).alloc _) (fun q => q))
  have HB1 := Lib.hid hb1.range
  clear hb1
  gi_wp2_with (first
    | (refine rg_load_in rfl (.tmp 1) rfl (fc t) HB1.out rfl rfl Try.underlying51 rfl size51 ?_)
    | (refine ⟨trivial, ?_⟩; gi_at_call 34; refine (callsIn_wide.2 (all_any _ _)).mono ?_; rintro e w' ⟨rfl, rfl⟩))
  obtain ⟨W0, hW0⟩ : ∃ W0, ((((w.alloc (.cells (fc t).toArray 51)).alloc (.cells #[.int .i64 0] 3)).alloc (.cells #[.int .i64 0] 3)).alloc (.cells #[.bool true] 4)).alloc (.cells (fc t).toArray 51) = W0 := ⟨_, rfl⟩
  have hsz0 : W0.heap.size = w.heap.size + 5 := by rw [← hW0]; simp
  have h2 : St w W0 (ExL w.heap.size t 0 0 true) := by rw [← hW0]; exact h1
  rw [hW0]
  clear h0 h1 hW0 HB1
  obtain ⟨m, hm⟩ : ∃ m, w.heap.size = m := ⟨_, rfl⟩
  have hbel := h2.bel
  have hTb : ∀ k, t.blk k → ¬ ExS m k := fun k hk q => by have := HT.out.blt k hk; rcases q with q | q | q <;> omega
  simp only [World.size_alloc, hm] at h2 hsz0 ⊢
  refine wpIn_rangeFunc_ownH rfl (by omega) (gf := 44) (lb := #[.pointer (some ⟨m + 1 + 1 + 1 + 1, 0, none⟩)]) rfl trivial (enters_of Try.func44 (by kernel_rfl) rfl)
    (all_stops Fence.wide rfl _ trivial trivial rfl (m + 1 + 1 + 1 + 1) (ExS m) t hsz W0 (fun k hk => by rcases hk with q | q | q <;> omega) (St.sh [_, _, _, _, _] [4, 0, 1, 2, 3] (by decide) h2).blk.1 (HT.out.stay hbel) hTb) CK.trans (fun W l o o' _ h1 h2 _ => ck_b W l o o' h1 h2) (Below.refl _ _) (fun _ => rfl)
    (fun pre W => St w W (ExL m t (emax (eX t.a) (pre.map (·.2))) (emax (eY t.a) (pre.map (·.2))) (pre.isEmpty)))
    (fun _ _ _ => False)
    (fun pre X Y row hs hg hr => st_own (β := Unit) (L := fun _ => ExL m t (emax (eX t.a) (pre.map (·.2))) (emax (eY t.a) (pre.map (·.2))) (pre.isEmpty)) (fun _ => exL_co _ _ _ _ _) (B := W0.heap.size) (by omega) () X Y row hs hg hr)
    (fun _ _ _ _ _ hs _ _ => hs)
    h2
    (fun x' a' W => ∃ Bx, m + 4 < Bx ∧ Blk W Bx #[.int .i64 x'.2.x, .int .i64 x'.2.y, .int .i64 x'.2.w, .int .i64 x'.2.h] 30 ∧ a' = { tmps := #[.agg (fc t).toArray, .pointer (some ⟨m, 0, none⟩), .int .i64 0, .int .i64 0, .pointer (some ⟨m + 1, 0, none⟩), .pointer (some ⟨m + 1 + 1, 0, none⟩), .pointer (some ⟨m + 1 + 1 + 1, 0, none⟩), .pointer (some ⟨Bx, 0, none⟩), undef, undef, .agg (fc t).toArray, .func (.func 44) #[] #[.pointer (some ⟨m + 1 + 1 + 1 + 1, 0, none⟩)], rv x'.2, .agg (fc x'.1).toArray, undef, undef, undef, undef, undef, undef, undef, undef, undef, undef, undef, undef, undef, undef, undef, undef, undef, undef, undef, undef, undef, undef, undef, undef, undef, undef, undef], defers := [] })
    (fun x' a' => by
      intro _ X Y row hs hg hr
      obtain ⟨Bx, h3, h4, h5⟩ := hs
      exact ⟨Bx, h3, blk_own (β := Unit) Bx (fun _ => #[.int .i64 x'.2.x, .int .i64 x'.2.y, .int .i64 x'.2.w, .int .i64 x'.2.h]) 30 W0.heap.size () X Y row h4 hg hr, h5⟩)
    ?assign ?body ?done ?stop
  case assign =>
    rintro l pre x' W K hst hK
    gi_wp2
    have hs1 := hst.bel.size
    have hlt := (St.sh [_, _, _, _, _] [4, 0, 1, 2, 3] (by decide) hst).blk.1.lt
    exact hK _ _ ((KeepsOthers.alloc _ _).from _) (CK.below ((Below.refl _ W).alloc (Nat.le_refl _) _)) (hst.alloc _) ⟨W.heap.size, by omega, Blk.new W _ _, rfl⟩
  case body =>
    rintro l pre x' a' W hl ⟨r, hr⟩ hst ⟨Bx, hBx, bX, rfl⟩ hlt
    obtain ⟨xf, ⟨rx, ry, rw', rh⟩⟩ := x'
    simp only at bX ⊢
    obtain ⟨r0, r1, r2, r3⟩ : W.cell? ⟨Bx, 0, none⟩ = some (.int .i64 rx) ∧ W.cell? ⟨Bx, 1, none⟩ = some (.int .i64 ry) ∧ W.cell? ⟨Bx, 2, none⟩ = some (.int .i64 rw') ∧ W.cell? ⟨Bx, 3, none⟩ = some (.int .i64 rh) := ⟨bX.cell 0, bX.cell 1, bX.cell 2, bX.cell 3⟩
    obtain ⟨-, -, c2, c3, -⟩ := bigI t.a t.ks.length 51 W m (hst.blkm (.tail _ (.tail _ (.tail _ (.head _)))))
    obtain ⟨cW, fW⟩ := hst.blk.1.one
    obtain ⟨cH, fH⟩ := (hst.blkm (b := m + 1 + 1) (.tail _ (.head _))).one
    obtain ⟨cB, fB⟩ := (hst.blkm (b := m + 1 + 1 + 1) (.tail _ (.tail _ (.head _)))).one
    have HST := Lib.hid hst
    clear hst bX
    gi_upto_region 4 with fail
    refine region_round_quiet (by kernel_rfl) (by kernel_rfl) (by kernel_rfl) ?_
    repeat (go_big_quiet_step (fail))
    refine wpQuiet_nil ?_
    intro _ hw'
    obtain ⟨nq, hw''⟩ := hw'
    subst hw''
    obtain ⟨R, hR⟩ : ∃ R, wrap64 (wrap64 (rx - t.a.x) + rw') = R := ⟨_, rfl⟩
    obtain ⟨T, hT⟩ : ∃ T, wrap64 (wrap64 (ry - t.a.y) + rh) = T := ⟨_, rfl⟩
    have HR := Lib.hid (show eX t.a ⟨rx, ry, rw', rh⟩ = R by rw [← hR]; simp only [eX, wr, wr64])
    have HT' := Lib.hid (show eY t.a ⟨rx, ry, rw', rh⟩ = T by rw [← hT]; simp only [eY, wr, wr64])
    rw [hR, hT]
    clear hR hT
    obtain ⟨V, hV⟩ : ∃ V, emax (eX t.a) (pre.map (·.2)) = V := ⟨_, rfl⟩
    obtain ⟨H, hH⟩ : ∃ H, emax (eY t.a) (pre.map (·.2)) = H := ⟨_, rfl⟩
    obtain ⟨B, hB⟩ : ∃ B, pre.isEmpty = B := ⟨_, rfl⟩
    have HV := Lib.hid hV
    have HH := Lib.hid hH
    have HB := Lib.hid hB
    rw [hV] at cW
    rw [hH] at cH
    rw [hB] at cB
    rw [hV, hH, hB] at HST
    clear hV hH hB r0 r1 r2 r3 c2 c3
    cases B with
    | false =>
      have hpn : pre.map (·.2) ≠ [] := by
        have := HB.out
        cases pre with
        | nil => simp at this
        | cons a b => simp
      have HE1 := Lib.hid (show emax (eX t.a) ((pre ++ [(xf, (⟨rx, ry, rw', rh⟩ : R4))]).map (·.2)) = max V R by rw [List.map_append, List.map_singleton, emax_snoc, if_neg hpn, HV.out, HR.out])
      have HE2 := Lib.hid (show emax (eY t.a) ((pre ++ [(xf, (⟨rx, ry, rw', rh⟩ : R4))]).map (·.2)) = max H T by rw [List.map_append, List.map_singleton, emax_snoc, if_neg hpn, HH.out, HT'.out])
      clear hpn
      gi_upto_region 7 with fail
      obtain ⟨W7, hW7⟩ : ∃ W7, W.drewN nq = W7 := ⟨_, rfl⟩
      have h7 : St w W7 (ExL m t V H false) := by rw [← hW7]; exact HST.out.drewN nq
      have hF7 : Fr (ExS m) W W7 := by rw [← hW7]; exact (Fr.refl _ _).drewN nq
      rw [hW7]
      have H7S := Lib.hid h7
      clear cW cH cB fW fH fB hW7
      obtain ⟨cW, fW⟩ := h7.blk.1.one
      obtain ⟨cH, fH⟩ := (h7.blkm (b := m + 1 + 1) (.tail _ (.head _))).one
      clear h7
      have hS : (fun w' : World => w'.cell? ⟨m + 1 + 1, 0, none⟩ = some (.int .i64 H)) W7.drew := cH
      refine region_round_last (S := (fun w' : World => w'.cell? ⟨m + 1 + 1, 0, none⟩ = some (.int .i64 H))) (c := 7) (by kernel_rfl) (by kernel_rfl) ?_
      refine' wpLast.take (i := 1) (v := _) rfl (by kernel_rfl) (fun _ _ _ h => absurd h.1 (by intro q; cases q)) (by kernel_rfl) _ _ _ _ (by kernel_rfl) (by kernel_rfl) (Or.inl ⟨by rfl, ?hy1⟩) hS ?rest1
      case hy1 => (intro w' hSw; go_simp; try with_reducible rfl)
      try simp only [Act.put, List.setIfInBounds_toArray, List.set_cons_zero, List.set_cons_succ]
      refine' wpLast.take (i := 3) (v := _) rfl (by kernel_rfl) (fun _ _ _ h => absurd h.1 (by intro q; cases q)) (by kernel_rfl) _ _ _ _ (by kernel_rfl) (by kernel_rfl) (Or.inl ⟨by rfl, ?hy3⟩) hS ?rest3
      case hy3 => (intro w' hSw; go_simp; try with_reducible rfl)
      try simp only [Act.put, List.setIfInBounds_toArray, List.set_cons_zero, List.set_cons_succ]
      refine' wpLast.take (i := 4) (v := _) rfl (by kernel_rfl) (fun _ _ _ h => absurd h.1 (by intro q; cases q)) (by kernel_rfl) _ _ _ _ (by kernel_rfl) (by kernel_rfl) (Or.inl ⟨by rfl, ?hy4⟩) hS ?rest4
      case hy4 => (intro w' hSw; go_simp; try with_reducible rfl)
      try simp only [Act.put, List.setIfInBounds_toArray, List.set_cons_zero, List.set_cons_succ]
      refine' wpLast.take (i := 5) (v := _) rfl (by kernel_rfl) (fun _ _ _ h => absurd h.1 (by intro q; cases q)) (by kernel_rfl) _ _ _ _ (by kernel_rfl) (by kernel_rfl) (Or.inl ⟨by rfl, ?hy5⟩) hS ?rest5
      case hy5 => (intro w' hSw; go_simp; try with_reducible rfl)
      try simp only [Act.put, List.setIfInBounds_toArray, List.set_cons_zero, List.set_cons_succ]
      refine wpLast.one (i := 0) rfl (by kernel_rfl) ?_
      intro K' hK; have HK' := Lib.hid hK; clear hK
      go_simp
      refine HK'.out _ _ ⟨fun _ => hS, ?_⟩
      clear HK' K'
      try simp only [Act.put, List.setIfInBounds_toArray, List.set_cons_zero, List.set_cons_succ]
      refine wpLast.one (i := 2) rfl (by kernel_rfl) ?_
      intro K' hK; have HK' := Lib.hid hK; clear hK
      go_simp
      refine HK'.out _ _ ⟨fun _ => hS, ?_⟩
      clear HK' K'
      try simp only [Act.put, List.setIfInBounds_toArray, List.set_cons_zero, List.set_cons_succ]
      refine wpLast.one (i := 6) rfl (by kernel_rfl) ?_
      intro K' hK; have HK' := Lib.hid hK; clear hK
      go_simp
      have hmx : (if V < R then R else V) = max V R := by split <;> omega
      have hmy : (if H < T then T else H) = max H T := by split <;> omega
      rw [hmx, hmy]
      have H8S := Lib.hid ((H7S.out.set 0 (.int .i64 (max V R))).drew)
      have hF8 : Fr (ExS m) W ((W7.setCell ⟨m + 1, 0, none⟩ (.int .i64 (max V R))).drew) := (Fr.setCell (p := ⟨m + 1, 0, none⟩) hF7 (fun _ => .inl rfl) _).drew
      obtain ⟨W8, hW8⟩ : ∃ W8, (W7.setCell ⟨m + 1, 0, none⟩ (.int .i64 (max V R))).drew = W8 := ⟨_, rfl⟩
      rw [hW8] at H8S hF8 ⊢
      obtain ⟨cH8, fH8⟩ := (H8S.out.blkm (b := m + 1 + 1) (.tail _ (.head _))).one
      refine HK'.out _ _ ⟨fun _ => cH8, ?_⟩
      clear HK' K' hW8 cW cH fW fH hS
      try simp only [Act.put, List.setIfInBounds_toArray, List.set_cons_zero, List.set_cons_succ]
      refine wpLast.one (i := 7) rfl (by kernel_rfl) ?_
      intro K' hK; have HK' := Lib.hid hK; clear hK
      go_simp
      refine HK'.out _ _ ⟨fun h => absurd rfl h, ?_⟩
      clear HK' K'
      try simp only [Act.put, List.setIfInBounds_toArray, List.set_cons_zero, List.set_cons_succ]
      refine wpLast.done (by kernel_rfl) ?_
      refine ⟨rfl, ?_⟩
      gi_wp2
      have h9 := (H8S.out.swap.set 0 (.int .i64 (max H T))).swap
      have hF9 := Fr.setCell (p := ⟨m + 1 + 1, 0, none⟩) hF8 (fun _ => .inr (.inl rfl)) (.int .i64 (max H T))
      refine ⟨keepsFrom_fr hF9 (fun k _ hk => ?_) _, CK.of_fr hF9 (fun _ q => q), ?_⟩
      · rcases hk with rfl | rfl | rfl
        · exact ⟨_, HST.out.blkm (.head _), rfl⟩
        · exact ⟨_, HST.out.blkm (.tail _ (.head _)), rfl⟩
        · exact ⟨_, HST.out.blkm (.tail _ (.tail _ (.head _))), rfl⟩
      · have e3 : (pre ++ [(xf, (⟨rx, ry, rw', rh⟩ : R4))]).isEmpty = false := by simp
        show St w _ (ExL m t (emax (eX t.a) ((pre ++ [(xf, (⟨rx, ry, rw', rh⟩ : R4))]).map (·.2))) (emax (eY t.a) ((pre ++ [(xf, (⟨rx, ry, rw', rh⟩ : R4))]).map (·.2))) (pre ++ [(xf, (⟨rx, ry, rw', rh⟩ : R4))]).isEmpty)
        rw [e3, HE1.out, HE2.out]
        exact h9
    | true =>
      have hpn : pre = [] := by
        have := HB.out
        cases pre with
        | nil => rfl
        | cons a b => simp at this
      have HE1 := Lib.hid (show emax (eX t.a) ((pre ++ [(xf, (⟨rx, ry, rw', rh⟩ : R4))]).map (·.2)) = R by rw [hpn, List.nil_append, List.map_singleton, emax, List.foldl_nil, HR.out])
      have HE2 := Lib.hid (show emax (eY t.a) ((pre ++ [(xf, (⟨rx, ry, rw', rh⟩ : R4))]).map (·.2)) = T by rw [hpn, List.nil_append, List.map_singleton, emax, List.foldl_nil, HT'.out])
      clear hpn
      gi_upto_region 7 with fail
      obtain ⟨W7, hW7⟩ : ∃ W7, (((W.drewN nq).setCell ⟨m + 1, 0, none⟩ (.int .i64 R)).setCell ⟨m + 1 + 1, 0, none⟩ (.int .i64 T)).setCell ⟨m + 1 + 1 + 1, 0, none⟩ (.bool false) = W7 := ⟨_, rfl⟩
      have h7 : St w W7 (ExL m t R T false) := by
        rw [← hW7]
        have q1 := ((HST.out.drewN nq).set 0 (.int .i64 R)).swap.set 0 (.int .i64 T)
        have q2 := (St.sh [_, _, _] [2, 1, 0] (by decide) q1).set 0 (.bool false)
        exact St.sh [_, _, _] [1, 2, 0] (by decide) q2
      have hF7 : Fr (ExS m) W W7 := by
        rw [← hW7]
        exact Fr.setCell (p := ⟨m + 1 + 1 + 1, 0, none⟩) (Fr.setCell (p := ⟨m + 1 + 1, 0, none⟩) (Fr.setCell (p := ⟨m + 1, 0, none⟩) ((Fr.refl _ _).drewN nq) (fun _ => .inl rfl) _) (fun _ => .inr (.inl rfl)) _) (fun _ => .inr (.inr rfl)) _
      rw [hW7]
      have H7S := Lib.hid h7
      clear cW cH cB fW fH fB hW7
      obtain ⟨cW, fW⟩ := h7.blk.1.one
      obtain ⟨cH, fH⟩ := (h7.blkm (b := m + 1 + 1) (.tail _ (.head _))).one
      clear h7
      have hS : (fun w' : World => w'.cell? ⟨m + 1 + 1, 0, none⟩ = some (.int .i64 T)) W7.drew := cH
      refine region_round_last (S := (fun w' : World => w'.cell? ⟨m + 1 + 1, 0, none⟩ = some (.int .i64 T))) (c := 7) (by kernel_rfl) (by kernel_rfl) ?_
      refine' wpLast.take (i := 1) (v := _) rfl (by kernel_rfl) (fun _ _ _ h => absurd h.1 (by intro q; cases q)) (by kernel_rfl) _ _ _ _ (by kernel_rfl) (by kernel_rfl) (Or.inl ⟨by rfl, ?hyb1⟩) hS ?restb1
      case hyb1 => (intro w' hSw; go_simp; try with_reducible rfl)
      try simp only [Act.put, List.setIfInBounds_toArray, List.set_cons_zero, List.set_cons_succ]
      refine' wpLast.take (i := 3) (v := _) rfl (by kernel_rfl) (fun _ _ _ h => absurd h.1 (by intro q; cases q)) (by kernel_rfl) _ _ _ _ (by kernel_rfl) (by kernel_rfl) (Or.inl ⟨by rfl, ?hyb3⟩) hS ?restb3
      case hyb3 => (intro w' hSw; go_simp; try with_reducible rfl)
      try simp only [Act.put, List.setIfInBounds_toArray, List.set_cons_zero, List.set_cons_succ]
      refine' wpLast.take (i := 4) (v := _) rfl (by kernel_rfl) (fun _ _ _ h => absurd h.1 (by intro q; cases q)) (by kernel_rfl) _ _ _ _ (by kernel_rfl) (by kernel_rfl) (Or.inl ⟨by rfl, ?hyb4⟩) hS ?restb4
      case hyb4 => (intro w' hSw; go_simp; try with_reducible rfl)
      try simp only [Act.put, List.setIfInBounds_toArray, List.set_cons_zero, List.set_cons_succ]
      refine' wpLast.take (i := 5) (v := _) rfl (by kernel_rfl) (fun _ _ _ h => absurd h.1 (by intro q; cases q)) (by kernel_rfl) _ _ _ _ (by kernel_rfl) (by kernel_rfl) (Or.inl ⟨by rfl, ?hyb5⟩) hS ?restb5
      case hyb5 => (intro w' hSw; go_simp; try with_reducible rfl)
      try simp only [Act.put, List.setIfInBounds_toArray, List.set_cons_zero, List.set_cons_succ]
      refine wpLast.one (i := 0) rfl (by kernel_rfl) ?_
      intro K' hK; have HK' := Lib.hid hK; clear hK
      go_simp
      refine HK'.out _ _ ⟨fun _ => hS, ?_⟩
      clear HK' K'
      try simp only [Act.put, List.setIfInBounds_toArray, List.set_cons_zero, List.set_cons_succ]
      refine wpLast.one (i := 2) rfl (by kernel_rfl) ?_
      intro K' hK; have HK' := Lib.hid hK; clear hK
      go_simp
      refine HK'.out _ _ ⟨fun _ => hS, ?_⟩
      clear HK' K'
      try simp only [Act.put, List.setIfInBounds_toArray, List.set_cons_zero, List.set_cons_succ]
      refine wpLast.one (i := 6) rfl (by kernel_rfl) ?_
      intro K' hK; have HK' := Lib.hid hK; clear hK
      go_simp
      have H8S := Lib.hid ((H7S.out.set 0 (.int .i64 R)).drew)
      have hF8 : Fr (ExS m) W ((W7.setCell ⟨m + 1, 0, none⟩ (.int .i64 R)).drew) := (Fr.setCell (p := ⟨m + 1, 0, none⟩) hF7 (fun _ => .inl rfl) _).drew
      obtain ⟨W8, hW8⟩ : ∃ W8, (W7.setCell ⟨m + 1, 0, none⟩ (.int .i64 R)).drew = W8 := ⟨_, rfl⟩
      rw [hW8] at H8S hF8 ⊢
      obtain ⟨cH8, fH8⟩ := (H8S.out.blkm (b := m + 1 + 1) (.tail _ (.head _))).one
      refine HK'.out _ _ ⟨fun _ => cH8, ?_⟩
      clear HK' K' hW8 cW cH fW fH hS
      try simp only [Act.put, List.setIfInBounds_toArray, List.set_cons_zero, List.set_cons_succ]
      refine wpLast.one (i := 7) rfl (by kernel_rfl) ?_
      intro K' hK; have HK' := Lib.hid hK; clear hK
      go_simp
      refine HK'.out _ _ ⟨fun h => absurd rfl h, ?_⟩
      clear HK' K'
      try simp only [Act.put, List.setIfInBounds_toArray, List.set_cons_zero, List.set_cons_succ]
      refine wpLast.done (by kernel_rfl) ?_
      refine ⟨rfl, ?_⟩
      gi_wp2
      have h9 := (H8S.out.swap.set 0 (.int .i64 T)).swap
      have hF9 := Fr.setCell (p := ⟨m + 1 + 1, 0, none⟩) hF8 (fun _ => .inr (.inl rfl)) (.int .i64 T)
      refine ⟨keepsFrom_fr hF9 (fun k _ hk => ?_) _, CK.of_fr hF9 (fun _ q => q), ?_⟩
      · rcases hk with rfl | rfl | rfl
        · exact ⟨_, HST.out.blkm (.head _), rfl⟩
        · exact ⟨_, HST.out.blkm (.tail _ (.head _)), rfl⟩
        · exact ⟨_, HST.out.blkm (.tail _ (.tail _ (.head _))), rfl⟩
      · have e3 : (pre ++ [(xf, (⟨rx, ry, rw', rh⟩ : R4))]).isEmpty = false := by simp
        show St w _ (ExL m t (emax (eX t.a) ((pre ++ [(xf, (⟨rx, ry, rw', rh⟩ : R4))]).map (·.2))) (emax (eY t.a) ((pre ++ [(xf, (⟨rx, ry, rw', rh⟩ : R4))]).map (·.2))) (pre ++ [(xf, (⟨rx, ry, rw', rh⟩ : R4))]).isEmpty)
        rw [e3, HE1.out, HE2.out]
        exact h9
  case done =>
    rintro D ys W hD rfl hst hK
    have hw1 : emax (eX t.a) ((bxs 0 0 t).map (·.2)) = extW t := rfl
    have hh1 : emax (eY t.a) ((bxs 0 0 t).map (·.2)) = extH t := rfl
    rw [hw1, hh1] at hst
    obtain ⟨cW, -⟩ := hst.blk.1.one
    obtain ⟨cH, -⟩ := (hst.blkm (b := m + 1 + 1) (.tail _ (.head _))).one
    have HST := Lib.hid hst
    have HK := Lib.hid hK
    clear hst hK hw1 hh1
    gi_wp2
    gi_quiet (fail)
    gi_wp2
    have h5 := HST.out.drewN nq
    have hK5 : (W.drewN nq).heap[D]? = some (.deferred (some [])) := HK.out
    have h6 := st_put (exL_co m t _ _ _) h5 (D := D) (by omega) hK5 rfl (.deferred none)
    refine ⟨by simp, .inl ⟨_, _, rfl, run_takeDeferred hK5, ?_⟩⟩
    exact ⟨_, results_tmp2 rfl _ _ _, rfl, h6.bel⟩
  case stop =>
    rintro D c' pre W hD _ h
    exact h.elim
end Go.Proofs.Ytfjjgebfeklnhaa
