/-
  CascadeResolves: the method boxes at an empty map.
-/
import Derived.Test.YtflokpokaohikaaGreatDoorCc
import Derived.Test.YtflokpokaohikaaGreatDoorKq
import Derived.Deep.DeepCutAuto
import Derived.Deep.LoopGhost
import Derived.Deep.RegionWith
set_option linter.unusedVariables false
set_option linter.unusedSimpArgs false
namespace Go.Proofs.YtflokpokaohikaaGreatDoor
open Go.RowKit Go.K Go.Maps
abbrev kk : List (Nat × Value) := [(35, blk), (37, .int .i64 16)]
def sides : List Value := [.string ⟨#[116, 111, 112]⟩, .string ⟨#[114, 105, 103, 104, 116]⟩, .string ⟨#[98, 111, 116, 116, 111, 109]⟩, .string ⟨#[108, 101, 102, 116]⟩]
def BxRel (w0 : World) (L : List As) (g : Nat) (v7 v8 v12 : Value) (wr : World) : Prop :=
  ∃ K : Int, g = (4 - K).toNat ∧ 0 ≤ K ∧ K ≤ 4 ∧ v12 = .int .i64 K ∧ St w0 wr L
theorem bx_cells {w0 w : World} {L : List As} {A B : As} {mp mz i j : Nat} {pa : Array Value} {x y : Value} (h : St w0 w (A :: B :: As.cells mz #[.int .i64 1, .int .i64 0] 26 :: As.cells mp pa 31 :: L)) (hi : pa[i]? = some x) (hj : pa[j]? = some y) :
    w.cell? ⟨mp, i, none⟩ = some x ∧ w.cell? ⟨mp, j, none⟩ = some y ∧ w.cell? ⟨mz, 0, none⟩ = some (.int .i64 1) ∧ w.cell? ⟨mz, 1, none⟩ = some (.int .i64 0) := by
  have b1 := h.blkm (b := mp) (.tail _ (.tail _ (.tail _ (.head _))))
  have b2 := (h.blkm (b := mz) (.tail _ (.tail _ (.head _)))).two
  exact ⟨(b1.cell i).trans hi, (b1.cell j).trans hj, b2.1, b2.2.1⟩
theorem kk_keep {o : Nat} {vs : List Value} (h : (decide (35 < o) || decide (o + vs.length ≤ 35)) = true ∧ (decide (37 < o) || decide (o + vs.length ≤ 37)) = true) : ∀ p ∈ kk, (p ∈ kk ∧ (p.1 < o ∨ o + vs.length ≤ p.1)) ∨ ∃ j, p.1 = o + j ∧ vs[j]? = some p.2 := by
  obtain ⟨h1, h2⟩ := h
  simp only [Bool.or_eq_true, decide_eq_true_eq] at h1 h2
  intro p hp
  refine .inl ⟨hp, ?_⟩
  rcases List.mem_cons.1 hp with q | q
  · rw [q]; exact h1
  · rw [List.mem_singleton.1 q]; exact h2
theorem wp_put {P : Program} {w0 w : World} {L : List As} {ops : Array Oper} {op : Oper} {a : Act} {Q : Exit → Act → World → Prop} {KK : Act → World → Prop} {n b o : Nat} {t T : TypeId} {K K' : List (Nat × Value)} (hw : Region.wanted op (yielded ops a.tmps) = true) (x y : Operand) (ho : op.op = .store t x y)
    (H : St w0 w (As.sty n T b K :: L)) (hx : a.eval x = .pointer (some ⟨b, o, none⟩)) (v : Value) (hy : a.eval y = v) (vs : List Value) (hv : v.cells = vs.toArray) (hb : o + vs.length ≤ n) (hi : (P.info? t).map (·.size) = some vs.length) (h1 : ∀ v ∈ vs, v.oneCell' = true)
    (hK : ∀ p ∈ K', (p ∈ K ∧ (p.1 < o ∨ o + vs.length ≤ p.1)) ∨ ∃ j, p.1 = o + j ∧ vs[j]? = some p.2)
    (h : ∀ W, St w0 W (As.sty n T b K' :: L) → KK (a.put op.dst undef) W) : if Region.wanted op (yielded ops a.tmps) = true then Oper.wp P op a w KK Q else KK (a.put op.dst undef) w := by
  rw [if_pos hw]
  unfold Oper.wp execOp
  simp only [ho, hx, hy, Instr.storeAt, Instr.sureAddr, Sem.run_bind, Sem.run_pure, Result.andThen_ok, run_storeVar_cells w b o t v vs.toArray hv (H.sty_there (by simpa using hb)) (by simpa using hi) (Array.all_eq_true_iff_forall_mem.2 (fun v hv => h1 v (by simpa using hv)))]
  exact h _ (H.sty_set vs hb h1 hK)

set_option maxRecDepth 100000 in
set_option maxHeartbeats 4000000 in
theorem boxes_c {w0 w : World} {L : List As} {bc bm bo : Nat} (h : St w0 w (cmp bc bm :: As.mp0 bm :: As.sty 53 31 bo kk :: L)) :
    Calls Tryz.prog 12 #[.pointer (some ⟨bc, 0, none⟩), .pointer (some ⟨bo, 0, none⟩), .agg pst.toArray] w fun e w' => e = .returned (.tuple #[]) ∧ St w0 w' (cmp bc bm :: As.mp0 bm :: As.sty 53 31 bo kk :: L) := by
  have h1 := (h.new pst.toArray 31).new #[.int .i64 1, .int .i64 0] 26
  have h2 := h1.new sides.toArray 9
  rw [World.size_alloc, World.size_alloc] at h2
  have H2 := Lib.hid h2
  clear h h1 h2
  obtain ⟨pa, hpa1⟩ : ∃ pa, pst.toArray = pa := ⟨_, rfl⟩
  have hpa : ∀ i, (decide (14 ≤ i) && decide (i < 34)) = true → pa[i]? = some (.int .i64 0) := by
    intro i hi
    simp only [Bool.and_eq_true, decide_eq_true_eq] at hi
    rw [← hpa1]
    have e : pst = List.replicate 34 (Value.int .i64 0) ++ pst.drop 34 := rfl
    rw [List.getElem?_toArray, e, List.getElem?_append_left (l₁ := List.replicate 34 (Value.int .i64 0)) (by rw [List.length_replicate]; exact hi.2), List.getElem?_replicate, if_pos hi.2]
  rw [hpa1] at H2 ⊢
  clear hpa1
  go_enter Tryz.func12, Tryz.ntmps12
  go_upto_region 3 with fail
  have hw3 : St w0 (((w.alloc (Obj.cells pa 31)).alloc (Obj.cells #[.int .i64 1, .int .i64 0] 26)).alloc (Obj.cells #[.string ⟨#[116, 111, 112]⟩, .string ⟨#[114, 105, 103, 104, 116]⟩, .string ⟨#[98, 111, 116, 116, 111, 109]⟩, .string ⟨#[108, 101, 102, 116]⟩] 9))
      (As.sty 53 31 bo kk :: As.cells (w.heap.size + 1 + 1) sides.toArray 9 :: As.cells (w.heap.size + 1) #[.int .i64 1, .int .i64 0] 26 :: As.cells w.heap.size pa 31 :: cmp bc bm :: As.mp0 bm :: L) := by
    have q := St.sh [_, _, _, _, _, _] [5, 0, 1, 2, 3, 4] (by decide) H2.out
    exact q
  revert hw3
  generalize (((w.alloc (Obj.cells pa 31)).alloc (Obj.cells #[.int .i64 1, .int .i64 0] 26)).alloc (Obj.cells #[.string ⟨#[116, 111, 112]⟩, .string ⟨#[114, 105, 103, 104, 116]⟩, .string ⟨#[98, 111, 116, 116, 111, 109]⟩, .string ⟨#[108, 101, 102, 116]⟩] 9)) = w3
  generalize w.heap.size + 1 + 1 = ms
  generalize w.heap.size + 1 = mz
  generalize w.heap.size = mp
  intro hw3
  have H3 := Lib.hid hw3
  clear hw3 H2
  go_loopg [7, 8, 12] 4 (BxRel w0 (As.sty 53 31 bo kk :: As.cells ms sides.toArray 9 :: As.cells mz #[.int .i64 1, .int .i64 0] 26 :: As.cells mp pa 31 :: cmp bc bm :: As.mp0 bm :: L))
  case atStart => exact ⟨0, rfl, by decide, by decide, rfl, H3.out⟩
  case round =>
    obtain ⟨K, hg, hk0, hk, rfl, hst⟩ := hrel
    have Hg := Lib.hid hg
    have H4 := Lib.hid hst
    clear hg hst H3
    rcases (show K = 0 ∨ K = 1 ∨ K = 2 ∨ K = 3 ∨ K = 4 by omega) with rfl | rfl | rfl | rfl | rfl
    · have s0 : wr.cell? ⟨ms, 0, none⟩ = some (.string ⟨#[116, 111, 112]⟩) := (H4.out.blkm (b := ms) (.tail _ (.head _))).cell 0
      obtain ⟨W4, hW4⟩ : ∃ W, wr = W := ⟨_, rfl⟩
      rw [hW4] at H4 s0 ⊢
      clear hW4
      go_upto_region 5 with fail
      have hS : (fun w' : World => w'.cell? ⟨mp, 14, none⟩ = some (.int .i64 0) ∧ w'.cell? ⟨mp, 15, none⟩ = some (.int .i64 0) ∧ w'.cell? ⟨mz, 0, none⟩ = some (.int .i64 1) ∧ w'.cell? ⟨mz, 1, none⟩ = some (.int .i64 0)) W4 := bx_cells  H4.out (hpa 14 rfl) (hpa 15 rfl)
      refine wp_region_held (S := (fun w' : World => w'.cell? ⟨mp, 14, none⟩ = some (.int .i64 0) ∧ w'.cell? ⟨mp, 15, none⟩ = some (.int .i64 0) ∧ w'.cell? ⟨mz, 0, none⟩ = some (.int .i64 1) ∧ w'.cell? ⟨mz, 1, none⟩ = some (.int .i64 0))) (by kernel_rfl) ?_
      replace hS := (show (fun w' : World => w'.cell? ⟨mp, 14, none⟩ = some (.int .i64 0) ∧ w'.cell? ⟨mp, 15, none⟩ = some (.int .i64 0) ∧ w'.cell? ⟨mz, 0, none⟩ = some (.int .i64 1) ∧ w'.cell? ⟨mz, 1, none⟩ = some (.int .i64 0)) W4.drew from hS)
      change wpAnyH _ _ _ _ _ _ _ _ (World.drew _)
      refine' wpAnyH_take (i := 0) (v := .pointer (some ⟨bo, 0, none⟩)) rfl (by kernel_rfl) (by kernel_rfl) (by kernel_rfl) (fun _ _ _ h => h) (Or.inl ⟨by rfl, ?hy1⟩) hS ?rest1
      case hy1 => (intro w' hSw; obtain ⟨k0, k1, k2, k3⟩ := hSw; go_simp; (try with_reducible rfl); all_goals first | done | rfl)
      try simp only [Act.put, List.getElem_toArray, List.getElem_cons_zero, List.getElem_cons_succ, List.setIfInBounds_toArray, List.set_cons_zero, List.set_cons_succ]
      refine' wpAnyH_take (i := 1) (v := .int .i64 0) rfl (by kernel_rfl) (by kernel_rfl) (by kernel_rfl) (fun _ _ _ h => h) (Or.inl ⟨by rfl, ?hy2⟩) hS ?rest2
      case hy2 => (intro w' hSw; obtain ⟨k0, k1, k2, k3⟩ := hSw; go_simp; (try with_reducible rfl); all_goals first | done | rfl)
      try simp only [Act.put, List.getElem_toArray, List.getElem_cons_zero, List.getElem_cons_succ, List.setIfInBounds_toArray, List.set_cons_zero, List.set_cons_succ]
      refine' wpAnyH_take (i := 2) (v := .pointer (some ⟨bc, 0, none⟩)) rfl (by kernel_rfl) (by kernel_rfl) (by kernel_rfl) (fun _ _ _ h => h) (Or.inl ⟨by rfl, ?hy3⟩) hS ?rest3
      case hy3 => (intro w' hSw; obtain ⟨k0, k1, k2, k3⟩ := hSw; go_simp; (try with_reducible rfl); all_goals first | done | rfl)
      try simp only [Act.put, List.getElem_toArray, List.getElem_cons_zero, List.getElem_cons_succ, List.setIfInBounds_toArray, List.set_cons_zero, List.set_cons_succ]
      refine' wpAnyH_take (i := 3) (v := .string ⟨#[116, 111, 112]⟩) rfl (by kernel_rfl) (by kernel_rfl) (by kernel_rfl) (fun _ _ _ h => h) (Or.inl ⟨by rfl, ?hy4⟩) hS ?rest4
      case hy4 => (intro w' hSw; obtain ⟨k0, k1, k2, k3⟩ := hSw; go_simp; (try with_reducible rfl); all_goals first | done | rfl)
      try simp only [Act.put, List.getElem_toArray, List.getElem_cons_zero, List.getElem_cons_succ, List.setIfInBounds_toArray, List.set_cons_zero, List.set_cons_succ]
      refine' wpAnyH_take (i := 4) (v := .string ⟨#[109, 97, 114, 103, 105, 110, 45, 116, 111, 112]⟩) rfl (by kernel_rfl) (by kernel_rfl) (by kernel_rfl) (fun _ _ _ h => h) (Or.inl ⟨by rfl, ?hy5⟩) hS ?rest5
      case hy5 => (intro w' hSw; obtain ⟨k0, k1, k2, k3⟩ := hSw; go_simp; (try with_reducible rfl); all_goals first | done | rfl)
      try simp only [Act.put, List.getElem_toArray, List.getElem_cons_zero, List.getElem_cons_succ, List.setIfInBounds_toArray, List.set_cons_zero, List.set_cons_succ]
      refine' wpAnyH_take (i := 5) (v := .int .i64 0) rfl (by kernel_rfl) (by kernel_rfl) (by kernel_rfl) (fun _ _ _ h => h) (Or.inl ⟨by rfl, ?hy6⟩) hS ?rest6
      case hy6 => (intro w' hSw; obtain ⟨k0, k1, k2, k3⟩ := hSw; go_simp; (try with_reducible rfl); all_goals first | done | rfl)
      try simp only [Act.put, List.getElem_toArray, List.getElem_cons_zero, List.getElem_cons_succ, List.setIfInBounds_toArray, List.set_cons_zero, List.set_cons_succ]
      refine' wpAnyH_take (i := 6) (v := .pointer (some ⟨mp, 14, none⟩)) rfl (by kernel_rfl) (by kernel_rfl) (by kernel_rfl) (fun _ _ _ h => h) (Or.inl ⟨by rfl, ?hy7⟩) hS ?rest7
      case hy7 => (intro w' hSw; obtain ⟨k0, k1, k2, k3⟩ := hSw; go_simp; (try with_reducible rfl); all_goals first | done | rfl)
      try simp only [Act.put, List.getElem_toArray, List.getElem_cons_zero, List.getElem_cons_succ, List.setIfInBounds_toArray, List.set_cons_zero, List.set_cons_succ]
      refine' wpAnyH_take (i := 7) (v := .pointer (some ⟨mp, 14, none⟩)) rfl (by kernel_rfl) (by kernel_rfl) (by kernel_rfl) (fun _ _ _ h => h) (Or.inl ⟨by rfl, ?hy8⟩) hS ?rest8
      case hy8 => (intro w' hSw; obtain ⟨k0, k1, k2, k3⟩ := hSw; go_simp; (try with_reducible rfl); all_goals first | done | rfl)
      try simp only [Act.put, List.getElem_toArray, List.getElem_cons_zero, List.getElem_cons_succ, List.setIfInBounds_toArray, List.set_cons_zero, List.set_cons_succ]
      refine' wpAnyH_take (i := 8) (v := .agg #[.int .i64 0, .int .i64 0]) rfl (by kernel_rfl) (by kernel_rfl) (by kernel_rfl) (fun _ _ _ h => h) (Or.inl ⟨by rfl, ?hy9⟩) hS ?rest9
      case hy9 => (intro w' hSw; obtain ⟨k0, k1, k2, k3⟩ := hSw; go_simp; (try with_reducible rfl); all_goals first | done | rfl)
      try simp only [Act.put, List.getElem_toArray, List.getElem_cons_zero, List.getElem_cons_succ, List.setIfInBounds_toArray, List.set_cons_zero, List.set_cons_succ]
      refine' wpAnyH_take (i := 9) (v := .agg #[.int .i64 1, .int .i64 0]) rfl (by kernel_rfl) (by kernel_rfl) (by kernel_rfl) (fun _ _ _ h => h) (Or.inl ⟨by rfl, ?hy10⟩) hS ?rest10
      case hy10 => (intro w' hSw; obtain ⟨k0, k1, k2, k3⟩ := hSw; go_simp; (try with_reducible rfl); all_goals first | done | rfl)
      try simp only [Act.put, List.getElem_toArray, List.getElem_cons_zero, List.getElem_cons_succ, List.setIfInBounds_toArray, List.set_cons_zero, List.set_cons_succ]
      refine' wpAnyH_take (i := 11) (v := .pointer (some ⟨bo, 0, none⟩)) rfl (by kernel_rfl) (by kernel_rfl) (by kernel_rfl) (fun _ _ _ h => h) (Or.inl ⟨by rfl, ?hy11⟩) hS ?rest11
      case hy11 => (intro w' hSw; obtain ⟨k0, k1, k2, k3⟩ := hSw; go_simp; (try with_reducible rfl); all_goals first | done | rfl)
      try simp only [Act.put, List.getElem_toArray, List.getElem_cons_zero, List.getElem_cons_succ, List.setIfInBounds_toArray, List.set_cons_zero, List.set_cons_succ]
      refine' wpAnyH_take (i := 12) (v := .pointer (some ⟨bo, 14, none⟩)) rfl (by kernel_rfl) (by kernel_rfl) (by kernel_rfl) (fun _ _ _ h => h) (Or.inl ⟨by rfl, ?hy12⟩) hS ?rest12
      case hy12 => (intro w' hSw; obtain ⟨k0, k1, k2, k3⟩ := hSw; go_simp; (try with_reducible rfl); all_goals first | done | rfl)
      try simp only [Act.put, List.getElem_toArray, List.getElem_cons_zero, List.getElem_cons_succ, List.setIfInBounds_toArray, List.set_cons_zero, List.set_cons_succ]
      refine held_one (i := 10) rfl (by kernel_rfl) ?_
      intro K' hK; have HK' := Lib.hid hK; clear hK
      refine wp_call (by rfl) (by rfl) Tryz.func14 (by kernel_rfl) (by kernel_rfl) (by kernel_rfl) (long_c (bc := bc) (bm := bm) ⟨#[109, 97, 114, 103, 105, 110, 45, 116, 111, 112]⟩ 0 0 1 0 (Comp.of H4.out.drew (.tail _ (.tail _ (.tail _ (.tail _ (.head _))))) (.tail _ (.tail _ (.tail _ (.tail _ (.tail _ (.head _))))))) (by decide)) ?_
      rintro e W5 ⟨rfl, hb⟩
      have H5 := Lib.hid (H4.out.drew.of_below hb)
      have hS5 : (fun w' : World => w'.cell? ⟨mp, 14, none⟩ = some (.int .i64 0) ∧ w'.cell? ⟨mp, 15, none⟩ = some (.int .i64 0) ∧ w'.cell? ⟨mz, 0, none⟩ = some (.int .i64 1) ∧ w'.cell? ⟨mz, 1, none⟩ = some (.int .i64 0)) W5 := bx_cells  H5.out (hpa 14 rfl) (hpa 15 rfl)
      refine ⟨_, rfl, HK'.out _ _ ⟨hS5, ?_⟩⟩
      clear HK' K' hS hb
      have hS := hS5
      clear hS5
      try simp only [Act.put, List.getElem_toArray, List.getElem_cons_zero, List.getElem_cons_succ, List.setIfInBounds_toArray, List.set_cons_zero, List.set_cons_succ]
      refine' wpAnyH_take (i := 13) (v := .pointer (some ⟨bo, 14, none⟩)) rfl (by kernel_rfl) (by kernel_rfl) (by kernel_rfl) (fun _ _ _ h => h) (Or.inl ⟨by rfl, ?hy13⟩) hS ?rest13
      case hy13 => (intro w' hSw; obtain ⟨k0, k1, k2, k3⟩ := hSw; go_simp; (try with_reducible rfl); all_goals first | done | rfl)
      try simp only [Act.put, List.getElem_toArray, List.getElem_cons_zero, List.getElem_cons_succ, List.setIfInBounds_toArray, List.set_cons_zero, List.set_cons_succ]
      refine held_one (i := 14) rfl (by kernel_rfl) ?_
      intro K' hK; have HK' := Lib.hid hK; clear hK hS
      refine wp_put (K' := kk) (by rfl) (.tmp 30) (.tmp 27) rfl H5.out rfl (.agg #[.int .i64 1, .int .i64 0]) rfl [.int .i64 1, .int .i64 0] rfl (by simp) size26 (by simp [Value.oneCell']) (kk_keep (by simp)) ?_
      intro W6 HW; have H6 := Lib.hid HW; clear HW
      refine HK'.out _ _ ⟨bx_cells  H6.out (hpa 14 rfl) (hpa 15 rfl), ?_⟩
      clear HK' K'
      try simp only [Act.put, List.getElem_toArray, List.getElem_cons_zero, List.getElem_cons_succ, List.setIfInBounds_toArray, List.set_cons_zero, List.set_cons_succ]
      refine wpAnyH_done (by kernel_rfl) ?_ _
      go_upto_region 6 with fail
      have hS : (fun w' : World => w'.cell? ⟨mp, 22, none⟩ = some (.int .i64 0) ∧ w'.cell? ⟨mp, 23, none⟩ = some (.int .i64 0) ∧ w'.cell? ⟨mz, 0, none⟩ = some (.int .i64 1) ∧ w'.cell? ⟨mz, 1, none⟩ = some (.int .i64 0)) W6 := bx_cells  H6.out (hpa 22 rfl) (hpa 23 rfl)
      refine wp_region_held (S := (fun w' : World => w'.cell? ⟨mp, 22, none⟩ = some (.int .i64 0) ∧ w'.cell? ⟨mp, 23, none⟩ = some (.int .i64 0) ∧ w'.cell? ⟨mz, 0, none⟩ = some (.int .i64 1) ∧ w'.cell? ⟨mz, 1, none⟩ = some (.int .i64 0))) (by kernel_rfl) ?_
      replace hS := (show (fun w' : World => w'.cell? ⟨mp, 22, none⟩ = some (.int .i64 0) ∧ w'.cell? ⟨mp, 23, none⟩ = some (.int .i64 0) ∧ w'.cell? ⟨mz, 0, none⟩ = some (.int .i64 1) ∧ w'.cell? ⟨mz, 1, none⟩ = some (.int .i64 0)) W6.drew from hS)
      change wpAnyH _ _ _ _ _ _ _ _ (World.drew _)
      refine' wpAnyH_take (i := 0) (v := .pointer (some ⟨bo, 0, none⟩)) rfl (by kernel_rfl) (by kernel_rfl) (by kernel_rfl) (fun _ _ _ h => h) (Or.inl ⟨by rfl, ?hy14⟩) hS ?rest14
      case hy14 => (intro w' hSw; obtain ⟨k0, k1, k2, k3⟩ := hSw; go_simp; (try with_reducible rfl); all_goals first | done | rfl)
      try simp only [Act.put, List.getElem_toArray, List.getElem_cons_zero, List.getElem_cons_succ, List.setIfInBounds_toArray, List.set_cons_zero, List.set_cons_succ]
      refine' wpAnyH_take (i := 1) (v := .int .i64 0) rfl (by kernel_rfl) (by kernel_rfl) (by kernel_rfl) (fun _ _ _ h => h) (Or.inl ⟨by rfl, ?hy15⟩) hS ?rest15
      case hy15 => (intro w' hSw; obtain ⟨k0, k1, k2, k3⟩ := hSw; go_simp; (try with_reducible rfl); all_goals first | done | rfl)
      try simp only [Act.put, List.getElem_toArray, List.getElem_cons_zero, List.getElem_cons_succ, List.setIfInBounds_toArray, List.set_cons_zero, List.set_cons_succ]
      refine' wpAnyH_take (i := 2) (v := .pointer (some ⟨bc, 0, none⟩)) rfl (by kernel_rfl) (by kernel_rfl) (by kernel_rfl) (fun _ _ _ h => h) (Or.inl ⟨by rfl, ?hy16⟩) hS ?rest16
      case hy16 => (intro w' hSw; obtain ⟨k0, k1, k2, k3⟩ := hSw; go_simp; (try with_reducible rfl); all_goals first | done | rfl)
      try simp only [Act.put, List.getElem_toArray, List.getElem_cons_zero, List.getElem_cons_succ, List.setIfInBounds_toArray, List.set_cons_zero, List.set_cons_succ]
      refine' wpAnyH_take (i := 3) (v := .string ⟨#[116, 111, 112]⟩) rfl (by kernel_rfl) (by kernel_rfl) (by kernel_rfl) (fun _ _ _ h => h) (Or.inl ⟨by rfl, ?hy17⟩) hS ?rest17
      case hy17 => (intro w' hSw; obtain ⟨k0, k1, k2, k3⟩ := hSw; go_simp; (try with_reducible rfl); all_goals first | done | rfl)
      try simp only [Act.put, List.getElem_toArray, List.getElem_cons_zero, List.getElem_cons_succ, List.setIfInBounds_toArray, List.set_cons_zero, List.set_cons_succ]
      refine' wpAnyH_take (i := 4) (v := .string ⟨#[112, 97, 100, 100, 105, 110, 103, 45, 116, 111, 112]⟩) rfl (by kernel_rfl) (by kernel_rfl) (by kernel_rfl) (fun _ _ _ h => h) (Or.inl ⟨by rfl, ?hy18⟩) hS ?rest18
      case hy18 => (intro w' hSw; obtain ⟨k0, k1, k2, k3⟩ := hSw; go_simp; (try with_reducible rfl); all_goals first | done | rfl)
      try simp only [Act.put, List.getElem_toArray, List.getElem_cons_zero, List.getElem_cons_succ, List.setIfInBounds_toArray, List.set_cons_zero, List.set_cons_succ]
      refine' wpAnyH_take (i := 5) (v := .int .i64 0) rfl (by kernel_rfl) (by kernel_rfl) (by kernel_rfl) (fun _ _ _ h => h) (Or.inl ⟨by rfl, ?hy19⟩) hS ?rest19
      case hy19 => (intro w' hSw; obtain ⟨k0, k1, k2, k3⟩ := hSw; go_simp; (try with_reducible rfl); all_goals first | done | rfl)
      try simp only [Act.put, List.getElem_toArray, List.getElem_cons_zero, List.getElem_cons_succ, List.setIfInBounds_toArray, List.set_cons_zero, List.set_cons_succ]
      refine' wpAnyH_take (i := 6) (v := .pointer (some ⟨mp, 22, none⟩)) rfl (by kernel_rfl) (by kernel_rfl) (by kernel_rfl) (fun _ _ _ h => h) (Or.inl ⟨by rfl, ?hy20⟩) hS ?rest20
      case hy20 => (intro w' hSw; obtain ⟨k0, k1, k2, k3⟩ := hSw; go_simp; (try with_reducible rfl); all_goals first | done | rfl)
      try simp only [Act.put, List.getElem_toArray, List.getElem_cons_zero, List.getElem_cons_succ, List.setIfInBounds_toArray, List.set_cons_zero, List.set_cons_succ]
      refine' wpAnyH_take (i := 7) (v := .pointer (some ⟨mp, 22, none⟩)) rfl (by kernel_rfl) (by kernel_rfl) (by kernel_rfl) (fun _ _ _ h => h) (Or.inl ⟨by rfl, ?hy21⟩) hS ?rest21
      case hy21 => (intro w' hSw; obtain ⟨k0, k1, k2, k3⟩ := hSw; go_simp; (try with_reducible rfl); all_goals first | done | rfl)
      try simp only [Act.put, List.getElem_toArray, List.getElem_cons_zero, List.getElem_cons_succ, List.setIfInBounds_toArray, List.set_cons_zero, List.set_cons_succ]
      refine' wpAnyH_take (i := 8) (v := .agg #[.int .i64 0, .int .i64 0]) rfl (by kernel_rfl) (by kernel_rfl) (by kernel_rfl) (fun _ _ _ h => h) (Or.inl ⟨by rfl, ?hy22⟩) hS ?rest22
      case hy22 => (intro w' hSw; obtain ⟨k0, k1, k2, k3⟩ := hSw; go_simp; (try with_reducible rfl); all_goals first | done | rfl)
      try simp only [Act.put, List.getElem_toArray, List.getElem_cons_zero, List.getElem_cons_succ, List.setIfInBounds_toArray, List.set_cons_zero, List.set_cons_succ]
      refine' wpAnyH_take (i := 9) (v := .agg #[.int .i64 1, .int .i64 0]) rfl (by kernel_rfl) (by kernel_rfl) (by kernel_rfl) (fun _ _ _ h => h) (Or.inl ⟨by rfl, ?hy23⟩) hS ?rest23
      case hy23 => (intro w' hSw; obtain ⟨k0, k1, k2, k3⟩ := hSw; go_simp; (try with_reducible rfl); all_goals first | done | rfl)
      try simp only [Act.put, List.getElem_toArray, List.getElem_cons_zero, List.getElem_cons_succ, List.setIfInBounds_toArray, List.set_cons_zero, List.set_cons_succ]
      refine' wpAnyH_take (i := 11) (v := .pointer (some ⟨bo, 0, none⟩)) rfl (by kernel_rfl) (by kernel_rfl) (by kernel_rfl) (fun _ _ _ h => h) (Or.inl ⟨by rfl, ?hy24⟩) hS ?rest24
      case hy24 => (intro w' hSw; obtain ⟨k0, k1, k2, k3⟩ := hSw; go_simp; (try with_reducible rfl); all_goals first | done | rfl)
      try simp only [Act.put, List.getElem_toArray, List.getElem_cons_zero, List.getElem_cons_succ, List.setIfInBounds_toArray, List.set_cons_zero, List.set_cons_succ]
      refine' wpAnyH_take (i := 12) (v := .pointer (some ⟨bo, 22, none⟩)) rfl (by kernel_rfl) (by kernel_rfl) (by kernel_rfl) (fun _ _ _ h => h) (Or.inl ⟨by rfl, ?hy25⟩) hS ?rest25
      case hy25 => (intro w' hSw; obtain ⟨k0, k1, k2, k3⟩ := hSw; go_simp; (try with_reducible rfl); all_goals first | done | rfl)
      try simp only [Act.put, List.getElem_toArray, List.getElem_cons_zero, List.getElem_cons_succ, List.setIfInBounds_toArray, List.set_cons_zero, List.set_cons_succ]
      refine held_one (i := 10) rfl (by kernel_rfl) ?_
      intro K' hK; have HK' := Lib.hid hK; clear hK
      refine wp_call (by rfl) (by rfl) Tryz.func14 (by kernel_rfl) (by kernel_rfl) (by kernel_rfl) (long_c (bc := bc) (bm := bm) ⟨#[112, 97, 100, 100, 105, 110, 103, 45, 116, 111, 112]⟩ 0 0 1 0 (Comp.of H6.out.drew (.tail _ (.tail _ (.tail _ (.tail _ (.head _))))) (.tail _ (.tail _ (.tail _ (.tail _ (.tail _ (.head _))))))) (by decide)) ?_
      rintro e W7 ⟨rfl, hb⟩
      have H7 := Lib.hid (H6.out.drew.of_below hb)
      have hS7 : (fun w' : World => w'.cell? ⟨mp, 22, none⟩ = some (.int .i64 0) ∧ w'.cell? ⟨mp, 23, none⟩ = some (.int .i64 0) ∧ w'.cell? ⟨mz, 0, none⟩ = some (.int .i64 1) ∧ w'.cell? ⟨mz, 1, none⟩ = some (.int .i64 0)) W7 := bx_cells  H7.out (hpa 22 rfl) (hpa 23 rfl)
      refine ⟨_, rfl, HK'.out _ _ ⟨hS7, ?_⟩⟩
      clear HK' K' hS hb
      have hS := hS7
      clear hS7
      try simp only [Act.put, List.getElem_toArray, List.getElem_cons_zero, List.getElem_cons_succ, List.setIfInBounds_toArray, List.set_cons_zero, List.set_cons_succ]
      refine' wpAnyH_take (i := 13) (v := .pointer (some ⟨bo, 22, none⟩)) rfl (by kernel_rfl) (by kernel_rfl) (by kernel_rfl) (fun _ _ _ h => h) (Or.inl ⟨by rfl, ?hy26⟩) hS ?rest26
      case hy26 => (intro w' hSw; obtain ⟨k0, k1, k2, k3⟩ := hSw; go_simp; (try with_reducible rfl); all_goals first | done | rfl)
      try simp only [Act.put, List.getElem_toArray, List.getElem_cons_zero, List.getElem_cons_succ, List.setIfInBounds_toArray, List.set_cons_zero, List.set_cons_succ]
      refine held_one (i := 14) rfl (by kernel_rfl) ?_
      intro K' hK; have HK' := Lib.hid hK; clear hK hS
      refine wp_put (K' := kk) (by rfl) (.tmp 44) (.tmp 41) rfl H7.out rfl (.agg #[.int .i64 1, .int .i64 0]) rfl [.int .i64 1, .int .i64 0] rfl (by simp) size26 (by simp [Value.oneCell']) (kk_keep (by simp)) ?_
      intro W8 HW; have H8 := Lib.hid HW; clear HW
      refine HK'.out _ _ ⟨bx_cells  H8.out (hpa 22 rfl) (hpa 23 rfl), ?_⟩
      clear HK' K'
      try simp only [Act.put, List.getElem_toArray, List.getElem_cons_zero, List.getElem_cons_succ, List.setIfInBounds_toArray, List.set_cons_zero, List.set_cons_succ]
      refine wpAnyH_done (by kernel_rfl) ?_ _
      go_upto_region 7 with fail
      have hS : (fun w' : World => w'.cell? ⟨mp, 30, none⟩ = some (.int .i64 0) ∧ w'.cell? ⟨mp, 30, none⟩ = some (.int .i64 0) ∧ w'.cell? ⟨mz, 0, none⟩ = some (.int .i64 1) ∧ w'.cell? ⟨mz, 1, none⟩ = some (.int .i64 0)) W8 := bx_cells  H8.out (hpa 30 rfl) (hpa 30 rfl)
      refine wp_region_held (S := (fun w' : World => w'.cell? ⟨mp, 30, none⟩ = some (.int .i64 0) ∧ w'.cell? ⟨mp, 30, none⟩ = some (.int .i64 0) ∧ w'.cell? ⟨mz, 0, none⟩ = some (.int .i64 1) ∧ w'.cell? ⟨mz, 1, none⟩ = some (.int .i64 0))) (by kernel_rfl) ?_
      replace hS := (show (fun w' : World => w'.cell? ⟨mp, 30, none⟩ = some (.int .i64 0) ∧ w'.cell? ⟨mp, 30, none⟩ = some (.int .i64 0) ∧ w'.cell? ⟨mz, 0, none⟩ = some (.int .i64 1) ∧ w'.cell? ⟨mz, 1, none⟩ = some (.int .i64 0)) W8.drew from hS)
      change wpAnyH _ _ _ _ _ _ _ _ (World.drew _)
      refine' wpAnyH_take (i := 0) (v := .pointer (some ⟨bo, 0, none⟩)) rfl (by kernel_rfl) (by kernel_rfl) (by kernel_rfl) (fun _ _ _ h => h) (Or.inl ⟨by rfl, ?hy27⟩) hS ?rest27
      case hy27 => (intro w' hSw; obtain ⟨k0, k1, k2, k3⟩ := hSw; go_simp; (try with_reducible rfl); all_goals first | done | rfl)
      try simp only [Act.put, List.getElem_toArray, List.getElem_cons_zero, List.getElem_cons_succ, List.setIfInBounds_toArray, List.set_cons_zero, List.set_cons_succ]
      refine' wpAnyH_take (i := 1) (v := .int .i64 0) rfl (by kernel_rfl) (by kernel_rfl) (by kernel_rfl) (fun _ _ _ h => h) (Or.inl ⟨by rfl, ?hy28⟩) hS ?rest28
      case hy28 => (intro w' hSw; obtain ⟨k0, k1, k2, k3⟩ := hSw; go_simp; (try with_reducible rfl); all_goals first | done | rfl)
      try simp only [Act.put, List.getElem_toArray, List.getElem_cons_zero, List.getElem_cons_succ, List.setIfInBounds_toArray, List.set_cons_zero, List.set_cons_succ]
      refine' wpAnyH_take (i := 2) (v := .pointer (some ⟨bc, 0, none⟩)) rfl (by kernel_rfl) (by kernel_rfl) (by kernel_rfl) (fun _ _ _ h => h) (Or.inl ⟨by rfl, ?hy29⟩) hS ?rest29
      case hy29 => (intro w' hSw; obtain ⟨k0, k1, k2, k3⟩ := hSw; go_simp; (try with_reducible rfl); all_goals first | done | rfl)
      try simp only [Act.put, List.getElem_toArray, List.getElem_cons_zero, List.getElem_cons_succ, List.setIfInBounds_toArray, List.set_cons_zero, List.set_cons_succ]
      refine' wpAnyH_take (i := 3) (v := .string ⟨#[116, 111, 112]⟩) rfl (by kernel_rfl) (by kernel_rfl) (by kernel_rfl) (fun _ _ _ h => h) (Or.inl ⟨by rfl, ?hy30⟩) hS ?rest30
      case hy30 => (intro w' hSw; obtain ⟨k0, k1, k2, k3⟩ := hSw; go_simp; (try with_reducible rfl); all_goals first | done | rfl)
      try simp only [Act.put, List.getElem_toArray, List.getElem_cons_zero, List.getElem_cons_succ, List.setIfInBounds_toArray, List.set_cons_zero, List.set_cons_succ]
      refine' wpAnyH_take (i := 4) (v := .string ⟨#[98, 111, 114, 100, 101, 114, 45, 116, 111, 112]⟩) rfl (by kernel_rfl) (by kernel_rfl) (by kernel_rfl) (fun _ _ _ h => h) (Or.inl ⟨by rfl, ?hy31⟩) hS ?rest31
      case hy31 => (intro w' hSw; obtain ⟨k0, k1, k2, k3⟩ := hSw; go_simp; (try with_reducible rfl); all_goals first | done | rfl)
      try simp only [Act.put, List.getElem_toArray, List.getElem_cons_zero, List.getElem_cons_succ, List.setIfInBounds_toArray, List.set_cons_zero, List.set_cons_succ]
      refine' wpAnyH_take (i := 5) (v := .string ⟨#[98, 111, 114, 100, 101, 114, 45, 116, 111, 112, 45, 119, 105, 100, 116, 104]⟩) rfl (by kernel_rfl) (by kernel_rfl) (by kernel_rfl) (fun _ _ _ h => h) (Or.inl ⟨by rfl, ?hy32⟩) hS ?rest32
      case hy32 => (intro w' hSw; obtain ⟨k0, k1, k2, k3⟩ := hSw; go_simp; (try with_reducible rfl); all_goals first | done | rfl)
      try simp only [Act.put, List.getElem_toArray, List.getElem_cons_zero, List.getElem_cons_succ, List.setIfInBounds_toArray, List.set_cons_zero, List.set_cons_succ]
      refine' wpAnyH_take (i := 6) (v := .int .i64 0) rfl (by kernel_rfl) (by kernel_rfl) (by kernel_rfl) (fun _ _ _ h => h) (Or.inl ⟨by rfl, ?hy33⟩) hS ?rest33
      case hy33 => (intro w' hSw; obtain ⟨k0, k1, k2, k3⟩ := hSw; go_simp; (try with_reducible rfl); all_goals first | done | rfl)
      try simp only [Act.put, List.getElem_toArray, List.getElem_cons_zero, List.getElem_cons_succ, List.setIfInBounds_toArray, List.set_cons_zero, List.set_cons_succ]
      refine' wpAnyH_take (i := 7) (v := .pointer (some ⟨mp, 30, none⟩)) rfl (by kernel_rfl) (by kernel_rfl) (by kernel_rfl) (fun _ _ _ h => h) (Or.inl ⟨by rfl, ?hy34⟩) hS ?rest34
      case hy34 => (intro w' hSw; obtain ⟨k0, k1, k2, k3⟩ := hSw; go_simp; (try with_reducible rfl); all_goals first | done | rfl)
      try simp only [Act.put, List.getElem_toArray, List.getElem_cons_zero, List.getElem_cons_succ, List.setIfInBounds_toArray, List.set_cons_zero, List.set_cons_succ]
      refine' wpAnyH_take (i := 8) (v := .pointer (some ⟨mp, 30, none⟩)) rfl (by kernel_rfl) (by kernel_rfl) (by kernel_rfl) (fun _ _ _ h => h) (Or.inl ⟨by rfl, ?hy35⟩) hS ?rest35
      case hy35 => (intro w' hSw; obtain ⟨k0, k1, k2, k3⟩ := hSw; go_simp; (try with_reducible rfl); all_goals first | done | rfl)
      try simp only [Act.put, List.getElem_toArray, List.getElem_cons_zero, List.getElem_cons_succ, List.setIfInBounds_toArray, List.set_cons_zero, List.set_cons_succ]
      refine' wpAnyH_take (i := 9) (v := .int .i64 0) rfl (by kernel_rfl) (by kernel_rfl) (by kernel_rfl) (fun _ _ _ h => h) (Or.inl ⟨by rfl, ?hy36⟩) hS ?rest36
      case hy36 => (intro w' hSw; obtain ⟨k0, k1, k2, k3⟩ := hSw; go_simp; (try with_reducible rfl); all_goals first | done | rfl)
      try simp only [Act.put, List.getElem_toArray, List.getElem_cons_zero, List.getElem_cons_succ, List.setIfInBounds_toArray, List.set_cons_zero, List.set_cons_succ]
      refine' wpAnyH_take (i := 10) (v := .agg #[.int .i64 1, .int .i64 0]) rfl (by kernel_rfl) (by kernel_rfl) (by kernel_rfl) (fun _ _ _ h => h) (Or.inl ⟨by rfl, ?hy37⟩) hS ?rest37
      case hy37 => (intro w' hSw; obtain ⟨k0, k1, k2, k3⟩ := hSw; go_simp; (try with_reducible rfl); all_goals first | done | rfl)
      try simp only [Act.put, List.getElem_toArray, List.getElem_cons_zero, List.getElem_cons_succ, List.setIfInBounds_toArray, List.set_cons_zero, List.set_cons_succ]
      refine' wpAnyH_take (i := 11) (v := .agg #[.int .i64 1, .int .i64 0]) rfl (by kernel_rfl) (by kernel_rfl) (by kernel_rfl) (fun _ _ _ h => h) (Or.inl ⟨by rfl, ?hy38⟩) hS ?rest38
      case hy38 => (intro w' hSw; obtain ⟨k0, k1, k2, k3⟩ := hSw; go_simp; (try with_reducible rfl); all_goals first | done | rfl)
      try simp only [Act.put, List.getElem_toArray, List.getElem_cons_zero, List.getElem_cons_succ, List.setIfInBounds_toArray, List.set_cons_zero, List.set_cons_succ]
      refine' wpAnyH_take (i := 14) (v := .pointer (some ⟨bo, 0, none⟩)) rfl (by kernel_rfl) (by kernel_rfl) (by kernel_rfl) (fun _ _ _ h => h) (Or.inl ⟨by rfl, ?hy39⟩) hS ?rest39
      case hy39 => (intro w' hSw; obtain ⟨k0, k1, k2, k3⟩ := hSw; go_simp; (try with_reducible rfl); all_goals first | done | rfl)
      try simp only [Act.put, List.getElem_toArray, List.getElem_cons_zero, List.getElem_cons_succ, List.setIfInBounds_toArray, List.set_cons_zero, List.set_cons_succ]
      refine' wpAnyH_take (i := 15) (v := .pointer (some ⟨bo, 30, none⟩)) rfl (by kernel_rfl) (by kernel_rfl) (by kernel_rfl) (fun _ _ _ h => h) (Or.inl ⟨by rfl, ?hy40⟩) hS ?rest40
      case hy40 => (intro w' hSw; obtain ⟨k0, k1, k2, k3⟩ := hSw; go_simp; (try with_reducible rfl); all_goals first | done | rfl)
      try simp only [Act.put, List.getElem_toArray, List.getElem_cons_zero, List.getElem_cons_succ, List.setIfInBounds_toArray, List.set_cons_zero, List.set_cons_succ]
      refine held_one (i := 12) rfl (by kernel_rfl) ?_
      intro K' hK; have HK' := Lib.hid hK; clear hK
      refine wp_call (by rfl) (by rfl) Tryz.func14 (by kernel_rfl) (by kernel_rfl) (by kernel_rfl) (long_c (bc := bc) (bm := bm) ⟨#[98, 111, 114, 100, 101, 114, 45, 116, 111, 112, 45, 119, 105, 100, 116, 104]⟩ 1 0 1 0 (Comp.of H8.out.drew (.tail _ (.tail _ (.tail _ (.tail _ (.head _))))) (.tail _ (.tail _ (.tail _ (.tail _ (.tail _ (.head _))))))) (by decide)) ?_
      rintro e W9 ⟨rfl, hb⟩
      have H9 := Lib.hid (H8.out.drew.of_below hb)
      have hS9 : (fun w' : World => w'.cell? ⟨mp, 30, none⟩ = some (.int .i64 0) ∧ w'.cell? ⟨mp, 30, none⟩ = some (.int .i64 0) ∧ w'.cell? ⟨mz, 0, none⟩ = some (.int .i64 1) ∧ w'.cell? ⟨mz, 1, none⟩ = some (.int .i64 0)) W9 := bx_cells  H9.out (hpa 30 rfl) (hpa 30 rfl)
      refine ⟨_, rfl, HK'.out _ _ ⟨hS9, ?_⟩⟩
      clear HK' K' hS hb
      have hS := hS9
      clear hS9
      try simp only [Act.put, List.getElem_toArray, List.getElem_cons_zero, List.getElem_cons_succ, List.setIfInBounds_toArray, List.set_cons_zero, List.set_cons_succ]
      refine' wpAnyH_take (i := 13) (v := .int .i64 0) rfl (by kernel_rfl) (by kernel_rfl) (by kernel_rfl) (fun _ _ _ h => h) (Or.inl ⟨by rfl, ?hy41⟩) hS ?rest41
      case hy41 => (intro w' hSw; obtain ⟨k0, k1, k2, k3⟩ := hSw; go_simp; (try with_reducible rfl); all_goals first | done | rfl)
      try simp only [Act.put, List.getElem_toArray, List.getElem_cons_zero, List.getElem_cons_succ, List.setIfInBounds_toArray, List.set_cons_zero, List.set_cons_succ]
      refine' wpAnyH_take (i := 16) (v := .pointer (some ⟨bo, 30, none⟩)) rfl (by kernel_rfl) (by kernel_rfl) (by kernel_rfl) (fun _ _ _ h => h) (Or.inl ⟨by rfl, ?hy42⟩) hS ?rest42
      case hy42 => (intro w' hSw; obtain ⟨k0, k1, k2, k3⟩ := hSw; go_simp; (try with_reducible rfl); all_goals first | done | rfl)
      try simp only [Act.put, List.getElem_toArray, List.getElem_cons_zero, List.getElem_cons_succ, List.setIfInBounds_toArray, List.set_cons_zero, List.set_cons_succ]
      refine held_one (i := 17) rfl (by kernel_rfl) ?_
      intro K' hK; have HK' := Lib.hid hK; clear hK hS
      refine wp_put (K' := kk) (by rfl) (.tmp 61) (.tmp 58) rfl H9.out rfl (.int .i64 0) rfl [.int .i64 0] rfl (by simp) size3 (by simp [Value.oneCell']) (kk_keep (by simp)) ?_
      intro W10 HW; have H10 := Lib.hid HW; clear HW
      refine HK'.out _ _ ⟨bx_cells  H10.out (hpa 30 rfl) (hpa 30 rfl), ?_⟩
      clear HK' K'
      try simp only [Act.put, List.getElem_toArray, List.getElem_cons_zero, List.getElem_cons_succ, List.setIfInBounds_toArray, List.set_cons_zero, List.set_cons_succ]
      refine wpAnyH_done (by kernel_rfl) ?_ _
      go_wp2_with fail
      go_roundg (3)
      case measure => have := Hg.out; omega
      case rel => exact ⟨1, by decide, by decide, by decide, rfl, H10.out⟩
    · have s0 : wr.cell? ⟨ms, 1, none⟩ = some (.string ⟨#[114, 105, 103, 104, 116]⟩) := (H4.out.blkm (b := ms) (.tail _ (.head _))).cell 1
      obtain ⟨W4, hW4⟩ : ∃ W, wr = W := ⟨_, rfl⟩
      rw [hW4] at H4 s0 ⊢
      clear hW4
      go_upto_region 5 with fail
      have hS : (fun w' : World => w'.cell? ⟨mp, 16, none⟩ = some (.int .i64 0) ∧ w'.cell? ⟨mp, 17, none⟩ = some (.int .i64 0) ∧ w'.cell? ⟨mz, 0, none⟩ = some (.int .i64 1) ∧ w'.cell? ⟨mz, 1, none⟩ = some (.int .i64 0)) W4 := bx_cells  H4.out (hpa 16 rfl) (hpa 17 rfl)
      refine wp_region_held (S := (fun w' : World => w'.cell? ⟨mp, 16, none⟩ = some (.int .i64 0) ∧ w'.cell? ⟨mp, 17, none⟩ = some (.int .i64 0) ∧ w'.cell? ⟨mz, 0, none⟩ = some (.int .i64 1) ∧ w'.cell? ⟨mz, 1, none⟩ = some (.int .i64 0))) (by kernel_rfl) ?_
      replace hS := (show (fun w' : World => w'.cell? ⟨mp, 16, none⟩ = some (.int .i64 0) ∧ w'.cell? ⟨mp, 17, none⟩ = some (.int .i64 0) ∧ w'.cell? ⟨mz, 0, none⟩ = some (.int .i64 1) ∧ w'.cell? ⟨mz, 1, none⟩ = some (.int .i64 0)) W4.drew from hS)
      change wpAnyH _ _ _ _ _ _ _ _ (World.drew _)
      refine' wpAnyH_take (i := 0) (v := .pointer (some ⟨bo, 0, none⟩)) rfl (by kernel_rfl) (by kernel_rfl) (by kernel_rfl) (fun _ _ _ h => h) (Or.inl ⟨by rfl, ?hy43⟩) hS ?rest43
      case hy43 => (intro w' hSw; obtain ⟨k0, k1, k2, k3⟩ := hSw; go_simp; (try with_reducible rfl); all_goals first | done | rfl)
      try simp only [Act.put, List.getElem_toArray, List.getElem_cons_zero, List.getElem_cons_succ, List.setIfInBounds_toArray, List.set_cons_zero, List.set_cons_succ]
      refine' wpAnyH_take (i := 1) (v := .int .i64 1) rfl (by kernel_rfl) (by kernel_rfl) (by kernel_rfl) (fun _ _ _ h => h) (Or.inl ⟨by rfl, ?hy44⟩) hS ?rest44
      case hy44 => (intro w' hSw; obtain ⟨k0, k1, k2, k3⟩ := hSw; go_simp; (try with_reducible rfl); all_goals first | done | rfl)
      try simp only [Act.put, List.getElem_toArray, List.getElem_cons_zero, List.getElem_cons_succ, List.setIfInBounds_toArray, List.set_cons_zero, List.set_cons_succ]
      refine' wpAnyH_take (i := 2) (v := .pointer (some ⟨bc, 0, none⟩)) rfl (by kernel_rfl) (by kernel_rfl) (by kernel_rfl) (fun _ _ _ h => h) (Or.inl ⟨by rfl, ?hy45⟩) hS ?rest45
      case hy45 => (intro w' hSw; obtain ⟨k0, k1, k2, k3⟩ := hSw; go_simp; (try with_reducible rfl); all_goals first | done | rfl)
      try simp only [Act.put, List.getElem_toArray, List.getElem_cons_zero, List.getElem_cons_succ, List.setIfInBounds_toArray, List.set_cons_zero, List.set_cons_succ]
      refine' wpAnyH_take (i := 3) (v := .string ⟨#[114, 105, 103, 104, 116]⟩) rfl (by kernel_rfl) (by kernel_rfl) (by kernel_rfl) (fun _ _ _ h => h) (Or.inl ⟨by rfl, ?hy46⟩) hS ?rest46
      case hy46 => (intro w' hSw; obtain ⟨k0, k1, k2, k3⟩ := hSw; go_simp; (try with_reducible rfl); all_goals first | done | rfl)
      try simp only [Act.put, List.getElem_toArray, List.getElem_cons_zero, List.getElem_cons_succ, List.setIfInBounds_toArray, List.set_cons_zero, List.set_cons_succ]
      refine' wpAnyH_take (i := 4) (v := .string ⟨#[109, 97, 114, 103, 105, 110, 45, 114, 105, 103, 104, 116]⟩) rfl (by kernel_rfl) (by kernel_rfl) (by kernel_rfl) (fun _ _ _ h => h) (Or.inl ⟨by rfl, ?hy47⟩) hS ?rest47
      case hy47 => (intro w' hSw; obtain ⟨k0, k1, k2, k3⟩ := hSw; go_simp; (try with_reducible rfl); all_goals first | done | rfl)
      try simp only [Act.put, List.getElem_toArray, List.getElem_cons_zero, List.getElem_cons_succ, List.setIfInBounds_toArray, List.set_cons_zero, List.set_cons_succ]
      refine' wpAnyH_take (i := 5) (v := .int .i64 1) rfl (by kernel_rfl) (by kernel_rfl) (by kernel_rfl) (fun _ _ _ h => h) (Or.inl ⟨by rfl, ?hy48⟩) hS ?rest48
      case hy48 => (intro w' hSw; obtain ⟨k0, k1, k2, k3⟩ := hSw; go_simp; (try with_reducible rfl); all_goals first | done | rfl)
      try simp only [Act.put, List.getElem_toArray, List.getElem_cons_zero, List.getElem_cons_succ, List.setIfInBounds_toArray, List.set_cons_zero, List.set_cons_succ]
      refine' wpAnyH_take (i := 6) (v := .pointer (some ⟨mp, 14, none⟩)) rfl (by kernel_rfl) (by kernel_rfl) (by kernel_rfl) (fun _ _ _ h => h) (Or.inl ⟨by rfl, ?hy49⟩) hS ?rest49
      case hy49 => (intro w' hSw; obtain ⟨k0, k1, k2, k3⟩ := hSw; go_simp; (try with_reducible rfl); all_goals first | done | rfl)
      try simp only [Act.put, List.getElem_toArray, List.getElem_cons_zero, List.getElem_cons_succ, List.setIfInBounds_toArray, List.set_cons_zero, List.set_cons_succ]
      refine' wpAnyH_take (i := 7) (v := .pointer (some ⟨mp, 16, none⟩)) rfl (by kernel_rfl) (by kernel_rfl) (by kernel_rfl) (fun _ _ _ h => h) (Or.inl ⟨by rfl, ?hy50⟩) hS ?rest50
      case hy50 => (intro w' hSw; obtain ⟨k0, k1, k2, k3⟩ := hSw; go_simp; (try with_reducible rfl); all_goals first | done | rfl)
      try simp only [Act.put, List.getElem_toArray, List.getElem_cons_zero, List.getElem_cons_succ, List.setIfInBounds_toArray, List.set_cons_zero, List.set_cons_succ]
      refine' wpAnyH_take (i := 8) (v := .agg #[.int .i64 0, .int .i64 0]) rfl (by kernel_rfl) (by kernel_rfl) (by kernel_rfl) (fun _ _ _ h => h) (Or.inl ⟨by rfl, ?hy51⟩) hS ?rest51
      case hy51 => (intro w' hSw; obtain ⟨k0, k1, k2, k3⟩ := hSw; go_simp; (try with_reducible rfl); all_goals first | done | rfl)
      try simp only [Act.put, List.getElem_toArray, List.getElem_cons_zero, List.getElem_cons_succ, List.setIfInBounds_toArray, List.set_cons_zero, List.set_cons_succ]
      refine' wpAnyH_take (i := 9) (v := .agg #[.int .i64 1, .int .i64 0]) rfl (by kernel_rfl) (by kernel_rfl) (by kernel_rfl) (fun _ _ _ h => h) (Or.inl ⟨by rfl, ?hy52⟩) hS ?rest52
      case hy52 => (intro w' hSw; obtain ⟨k0, k1, k2, k3⟩ := hSw; go_simp; (try with_reducible rfl); all_goals first | done | rfl)
      try simp only [Act.put, List.getElem_toArray, List.getElem_cons_zero, List.getElem_cons_succ, List.setIfInBounds_toArray, List.set_cons_zero, List.set_cons_succ]
      refine' wpAnyH_take (i := 11) (v := .pointer (some ⟨bo, 0, none⟩)) rfl (by kernel_rfl) (by kernel_rfl) (by kernel_rfl) (fun _ _ _ h => h) (Or.inl ⟨by rfl, ?hy53⟩) hS ?rest53
      case hy53 => (intro w' hSw; obtain ⟨k0, k1, k2, k3⟩ := hSw; go_simp; (try with_reducible rfl); all_goals first | done | rfl)
      try simp only [Act.put, List.getElem_toArray, List.getElem_cons_zero, List.getElem_cons_succ, List.setIfInBounds_toArray, List.set_cons_zero, List.set_cons_succ]
      refine' wpAnyH_take (i := 12) (v := .pointer (some ⟨bo, 14, none⟩)) rfl (by kernel_rfl) (by kernel_rfl) (by kernel_rfl) (fun _ _ _ h => h) (Or.inl ⟨by rfl, ?hy54⟩) hS ?rest54
      case hy54 => (intro w' hSw; obtain ⟨k0, k1, k2, k3⟩ := hSw; go_simp; (try with_reducible rfl); all_goals first | done | rfl)
      try simp only [Act.put, List.getElem_toArray, List.getElem_cons_zero, List.getElem_cons_succ, List.setIfInBounds_toArray, List.set_cons_zero, List.set_cons_succ]
      refine held_one (i := 10) rfl (by kernel_rfl) ?_
      intro K' hK; have HK' := Lib.hid hK; clear hK
      refine wp_call (by rfl) (by rfl) Tryz.func14 (by kernel_rfl) (by kernel_rfl) (by kernel_rfl) (long_c (bc := bc) (bm := bm) ⟨#[109, 97, 114, 103, 105, 110, 45, 114, 105, 103, 104, 116]⟩ 0 0 1 0 (Comp.of H4.out.drew (.tail _ (.tail _ (.tail _ (.tail _ (.head _))))) (.tail _ (.tail _ (.tail _ (.tail _ (.tail _ (.head _))))))) (by decide)) ?_
      rintro e W5 ⟨rfl, hb⟩
      have H5 := Lib.hid (H4.out.drew.of_below hb)
      have hS5 : (fun w' : World => w'.cell? ⟨mp, 16, none⟩ = some (.int .i64 0) ∧ w'.cell? ⟨mp, 17, none⟩ = some (.int .i64 0) ∧ w'.cell? ⟨mz, 0, none⟩ = some (.int .i64 1) ∧ w'.cell? ⟨mz, 1, none⟩ = some (.int .i64 0)) W5 := bx_cells  H5.out (hpa 16 rfl) (hpa 17 rfl)
      refine ⟨_, rfl, HK'.out _ _ ⟨hS5, ?_⟩⟩
      clear HK' K' hS hb
      have hS := hS5
      clear hS5
      try simp only [Act.put, List.getElem_toArray, List.getElem_cons_zero, List.getElem_cons_succ, List.setIfInBounds_toArray, List.set_cons_zero, List.set_cons_succ]
      refine' wpAnyH_take (i := 13) (v := .pointer (some ⟨bo, 16, none⟩)) rfl (by kernel_rfl) (by kernel_rfl) (by kernel_rfl) (fun _ _ _ h => h) (Or.inl ⟨by rfl, ?hy55⟩) hS ?rest55
      case hy55 => (intro w' hSw; obtain ⟨k0, k1, k2, k3⟩ := hSw; go_simp; (try with_reducible rfl); all_goals first | done | rfl)
      try simp only [Act.put, List.getElem_toArray, List.getElem_cons_zero, List.getElem_cons_succ, List.setIfInBounds_toArray, List.set_cons_zero, List.set_cons_succ]
      refine held_one (i := 14) rfl (by kernel_rfl) ?_
      intro K' hK; have HK' := Lib.hid hK; clear hK hS
      refine wp_put (K' := kk) (by rfl) (.tmp 30) (.tmp 27) rfl H5.out rfl (.agg #[.int .i64 1, .int .i64 0]) rfl [.int .i64 1, .int .i64 0] rfl (by simp) size26 (by simp [Value.oneCell']) (kk_keep (by simp)) ?_
      intro W6 HW; have H6 := Lib.hid HW; clear HW
      refine HK'.out _ _ ⟨bx_cells  H6.out (hpa 16 rfl) (hpa 17 rfl), ?_⟩
      clear HK' K'
      try simp only [Act.put, List.getElem_toArray, List.getElem_cons_zero, List.getElem_cons_succ, List.setIfInBounds_toArray, List.set_cons_zero, List.set_cons_succ]
      refine wpAnyH_done (by kernel_rfl) ?_ _
      go_upto_region 6 with fail
      have hS : (fun w' : World => w'.cell? ⟨mp, 24, none⟩ = some (.int .i64 0) ∧ w'.cell? ⟨mp, 25, none⟩ = some (.int .i64 0) ∧ w'.cell? ⟨mz, 0, none⟩ = some (.int .i64 1) ∧ w'.cell? ⟨mz, 1, none⟩ = some (.int .i64 0)) W6 := bx_cells  H6.out (hpa 24 rfl) (hpa 25 rfl)
      refine wp_region_held (S := (fun w' : World => w'.cell? ⟨mp, 24, none⟩ = some (.int .i64 0) ∧ w'.cell? ⟨mp, 25, none⟩ = some (.int .i64 0) ∧ w'.cell? ⟨mz, 0, none⟩ = some (.int .i64 1) ∧ w'.cell? ⟨mz, 1, none⟩ = some (.int .i64 0))) (by kernel_rfl) ?_
      replace hS := (show (fun w' : World => w'.cell? ⟨mp, 24, none⟩ = some (.int .i64 0) ∧ w'.cell? ⟨mp, 25, none⟩ = some (.int .i64 0) ∧ w'.cell? ⟨mz, 0, none⟩ = some (.int .i64 1) ∧ w'.cell? ⟨mz, 1, none⟩ = some (.int .i64 0)) W6.drew from hS)
      change wpAnyH _ _ _ _ _ _ _ _ (World.drew _)
      refine' wpAnyH_take (i := 0) (v := .pointer (some ⟨bo, 0, none⟩)) rfl (by kernel_rfl) (by kernel_rfl) (by kernel_rfl) (fun _ _ _ h => h) (Or.inl ⟨by rfl, ?hy56⟩) hS ?rest56
      case hy56 => (intro w' hSw; obtain ⟨k0, k1, k2, k3⟩ := hSw; go_simp; (try with_reducible rfl); all_goals first | done | rfl)
      try simp only [Act.put, List.getElem_toArray, List.getElem_cons_zero, List.getElem_cons_succ, List.setIfInBounds_toArray, List.set_cons_zero, List.set_cons_succ]
      refine' wpAnyH_take (i := 1) (v := .int .i64 1) rfl (by kernel_rfl) (by kernel_rfl) (by kernel_rfl) (fun _ _ _ h => h) (Or.inl ⟨by rfl, ?hy57⟩) hS ?rest57
      case hy57 => (intro w' hSw; obtain ⟨k0, k1, k2, k3⟩ := hSw; go_simp; (try with_reducible rfl); all_goals first | done | rfl)
      try simp only [Act.put, List.getElem_toArray, List.getElem_cons_zero, List.getElem_cons_succ, List.setIfInBounds_toArray, List.set_cons_zero, List.set_cons_succ]
      refine' wpAnyH_take (i := 2) (v := .pointer (some ⟨bc, 0, none⟩)) rfl (by kernel_rfl) (by kernel_rfl) (by kernel_rfl) (fun _ _ _ h => h) (Or.inl ⟨by rfl, ?hy58⟩) hS ?rest58
      case hy58 => (intro w' hSw; obtain ⟨k0, k1, k2, k3⟩ := hSw; go_simp; (try with_reducible rfl); all_goals first | done | rfl)
      try simp only [Act.put, List.getElem_toArray, List.getElem_cons_zero, List.getElem_cons_succ, List.setIfInBounds_toArray, List.set_cons_zero, List.set_cons_succ]
      refine' wpAnyH_take (i := 3) (v := .string ⟨#[114, 105, 103, 104, 116]⟩) rfl (by kernel_rfl) (by kernel_rfl) (by kernel_rfl) (fun _ _ _ h => h) (Or.inl ⟨by rfl, ?hy59⟩) hS ?rest59
      case hy59 => (intro w' hSw; obtain ⟨k0, k1, k2, k3⟩ := hSw; go_simp; (try with_reducible rfl); all_goals first | done | rfl)
      try simp only [Act.put, List.getElem_toArray, List.getElem_cons_zero, List.getElem_cons_succ, List.setIfInBounds_toArray, List.set_cons_zero, List.set_cons_succ]
      refine' wpAnyH_take (i := 4) (v := .string ⟨#[112, 97, 100, 100, 105, 110, 103, 45, 114, 105, 103, 104, 116]⟩) rfl (by kernel_rfl) (by kernel_rfl) (by kernel_rfl) (fun _ _ _ h => h) (Or.inl ⟨by rfl, ?hy60⟩) hS ?rest60
      case hy60 => (intro w' hSw; obtain ⟨k0, k1, k2, k3⟩ := hSw; go_simp; (try with_reducible rfl); all_goals first | done | rfl)
      try simp only [Act.put, List.getElem_toArray, List.getElem_cons_zero, List.getElem_cons_succ, List.setIfInBounds_toArray, List.set_cons_zero, List.set_cons_succ]
      refine' wpAnyH_take (i := 5) (v := .int .i64 1) rfl (by kernel_rfl) (by kernel_rfl) (by kernel_rfl) (fun _ _ _ h => h) (Or.inl ⟨by rfl, ?hy61⟩) hS ?rest61
      case hy61 => (intro w' hSw; obtain ⟨k0, k1, k2, k3⟩ := hSw; go_simp; (try with_reducible rfl); all_goals first | done | rfl)
      try simp only [Act.put, List.getElem_toArray, List.getElem_cons_zero, List.getElem_cons_succ, List.setIfInBounds_toArray, List.set_cons_zero, List.set_cons_succ]
      refine' wpAnyH_take (i := 6) (v := .pointer (some ⟨mp, 22, none⟩)) rfl (by kernel_rfl) (by kernel_rfl) (by kernel_rfl) (fun _ _ _ h => h) (Or.inl ⟨by rfl, ?hy62⟩) hS ?rest62
      case hy62 => (intro w' hSw; obtain ⟨k0, k1, k2, k3⟩ := hSw; go_simp; (try with_reducible rfl); all_goals first | done | rfl)
      try simp only [Act.put, List.getElem_toArray, List.getElem_cons_zero, List.getElem_cons_succ, List.setIfInBounds_toArray, List.set_cons_zero, List.set_cons_succ]
      refine' wpAnyH_take (i := 7) (v := .pointer (some ⟨mp, 24, none⟩)) rfl (by kernel_rfl) (by kernel_rfl) (by kernel_rfl) (fun _ _ _ h => h) (Or.inl ⟨by rfl, ?hy63⟩) hS ?rest63
      case hy63 => (intro w' hSw; obtain ⟨k0, k1, k2, k3⟩ := hSw; go_simp; (try with_reducible rfl); all_goals first | done | rfl)
      try simp only [Act.put, List.getElem_toArray, List.getElem_cons_zero, List.getElem_cons_succ, List.setIfInBounds_toArray, List.set_cons_zero, List.set_cons_succ]
      refine' wpAnyH_take (i := 8) (v := .agg #[.int .i64 0, .int .i64 0]) rfl (by kernel_rfl) (by kernel_rfl) (by kernel_rfl) (fun _ _ _ h => h) (Or.inl ⟨by rfl, ?hy64⟩) hS ?rest64
      case hy64 => (intro w' hSw; obtain ⟨k0, k1, k2, k3⟩ := hSw; go_simp; (try with_reducible rfl); all_goals first | done | rfl)
      try simp only [Act.put, List.getElem_toArray, List.getElem_cons_zero, List.getElem_cons_succ, List.setIfInBounds_toArray, List.set_cons_zero, List.set_cons_succ]
      refine' wpAnyH_take (i := 9) (v := .agg #[.int .i64 1, .int .i64 0]) rfl (by kernel_rfl) (by kernel_rfl) (by kernel_rfl) (fun _ _ _ h => h) (Or.inl ⟨by rfl, ?hy65⟩) hS ?rest65
      case hy65 => (intro w' hSw; obtain ⟨k0, k1, k2, k3⟩ := hSw; go_simp; (try with_reducible rfl); all_goals first | done | rfl)
      try simp only [Act.put, List.getElem_toArray, List.getElem_cons_zero, List.getElem_cons_succ, List.setIfInBounds_toArray, List.set_cons_zero, List.set_cons_succ]
      refine' wpAnyH_take (i := 11) (v := .pointer (some ⟨bo, 0, none⟩)) rfl (by kernel_rfl) (by kernel_rfl) (by kernel_rfl) (fun _ _ _ h => h) (Or.inl ⟨by rfl, ?hy66⟩) hS ?rest66
      case hy66 => (intro w' hSw; obtain ⟨k0, k1, k2, k3⟩ := hSw; go_simp; (try with_reducible rfl); all_goals first | done | rfl)
      try simp only [Act.put, List.getElem_toArray, List.getElem_cons_zero, List.getElem_cons_succ, List.setIfInBounds_toArray, List.set_cons_zero, List.set_cons_succ]
      refine' wpAnyH_take (i := 12) (v := .pointer (some ⟨bo, 22, none⟩)) rfl (by kernel_rfl) (by kernel_rfl) (by kernel_rfl) (fun _ _ _ h => h) (Or.inl ⟨by rfl, ?hy67⟩) hS ?rest67
      case hy67 => (intro w' hSw; obtain ⟨k0, k1, k2, k3⟩ := hSw; go_simp; (try with_reducible rfl); all_goals first | done | rfl)
      try simp only [Act.put, List.getElem_toArray, List.getElem_cons_zero, List.getElem_cons_succ, List.setIfInBounds_toArray, List.set_cons_zero, List.set_cons_succ]
      refine held_one (i := 10) rfl (by kernel_rfl) ?_
      intro K' hK; have HK' := Lib.hid hK; clear hK
      refine wp_call (by rfl) (by rfl) Tryz.func14 (by kernel_rfl) (by kernel_rfl) (by kernel_rfl) (long_c (bc := bc) (bm := bm) ⟨#[112, 97, 100, 100, 105, 110, 103, 45, 114, 105, 103, 104, 116]⟩ 0 0 1 0 (Comp.of H6.out.drew (.tail _ (.tail _ (.tail _ (.tail _ (.head _))))) (.tail _ (.tail _ (.tail _ (.tail _ (.tail _ (.head _))))))) (by decide)) ?_
      rintro e W7 ⟨rfl, hb⟩
      have H7 := Lib.hid (H6.out.drew.of_below hb)
      have hS7 : (fun w' : World => w'.cell? ⟨mp, 24, none⟩ = some (.int .i64 0) ∧ w'.cell? ⟨mp, 25, none⟩ = some (.int .i64 0) ∧ w'.cell? ⟨mz, 0, none⟩ = some (.int .i64 1) ∧ w'.cell? ⟨mz, 1, none⟩ = some (.int .i64 0)) W7 := bx_cells  H7.out (hpa 24 rfl) (hpa 25 rfl)
      refine ⟨_, rfl, HK'.out _ _ ⟨hS7, ?_⟩⟩
      clear HK' K' hS hb
      have hS := hS7
      clear hS7
      try simp only [Act.put, List.getElem_toArray, List.getElem_cons_zero, List.getElem_cons_succ, List.setIfInBounds_toArray, List.set_cons_zero, List.set_cons_succ]
      refine' wpAnyH_take (i := 13) (v := .pointer (some ⟨bo, 24, none⟩)) rfl (by kernel_rfl) (by kernel_rfl) (by kernel_rfl) (fun _ _ _ h => h) (Or.inl ⟨by rfl, ?hy68⟩) hS ?rest68
      case hy68 => (intro w' hSw; obtain ⟨k0, k1, k2, k3⟩ := hSw; go_simp; (try with_reducible rfl); all_goals first | done | rfl)
      try simp only [Act.put, List.getElem_toArray, List.getElem_cons_zero, List.getElem_cons_succ, List.setIfInBounds_toArray, List.set_cons_zero, List.set_cons_succ]
      refine held_one (i := 14) rfl (by kernel_rfl) ?_
      intro K' hK; have HK' := Lib.hid hK; clear hK hS
      refine wp_put (K' := kk) (by rfl) (.tmp 44) (.tmp 41) rfl H7.out rfl (.agg #[.int .i64 1, .int .i64 0]) rfl [.int .i64 1, .int .i64 0] rfl (by simp) size26 (by simp [Value.oneCell']) (kk_keep (by simp)) ?_
      intro W8 HW; have H8 := Lib.hid HW; clear HW
      refine HK'.out _ _ ⟨bx_cells  H8.out (hpa 24 rfl) (hpa 25 rfl), ?_⟩
      clear HK' K'
      try simp only [Act.put, List.getElem_toArray, List.getElem_cons_zero, List.getElem_cons_succ, List.setIfInBounds_toArray, List.set_cons_zero, List.set_cons_succ]
      refine wpAnyH_done (by kernel_rfl) ?_ _
      go_upto_region 7 with fail
      have hS : (fun w' : World => w'.cell? ⟨mp, 31, none⟩ = some (.int .i64 0) ∧ w'.cell? ⟨mp, 31, none⟩ = some (.int .i64 0) ∧ w'.cell? ⟨mz, 0, none⟩ = some (.int .i64 1) ∧ w'.cell? ⟨mz, 1, none⟩ = some (.int .i64 0)) W8 := bx_cells  H8.out (hpa 31 rfl) (hpa 31 rfl)
      refine wp_region_held (S := (fun w' : World => w'.cell? ⟨mp, 31, none⟩ = some (.int .i64 0) ∧ w'.cell? ⟨mp, 31, none⟩ = some (.int .i64 0) ∧ w'.cell? ⟨mz, 0, none⟩ = some (.int .i64 1) ∧ w'.cell? ⟨mz, 1, none⟩ = some (.int .i64 0))) (by kernel_rfl) ?_
      replace hS := (show (fun w' : World => w'.cell? ⟨mp, 31, none⟩ = some (.int .i64 0) ∧ w'.cell? ⟨mp, 31, none⟩ = some (.int .i64 0) ∧ w'.cell? ⟨mz, 0, none⟩ = some (.int .i64 1) ∧ w'.cell? ⟨mz, 1, none⟩ = some (.int .i64 0)) W8.drew from hS)
      change wpAnyH _ _ _ _ _ _ _ _ (World.drew _)
      refine' wpAnyH_take (i := 0) (v := .pointer (some ⟨bo, 0, none⟩)) rfl (by kernel_rfl) (by kernel_rfl) (by kernel_rfl) (fun _ _ _ h => h) (Or.inl ⟨by rfl, ?hy69⟩) hS ?rest69
      case hy69 => (intro w' hSw; obtain ⟨k0, k1, k2, k3⟩ := hSw; go_simp; (try with_reducible rfl); all_goals first | done | rfl)
      try simp only [Act.put, List.getElem_toArray, List.getElem_cons_zero, List.getElem_cons_succ, List.setIfInBounds_toArray, List.set_cons_zero, List.set_cons_succ]
      refine' wpAnyH_take (i := 1) (v := .int .i64 1) rfl (by kernel_rfl) (by kernel_rfl) (by kernel_rfl) (fun _ _ _ h => h) (Or.inl ⟨by rfl, ?hy70⟩) hS ?rest70
      case hy70 => (intro w' hSw; obtain ⟨k0, k1, k2, k3⟩ := hSw; go_simp; (try with_reducible rfl); all_goals first | done | rfl)
      try simp only [Act.put, List.getElem_toArray, List.getElem_cons_zero, List.getElem_cons_succ, List.setIfInBounds_toArray, List.set_cons_zero, List.set_cons_succ]
      refine' wpAnyH_take (i := 2) (v := .pointer (some ⟨bc, 0, none⟩)) rfl (by kernel_rfl) (by kernel_rfl) (by kernel_rfl) (fun _ _ _ h => h) (Or.inl ⟨by rfl, ?hy71⟩) hS ?rest71
      case hy71 => (intro w' hSw; obtain ⟨k0, k1, k2, k3⟩ := hSw; go_simp; (try with_reducible rfl); all_goals first | done | rfl)
      try simp only [Act.put, List.getElem_toArray, List.getElem_cons_zero, List.getElem_cons_succ, List.setIfInBounds_toArray, List.set_cons_zero, List.set_cons_succ]
      refine' wpAnyH_take (i := 3) (v := .string ⟨#[114, 105, 103, 104, 116]⟩) rfl (by kernel_rfl) (by kernel_rfl) (by kernel_rfl) (fun _ _ _ h => h) (Or.inl ⟨by rfl, ?hy72⟩) hS ?rest72
      case hy72 => (intro w' hSw; obtain ⟨k0, k1, k2, k3⟩ := hSw; go_simp; (try with_reducible rfl); all_goals first | done | rfl)
      try simp only [Act.put, List.getElem_toArray, List.getElem_cons_zero, List.getElem_cons_succ, List.setIfInBounds_toArray, List.set_cons_zero, List.set_cons_succ]
      refine' wpAnyH_take (i := 4) (v := .string ⟨#[98, 111, 114, 100, 101, 114, 45, 114, 105, 103, 104, 116]⟩) rfl (by kernel_rfl) (by kernel_rfl) (by kernel_rfl) (fun _ _ _ h => h) (Or.inl ⟨by rfl, ?hy73⟩) hS ?rest73
      case hy73 => (intro w' hSw; obtain ⟨k0, k1, k2, k3⟩ := hSw; go_simp; (try with_reducible rfl); all_goals first | done | rfl)
      try simp only [Act.put, List.getElem_toArray, List.getElem_cons_zero, List.getElem_cons_succ, List.setIfInBounds_toArray, List.set_cons_zero, List.set_cons_succ]
      refine' wpAnyH_take (i := 5) (v := .string ⟨#[98, 111, 114, 100, 101, 114, 45, 114, 105, 103, 104, 116, 45, 119, 105, 100, 116, 104]⟩) rfl (by kernel_rfl) (by kernel_rfl) (by kernel_rfl) (fun _ _ _ h => h) (Or.inl ⟨by rfl, ?hy74⟩) hS ?rest74
      case hy74 => (intro w' hSw; obtain ⟨k0, k1, k2, k3⟩ := hSw; go_simp; (try with_reducible rfl); all_goals first | done | rfl)
      try simp only [Act.put, List.getElem_toArray, List.getElem_cons_zero, List.getElem_cons_succ, List.setIfInBounds_toArray, List.set_cons_zero, List.set_cons_succ]
      refine' wpAnyH_take (i := 6) (v := .int .i64 1) rfl (by kernel_rfl) (by kernel_rfl) (by kernel_rfl) (fun _ _ _ h => h) (Or.inl ⟨by rfl, ?hy75⟩) hS ?rest75
      case hy75 => (intro w' hSw; obtain ⟨k0, k1, k2, k3⟩ := hSw; go_simp; (try with_reducible rfl); all_goals first | done | rfl)
      try simp only [Act.put, List.getElem_toArray, List.getElem_cons_zero, List.getElem_cons_succ, List.setIfInBounds_toArray, List.set_cons_zero, List.set_cons_succ]
      refine' wpAnyH_take (i := 7) (v := .pointer (some ⟨mp, 30, none⟩)) rfl (by kernel_rfl) (by kernel_rfl) (by kernel_rfl) (fun _ _ _ h => h) (Or.inl ⟨by rfl, ?hy76⟩) hS ?rest76
      case hy76 => (intro w' hSw; obtain ⟨k0, k1, k2, k3⟩ := hSw; go_simp; (try with_reducible rfl); all_goals first | done | rfl)
      try simp only [Act.put, List.getElem_toArray, List.getElem_cons_zero, List.getElem_cons_succ, List.setIfInBounds_toArray, List.set_cons_zero, List.set_cons_succ]
      refine' wpAnyH_take (i := 8) (v := .pointer (some ⟨mp, 31, none⟩)) rfl (by kernel_rfl) (by kernel_rfl) (by kernel_rfl) (fun _ _ _ h => h) (Or.inl ⟨by rfl, ?hy77⟩) hS ?rest77
      case hy77 => (intro w' hSw; obtain ⟨k0, k1, k2, k3⟩ := hSw; go_simp; (try with_reducible rfl); all_goals first | done | rfl)
      try simp only [Act.put, List.getElem_toArray, List.getElem_cons_zero, List.getElem_cons_succ, List.setIfInBounds_toArray, List.set_cons_zero, List.set_cons_succ]
      refine' wpAnyH_take (i := 9) (v := .int .i64 0) rfl (by kernel_rfl) (by kernel_rfl) (by kernel_rfl) (fun _ _ _ h => h) (Or.inl ⟨by rfl, ?hy78⟩) hS ?rest78
      case hy78 => (intro w' hSw; obtain ⟨k0, k1, k2, k3⟩ := hSw; go_simp; (try with_reducible rfl); all_goals first | done | rfl)
      try simp only [Act.put, List.getElem_toArray, List.getElem_cons_zero, List.getElem_cons_succ, List.setIfInBounds_toArray, List.set_cons_zero, List.set_cons_succ]
      refine' wpAnyH_take (i := 10) (v := .agg #[.int .i64 1, .int .i64 0]) rfl (by kernel_rfl) (by kernel_rfl) (by kernel_rfl) (fun _ _ _ h => h) (Or.inl ⟨by rfl, ?hy79⟩) hS ?rest79
      case hy79 => (intro w' hSw; obtain ⟨k0, k1, k2, k3⟩ := hSw; go_simp; (try with_reducible rfl); all_goals first | done | rfl)
      try simp only [Act.put, List.getElem_toArray, List.getElem_cons_zero, List.getElem_cons_succ, List.setIfInBounds_toArray, List.set_cons_zero, List.set_cons_succ]
      refine' wpAnyH_take (i := 11) (v := .agg #[.int .i64 1, .int .i64 0]) rfl (by kernel_rfl) (by kernel_rfl) (by kernel_rfl) (fun _ _ _ h => h) (Or.inl ⟨by rfl, ?hy80⟩) hS ?rest80
      case hy80 => (intro w' hSw; obtain ⟨k0, k1, k2, k3⟩ := hSw; go_simp; (try with_reducible rfl); all_goals first | done | rfl)
      try simp only [Act.put, List.getElem_toArray, List.getElem_cons_zero, List.getElem_cons_succ, List.setIfInBounds_toArray, List.set_cons_zero, List.set_cons_succ]
      refine' wpAnyH_take (i := 14) (v := .pointer (some ⟨bo, 0, none⟩)) rfl (by kernel_rfl) (by kernel_rfl) (by kernel_rfl) (fun _ _ _ h => h) (Or.inl ⟨by rfl, ?hy81⟩) hS ?rest81
      case hy81 => (intro w' hSw; obtain ⟨k0, k1, k2, k3⟩ := hSw; go_simp; (try with_reducible rfl); all_goals first | done | rfl)
      try simp only [Act.put, List.getElem_toArray, List.getElem_cons_zero, List.getElem_cons_succ, List.setIfInBounds_toArray, List.set_cons_zero, List.set_cons_succ]
      refine' wpAnyH_take (i := 15) (v := .pointer (some ⟨bo, 30, none⟩)) rfl (by kernel_rfl) (by kernel_rfl) (by kernel_rfl) (fun _ _ _ h => h) (Or.inl ⟨by rfl, ?hy82⟩) hS ?rest82
      case hy82 => (intro w' hSw; obtain ⟨k0, k1, k2, k3⟩ := hSw; go_simp; (try with_reducible rfl); all_goals first | done | rfl)
      try simp only [Act.put, List.getElem_toArray, List.getElem_cons_zero, List.getElem_cons_succ, List.setIfInBounds_toArray, List.set_cons_zero, List.set_cons_succ]
      refine held_one (i := 12) rfl (by kernel_rfl) ?_
      intro K' hK; have HK' := Lib.hid hK; clear hK
      refine wp_call (by rfl) (by rfl) Tryz.func14 (by kernel_rfl) (by kernel_rfl) (by kernel_rfl) (long_c (bc := bc) (bm := bm) ⟨#[98, 111, 114, 100, 101, 114, 45, 114, 105, 103, 104, 116, 45, 119, 105, 100, 116, 104]⟩ 1 0 1 0 (Comp.of H8.out.drew (.tail _ (.tail _ (.tail _ (.tail _ (.head _))))) (.tail _ (.tail _ (.tail _ (.tail _ (.tail _ (.head _))))))) (by decide)) ?_
      rintro e W9 ⟨rfl, hb⟩
      have H9 := Lib.hid (H8.out.drew.of_below hb)
      have hS9 : (fun w' : World => w'.cell? ⟨mp, 31, none⟩ = some (.int .i64 0) ∧ w'.cell? ⟨mp, 31, none⟩ = some (.int .i64 0) ∧ w'.cell? ⟨mz, 0, none⟩ = some (.int .i64 1) ∧ w'.cell? ⟨mz, 1, none⟩ = some (.int .i64 0)) W9 := bx_cells  H9.out (hpa 31 rfl) (hpa 31 rfl)
      refine ⟨_, rfl, HK'.out _ _ ⟨hS9, ?_⟩⟩
      clear HK' K' hS hb
      have hS := hS9
      clear hS9
      try simp only [Act.put, List.getElem_toArray, List.getElem_cons_zero, List.getElem_cons_succ, List.setIfInBounds_toArray, List.set_cons_zero, List.set_cons_succ]
      refine' wpAnyH_take (i := 13) (v := .int .i64 0) rfl (by kernel_rfl) (by kernel_rfl) (by kernel_rfl) (fun _ _ _ h => h) (Or.inl ⟨by rfl, ?hy83⟩) hS ?rest83
      case hy83 => (intro w' hSw; obtain ⟨k0, k1, k2, k3⟩ := hSw; go_simp; (try with_reducible rfl); all_goals first | done | rfl)
      try simp only [Act.put, List.getElem_toArray, List.getElem_cons_zero, List.getElem_cons_succ, List.setIfInBounds_toArray, List.set_cons_zero, List.set_cons_succ]
      refine' wpAnyH_take (i := 16) (v := .pointer (some ⟨bo, 31, none⟩)) rfl (by kernel_rfl) (by kernel_rfl) (by kernel_rfl) (fun _ _ _ h => h) (Or.inl ⟨by rfl, ?hy84⟩) hS ?rest84
      case hy84 => (intro w' hSw; obtain ⟨k0, k1, k2, k3⟩ := hSw; go_simp; (try with_reducible rfl); all_goals first | done | rfl)
      try simp only [Act.put, List.getElem_toArray, List.getElem_cons_zero, List.getElem_cons_succ, List.setIfInBounds_toArray, List.set_cons_zero, List.set_cons_succ]
      refine held_one (i := 17) rfl (by kernel_rfl) ?_
      intro K' hK; have HK' := Lib.hid hK; clear hK hS
      refine wp_put (K' := kk) (by rfl) (.tmp 61) (.tmp 58) rfl H9.out rfl (.int .i64 0) rfl [.int .i64 0] rfl (by simp) size3 (by simp [Value.oneCell']) (kk_keep (by simp)) ?_
      intro W10 HW; have H10 := Lib.hid HW; clear HW
      refine HK'.out _ _ ⟨bx_cells  H10.out (hpa 31 rfl) (hpa 31 rfl), ?_⟩
      clear HK' K'
      try simp only [Act.put, List.getElem_toArray, List.getElem_cons_zero, List.getElem_cons_succ, List.setIfInBounds_toArray, List.set_cons_zero, List.set_cons_succ]
      refine wpAnyH_done (by kernel_rfl) ?_ _
      go_wp2_with fail
      go_roundg (2)
      case measure => have := Hg.out; omega
      case rel => exact ⟨2, by decide, by decide, by decide, rfl, H10.out⟩
    · have s0 : wr.cell? ⟨ms, 2, none⟩ = some (.string ⟨#[98, 111, 116, 116, 111, 109]⟩) := (H4.out.blkm (b := ms) (.tail _ (.head _))).cell 2
      obtain ⟨W4, hW4⟩ : ∃ W, wr = W := ⟨_, rfl⟩
      rw [hW4] at H4 s0 ⊢
      clear hW4
      go_upto_region 5 with fail
      have hS : (fun w' : World => w'.cell? ⟨mp, 18, none⟩ = some (.int .i64 0) ∧ w'.cell? ⟨mp, 19, none⟩ = some (.int .i64 0) ∧ w'.cell? ⟨mz, 0, none⟩ = some (.int .i64 1) ∧ w'.cell? ⟨mz, 1, none⟩ = some (.int .i64 0)) W4 := bx_cells  H4.out (hpa 18 rfl) (hpa 19 rfl)
      refine wp_region_held (S := (fun w' : World => w'.cell? ⟨mp, 18, none⟩ = some (.int .i64 0) ∧ w'.cell? ⟨mp, 19, none⟩ = some (.int .i64 0) ∧ w'.cell? ⟨mz, 0, none⟩ = some (.int .i64 1) ∧ w'.cell? ⟨mz, 1, none⟩ = some (.int .i64 0))) (by kernel_rfl) ?_
      replace hS := (show (fun w' : World => w'.cell? ⟨mp, 18, none⟩ = some (.int .i64 0) ∧ w'.cell? ⟨mp, 19, none⟩ = some (.int .i64 0) ∧ w'.cell? ⟨mz, 0, none⟩ = some (.int .i64 1) ∧ w'.cell? ⟨mz, 1, none⟩ = some (.int .i64 0)) W4.drew from hS)
      change wpAnyH _ _ _ _ _ _ _ _ (World.drew _)
      refine' wpAnyH_take (i := 0) (v := .pointer (some ⟨bo, 0, none⟩)) rfl (by kernel_rfl) (by kernel_rfl) (by kernel_rfl) (fun _ _ _ h => h) (Or.inl ⟨by rfl, ?hy85⟩) hS ?rest85
      case hy85 => (intro w' hSw; obtain ⟨k0, k1, k2, k3⟩ := hSw; go_simp; (try with_reducible rfl); all_goals first | done | rfl)
      try simp only [Act.put, List.getElem_toArray, List.getElem_cons_zero, List.getElem_cons_succ, List.setIfInBounds_toArray, List.set_cons_zero, List.set_cons_succ]
      refine' wpAnyH_take (i := 1) (v := .int .i64 2) rfl (by kernel_rfl) (by kernel_rfl) (by kernel_rfl) (fun _ _ _ h => h) (Or.inl ⟨by rfl, ?hy86⟩) hS ?rest86
      case hy86 => (intro w' hSw; obtain ⟨k0, k1, k2, k3⟩ := hSw; go_simp; (try with_reducible rfl); all_goals first | done | rfl)
      try simp only [Act.put, List.getElem_toArray, List.getElem_cons_zero, List.getElem_cons_succ, List.setIfInBounds_toArray, List.set_cons_zero, List.set_cons_succ]
      refine' wpAnyH_take (i := 2) (v := .pointer (some ⟨bc, 0, none⟩)) rfl (by kernel_rfl) (by kernel_rfl) (by kernel_rfl) (fun _ _ _ h => h) (Or.inl ⟨by rfl, ?hy87⟩) hS ?rest87
      case hy87 => (intro w' hSw; obtain ⟨k0, k1, k2, k3⟩ := hSw; go_simp; (try with_reducible rfl); all_goals first | done | rfl)
      try simp only [Act.put, List.getElem_toArray, List.getElem_cons_zero, List.getElem_cons_succ, List.setIfInBounds_toArray, List.set_cons_zero, List.set_cons_succ]
      refine' wpAnyH_take (i := 3) (v := .string ⟨#[98, 111, 116, 116, 111, 109]⟩) rfl (by kernel_rfl) (by kernel_rfl) (by kernel_rfl) (fun _ _ _ h => h) (Or.inl ⟨by rfl, ?hy88⟩) hS ?rest88
      case hy88 => (intro w' hSw; obtain ⟨k0, k1, k2, k3⟩ := hSw; go_simp; (try with_reducible rfl); all_goals first | done | rfl)
      try simp only [Act.put, List.getElem_toArray, List.getElem_cons_zero, List.getElem_cons_succ, List.setIfInBounds_toArray, List.set_cons_zero, List.set_cons_succ]
      refine' wpAnyH_take (i := 4) (v := .string ⟨#[109, 97, 114, 103, 105, 110, 45, 98, 111, 116, 116, 111, 109]⟩) rfl (by kernel_rfl) (by kernel_rfl) (by kernel_rfl) (fun _ _ _ h => h) (Or.inl ⟨by rfl, ?hy89⟩) hS ?rest89
      case hy89 => (intro w' hSw; obtain ⟨k0, k1, k2, k3⟩ := hSw; go_simp; (try with_reducible rfl); all_goals first | done | rfl)
      try simp only [Act.put, List.getElem_toArray, List.getElem_cons_zero, List.getElem_cons_succ, List.setIfInBounds_toArray, List.set_cons_zero, List.set_cons_succ]
      refine' wpAnyH_take (i := 5) (v := .int .i64 2) rfl (by kernel_rfl) (by kernel_rfl) (by kernel_rfl) (fun _ _ _ h => h) (Or.inl ⟨by rfl, ?hy90⟩) hS ?rest90
      case hy90 => (intro w' hSw; obtain ⟨k0, k1, k2, k3⟩ := hSw; go_simp; (try with_reducible rfl); all_goals first | done | rfl)
      try simp only [Act.put, List.getElem_toArray, List.getElem_cons_zero, List.getElem_cons_succ, List.setIfInBounds_toArray, List.set_cons_zero, List.set_cons_succ]
      refine' wpAnyH_take (i := 6) (v := .pointer (some ⟨mp, 14, none⟩)) rfl (by kernel_rfl) (by kernel_rfl) (by kernel_rfl) (fun _ _ _ h => h) (Or.inl ⟨by rfl, ?hy91⟩) hS ?rest91
      case hy91 => (intro w' hSw; obtain ⟨k0, k1, k2, k3⟩ := hSw; go_simp; (try with_reducible rfl); all_goals first | done | rfl)
      try simp only [Act.put, List.getElem_toArray, List.getElem_cons_zero, List.getElem_cons_succ, List.setIfInBounds_toArray, List.set_cons_zero, List.set_cons_succ]
      refine' wpAnyH_take (i := 7) (v := .pointer (some ⟨mp, 18, none⟩)) rfl (by kernel_rfl) (by kernel_rfl) (by kernel_rfl) (fun _ _ _ h => h) (Or.inl ⟨by rfl, ?hy92⟩) hS ?rest92
      case hy92 => (intro w' hSw; obtain ⟨k0, k1, k2, k3⟩ := hSw; go_simp; (try with_reducible rfl); all_goals first | done | rfl)
      try simp only [Act.put, List.getElem_toArray, List.getElem_cons_zero, List.getElem_cons_succ, List.setIfInBounds_toArray, List.set_cons_zero, List.set_cons_succ]
      refine' wpAnyH_take (i := 8) (v := .agg #[.int .i64 0, .int .i64 0]) rfl (by kernel_rfl) (by kernel_rfl) (by kernel_rfl) (fun _ _ _ h => h) (Or.inl ⟨by rfl, ?hy93⟩) hS ?rest93
      case hy93 => (intro w' hSw; obtain ⟨k0, k1, k2, k3⟩ := hSw; go_simp; (try with_reducible rfl); all_goals first | done | rfl)
      try simp only [Act.put, List.getElem_toArray, List.getElem_cons_zero, List.getElem_cons_succ, List.setIfInBounds_toArray, List.set_cons_zero, List.set_cons_succ]
      refine' wpAnyH_take (i := 9) (v := .agg #[.int .i64 1, .int .i64 0]) rfl (by kernel_rfl) (by kernel_rfl) (by kernel_rfl) (fun _ _ _ h => h) (Or.inl ⟨by rfl, ?hy94⟩) hS ?rest94
      case hy94 => (intro w' hSw; obtain ⟨k0, k1, k2, k3⟩ := hSw; go_simp; (try with_reducible rfl); all_goals first | done | rfl)
      try simp only [Act.put, List.getElem_toArray, List.getElem_cons_zero, List.getElem_cons_succ, List.setIfInBounds_toArray, List.set_cons_zero, List.set_cons_succ]
      refine' wpAnyH_take (i := 11) (v := .pointer (some ⟨bo, 0, none⟩)) rfl (by kernel_rfl) (by kernel_rfl) (by kernel_rfl) (fun _ _ _ h => h) (Or.inl ⟨by rfl, ?hy95⟩) hS ?rest95
      case hy95 => (intro w' hSw; obtain ⟨k0, k1, k2, k3⟩ := hSw; go_simp; (try with_reducible rfl); all_goals first | done | rfl)
      try simp only [Act.put, List.getElem_toArray, List.getElem_cons_zero, List.getElem_cons_succ, List.setIfInBounds_toArray, List.set_cons_zero, List.set_cons_succ]
      refine' wpAnyH_take (i := 12) (v := .pointer (some ⟨bo, 14, none⟩)) rfl (by kernel_rfl) (by kernel_rfl) (by kernel_rfl) (fun _ _ _ h => h) (Or.inl ⟨by rfl, ?hy96⟩) hS ?rest96
      case hy96 => (intro w' hSw; obtain ⟨k0, k1, k2, k3⟩ := hSw; go_simp; (try with_reducible rfl); all_goals first | done | rfl)
      try simp only [Act.put, List.getElem_toArray, List.getElem_cons_zero, List.getElem_cons_succ, List.setIfInBounds_toArray, List.set_cons_zero, List.set_cons_succ]
      refine held_one (i := 10) rfl (by kernel_rfl) ?_
      intro K' hK; have HK' := Lib.hid hK; clear hK
      refine wp_call (by rfl) (by rfl) Tryz.func14 (by kernel_rfl) (by kernel_rfl) (by kernel_rfl) (long_c (bc := bc) (bm := bm) ⟨#[109, 97, 114, 103, 105, 110, 45, 98, 111, 116, 116, 111, 109]⟩ 0 0 1 0 (Comp.of H4.out.drew (.tail _ (.tail _ (.tail _ (.tail _ (.head _))))) (.tail _ (.tail _ (.tail _ (.tail _ (.tail _ (.head _))))))) (by decide)) ?_
      rintro e W5 ⟨rfl, hb⟩
      have H5 := Lib.hid (H4.out.drew.of_below hb)
      have hS5 : (fun w' : World => w'.cell? ⟨mp, 18, none⟩ = some (.int .i64 0) ∧ w'.cell? ⟨mp, 19, none⟩ = some (.int .i64 0) ∧ w'.cell? ⟨mz, 0, none⟩ = some (.int .i64 1) ∧ w'.cell? ⟨mz, 1, none⟩ = some (.int .i64 0)) W5 := bx_cells  H5.out (hpa 18 rfl) (hpa 19 rfl)
      refine ⟨_, rfl, HK'.out _ _ ⟨hS5, ?_⟩⟩
      clear HK' K' hS hb
      have hS := hS5
      clear hS5
      try simp only [Act.put, List.getElem_toArray, List.getElem_cons_zero, List.getElem_cons_succ, List.setIfInBounds_toArray, List.set_cons_zero, List.set_cons_succ]
      refine' wpAnyH_take (i := 13) (v := .pointer (some ⟨bo, 18, none⟩)) rfl (by kernel_rfl) (by kernel_rfl) (by kernel_rfl) (fun _ _ _ h => h) (Or.inl ⟨by rfl, ?hy97⟩) hS ?rest97
      case hy97 => (intro w' hSw; obtain ⟨k0, k1, k2, k3⟩ := hSw; go_simp; (try with_reducible rfl); all_goals first | done | rfl)
      try simp only [Act.put, List.getElem_toArray, List.getElem_cons_zero, List.getElem_cons_succ, List.setIfInBounds_toArray, List.set_cons_zero, List.set_cons_succ]
      refine held_one (i := 14) rfl (by kernel_rfl) ?_
      intro K' hK; have HK' := Lib.hid hK; clear hK hS
      refine wp_put (K' := kk) (by rfl) (.tmp 30) (.tmp 27) rfl H5.out rfl (.agg #[.int .i64 1, .int .i64 0]) rfl [.int .i64 1, .int .i64 0] rfl (by simp) size26 (by simp [Value.oneCell']) (kk_keep (by simp)) ?_
      intro W6 HW; have H6 := Lib.hid HW; clear HW
      refine HK'.out _ _ ⟨bx_cells  H6.out (hpa 18 rfl) (hpa 19 rfl), ?_⟩
      clear HK' K'
      try simp only [Act.put, List.getElem_toArray, List.getElem_cons_zero, List.getElem_cons_succ, List.setIfInBounds_toArray, List.set_cons_zero, List.set_cons_succ]
      refine wpAnyH_done (by kernel_rfl) ?_ _
      go_upto_region 6 with fail
      have hS : (fun w' : World => w'.cell? ⟨mp, 26, none⟩ = some (.int .i64 0) ∧ w'.cell? ⟨mp, 27, none⟩ = some (.int .i64 0) ∧ w'.cell? ⟨mz, 0, none⟩ = some (.int .i64 1) ∧ w'.cell? ⟨mz, 1, none⟩ = some (.int .i64 0)) W6 := bx_cells  H6.out (hpa 26 rfl) (hpa 27 rfl)
      refine wp_region_held (S := (fun w' : World => w'.cell? ⟨mp, 26, none⟩ = some (.int .i64 0) ∧ w'.cell? ⟨mp, 27, none⟩ = some (.int .i64 0) ∧ w'.cell? ⟨mz, 0, none⟩ = some (.int .i64 1) ∧ w'.cell? ⟨mz, 1, none⟩ = some (.int .i64 0))) (by kernel_rfl) ?_
      replace hS := (show (fun w' : World => w'.cell? ⟨mp, 26, none⟩ = some (.int .i64 0) ∧ w'.cell? ⟨mp, 27, none⟩ = some (.int .i64 0) ∧ w'.cell? ⟨mz, 0, none⟩ = some (.int .i64 1) ∧ w'.cell? ⟨mz, 1, none⟩ = some (.int .i64 0)) W6.drew from hS)
      change wpAnyH _ _ _ _ _ _ _ _ (World.drew _)
      refine' wpAnyH_take (i := 0) (v := .pointer (some ⟨bo, 0, none⟩)) rfl (by kernel_rfl) (by kernel_rfl) (by kernel_rfl) (fun _ _ _ h => h) (Or.inl ⟨by rfl, ?hy98⟩) hS ?rest98
      case hy98 => (intro w' hSw; obtain ⟨k0, k1, k2, k3⟩ := hSw; go_simp; (try with_reducible rfl); all_goals first | done | rfl)
      try simp only [Act.put, List.getElem_toArray, List.getElem_cons_zero, List.getElem_cons_succ, List.setIfInBounds_toArray, List.set_cons_zero, List.set_cons_succ]
      refine' wpAnyH_take (i := 1) (v := .int .i64 2) rfl (by kernel_rfl) (by kernel_rfl) (by kernel_rfl) (fun _ _ _ h => h) (Or.inl ⟨by rfl, ?hy99⟩) hS ?rest99
      case hy99 => (intro w' hSw; obtain ⟨k0, k1, k2, k3⟩ := hSw; go_simp; (try with_reducible rfl); all_goals first | done | rfl)
      try simp only [Act.put, List.getElem_toArray, List.getElem_cons_zero, List.getElem_cons_succ, List.setIfInBounds_toArray, List.set_cons_zero, List.set_cons_succ]
      refine' wpAnyH_take (i := 2) (v := .pointer (some ⟨bc, 0, none⟩)) rfl (by kernel_rfl) (by kernel_rfl) (by kernel_rfl) (fun _ _ _ h => h) (Or.inl ⟨by rfl, ?hy100⟩) hS ?rest100
      case hy100 => (intro w' hSw; obtain ⟨k0, k1, k2, k3⟩ := hSw; go_simp; (try with_reducible rfl); all_goals first | done | rfl)
      try simp only [Act.put, List.getElem_toArray, List.getElem_cons_zero, List.getElem_cons_succ, List.setIfInBounds_toArray, List.set_cons_zero, List.set_cons_succ]
      refine' wpAnyH_take (i := 3) (v := .string ⟨#[98, 111, 116, 116, 111, 109]⟩) rfl (by kernel_rfl) (by kernel_rfl) (by kernel_rfl) (fun _ _ _ h => h) (Or.inl ⟨by rfl, ?hy101⟩) hS ?rest101
      case hy101 => (intro w' hSw; obtain ⟨k0, k1, k2, k3⟩ := hSw; go_simp; (try with_reducible rfl); all_goals first | done | rfl)
      try simp only [Act.put, List.getElem_toArray, List.getElem_cons_zero, List.getElem_cons_succ, List.setIfInBounds_toArray, List.set_cons_zero, List.set_cons_succ]
      refine' wpAnyH_take (i := 4) (v := .string ⟨#[112, 97, 100, 100, 105, 110, 103, 45, 98, 111, 116, 116, 111, 109]⟩) rfl (by kernel_rfl) (by kernel_rfl) (by kernel_rfl) (fun _ _ _ h => h) (Or.inl ⟨by rfl, ?hy102⟩) hS ?rest102
      case hy102 => (intro w' hSw; obtain ⟨k0, k1, k2, k3⟩ := hSw; go_simp; (try with_reducible rfl); all_goals first | done | rfl)
      try simp only [Act.put, List.getElem_toArray, List.getElem_cons_zero, List.getElem_cons_succ, List.setIfInBounds_toArray, List.set_cons_zero, List.set_cons_succ]
      refine' wpAnyH_take (i := 5) (v := .int .i64 2) rfl (by kernel_rfl) (by kernel_rfl) (by kernel_rfl) (fun _ _ _ h => h) (Or.inl ⟨by rfl, ?hy103⟩) hS ?rest103
      case hy103 => (intro w' hSw; obtain ⟨k0, k1, k2, k3⟩ := hSw; go_simp; (try with_reducible rfl); all_goals first | done | rfl)
      try simp only [Act.put, List.getElem_toArray, List.getElem_cons_zero, List.getElem_cons_succ, List.setIfInBounds_toArray, List.set_cons_zero, List.set_cons_succ]
      refine' wpAnyH_take (i := 6) (v := .pointer (some ⟨mp, 22, none⟩)) rfl (by kernel_rfl) (by kernel_rfl) (by kernel_rfl) (fun _ _ _ h => h) (Or.inl ⟨by rfl, ?hy104⟩) hS ?rest104
      case hy104 => (intro w' hSw; obtain ⟨k0, k1, k2, k3⟩ := hSw; go_simp; (try with_reducible rfl); all_goals first | done | rfl)
      try simp only [Act.put, List.getElem_toArray, List.getElem_cons_zero, List.getElem_cons_succ, List.setIfInBounds_toArray, List.set_cons_zero, List.set_cons_succ]
      refine' wpAnyH_take (i := 7) (v := .pointer (some ⟨mp, 26, none⟩)) rfl (by kernel_rfl) (by kernel_rfl) (by kernel_rfl) (fun _ _ _ h => h) (Or.inl ⟨by rfl, ?hy105⟩) hS ?rest105
      case hy105 => (intro w' hSw; obtain ⟨k0, k1, k2, k3⟩ := hSw; go_simp; (try with_reducible rfl); all_goals first | done | rfl)
      try simp only [Act.put, List.getElem_toArray, List.getElem_cons_zero, List.getElem_cons_succ, List.setIfInBounds_toArray, List.set_cons_zero, List.set_cons_succ]
      refine' wpAnyH_take (i := 8) (v := .agg #[.int .i64 0, .int .i64 0]) rfl (by kernel_rfl) (by kernel_rfl) (by kernel_rfl) (fun _ _ _ h => h) (Or.inl ⟨by rfl, ?hy106⟩) hS ?rest106
      case hy106 => (intro w' hSw; obtain ⟨k0, k1, k2, k3⟩ := hSw; go_simp; (try with_reducible rfl); all_goals first | done | rfl)
      try simp only [Act.put, List.getElem_toArray, List.getElem_cons_zero, List.getElem_cons_succ, List.setIfInBounds_toArray, List.set_cons_zero, List.set_cons_succ]
      refine' wpAnyH_take (i := 9) (v := .agg #[.int .i64 1, .int .i64 0]) rfl (by kernel_rfl) (by kernel_rfl) (by kernel_rfl) (fun _ _ _ h => h) (Or.inl ⟨by rfl, ?hy107⟩) hS ?rest107
      case hy107 => (intro w' hSw; obtain ⟨k0, k1, k2, k3⟩ := hSw; go_simp; (try with_reducible rfl); all_goals first | done | rfl)
      try simp only [Act.put, List.getElem_toArray, List.getElem_cons_zero, List.getElem_cons_succ, List.setIfInBounds_toArray, List.set_cons_zero, List.set_cons_succ]
      refine' wpAnyH_take (i := 11) (v := .pointer (some ⟨bo, 0, none⟩)) rfl (by kernel_rfl) (by kernel_rfl) (by kernel_rfl) (fun _ _ _ h => h) (Or.inl ⟨by rfl, ?hy108⟩) hS ?rest108
      case hy108 => (intro w' hSw; obtain ⟨k0, k1, k2, k3⟩ := hSw; go_simp; (try with_reducible rfl); all_goals first | done | rfl)
      try simp only [Act.put, List.getElem_toArray, List.getElem_cons_zero, List.getElem_cons_succ, List.setIfInBounds_toArray, List.set_cons_zero, List.set_cons_succ]
      refine' wpAnyH_take (i := 12) (v := .pointer (some ⟨bo, 22, none⟩)) rfl (by kernel_rfl) (by kernel_rfl) (by kernel_rfl) (fun _ _ _ h => h) (Or.inl ⟨by rfl, ?hy109⟩) hS ?rest109
      case hy109 => (intro w' hSw; obtain ⟨k0, k1, k2, k3⟩ := hSw; go_simp; (try with_reducible rfl); all_goals first | done | rfl)
      try simp only [Act.put, List.getElem_toArray, List.getElem_cons_zero, List.getElem_cons_succ, List.setIfInBounds_toArray, List.set_cons_zero, List.set_cons_succ]
      refine held_one (i := 10) rfl (by kernel_rfl) ?_
      intro K' hK; have HK' := Lib.hid hK; clear hK
      refine wp_call (by rfl) (by rfl) Tryz.func14 (by kernel_rfl) (by kernel_rfl) (by kernel_rfl) (long_c (bc := bc) (bm := bm) ⟨#[112, 97, 100, 100, 105, 110, 103, 45, 98, 111, 116, 116, 111, 109]⟩ 0 0 1 0 (Comp.of H6.out.drew (.tail _ (.tail _ (.tail _ (.tail _ (.head _))))) (.tail _ (.tail _ (.tail _ (.tail _ (.tail _ (.head _))))))) (by decide)) ?_
      rintro e W7 ⟨rfl, hb⟩
      have H7 := Lib.hid (H6.out.drew.of_below hb)
      have hS7 : (fun w' : World => w'.cell? ⟨mp, 26, none⟩ = some (.int .i64 0) ∧ w'.cell? ⟨mp, 27, none⟩ = some (.int .i64 0) ∧ w'.cell? ⟨mz, 0, none⟩ = some (.int .i64 1) ∧ w'.cell? ⟨mz, 1, none⟩ = some (.int .i64 0)) W7 := bx_cells  H7.out (hpa 26 rfl) (hpa 27 rfl)
      refine ⟨_, rfl, HK'.out _ _ ⟨hS7, ?_⟩⟩
      clear HK' K' hS hb
      have hS := hS7
      clear hS7
      try simp only [Act.put, List.getElem_toArray, List.getElem_cons_zero, List.getElem_cons_succ, List.setIfInBounds_toArray, List.set_cons_zero, List.set_cons_succ]
      refine' wpAnyH_take (i := 13) (v := .pointer (some ⟨bo, 26, none⟩)) rfl (by kernel_rfl) (by kernel_rfl) (by kernel_rfl) (fun _ _ _ h => h) (Or.inl ⟨by rfl, ?hy110⟩) hS ?rest110
      case hy110 => (intro w' hSw; obtain ⟨k0, k1, k2, k3⟩ := hSw; go_simp; (try with_reducible rfl); all_goals first | done | rfl)
      try simp only [Act.put, List.getElem_toArray, List.getElem_cons_zero, List.getElem_cons_succ, List.setIfInBounds_toArray, List.set_cons_zero, List.set_cons_succ]
      refine held_one (i := 14) rfl (by kernel_rfl) ?_
      intro K' hK; have HK' := Lib.hid hK; clear hK hS
      refine wp_put (K' := kk) (by rfl) (.tmp 44) (.tmp 41) rfl H7.out rfl (.agg #[.int .i64 1, .int .i64 0]) rfl [.int .i64 1, .int .i64 0] rfl (by simp) size26 (by simp [Value.oneCell']) (kk_keep (by simp)) ?_
      intro W8 HW; have H8 := Lib.hid HW; clear HW
      refine HK'.out _ _ ⟨bx_cells  H8.out (hpa 26 rfl) (hpa 27 rfl), ?_⟩
      clear HK' K'
      try simp only [Act.put, List.getElem_toArray, List.getElem_cons_zero, List.getElem_cons_succ, List.setIfInBounds_toArray, List.set_cons_zero, List.set_cons_succ]
      refine wpAnyH_done (by kernel_rfl) ?_ _
      go_upto_region 7 with fail
      have hS : (fun w' : World => w'.cell? ⟨mp, 32, none⟩ = some (.int .i64 0) ∧ w'.cell? ⟨mp, 32, none⟩ = some (.int .i64 0) ∧ w'.cell? ⟨mz, 0, none⟩ = some (.int .i64 1) ∧ w'.cell? ⟨mz, 1, none⟩ = some (.int .i64 0)) W8 := bx_cells  H8.out (hpa 32 rfl) (hpa 32 rfl)
      refine wp_region_held (S := (fun w' : World => w'.cell? ⟨mp, 32, none⟩ = some (.int .i64 0) ∧ w'.cell? ⟨mp, 32, none⟩ = some (.int .i64 0) ∧ w'.cell? ⟨mz, 0, none⟩ = some (.int .i64 1) ∧ w'.cell? ⟨mz, 1, none⟩ = some (.int .i64 0))) (by kernel_rfl) ?_
      replace hS := (show (fun w' : World => w'.cell? ⟨mp, 32, none⟩ = some (.int .i64 0) ∧ w'.cell? ⟨mp, 32, none⟩ = some (.int .i64 0) ∧ w'.cell? ⟨mz, 0, none⟩ = some (.int .i64 1) ∧ w'.cell? ⟨mz, 1, none⟩ = some (.int .i64 0)) W8.drew from hS)
      change wpAnyH _ _ _ _ _ _ _ _ (World.drew _)
      refine' wpAnyH_take (i := 0) (v := .pointer (some ⟨bo, 0, none⟩)) rfl (by kernel_rfl) (by kernel_rfl) (by kernel_rfl) (fun _ _ _ h => h) (Or.inl ⟨by rfl, ?hy111⟩) hS ?rest111
      case hy111 => (intro w' hSw; obtain ⟨k0, k1, k2, k3⟩ := hSw; go_simp; (try with_reducible rfl); all_goals first | done | rfl)
      try simp only [Act.put, List.getElem_toArray, List.getElem_cons_zero, List.getElem_cons_succ, List.setIfInBounds_toArray, List.set_cons_zero, List.set_cons_succ]
      refine' wpAnyH_take (i := 1) (v := .int .i64 2) rfl (by kernel_rfl) (by kernel_rfl) (by kernel_rfl) (fun _ _ _ h => h) (Or.inl ⟨by rfl, ?hy112⟩) hS ?rest112
      case hy112 => (intro w' hSw; obtain ⟨k0, k1, k2, k3⟩ := hSw; go_simp; (try with_reducible rfl); all_goals first | done | rfl)
      try simp only [Act.put, List.getElem_toArray, List.getElem_cons_zero, List.getElem_cons_succ, List.setIfInBounds_toArray, List.set_cons_zero, List.set_cons_succ]
      refine' wpAnyH_take (i := 2) (v := .pointer (some ⟨bc, 0, none⟩)) rfl (by kernel_rfl) (by kernel_rfl) (by kernel_rfl) (fun _ _ _ h => h) (Or.inl ⟨by rfl, ?hy113⟩) hS ?rest113
      case hy113 => (intro w' hSw; obtain ⟨k0, k1, k2, k3⟩ := hSw; go_simp; (try with_reducible rfl); all_goals first | done | rfl)
      try simp only [Act.put, List.getElem_toArray, List.getElem_cons_zero, List.getElem_cons_succ, List.setIfInBounds_toArray, List.set_cons_zero, List.set_cons_succ]
      refine' wpAnyH_take (i := 3) (v := .string ⟨#[98, 111, 116, 116, 111, 109]⟩) rfl (by kernel_rfl) (by kernel_rfl) (by kernel_rfl) (fun _ _ _ h => h) (Or.inl ⟨by rfl, ?hy114⟩) hS ?rest114
      case hy114 => (intro w' hSw; obtain ⟨k0, k1, k2, k3⟩ := hSw; go_simp; (try with_reducible rfl); all_goals first | done | rfl)
      try simp only [Act.put, List.getElem_toArray, List.getElem_cons_zero, List.getElem_cons_succ, List.setIfInBounds_toArray, List.set_cons_zero, List.set_cons_succ]
      refine' wpAnyH_take (i := 4) (v := .string ⟨#[98, 111, 114, 100, 101, 114, 45, 98, 111, 116, 116, 111, 109]⟩) rfl (by kernel_rfl) (by kernel_rfl) (by kernel_rfl) (fun _ _ _ h => h) (Or.inl ⟨by rfl, ?hy115⟩) hS ?rest115
      case hy115 => (intro w' hSw; obtain ⟨k0, k1, k2, k3⟩ := hSw; go_simp; (try with_reducible rfl); all_goals first | done | rfl)
      try simp only [Act.put, List.getElem_toArray, List.getElem_cons_zero, List.getElem_cons_succ, List.setIfInBounds_toArray, List.set_cons_zero, List.set_cons_succ]
      refine' wpAnyH_take (i := 5) (v := .string ⟨#[98, 111, 114, 100, 101, 114, 45, 98, 111, 116, 116, 111, 109, 45, 119, 105, 100, 116, 104]⟩) rfl (by kernel_rfl) (by kernel_rfl) (by kernel_rfl) (fun _ _ _ h => h) (Or.inl ⟨by rfl, ?hy116⟩) hS ?rest116
      case hy116 => (intro w' hSw; obtain ⟨k0, k1, k2, k3⟩ := hSw; go_simp; (try with_reducible rfl); all_goals first | done | rfl)
      try simp only [Act.put, List.getElem_toArray, List.getElem_cons_zero, List.getElem_cons_succ, List.setIfInBounds_toArray, List.set_cons_zero, List.set_cons_succ]
      refine' wpAnyH_take (i := 6) (v := .int .i64 2) rfl (by kernel_rfl) (by kernel_rfl) (by kernel_rfl) (fun _ _ _ h => h) (Or.inl ⟨by rfl, ?hy117⟩) hS ?rest117
      case hy117 => (intro w' hSw; obtain ⟨k0, k1, k2, k3⟩ := hSw; go_simp; (try with_reducible rfl); all_goals first | done | rfl)
      try simp only [Act.put, List.getElem_toArray, List.getElem_cons_zero, List.getElem_cons_succ, List.setIfInBounds_toArray, List.set_cons_zero, List.set_cons_succ]
      refine' wpAnyH_take (i := 7) (v := .pointer (some ⟨mp, 30, none⟩)) rfl (by kernel_rfl) (by kernel_rfl) (by kernel_rfl) (fun _ _ _ h => h) (Or.inl ⟨by rfl, ?hy118⟩) hS ?rest118
      case hy118 => (intro w' hSw; obtain ⟨k0, k1, k2, k3⟩ := hSw; go_simp; (try with_reducible rfl); all_goals first | done | rfl)
      try simp only [Act.put, List.getElem_toArray, List.getElem_cons_zero, List.getElem_cons_succ, List.setIfInBounds_toArray, List.set_cons_zero, List.set_cons_succ]
      refine' wpAnyH_take (i := 8) (v := .pointer (some ⟨mp, 32, none⟩)) rfl (by kernel_rfl) (by kernel_rfl) (by kernel_rfl) (fun _ _ _ h => h) (Or.inl ⟨by rfl, ?hy119⟩) hS ?rest119
      case hy119 => (intro w' hSw; obtain ⟨k0, k1, k2, k3⟩ := hSw; go_simp; (try with_reducible rfl); all_goals first | done | rfl)
      try simp only [Act.put, List.getElem_toArray, List.getElem_cons_zero, List.getElem_cons_succ, List.setIfInBounds_toArray, List.set_cons_zero, List.set_cons_succ]
      refine' wpAnyH_take (i := 9) (v := .int .i64 0) rfl (by kernel_rfl) (by kernel_rfl) (by kernel_rfl) (fun _ _ _ h => h) (Or.inl ⟨by rfl, ?hy120⟩) hS ?rest120
      case hy120 => (intro w' hSw; obtain ⟨k0, k1, k2, k3⟩ := hSw; go_simp; (try with_reducible rfl); all_goals first | done | rfl)
      try simp only [Act.put, List.getElem_toArray, List.getElem_cons_zero, List.getElem_cons_succ, List.setIfInBounds_toArray, List.set_cons_zero, List.set_cons_succ]
      refine' wpAnyH_take (i := 10) (v := .agg #[.int .i64 1, .int .i64 0]) rfl (by kernel_rfl) (by kernel_rfl) (by kernel_rfl) (fun _ _ _ h => h) (Or.inl ⟨by rfl, ?hy121⟩) hS ?rest121
      case hy121 => (intro w' hSw; obtain ⟨k0, k1, k2, k3⟩ := hSw; go_simp; (try with_reducible rfl); all_goals first | done | rfl)
      try simp only [Act.put, List.getElem_toArray, List.getElem_cons_zero, List.getElem_cons_succ, List.setIfInBounds_toArray, List.set_cons_zero, List.set_cons_succ]
      refine' wpAnyH_take (i := 11) (v := .agg #[.int .i64 1, .int .i64 0]) rfl (by kernel_rfl) (by kernel_rfl) (by kernel_rfl) (fun _ _ _ h => h) (Or.inl ⟨by rfl, ?hy122⟩) hS ?rest122
      case hy122 => (intro w' hSw; obtain ⟨k0, k1, k2, k3⟩ := hSw; go_simp; (try with_reducible rfl); all_goals first | done | rfl)
      try simp only [Act.put, List.getElem_toArray, List.getElem_cons_zero, List.getElem_cons_succ, List.setIfInBounds_toArray, List.set_cons_zero, List.set_cons_succ]
      refine' wpAnyH_take (i := 14) (v := .pointer (some ⟨bo, 0, none⟩)) rfl (by kernel_rfl) (by kernel_rfl) (by kernel_rfl) (fun _ _ _ h => h) (Or.inl ⟨by rfl, ?hy123⟩) hS ?rest123
      case hy123 => (intro w' hSw; obtain ⟨k0, k1, k2, k3⟩ := hSw; go_simp; (try with_reducible rfl); all_goals first | done | rfl)
      try simp only [Act.put, List.getElem_toArray, List.getElem_cons_zero, List.getElem_cons_succ, List.setIfInBounds_toArray, List.set_cons_zero, List.set_cons_succ]
      refine' wpAnyH_take (i := 15) (v := .pointer (some ⟨bo, 30, none⟩)) rfl (by kernel_rfl) (by kernel_rfl) (by kernel_rfl) (fun _ _ _ h => h) (Or.inl ⟨by rfl, ?hy124⟩) hS ?rest124
      case hy124 => (intro w' hSw; obtain ⟨k0, k1, k2, k3⟩ := hSw; go_simp; (try with_reducible rfl); all_goals first | done | rfl)
      try simp only [Act.put, List.getElem_toArray, List.getElem_cons_zero, List.getElem_cons_succ, List.setIfInBounds_toArray, List.set_cons_zero, List.set_cons_succ]
      refine held_one (i := 12) rfl (by kernel_rfl) ?_
      intro K' hK; have HK' := Lib.hid hK; clear hK
      refine wp_call (by rfl) (by rfl) Tryz.func14 (by kernel_rfl) (by kernel_rfl) (by kernel_rfl) (long_c (bc := bc) (bm := bm) ⟨#[98, 111, 114, 100, 101, 114, 45, 98, 111, 116, 116, 111, 109, 45, 119, 105, 100, 116, 104]⟩ 1 0 1 0 (Comp.of H8.out.drew (.tail _ (.tail _ (.tail _ (.tail _ (.head _))))) (.tail _ (.tail _ (.tail _ (.tail _ (.tail _ (.head _))))))) (by decide)) ?_
      rintro e W9 ⟨rfl, hb⟩
      have H9 := Lib.hid (H8.out.drew.of_below hb)
      have hS9 : (fun w' : World => w'.cell? ⟨mp, 32, none⟩ = some (.int .i64 0) ∧ w'.cell? ⟨mp, 32, none⟩ = some (.int .i64 0) ∧ w'.cell? ⟨mz, 0, none⟩ = some (.int .i64 1) ∧ w'.cell? ⟨mz, 1, none⟩ = some (.int .i64 0)) W9 := bx_cells  H9.out (hpa 32 rfl) (hpa 32 rfl)
      refine ⟨_, rfl, HK'.out _ _ ⟨hS9, ?_⟩⟩
      clear HK' K' hS hb
      have hS := hS9
      clear hS9
      try simp only [Act.put, List.getElem_toArray, List.getElem_cons_zero, List.getElem_cons_succ, List.setIfInBounds_toArray, List.set_cons_zero, List.set_cons_succ]
      refine' wpAnyH_take (i := 13) (v := .int .i64 0) rfl (by kernel_rfl) (by kernel_rfl) (by kernel_rfl) (fun _ _ _ h => h) (Or.inl ⟨by rfl, ?hy125⟩) hS ?rest125
      case hy125 => (intro w' hSw; obtain ⟨k0, k1, k2, k3⟩ := hSw; go_simp; (try with_reducible rfl); all_goals first | done | rfl)
      try simp only [Act.put, List.getElem_toArray, List.getElem_cons_zero, List.getElem_cons_succ, List.setIfInBounds_toArray, List.set_cons_zero, List.set_cons_succ]
      refine' wpAnyH_take (i := 16) (v := .pointer (some ⟨bo, 32, none⟩)) rfl (by kernel_rfl) (by kernel_rfl) (by kernel_rfl) (fun _ _ _ h => h) (Or.inl ⟨by rfl, ?hy126⟩) hS ?rest126
      case hy126 => (intro w' hSw; obtain ⟨k0, k1, k2, k3⟩ := hSw; go_simp; (try with_reducible rfl); all_goals first | done | rfl)
      try simp only [Act.put, List.getElem_toArray, List.getElem_cons_zero, List.getElem_cons_succ, List.setIfInBounds_toArray, List.set_cons_zero, List.set_cons_succ]
      refine held_one (i := 17) rfl (by kernel_rfl) ?_
      intro K' hK; have HK' := Lib.hid hK; clear hK hS
      refine wp_put (K' := kk) (by rfl) (.tmp 61) (.tmp 58) rfl H9.out rfl (.int .i64 0) rfl [.int .i64 0] rfl (by simp) size3 (by simp [Value.oneCell']) (kk_keep (by simp)) ?_
      intro W10 HW; have H10 := Lib.hid HW; clear HW
      refine HK'.out _ _ ⟨bx_cells  H10.out (hpa 32 rfl) (hpa 32 rfl), ?_⟩
      clear HK' K'
      try simp only [Act.put, List.getElem_toArray, List.getElem_cons_zero, List.getElem_cons_succ, List.setIfInBounds_toArray, List.set_cons_zero, List.set_cons_succ]
      refine wpAnyH_done (by kernel_rfl) ?_ _
      go_wp2_with fail
      go_roundg (1)
      case measure => have := Hg.out; omega
      case rel => exact ⟨3, by decide, by decide, by decide, rfl, H10.out⟩
    · have s0 : wr.cell? ⟨ms, 3, none⟩ = some (.string ⟨#[108, 101, 102, 116]⟩) := (H4.out.blkm (b := ms) (.tail _ (.head _))).cell 3
      obtain ⟨W4, hW4⟩ : ∃ W, wr = W := ⟨_, rfl⟩
      rw [hW4] at H4 s0 ⊢
      clear hW4
      go_upto_region 5 with fail
      have hS : (fun w' : World => w'.cell? ⟨mp, 20, none⟩ = some (.int .i64 0) ∧ w'.cell? ⟨mp, 21, none⟩ = some (.int .i64 0) ∧ w'.cell? ⟨mz, 0, none⟩ = some (.int .i64 1) ∧ w'.cell? ⟨mz, 1, none⟩ = some (.int .i64 0)) W4 := bx_cells  H4.out (hpa 20 rfl) (hpa 21 rfl)
      refine wp_region_held (S := (fun w' : World => w'.cell? ⟨mp, 20, none⟩ = some (.int .i64 0) ∧ w'.cell? ⟨mp, 21, none⟩ = some (.int .i64 0) ∧ w'.cell? ⟨mz, 0, none⟩ = some (.int .i64 1) ∧ w'.cell? ⟨mz, 1, none⟩ = some (.int .i64 0))) (by kernel_rfl) ?_
      replace hS := (show (fun w' : World => w'.cell? ⟨mp, 20, none⟩ = some (.int .i64 0) ∧ w'.cell? ⟨mp, 21, none⟩ = some (.int .i64 0) ∧ w'.cell? ⟨mz, 0, none⟩ = some (.int .i64 1) ∧ w'.cell? ⟨mz, 1, none⟩ = some (.int .i64 0)) W4.drew from hS)
      change wpAnyH _ _ _ _ _ _ _ _ (World.drew _)
      refine' wpAnyH_take (i := 0) (v := .pointer (some ⟨bo, 0, none⟩)) rfl (by kernel_rfl) (by kernel_rfl) (by kernel_rfl) (fun _ _ _ h => h) (Or.inl ⟨by rfl, ?hy127⟩) hS ?rest127
      case hy127 => (intro w' hSw; obtain ⟨k0, k1, k2, k3⟩ := hSw; go_simp; (try with_reducible rfl); all_goals first | done | rfl)
      try simp only [Act.put, List.getElem_toArray, List.getElem_cons_zero, List.getElem_cons_succ, List.setIfInBounds_toArray, List.set_cons_zero, List.set_cons_succ]
      refine' wpAnyH_take (i := 1) (v := .int .i64 3) rfl (by kernel_rfl) (by kernel_rfl) (by kernel_rfl) (fun _ _ _ h => h) (Or.inl ⟨by rfl, ?hy128⟩) hS ?rest128
      case hy128 => (intro w' hSw; obtain ⟨k0, k1, k2, k3⟩ := hSw; go_simp; (try with_reducible rfl); all_goals first | done | rfl)
      try simp only [Act.put, List.getElem_toArray, List.getElem_cons_zero, List.getElem_cons_succ, List.setIfInBounds_toArray, List.set_cons_zero, List.set_cons_succ]
      refine' wpAnyH_take (i := 2) (v := .pointer (some ⟨bc, 0, none⟩)) rfl (by kernel_rfl) (by kernel_rfl) (by kernel_rfl) (fun _ _ _ h => h) (Or.inl ⟨by rfl, ?hy129⟩) hS ?rest129
      case hy129 => (intro w' hSw; obtain ⟨k0, k1, k2, k3⟩ := hSw; go_simp; (try with_reducible rfl); all_goals first | done | rfl)
      try simp only [Act.put, List.getElem_toArray, List.getElem_cons_zero, List.getElem_cons_succ, List.setIfInBounds_toArray, List.set_cons_zero, List.set_cons_succ]
      refine' wpAnyH_take (i := 3) (v := .string ⟨#[108, 101, 102, 116]⟩) rfl (by kernel_rfl) (by kernel_rfl) (by kernel_rfl) (fun _ _ _ h => h) (Or.inl ⟨by rfl, ?hy130⟩) hS ?rest130
      case hy130 => (intro w' hSw; obtain ⟨k0, k1, k2, k3⟩ := hSw; go_simp; (try with_reducible rfl); all_goals first | done | rfl)
      try simp only [Act.put, List.getElem_toArray, List.getElem_cons_zero, List.getElem_cons_succ, List.setIfInBounds_toArray, List.set_cons_zero, List.set_cons_succ]
      refine' wpAnyH_take (i := 4) (v := .string ⟨#[109, 97, 114, 103, 105, 110, 45, 108, 101, 102, 116]⟩) rfl (by kernel_rfl) (by kernel_rfl) (by kernel_rfl) (fun _ _ _ h => h) (Or.inl ⟨by rfl, ?hy131⟩) hS ?rest131
      case hy131 => (intro w' hSw; obtain ⟨k0, k1, k2, k3⟩ := hSw; go_simp; (try with_reducible rfl); all_goals first | done | rfl)
      try simp only [Act.put, List.getElem_toArray, List.getElem_cons_zero, List.getElem_cons_succ, List.setIfInBounds_toArray, List.set_cons_zero, List.set_cons_succ]
      refine' wpAnyH_take (i := 5) (v := .int .i64 3) rfl (by kernel_rfl) (by kernel_rfl) (by kernel_rfl) (fun _ _ _ h => h) (Or.inl ⟨by rfl, ?hy132⟩) hS ?rest132
      case hy132 => (intro w' hSw; obtain ⟨k0, k1, k2, k3⟩ := hSw; go_simp; (try with_reducible rfl); all_goals first | done | rfl)
      try simp only [Act.put, List.getElem_toArray, List.getElem_cons_zero, List.getElem_cons_succ, List.setIfInBounds_toArray, List.set_cons_zero, List.set_cons_succ]
      refine' wpAnyH_take (i := 6) (v := .pointer (some ⟨mp, 14, none⟩)) rfl (by kernel_rfl) (by kernel_rfl) (by kernel_rfl) (fun _ _ _ h => h) (Or.inl ⟨by rfl, ?hy133⟩) hS ?rest133
      case hy133 => (intro w' hSw; obtain ⟨k0, k1, k2, k3⟩ := hSw; go_simp; (try with_reducible rfl); all_goals first | done | rfl)
      try simp only [Act.put, List.getElem_toArray, List.getElem_cons_zero, List.getElem_cons_succ, List.setIfInBounds_toArray, List.set_cons_zero, List.set_cons_succ]
      refine' wpAnyH_take (i := 7) (v := .pointer (some ⟨mp, 20, none⟩)) rfl (by kernel_rfl) (by kernel_rfl) (by kernel_rfl) (fun _ _ _ h => h) (Or.inl ⟨by rfl, ?hy134⟩) hS ?rest134
      case hy134 => (intro w' hSw; obtain ⟨k0, k1, k2, k3⟩ := hSw; go_simp; (try with_reducible rfl); all_goals first | done | rfl)
      try simp only [Act.put, List.getElem_toArray, List.getElem_cons_zero, List.getElem_cons_succ, List.setIfInBounds_toArray, List.set_cons_zero, List.set_cons_succ]
      refine' wpAnyH_take (i := 8) (v := .agg #[.int .i64 0, .int .i64 0]) rfl (by kernel_rfl) (by kernel_rfl) (by kernel_rfl) (fun _ _ _ h => h) (Or.inl ⟨by rfl, ?hy135⟩) hS ?rest135
      case hy135 => (intro w' hSw; obtain ⟨k0, k1, k2, k3⟩ := hSw; go_simp; (try with_reducible rfl); all_goals first | done | rfl)
      try simp only [Act.put, List.getElem_toArray, List.getElem_cons_zero, List.getElem_cons_succ, List.setIfInBounds_toArray, List.set_cons_zero, List.set_cons_succ]
      refine' wpAnyH_take (i := 9) (v := .agg #[.int .i64 1, .int .i64 0]) rfl (by kernel_rfl) (by kernel_rfl) (by kernel_rfl) (fun _ _ _ h => h) (Or.inl ⟨by rfl, ?hy136⟩) hS ?rest136
      case hy136 => (intro w' hSw; obtain ⟨k0, k1, k2, k3⟩ := hSw; go_simp; (try with_reducible rfl); all_goals first | done | rfl)
      try simp only [Act.put, List.getElem_toArray, List.getElem_cons_zero, List.getElem_cons_succ, List.setIfInBounds_toArray, List.set_cons_zero, List.set_cons_succ]
      refine' wpAnyH_take (i := 11) (v := .pointer (some ⟨bo, 0, none⟩)) rfl (by kernel_rfl) (by kernel_rfl) (by kernel_rfl) (fun _ _ _ h => h) (Or.inl ⟨by rfl, ?hy137⟩) hS ?rest137
      case hy137 => (intro w' hSw; obtain ⟨k0, k1, k2, k3⟩ := hSw; go_simp; (try with_reducible rfl); all_goals first | done | rfl)
      try simp only [Act.put, List.getElem_toArray, List.getElem_cons_zero, List.getElem_cons_succ, List.setIfInBounds_toArray, List.set_cons_zero, List.set_cons_succ]
      refine' wpAnyH_take (i := 12) (v := .pointer (some ⟨bo, 14, none⟩)) rfl (by kernel_rfl) (by kernel_rfl) (by kernel_rfl) (fun _ _ _ h => h) (Or.inl ⟨by rfl, ?hy138⟩) hS ?rest138
      case hy138 => (intro w' hSw; obtain ⟨k0, k1, k2, k3⟩ := hSw; go_simp; (try with_reducible rfl); all_goals first | done | rfl)
      try simp only [Act.put, List.getElem_toArray, List.getElem_cons_zero, List.getElem_cons_succ, List.setIfInBounds_toArray, List.set_cons_zero, List.set_cons_succ]
      refine held_one (i := 10) rfl (by kernel_rfl) ?_
      intro K' hK; have HK' := Lib.hid hK; clear hK
      refine wp_call (by rfl) (by rfl) Tryz.func14 (by kernel_rfl) (by kernel_rfl) (by kernel_rfl) (long_c (bc := bc) (bm := bm) ⟨#[109, 97, 114, 103, 105, 110, 45, 108, 101, 102, 116]⟩ 0 0 1 0 (Comp.of H4.out.drew (.tail _ (.tail _ (.tail _ (.tail _ (.head _))))) (.tail _ (.tail _ (.tail _ (.tail _ (.tail _ (.head _))))))) (by decide)) ?_
      rintro e W5 ⟨rfl, hb⟩
      have H5 := Lib.hid (H4.out.drew.of_below hb)
      have hS5 : (fun w' : World => w'.cell? ⟨mp, 20, none⟩ = some (.int .i64 0) ∧ w'.cell? ⟨mp, 21, none⟩ = some (.int .i64 0) ∧ w'.cell? ⟨mz, 0, none⟩ = some (.int .i64 1) ∧ w'.cell? ⟨mz, 1, none⟩ = some (.int .i64 0)) W5 := bx_cells  H5.out (hpa 20 rfl) (hpa 21 rfl)
      refine ⟨_, rfl, HK'.out _ _ ⟨hS5, ?_⟩⟩
      clear HK' K' hS hb
      have hS := hS5
      clear hS5
      try simp only [Act.put, List.getElem_toArray, List.getElem_cons_zero, List.getElem_cons_succ, List.setIfInBounds_toArray, List.set_cons_zero, List.set_cons_succ]
      refine' wpAnyH_take (i := 13) (v := .pointer (some ⟨bo, 20, none⟩)) rfl (by kernel_rfl) (by kernel_rfl) (by kernel_rfl) (fun _ _ _ h => h) (Or.inl ⟨by rfl, ?hy139⟩) hS ?rest139
      case hy139 => (intro w' hSw; obtain ⟨k0, k1, k2, k3⟩ := hSw; go_simp; (try with_reducible rfl); all_goals first | done | rfl)
      try simp only [Act.put, List.getElem_toArray, List.getElem_cons_zero, List.getElem_cons_succ, List.setIfInBounds_toArray, List.set_cons_zero, List.set_cons_succ]
      refine held_one (i := 14) rfl (by kernel_rfl) ?_
      intro K' hK; have HK' := Lib.hid hK; clear hK hS
      refine wp_put (K' := kk) (by rfl) (.tmp 30) (.tmp 27) rfl H5.out rfl (.agg #[.int .i64 1, .int .i64 0]) rfl [.int .i64 1, .int .i64 0] rfl (by simp) size26 (by simp [Value.oneCell']) (kk_keep (by simp)) ?_
      intro W6 HW; have H6 := Lib.hid HW; clear HW
      refine HK'.out _ _ ⟨bx_cells  H6.out (hpa 20 rfl) (hpa 21 rfl), ?_⟩
      clear HK' K'
      try simp only [Act.put, List.getElem_toArray, List.getElem_cons_zero, List.getElem_cons_succ, List.setIfInBounds_toArray, List.set_cons_zero, List.set_cons_succ]
      refine wpAnyH_done (by kernel_rfl) ?_ _
      go_upto_region 6 with fail
      have hS : (fun w' : World => w'.cell? ⟨mp, 28, none⟩ = some (.int .i64 0) ∧ w'.cell? ⟨mp, 29, none⟩ = some (.int .i64 0) ∧ w'.cell? ⟨mz, 0, none⟩ = some (.int .i64 1) ∧ w'.cell? ⟨mz, 1, none⟩ = some (.int .i64 0)) W6 := bx_cells  H6.out (hpa 28 rfl) (hpa 29 rfl)
      refine wp_region_held (S := (fun w' : World => w'.cell? ⟨mp, 28, none⟩ = some (.int .i64 0) ∧ w'.cell? ⟨mp, 29, none⟩ = some (.int .i64 0) ∧ w'.cell? ⟨mz, 0, none⟩ = some (.int .i64 1) ∧ w'.cell? ⟨mz, 1, none⟩ = some (.int .i64 0))) (by kernel_rfl) ?_
      replace hS := (show (fun w' : World => w'.cell? ⟨mp, 28, none⟩ = some (.int .i64 0) ∧ w'.cell? ⟨mp, 29, none⟩ = some (.int .i64 0) ∧ w'.cell? ⟨mz, 0, none⟩ = some (.int .i64 1) ∧ w'.cell? ⟨mz, 1, none⟩ = some (.int .i64 0)) W6.drew from hS)
      change wpAnyH _ _ _ _ _ _ _ _ (World.drew _)
      refine' wpAnyH_take (i := 0) (v := .pointer (some ⟨bo, 0, none⟩)) rfl (by kernel_rfl) (by kernel_rfl) (by kernel_rfl) (fun _ _ _ h => h) (Or.inl ⟨by rfl, ?hy140⟩) hS ?rest140
      case hy140 => (intro w' hSw; obtain ⟨k0, k1, k2, k3⟩ := hSw; go_simp; (try with_reducible rfl); all_goals first | done | rfl)
      try simp only [Act.put, List.getElem_toArray, List.getElem_cons_zero, List.getElem_cons_succ, List.setIfInBounds_toArray, List.set_cons_zero, List.set_cons_succ]
      refine' wpAnyH_take (i := 1) (v := .int .i64 3) rfl (by kernel_rfl) (by kernel_rfl) (by kernel_rfl) (fun _ _ _ h => h) (Or.inl ⟨by rfl, ?hy141⟩) hS ?rest141
      case hy141 => (intro w' hSw; obtain ⟨k0, k1, k2, k3⟩ := hSw; go_simp; (try with_reducible rfl); all_goals first | done | rfl)
      try simp only [Act.put, List.getElem_toArray, List.getElem_cons_zero, List.getElem_cons_succ, List.setIfInBounds_toArray, List.set_cons_zero, List.set_cons_succ]
      refine' wpAnyH_take (i := 2) (v := .pointer (some ⟨bc, 0, none⟩)) rfl (by kernel_rfl) (by kernel_rfl) (by kernel_rfl) (fun _ _ _ h => h) (Or.inl ⟨by rfl, ?hy142⟩) hS ?rest142
      case hy142 => (intro w' hSw; obtain ⟨k0, k1, k2, k3⟩ := hSw; go_simp; (try with_reducible rfl); all_goals first | done | rfl)
      try simp only [Act.put, List.getElem_toArray, List.getElem_cons_zero, List.getElem_cons_succ, List.setIfInBounds_toArray, List.set_cons_zero, List.set_cons_succ]
      refine' wpAnyH_take (i := 3) (v := .string ⟨#[108, 101, 102, 116]⟩) rfl (by kernel_rfl) (by kernel_rfl) (by kernel_rfl) (fun _ _ _ h => h) (Or.inl ⟨by rfl, ?hy143⟩) hS ?rest143
      case hy143 => (intro w' hSw; obtain ⟨k0, k1, k2, k3⟩ := hSw; go_simp; (try with_reducible rfl); all_goals first | done | rfl)
      try simp only [Act.put, List.getElem_toArray, List.getElem_cons_zero, List.getElem_cons_succ, List.setIfInBounds_toArray, List.set_cons_zero, List.set_cons_succ]
      refine' wpAnyH_take (i := 4) (v := .string ⟨#[112, 97, 100, 100, 105, 110, 103, 45, 108, 101, 102, 116]⟩) rfl (by kernel_rfl) (by kernel_rfl) (by kernel_rfl) (fun _ _ _ h => h) (Or.inl ⟨by rfl, ?hy144⟩) hS ?rest144
      case hy144 => (intro w' hSw; obtain ⟨k0, k1, k2, k3⟩ := hSw; go_simp; (try with_reducible rfl); all_goals first | done | rfl)
      try simp only [Act.put, List.getElem_toArray, List.getElem_cons_zero, List.getElem_cons_succ, List.setIfInBounds_toArray, List.set_cons_zero, List.set_cons_succ]
      refine' wpAnyH_take (i := 5) (v := .int .i64 3) rfl (by kernel_rfl) (by kernel_rfl) (by kernel_rfl) (fun _ _ _ h => h) (Or.inl ⟨by rfl, ?hy145⟩) hS ?rest145
      case hy145 => (intro w' hSw; obtain ⟨k0, k1, k2, k3⟩ := hSw; go_simp; (try with_reducible rfl); all_goals first | done | rfl)
      try simp only [Act.put, List.getElem_toArray, List.getElem_cons_zero, List.getElem_cons_succ, List.setIfInBounds_toArray, List.set_cons_zero, List.set_cons_succ]
      refine' wpAnyH_take (i := 6) (v := .pointer (some ⟨mp, 22, none⟩)) rfl (by kernel_rfl) (by kernel_rfl) (by kernel_rfl) (fun _ _ _ h => h) (Or.inl ⟨by rfl, ?hy146⟩) hS ?rest146
      case hy146 => (intro w' hSw; obtain ⟨k0, k1, k2, k3⟩ := hSw; go_simp; (try with_reducible rfl); all_goals first | done | rfl)
      try simp only [Act.put, List.getElem_toArray, List.getElem_cons_zero, List.getElem_cons_succ, List.setIfInBounds_toArray, List.set_cons_zero, List.set_cons_succ]
      refine' wpAnyH_take (i := 7) (v := .pointer (some ⟨mp, 28, none⟩)) rfl (by kernel_rfl) (by kernel_rfl) (by kernel_rfl) (fun _ _ _ h => h) (Or.inl ⟨by rfl, ?hy147⟩) hS ?rest147
      case hy147 => (intro w' hSw; obtain ⟨k0, k1, k2, k3⟩ := hSw; go_simp; (try with_reducible rfl); all_goals first | done | rfl)
      try simp only [Act.put, List.getElem_toArray, List.getElem_cons_zero, List.getElem_cons_succ, List.setIfInBounds_toArray, List.set_cons_zero, List.set_cons_succ]
      refine' wpAnyH_take (i := 8) (v := .agg #[.int .i64 0, .int .i64 0]) rfl (by kernel_rfl) (by kernel_rfl) (by kernel_rfl) (fun _ _ _ h => h) (Or.inl ⟨by rfl, ?hy148⟩) hS ?rest148
      case hy148 => (intro w' hSw; obtain ⟨k0, k1, k2, k3⟩ := hSw; go_simp; (try with_reducible rfl); all_goals first | done | rfl)
      try simp only [Act.put, List.getElem_toArray, List.getElem_cons_zero, List.getElem_cons_succ, List.setIfInBounds_toArray, List.set_cons_zero, List.set_cons_succ]
      refine' wpAnyH_take (i := 9) (v := .agg #[.int .i64 1, .int .i64 0]) rfl (by kernel_rfl) (by kernel_rfl) (by kernel_rfl) (fun _ _ _ h => h) (Or.inl ⟨by rfl, ?hy149⟩) hS ?rest149
      case hy149 => (intro w' hSw; obtain ⟨k0, k1, k2, k3⟩ := hSw; go_simp; (try with_reducible rfl); all_goals first | done | rfl)
      try simp only [Act.put, List.getElem_toArray, List.getElem_cons_zero, List.getElem_cons_succ, List.setIfInBounds_toArray, List.set_cons_zero, List.set_cons_succ]
      refine' wpAnyH_take (i := 11) (v := .pointer (some ⟨bo, 0, none⟩)) rfl (by kernel_rfl) (by kernel_rfl) (by kernel_rfl) (fun _ _ _ h => h) (Or.inl ⟨by rfl, ?hy150⟩) hS ?rest150
      case hy150 => (intro w' hSw; obtain ⟨k0, k1, k2, k3⟩ := hSw; go_simp; (try with_reducible rfl); all_goals first | done | rfl)
      try simp only [Act.put, List.getElem_toArray, List.getElem_cons_zero, List.getElem_cons_succ, List.setIfInBounds_toArray, List.set_cons_zero, List.set_cons_succ]
      refine' wpAnyH_take (i := 12) (v := .pointer (some ⟨bo, 22, none⟩)) rfl (by kernel_rfl) (by kernel_rfl) (by kernel_rfl) (fun _ _ _ h => h) (Or.inl ⟨by rfl, ?hy151⟩) hS ?rest151
      case hy151 => (intro w' hSw; obtain ⟨k0, k1, k2, k3⟩ := hSw; go_simp; (try with_reducible rfl); all_goals first | done | rfl)
      try simp only [Act.put, List.getElem_toArray, List.getElem_cons_zero, List.getElem_cons_succ, List.setIfInBounds_toArray, List.set_cons_zero, List.set_cons_succ]
      refine held_one (i := 10) rfl (by kernel_rfl) ?_
      intro K' hK; have HK' := Lib.hid hK; clear hK
      refine wp_call (by rfl) (by rfl) Tryz.func14 (by kernel_rfl) (by kernel_rfl) (by kernel_rfl) (long_c (bc := bc) (bm := bm) ⟨#[112, 97, 100, 100, 105, 110, 103, 45, 108, 101, 102, 116]⟩ 0 0 1 0 (Comp.of H6.out.drew (.tail _ (.tail _ (.tail _ (.tail _ (.head _))))) (.tail _ (.tail _ (.tail _ (.tail _ (.tail _ (.head _))))))) (by decide)) ?_
      rintro e W7 ⟨rfl, hb⟩
      have H7 := Lib.hid (H6.out.drew.of_below hb)
      have hS7 : (fun w' : World => w'.cell? ⟨mp, 28, none⟩ = some (.int .i64 0) ∧ w'.cell? ⟨mp, 29, none⟩ = some (.int .i64 0) ∧ w'.cell? ⟨mz, 0, none⟩ = some (.int .i64 1) ∧ w'.cell? ⟨mz, 1, none⟩ = some (.int .i64 0)) W7 := bx_cells  H7.out (hpa 28 rfl) (hpa 29 rfl)
      refine ⟨_, rfl, HK'.out _ _ ⟨hS7, ?_⟩⟩
      clear HK' K' hS hb
      have hS := hS7
      clear hS7
      try simp only [Act.put, List.getElem_toArray, List.getElem_cons_zero, List.getElem_cons_succ, List.setIfInBounds_toArray, List.set_cons_zero, List.set_cons_succ]
      refine' wpAnyH_take (i := 13) (v := .pointer (some ⟨bo, 28, none⟩)) rfl (by kernel_rfl) (by kernel_rfl) (by kernel_rfl) (fun _ _ _ h => h) (Or.inl ⟨by rfl, ?hy152⟩) hS ?rest152
      case hy152 => (intro w' hSw; obtain ⟨k0, k1, k2, k3⟩ := hSw; go_simp; (try with_reducible rfl); all_goals first | done | rfl)
      try simp only [Act.put, List.getElem_toArray, List.getElem_cons_zero, List.getElem_cons_succ, List.setIfInBounds_toArray, List.set_cons_zero, List.set_cons_succ]
      refine held_one (i := 14) rfl (by kernel_rfl) ?_
      intro K' hK; have HK' := Lib.hid hK; clear hK hS
      refine wp_put (K' := kk) (by rfl) (.tmp 44) (.tmp 41) rfl H7.out rfl (.agg #[.int .i64 1, .int .i64 0]) rfl [.int .i64 1, .int .i64 0] rfl (by simp) size26 (by simp [Value.oneCell']) (kk_keep (by simp)) ?_
      intro W8 HW; have H8 := Lib.hid HW; clear HW
      refine HK'.out _ _ ⟨bx_cells  H8.out (hpa 28 rfl) (hpa 29 rfl), ?_⟩
      clear HK' K'
      try simp only [Act.put, List.getElem_toArray, List.getElem_cons_zero, List.getElem_cons_succ, List.setIfInBounds_toArray, List.set_cons_zero, List.set_cons_succ]
      refine wpAnyH_done (by kernel_rfl) ?_ _
      go_upto_region 7 with fail
      have hS : (fun w' : World => w'.cell? ⟨mp, 33, none⟩ = some (.int .i64 0) ∧ w'.cell? ⟨mp, 33, none⟩ = some (.int .i64 0) ∧ w'.cell? ⟨mz, 0, none⟩ = some (.int .i64 1) ∧ w'.cell? ⟨mz, 1, none⟩ = some (.int .i64 0)) W8 := bx_cells  H8.out (hpa 33 rfl) (hpa 33 rfl)
      refine wp_region_held (S := (fun w' : World => w'.cell? ⟨mp, 33, none⟩ = some (.int .i64 0) ∧ w'.cell? ⟨mp, 33, none⟩ = some (.int .i64 0) ∧ w'.cell? ⟨mz, 0, none⟩ = some (.int .i64 1) ∧ w'.cell? ⟨mz, 1, none⟩ = some (.int .i64 0))) (by kernel_rfl) ?_
      replace hS := (show (fun w' : World => w'.cell? ⟨mp, 33, none⟩ = some (.int .i64 0) ∧ w'.cell? ⟨mp, 33, none⟩ = some (.int .i64 0) ∧ w'.cell? ⟨mz, 0, none⟩ = some (.int .i64 1) ∧ w'.cell? ⟨mz, 1, none⟩ = some (.int .i64 0)) W8.drew from hS)
      change wpAnyH _ _ _ _ _ _ _ _ (World.drew _)
      refine' wpAnyH_take (i := 0) (v := .pointer (some ⟨bo, 0, none⟩)) rfl (by kernel_rfl) (by kernel_rfl) (by kernel_rfl) (fun _ _ _ h => h) (Or.inl ⟨by rfl, ?hy153⟩) hS ?rest153
      case hy153 => (intro w' hSw; obtain ⟨k0, k1, k2, k3⟩ := hSw; go_simp; (try with_reducible rfl); all_goals first | done | rfl)
      try simp only [Act.put, List.getElem_toArray, List.getElem_cons_zero, List.getElem_cons_succ, List.setIfInBounds_toArray, List.set_cons_zero, List.set_cons_succ]
      refine' wpAnyH_take (i := 1) (v := .int .i64 3) rfl (by kernel_rfl) (by kernel_rfl) (by kernel_rfl) (fun _ _ _ h => h) (Or.inl ⟨by rfl, ?hy154⟩) hS ?rest154
      case hy154 => (intro w' hSw; obtain ⟨k0, k1, k2, k3⟩ := hSw; go_simp; (try with_reducible rfl); all_goals first | done | rfl)
      try simp only [Act.put, List.getElem_toArray, List.getElem_cons_zero, List.getElem_cons_succ, List.setIfInBounds_toArray, List.set_cons_zero, List.set_cons_succ]
      refine' wpAnyH_take (i := 2) (v := .pointer (some ⟨bc, 0, none⟩)) rfl (by kernel_rfl) (by kernel_rfl) (by kernel_rfl) (fun _ _ _ h => h) (Or.inl ⟨by rfl, ?hy155⟩) hS ?rest155
      case hy155 => (intro w' hSw; obtain ⟨k0, k1, k2, k3⟩ := hSw; go_simp; (try with_reducible rfl); all_goals first | done | rfl)
      try simp only [Act.put, List.getElem_toArray, List.getElem_cons_zero, List.getElem_cons_succ, List.setIfInBounds_toArray, List.set_cons_zero, List.set_cons_succ]
      refine' wpAnyH_take (i := 3) (v := .string ⟨#[108, 101, 102, 116]⟩) rfl (by kernel_rfl) (by kernel_rfl) (by kernel_rfl) (fun _ _ _ h => h) (Or.inl ⟨by rfl, ?hy156⟩) hS ?rest156
      case hy156 => (intro w' hSw; obtain ⟨k0, k1, k2, k3⟩ := hSw; go_simp; (try with_reducible rfl); all_goals first | done | rfl)
      try simp only [Act.put, List.getElem_toArray, List.getElem_cons_zero, List.getElem_cons_succ, List.setIfInBounds_toArray, List.set_cons_zero, List.set_cons_succ]
      refine' wpAnyH_take (i := 4) (v := .string ⟨#[98, 111, 114, 100, 101, 114, 45, 108, 101, 102, 116]⟩) rfl (by kernel_rfl) (by kernel_rfl) (by kernel_rfl) (fun _ _ _ h => h) (Or.inl ⟨by rfl, ?hy157⟩) hS ?rest157
      case hy157 => (intro w' hSw; obtain ⟨k0, k1, k2, k3⟩ := hSw; go_simp; (try with_reducible rfl); all_goals first | done | rfl)
      try simp only [Act.put, List.getElem_toArray, List.getElem_cons_zero, List.getElem_cons_succ, List.setIfInBounds_toArray, List.set_cons_zero, List.set_cons_succ]
      refine' wpAnyH_take (i := 5) (v := .string ⟨#[98, 111, 114, 100, 101, 114, 45, 108, 101, 102, 116, 45, 119, 105, 100, 116, 104]⟩) rfl (by kernel_rfl) (by kernel_rfl) (by kernel_rfl) (fun _ _ _ h => h) (Or.inl ⟨by rfl, ?hy158⟩) hS ?rest158
      case hy158 => (intro w' hSw; obtain ⟨k0, k1, k2, k3⟩ := hSw; go_simp; (try with_reducible rfl); all_goals first | done | rfl)
      try simp only [Act.put, List.getElem_toArray, List.getElem_cons_zero, List.getElem_cons_succ, List.setIfInBounds_toArray, List.set_cons_zero, List.set_cons_succ]
      refine' wpAnyH_take (i := 6) (v := .int .i64 3) rfl (by kernel_rfl) (by kernel_rfl) (by kernel_rfl) (fun _ _ _ h => h) (Or.inl ⟨by rfl, ?hy159⟩) hS ?rest159
      case hy159 => (intro w' hSw; obtain ⟨k0, k1, k2, k3⟩ := hSw; go_simp; (try with_reducible rfl); all_goals first | done | rfl)
      try simp only [Act.put, List.getElem_toArray, List.getElem_cons_zero, List.getElem_cons_succ, List.setIfInBounds_toArray, List.set_cons_zero, List.set_cons_succ]
      refine' wpAnyH_take (i := 7) (v := .pointer (some ⟨mp, 30, none⟩)) rfl (by kernel_rfl) (by kernel_rfl) (by kernel_rfl) (fun _ _ _ h => h) (Or.inl ⟨by rfl, ?hy160⟩) hS ?rest160
      case hy160 => (intro w' hSw; obtain ⟨k0, k1, k2, k3⟩ := hSw; go_simp; (try with_reducible rfl); all_goals first | done | rfl)
      try simp only [Act.put, List.getElem_toArray, List.getElem_cons_zero, List.getElem_cons_succ, List.setIfInBounds_toArray, List.set_cons_zero, List.set_cons_succ]
      refine' wpAnyH_take (i := 8) (v := .pointer (some ⟨mp, 33, none⟩)) rfl (by kernel_rfl) (by kernel_rfl) (by kernel_rfl) (fun _ _ _ h => h) (Or.inl ⟨by rfl, ?hy161⟩) hS ?rest161
      case hy161 => (intro w' hSw; obtain ⟨k0, k1, k2, k3⟩ := hSw; go_simp; (try with_reducible rfl); all_goals first | done | rfl)
      try simp only [Act.put, List.getElem_toArray, List.getElem_cons_zero, List.getElem_cons_succ, List.setIfInBounds_toArray, List.set_cons_zero, List.set_cons_succ]
      refine' wpAnyH_take (i := 9) (v := .int .i64 0) rfl (by kernel_rfl) (by kernel_rfl) (by kernel_rfl) (fun _ _ _ h => h) (Or.inl ⟨by rfl, ?hy162⟩) hS ?rest162
      case hy162 => (intro w' hSw; obtain ⟨k0, k1, k2, k3⟩ := hSw; go_simp; (try with_reducible rfl); all_goals first | done | rfl)
      try simp only [Act.put, List.getElem_toArray, List.getElem_cons_zero, List.getElem_cons_succ, List.setIfInBounds_toArray, List.set_cons_zero, List.set_cons_succ]
      refine' wpAnyH_take (i := 10) (v := .agg #[.int .i64 1, .int .i64 0]) rfl (by kernel_rfl) (by kernel_rfl) (by kernel_rfl) (fun _ _ _ h => h) (Or.inl ⟨by rfl, ?hy163⟩) hS ?rest163
      case hy163 => (intro w' hSw; obtain ⟨k0, k1, k2, k3⟩ := hSw; go_simp; (try with_reducible rfl); all_goals first | done | rfl)
      try simp only [Act.put, List.getElem_toArray, List.getElem_cons_zero, List.getElem_cons_succ, List.setIfInBounds_toArray, List.set_cons_zero, List.set_cons_succ]
      refine' wpAnyH_take (i := 11) (v := .agg #[.int .i64 1, .int .i64 0]) rfl (by kernel_rfl) (by kernel_rfl) (by kernel_rfl) (fun _ _ _ h => h) (Or.inl ⟨by rfl, ?hy164⟩) hS ?rest164
      case hy164 => (intro w' hSw; obtain ⟨k0, k1, k2, k3⟩ := hSw; go_simp; (try with_reducible rfl); all_goals first | done | rfl)
      try simp only [Act.put, List.getElem_toArray, List.getElem_cons_zero, List.getElem_cons_succ, List.setIfInBounds_toArray, List.set_cons_zero, List.set_cons_succ]
      refine' wpAnyH_take (i := 14) (v := .pointer (some ⟨bo, 0, none⟩)) rfl (by kernel_rfl) (by kernel_rfl) (by kernel_rfl) (fun _ _ _ h => h) (Or.inl ⟨by rfl, ?hy165⟩) hS ?rest165
      case hy165 => (intro w' hSw; obtain ⟨k0, k1, k2, k3⟩ := hSw; go_simp; (try with_reducible rfl); all_goals first | done | rfl)
      try simp only [Act.put, List.getElem_toArray, List.getElem_cons_zero, List.getElem_cons_succ, List.setIfInBounds_toArray, List.set_cons_zero, List.set_cons_succ]
      refine' wpAnyH_take (i := 15) (v := .pointer (some ⟨bo, 30, none⟩)) rfl (by kernel_rfl) (by kernel_rfl) (by kernel_rfl) (fun _ _ _ h => h) (Or.inl ⟨by rfl, ?hy166⟩) hS ?rest166
      case hy166 => (intro w' hSw; obtain ⟨k0, k1, k2, k3⟩ := hSw; go_simp; (try with_reducible rfl); all_goals first | done | rfl)
      try simp only [Act.put, List.getElem_toArray, List.getElem_cons_zero, List.getElem_cons_succ, List.setIfInBounds_toArray, List.set_cons_zero, List.set_cons_succ]
      refine held_one (i := 12) rfl (by kernel_rfl) ?_
      intro K' hK; have HK' := Lib.hid hK; clear hK
      refine wp_call (by rfl) (by rfl) Tryz.func14 (by kernel_rfl) (by kernel_rfl) (by kernel_rfl) (long_c (bc := bc) (bm := bm) ⟨#[98, 111, 114, 100, 101, 114, 45, 108, 101, 102, 116, 45, 119, 105, 100, 116, 104]⟩ 1 0 1 0 (Comp.of H8.out.drew (.tail _ (.tail _ (.tail _ (.tail _ (.head _))))) (.tail _ (.tail _ (.tail _ (.tail _ (.tail _ (.head _))))))) (by decide)) ?_
      rintro e W9 ⟨rfl, hb⟩
      have H9 := Lib.hid (H8.out.drew.of_below hb)
      have hS9 : (fun w' : World => w'.cell? ⟨mp, 33, none⟩ = some (.int .i64 0) ∧ w'.cell? ⟨mp, 33, none⟩ = some (.int .i64 0) ∧ w'.cell? ⟨mz, 0, none⟩ = some (.int .i64 1) ∧ w'.cell? ⟨mz, 1, none⟩ = some (.int .i64 0)) W9 := bx_cells  H9.out (hpa 33 rfl) (hpa 33 rfl)
      refine ⟨_, rfl, HK'.out _ _ ⟨hS9, ?_⟩⟩
      clear HK' K' hS hb
      have hS := hS9
      clear hS9
      try simp only [Act.put, List.getElem_toArray, List.getElem_cons_zero, List.getElem_cons_succ, List.setIfInBounds_toArray, List.set_cons_zero, List.set_cons_succ]
      refine' wpAnyH_take (i := 13) (v := .int .i64 0) rfl (by kernel_rfl) (by kernel_rfl) (by kernel_rfl) (fun _ _ _ h => h) (Or.inl ⟨by rfl, ?hy167⟩) hS ?rest167
      case hy167 => (intro w' hSw; obtain ⟨k0, k1, k2, k3⟩ := hSw; go_simp; (try with_reducible rfl); all_goals first | done | rfl)
      try simp only [Act.put, List.getElem_toArray, List.getElem_cons_zero, List.getElem_cons_succ, List.setIfInBounds_toArray, List.set_cons_zero, List.set_cons_succ]
      refine' wpAnyH_take (i := 16) (v := .pointer (some ⟨bo, 33, none⟩)) rfl (by kernel_rfl) (by kernel_rfl) (by kernel_rfl) (fun _ _ _ h => h) (Or.inl ⟨by rfl, ?hy168⟩) hS ?rest168
      case hy168 => (intro w' hSw; obtain ⟨k0, k1, k2, k3⟩ := hSw; go_simp; (try with_reducible rfl); all_goals first | done | rfl)
      try simp only [Act.put, List.getElem_toArray, List.getElem_cons_zero, List.getElem_cons_succ, List.setIfInBounds_toArray, List.set_cons_zero, List.set_cons_succ]
      refine held_one (i := 17) rfl (by kernel_rfl) ?_
      intro K' hK; have HK' := Lib.hid hK; clear hK hS
      refine wp_put (K' := kk) (by rfl) (.tmp 61) (.tmp 58) rfl H9.out rfl (.int .i64 0) rfl [.int .i64 0] rfl (by simp) size3 (by simp [Value.oneCell']) (kk_keep (by simp)) ?_
      intro W10 HW; have H10 := Lib.hid HW; clear HW
      refine HK'.out _ _ ⟨bx_cells  H10.out (hpa 33 rfl) (hpa 33 rfl), ?_⟩
      clear HK' K'
      try simp only [Act.put, List.getElem_toArray, List.getElem_cons_zero, List.getElem_cons_succ, List.setIfInBounds_toArray, List.set_cons_zero, List.set_cons_succ]
      refine wpAnyH_done (by kernel_rfl) ?_ _
      go_wp2_with fail
      go_roundg (0)
      case measure => have := Hg.out; omega
      case rel => exact ⟨4, by decide, by decide, by decide, rfl, H10.out⟩
    · go_wp2_with fail
      refine ⟨rfl, _, results_none rfl _ _ _, rfl, ?_⟩
      have q := St.sh [_, _, _, _, _, _] [1, 2, 3, 4, 5, 0] (by decide) H4.out
      exact q.drop.drop.drop
end Go.Proofs.YtflokpokaohikaaGreatDoor
