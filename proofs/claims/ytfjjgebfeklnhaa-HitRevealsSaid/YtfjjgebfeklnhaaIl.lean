/-
  hit.find.
-/
import Derived.Test.YtfjjgebfeklnhaaIj
set_option linter.unusedVariables false
set_option linter.unusedSimpArgs false
namespace Go.Proofs.Ytfjjgebfeklnhaa
open Go.RowKit Go.Shelf Go.K

attribute [local go_sem] Oper.semAt_some

theorem results_cells2 {fn : Func} {p q : Tmp} {t1 t2 : TypeId} (h : fn.results = #[.cell p t1, .cell q t2]) (tmps : Array Value) (P : Program) (w : World) {a1 a2 : Addr} {v1 v2 : Value} (h1 : tmps.getD p undef = .pointer (some a1)) (h2 : tmps.getD q undef = .pointer (some a2))
    (e1 : (loadVar t1 a1).run P w = .ok v1 w) (e2 : (loadVar t2 a2).run P w = .ok v2 w) : (results fn tmps).run P w = .ok (.tuple #[v1, v2]) w := by
  simp only [results, h]
  simp only [Array.getD_eq_getD_getElem?] at h1 h2
  simp [Sem.run_bind, Result.andThen, asAddr, h1, h2, e1, e2]
theorem load_bool {W : World} {b : Nat} {v : Bool} (h : Blk W b #[.bool v] 4) : (loadVar 4 ⟨b, 0, none⟩).run Try.prog W = .ok (.bool v) W := by
  have c := h.one.1
  simp [loadVar, go_sem, c]

/-- the first box of a node -/
def isBox (nd : Int) (x : Ft) : Bool := x.a.kd == 1 && x.a.nd == nd
def findT (nd : Int) (t : Ft) : Option (Ft × R4) := (bxs 0 0 t).find? (fun p => isBox nd p.1)
abbrev zFt : Ft := .mk Fz []
mutual
theorem FtAt.sub {w : World} : ∀ {t : Ft} (x y : Int), FtAt w t → ∀ p ∈ bxs x y t, FtAt w p.1 ∧ p.1.sz ≤ t.sz
  | .mk a ks, x, y, h, p, hp => by
    rw [bxs] at hp
    rcases List.mem_cons.1 hp with e | hp
    · rw [e]; exact ⟨h, Nat.le_refl _⟩
    · have := FtAt.subL _ _ h.kid p hp
      refine ⟨this.1, ?_⟩
      rw [Ft.sz]
      have := this.2
      simp only [Ft.ks] at this
      omega
theorem FtAt.subL {w : World} : ∀ {ks : List Ft} (x y : Int), (∀ k ∈ ks, FtAt w k) → ∀ p ∈ bxsL x y ks, FtAt w p.1 ∧ p.1.sz ≤ Ft.szL ks
  | [], x, y, h, p, hp => by rw [bxsL] at hp; cases hp
  | k :: ks, x, y, h, p, hp => by
    rw [bxsL] at hp
    rw [Ft.szL]
    rcases List.mem_append.1 hp with q | q
    · have := FtAt.sub x y (h k (by simp)) p q
      exact ⟨this.1, by omega⟩
    · have := FtAt.subL x y (fun k' hk' => h k' (by simp [hk'])) p q
      exact ⟨this.1, by omega⟩
end
abbrev FiL (m : Nat) (t : Ft) (nd : Int) (r : Ft) (ok : Bool) : List As :=
  [As.cells (m + 1 + 1) (fc r).toArray 51, As.cells (m + 1 + 1 + 1) #[.bool ok] 4, As.cells m (fc t).toArray 51, As.cells (m + 1) #[.int .i64 nd] 3, As.cells (m + 1 + 1 + 1 + 1) (fc t).toArray 51]
theorem fiL_co (m : Nat) (t : Ft) (nd : Int) (r : Ft) (ok : Bool) : ∀ A ∈ FiL m t nd r ok, A.co := by
  intro A hA
  simp only [List.mem_cons, List.not_mem_nil, or_false] at hA
  rcases hA with rfl | rfl | rfl | rfl | rfl <;> exact As.cells_co _ _ _
abbrev FiS (m : Nat) : Nat → Prop := fun k => k = m + 1 + 1 ∨ k = m + 1 + 1 + 1
def FiPost (nd : Int) (t : Ft) (w : World) (e : Ending) (w' : World) : Prop :=
  e = .returned (.tuple #[.agg (fc (((findT nd t).map (·.1)).getD zFt)).toArray, .bool (findT nd t).isSome]) ∧ Below w.heap.size w w'

set_option maxRecDepth 100000 in
set_option maxHeartbeats 1000000 in
theorem find_c (t : Ft) (nd : Int) (w : World) (hT : FtAt w t) (hsz : t.sz ≤ 100000) :
    Calls Try.prog 46 #[.agg (fc t).toArray, .int .i64 nd] w (FiPost nd t w) := by
  have HT := Lib.hid hT
  clear hT
  have z51 := zv51
  refine (callsIn_wide (n := 6)).1 ?_
  refine callsIn_of_wp_marks Try.func46 rfl trivial ?_ rfl
  simp only [Try.ntmps46, List.size_toArray, List.length_cons, List.length_nil, Nat.reduceAdd, Nat.reduceSub, Array.replicate_succ, Array.replicate_zero, List.push_toArray, List.append_toArray, List.nil_append, List.cons_append]
  have h0 := (((((St.start w (Below.refl _ w)).new (fc t).toArray 51).new #[.int .i64 nd] 3).new (fv Fz 0).toArray 51).new #[.bool false] 4).new (fc t).toArray 51
  have h1 := St.sh [_, _, _, _, _] [2, 1, 4, 3, 0] (by decide) h0
  simp only [List.map_cons, List.map_nil, List.getD_cons_zero, List.getD_cons_succ, List.cons_append, List.nil_append, World.size_alloc] at h1
  have hb1 : Blk (((((w.alloc (.cells (fc t).toArray 51)).alloc (.cells #[.int .i64 nd] 3)).alloc (.cells (fv Fz 0).toArray 51)).alloc (.cells #[.bool false] 4))) w.heap.size (fc t).toArray 51 :=
    ((((Blk.new w (fc t).toArray 51).kept (S := fun _ => False) ((Fr.refl _ _).alloc _) (fun q => q)).kept (S := fun _ => False) ((Fr.refl _ _).alloc _) (fun q => q)).kept (S := fun _ => False) ((Fr.refl _ _).alloc _) (fun q => q))
  have HB1 := Lib.hid hb1.range
  clear hb1
  gi_wp2_with (first
    | (refine rg_load_in rfl (.tmp 2) rfl (fc t) HB1.out rfl rfl Try.underlying51 rfl size51 ?_)
    | (refine ⟨trivial, ?_⟩; gi_at_call 34; refine (callsIn_wide.2 (all_any _ _)).mono ?_; rintro e w' ⟨rfl, rfl⟩))
  clear z51
  obtain ⟨W0, hW0⟩ : ∃ W0, ((((w.alloc (.cells (fc t).toArray 51)).alloc (.cells #[.int .i64 nd] 3)).alloc (.cells (fv Fz 0).toArray 51)).alloc (.cells #[.bool false] 4)).alloc (.cells (fc t).toArray 51) = W0 := ⟨_, rfl⟩
  have hsz0 : W0.heap.size = w.heap.size + 5 := by rw [← hW0]; simp
  have h2 : St w W0 (FiL w.heap.size t nd zFt false) := by rw [← hW0]; exact h1
  rw [hW0]
  clear h0 h1 hW0 HB1
  obtain ⟨m, hm⟩ : ∃ m, w.heap.size = m := ⟨_, rfl⟩
  have hbel := h2.bel
  have hTb : ∀ k, t.blk k → ¬ FiS m k := fun k hk q => by have := HT.out.blt k hk; rcases q with q | q <;> omega
  simp only [World.size_alloc, hm] at h2 hsz0 ⊢
  refine wpIn_rangeFunc_ownH rfl (by omega) (gf := 44) (lb := #[.pointer (some ⟨m + 1 + 1 + 1 + 1, 0, none⟩)]) rfl trivial (enters_of Try.func44 (by kernel_rfl) rfl)
    (all_stops Fence.wide rfl _ trivial trivial rfl (m + 1 + 1 + 1 + 1) (FiS m) t hsz W0 (fun k hk => by rcases hk with q | q <;> omega) (St.sh [_, _, _, _, _] [4, 0, 1, 2, 3] (by decide) h2).blk.1 (HT.out.stay hbel) hTb) CK.trans (fun W l o o' _ h1 h2 _ => ck_b W l o o' h1 h2) (Below.refl _ _) (fun _ => rfl)
    (fun pre W => (∀ p ∈ pre, isBox nd p.1 = false) ∧ St w W (FiL m t nd zFt false))
    (fun c' pre W => c' = .ret ∧ ∃ ini last, pre = ini ++ [last] ∧ (∀ p ∈ ini, isBox nd p.1 = false) ∧ isBox nd last.1 = true ∧ St w W (FiL m t nd last.1 true))
    (OwnFrom.and (ownFrom_pure _ _) (st_own (fun _ => fiL_co _ _ _ _ _) (by omega)))
    (fun c' => by
      intro pre X Y row hs hg hr
      obtain ⟨h3, ini, last, h4, h5, h6, h7⟩ := hs
      exact ⟨h3, ini, last, h4, h5, h6, st_own (β := Unit) (L := fun _ => FiL m t nd last.1 true) (fun _ => fiL_co _ _ _ _ _) (B := W0.heap.size) (by omega) () X Y row h7 hg hr⟩)
    ⟨by simp, h2⟩
    (fun x' a' W => ∃ Bx, m + 4 < Bx ∧ Blk W Bx (fc x'.1).toArray 51 ∧ a' = { tmps := #[.agg (fc t).toArray, .int .i64 nd, .pointer (some ⟨m, 0, none⟩), .pointer (some ⟨m + 1, 0, none⟩), .pointer (some ⟨m + 1 + 1, 0, none⟩), .pointer (some ⟨m + 1 + 1 + 1, 0, none⟩), undef, .pointer (some ⟨Bx, 0, none⟩), .agg (fc t).toArray, .func (.func 44) #[] #[.pointer (some ⟨m + 1 + 1 + 1 + 1, 0, none⟩)], rv x'.2, .agg (fc x'.1).toArray, undef, undef, undef, undef, undef, undef, undef, undef, undef, undef, undef], defers := [] })
    (fun x' a' => by
      intro _ X Y row hs hg hr
      obtain ⟨Bx, h3, h4, h5⟩ := hs
      exact ⟨Bx, h3, blk_own (β := Unit) Bx (fun _ => (fc x'.1).toArray) 51 W0.heap.size () X Y row h4 hg hr, h5⟩)
    ?assign ?body ?done ?stop
  case assign =>
    rintro l pre x' W K ⟨hp, hst⟩ hK
    have z51 := zv51
    have HNW := Lib.hid (show Blk (W.alloc (.cells (fv Fz 0).toArray 51)) W.heap.size (fv Fz 0).toArray 51 from Blk.new _ _ _)
    have HK := Lib.hid hK
    have HST := Lib.hid hst
    clear hK hst
    gi_wp2_with (refine bw_store_in rfl (.tmp 7) (.tmp 11) rfl ((Below.refl W.heap.size W).alloc (Nat.le_refl _) _) (Nat.le_refl _) (Nat.le_refl _) HNW.out (fc x'.1) rfl rfl rfl rfl size51 (fc_one _) ?_; intro W4 hb4 hk4 _; have HB4 := Lib.hid hb4; have HK4 := Lib.hid hk4; clear hb4 hk4)
    have hs1 := HST.out.bel.size
    have hlt := (St.sh [_, _, _, _, _] [4, 0, 1, 2, 3] (by decide) HST.out).blk.1.lt
    exact HK.out _ _ (keepsFrom_below HB4.out _) (CK.below HB4.out) ⟨hp, HST.out.of_below HB4.out⟩ ⟨W.heap.size, by omega, HK4.out, rfl⟩
  case body =>
    rintro l pre x' a' W hl ⟨r, hr⟩ ⟨hp, hst⟩ ⟨Bx, hBx, bX, rfl⟩ hlt
    obtain ⟨xf, xr⟩ := x'
    simp only at bX ⊢
    obtain ⟨c0, c1, -⟩ := bigI xf.a xf.ks.length 51 W Bx bX
    obtain ⟨cN, -⟩ := (hst.blkm (b := m + 1) (.tail _ (.tail _ (.tail _ (.head _))))).one
    obtain ⟨cB, fB⟩ := (hst.blkm (b := m + 1 + 1 + 1) (.tail _ (.head _))).one
    have HP := Lib.hid hp
    have HST := Lib.hid hst
    have HBX := Lib.hid bX
    have HRG := Lib.hid bX.range
    obtain ⟨q1, hq1⟩ : ∃ q, (xf.a.kd == 1) = q := ⟨_, rfl⟩
    obtain ⟨q2, hq2⟩ : ∃ q, (xf.a.nd == nd) = q := ⟨_, rfl⟩
    have HIB := Lib.hid (show isBox nd xf = (q1 && q2) by rw [← hq1, ← hq2]; rfl)
    clear hst hp bX
    cases q1 with
    | false =>
      gi_wp2
      exact ⟨KeepsFrom.refl _ _, CK.refl _ _, fun p hp' => (List.mem_append.1 hp').elim (HP.out p) (fun e => by simp at e; subst e; rw [HIB.out]; rfl), HST.out⟩
    | true =>
      cases q2 with
      | false =>
        gi_wp2
        exact ⟨KeepsFrom.refl _ _, CK.refl _ _, fun p hp' => (List.mem_append.1 hp').elim (HP.out p) (fun e => by simp at e; subst e; rw [HIB.out]; rfl), HST.out⟩
      | true =>
        gi_wp2_with (first
          | (refine rg_load_in rfl (.tmp 7) rfl (fc xf) HRG.out rfl rfl Try.underlying51 rfl size51 ?_)
          | (refine st_store_in rfl (.tmp 4) (.tmp 21) rfl HST.out (fc xf) rfl rfl rfl rfl size51 (fc_one _) ?_; intro W4 hs4 hf4; have HS4 := Lib.hid hs4; have HF4 := Lib.hid hf4; clear cB fB; obtain ⟨cB, fB⟩ := (hs4.blkm (b := m + 1 + 1 + 1) (.tail _ (.head _))).one; clear hf4 hs4))
        have h5 := (HS4.out.swap.set 0 (.bool true)).swap
        have hF5 : Fr (FiS m) W (W4.setCell ⟨m + 1 + 1 + 1, 0, none⟩ (.bool true)) := Fr.setCell (p := ⟨m + 1 + 1 + 1, 0, none⟩) (HF4.out.mono (fun k _ q => .inl q)) (fun _ => .inr rfl) _
        refine ⟨keepsFrom_fr hF5 (fun k _ hk => ?_) _, rfl, pre, (xf, xr), rfl, HP.out, HIB.out, h5⟩
        rcases hk with rfl | rfl
        · exact ⟨_, HST.out.blkm (.head _), rfl⟩
        · exact ⟨_, HST.out.blkm (.tail _ (.head _)), rfl⟩
  case done =>
    rintro D ys W hD rfl ⟨hp, hst⟩ hK
    have HP := Lib.hid hp
    have HST := Lib.hid hst
    have HK := Lib.hid hK
    have z51 := zv51
    clear hst hp hK
    gi_wp2_with (refine st_store_in rfl (.tmp 4) (.tmp 22) rfl HST.out (fv Fz 0) rfl rfl rfl rfl size51 (fv_one _ _) ?_; intro W4 hs4 hf4; have HS4 := Lib.hid hs4; have HF4 := Lib.hid hf4; obtain ⟨cB, fB⟩ := (hs4.blkm (b := m + 1 + 1 + 1) (.tail _ (.head _))).one; clear hf4 hs4)
    have h5 := (HS4.out.swap.set 0 (.bool false)).swap
    have hF5 : Fr (FiS m) W (W4.setCell ⟨m + 1 + 1 + 1, 0, none⟩ (.bool false)) := Fr.setCell (p := ⟨m + 1 + 1 + 1, 0, none⟩) (HF4.out.mono (fun k _ q => .inl q)) (fun _ => .inr rfl) _
    have hkk := (keepsFrom_fr hF5 (fun k _ hk => by
      rcases hk with rfl | rfl
      · exact ⟨_, HST.out.blkm (.head _), rfl⟩
      · exact ⟨_, HST.out.blkm (.tail _ (.head _)), rfl⟩) W0.heap.size).same D _ hD HK.out rfl
    refine ⟨by simp, .inl ⟨_, _, rfl, run_takeDeferred hkk, ?_⟩⟩
    have h6 := st_put (fiL_co m t nd zFt false) h5 (D := D) (by omega) hkk rfl (.deferred none)
    have hft : findT nd t = none := List.find?_eq_none.2 (fun p hp => by simp [HP.out p hp])
    refine ⟨_, results_cells2 Try.results46 _ _ _ rfl rfl (run_loadVar_mid (P := Try.prog) _ (m + 1 + 1) 0 51 (fc zFt) _ h6.blk.1.range Try.underlying51 rfl size51) (load_bool h6.swap.blk.1), ?_⟩
    exact ⟨by rw [hft]; rfl, h6.bel⟩
  case stop =>
    rintro D c' pre W hD hpf ⟨rfl, ini, last, rfl, h5, h6, hst⟩ hK
    have HST := Lib.hid hst
    have HK := Lib.hid hK
    clear hst hK
    gi_wp2
    refine ⟨by simp, .inl ⟨_, _, rfl, run_takeDeferred HK.out, ?_⟩⟩
    have h7 := st_put (fiL_co m t nd last.1 true) HST.out (D := D) (by omega) HK.out rfl (.deferred none)
    have hft : findT nd t = some last := by
      obtain ⟨tl, htl⟩ := hpf
      unfold findT
      rw [← htl, List.append_assoc, List.find?_append, List.find?_eq_none.2 (fun p hp => by simp [h5 p hp])]
      simp [h6]
    refine ⟨_, results_cells2 Try.results46 _ _ _ rfl rfl (run_loadVar_mid (P := Try.prog) _ (m + 1 + 1) 0 51 (fc last.1) _ h7.blk.1.range Try.underlying51 rfl size51) (load_bool h7.swap.blk.1), ?_⟩
    exact ⟨by rw [hft]; rfl, h7.bel⟩
end Go.Proofs.Ytfjjgebfeklnhaa
