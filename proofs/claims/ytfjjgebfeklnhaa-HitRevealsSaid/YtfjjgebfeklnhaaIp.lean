/-
  The range of a node's view: the program's and the chapter's are the same; plain.
-/
import Derived.Test.YtfjjgebfeklnhaaIo
set_option linter.unusedVariables false
set_option linter.unusedSimpArgs false
namespace Go.Proofs.Ytfjjgebfeklnhaa
open Go.RowKit Go.K

theorem bxs_wh : ∀ (d : Nat) (x y : Int) (t : Ft), FtOk d t → ∀ p ∈ bxs x y t, p.2.w = p.1.a.w ∧ p.2.h = p.1.a.h
  | 0, x, y, t, h, p, hp => by have := h.pos; omega
  | d + 1, x, y, .mk a ks, h, p, hp => by
    cases h with
    | mk _ _ _ ha hk =>
    rw [bxs] at hp
    rcases List.mem_cons.1 hp with e | hp
    · rw [e]; exact ⟨rfl, rfl⟩
    · have : ∀ (l : List Ft), (∀ k ∈ l, FtOk d k) → ∀ p ∈ bxsL (wr (x + a.x)) (wr (y + a.y)) l, p.2.w = p.1.a.w ∧ p.2.h = p.1.a.h := by
        intro l
        induction l with
        | nil => intro _ p hp; rw [bxsL] at hp; cases hp
        | cons k l ih =>
          intro hl p hp
          rw [bxsL] at hp
          rcases List.mem_append.1 hp with q | q
          · exact bxs_wh d _ _ k (hl k (by simp)) p q
          · exact ih (fun k' hk' => hl k' (by simp [hk'])) p q
      exact this ks hk p hp
theorem gmax_eq {α : Type} {f g : α → Int} {l : List α} (h : ∀ r ∈ l, f r = g r) : gmax f l = gmax g l := by
  cases l with
  | nil => rfl
  | cons a l =>
    rw [gmax, gmax, h a (by simp)]
    have : ∀ (l : List α) (m : Int), (∀ r ∈ l, f r = g r) → l.foldl (fun m q => max m (f q)) m = l.foldl (fun m q => max m (g q)) m := by
      intro l
      induction l with
      | nil => intro m _; rfl
      | cons b l ih => intro m h; rw [List.foldl_cons, List.foldl_cons, h b (by simp)]; exact ih _ (fun r hr => h r (by simp [hr]))
    exact this l _ (fun r hr => h r (by simp [hr]))
theorem gmax_sub {α : Type} (f : α → Int) (c : Int) (l : List α) (hl : l ≠ []) : gmax (fun r => f r - c) l = gmax f l - c := by
  cases l with
  | nil => exact absurd rfl hl
  | cons a l =>
    rw [gmax, gmax]
    have : ∀ (l : List α) (m : Int), l.foldl (fun m q => max m (f q - c)) (m - c) = l.foldl (fun m q => max m (f q)) m - c := by
      intro l
      induction l with
      | nil => intro m; rfl
      | cons b l ih => intro m; rw [List.foldl_cons, List.foldl_cons, ← ih]; congr 1; omega
    exact this l _
theorem gmax_fold {α : Type} (f : α → Int) : ∀ (l : List α) (m n : Int), l.foldl (fun m q => max m (f q)) (max m n) = max m (l.foldl (fun m q => max m (f q)) n)
  | [], m, n => rfl
  | a :: l, m, n => by rw [List.foldl_cons, List.foldl_cons, Int.max_assoc, gmax_fold f l]
theorem gmax_cons2 {α : Type} (f : α → Int) (a b : α) (l : List α) : gmax f (a :: b :: l) = max (f a) (gmax f (b :: l)) := by
  rw [gmax, gmax, List.foldl_cons, gmax_fold]
theorem emax_bxsL (f : R4 → Int) (x y : Int) : ∀ (ks : List Ft), ks ≠ [] → emax f ((bxsL x y ks).map (·.2)) = gmax (fun k => emax f ((bxs x y k).map (·.2))) ks
  | [], h => absurd rfl h
  | [k], _ => by simp [bxsL, gmax]
  | k :: k2 :: ks, _ => by
    have h1 : (bxs x y k).map (·.2) ≠ [] := by cases k; rw [bxs]; simp
    have h2 : (bxsL x y (k2 :: ks)).map (·.2) ≠ [] := by cases k2; rw [bxsL, bxs]; simp
    rw [gmax_cons2, ← emax_bxsL f x y (k2 :: ks) (by simp), bxsL, List.map_append, emax_app f _ _ h1 h2]

theorem kid_ext {d : Nat} {k : Ft} (h : FtOk d k) (hd : d ≤ 100) (b : Int) (hb : 0 ≤ b ∧ b ≤ 3) : kR b k = emax (fun r => r.x + r.w) (rcts k) - b ∧ kC b k = emax (fun r => r.y + r.h) (rcts k) - b := by
  obtain ⟨e1, e2, -, -⟩ := ext_w h (by omega)
  obtain ⟨⟨b1, b2⟩, ⟨b3, b4⟩⟩ := ext_bd h (by omega)
  obtain ⟨⟨a1, a2⟩, ⟨a3, a4⟩, -⟩ := h.a
  constructor
  · rw [kR, wr_id (n := extW k + k.a.x) (by omega) (by omega), wr_id (by omega) (by omega), e1]; omega
  · rw [kC, wr_id (n := extH k + k.a.y) (by omega) (by omega), wr_id (by omega) (by omega), e2]; omega
theorem rcts_mv {d : Nat} {k : Ft} (h : FtOk d k) (hd : d ≤ 100) (u v : Int) (hu : -100000 ≤ u ∧ u ≤ 100000) (hv : -100000 ≤ v ∧ v ≤ 100000) : (bxs u v k).map (·.2) = (rcts k).map (mv u v) := by
  have := bxs_mv d 0 0 u v k h (by omega) (by omega) (by omega) (by omega) (by omega) (by omega) (by omega) (by omega) (by omega) (by omega) (by omega) (by omega)
  rw [Int.zero_add, Int.zero_add] at this
  rw [this, List.map_map, rcts, List.map_map]
  rfl
theorem gmax_bd {α : Type} (f : α → Int) (n : Int) (l : List α) (hl : l ≠ []) (h : ∀ r ∈ l, -n ≤ f r ∧ f r ≤ n) : -n ≤ gmax f l ∧ gmax f l ≤ n := by
  cases l with
  | nil => exact absurd rfl hl
  | cons a l =>
    rw [gmax]
    have : ∀ (l : List α) (m : Int), (-n ≤ m ∧ m ≤ n) → (∀ r ∈ l, -n ≤ f r ∧ f r ≤ n) → -n ≤ l.foldl (fun m q => max m (f q)) m ∧ l.foldl (fun m q => max m (f q)) m ≤ n := by
      intro l
      induction l with
      | nil => intro m hm _; exact hm
      | cons b l ih =>
        intro m hm h
        rw [List.foldl_cons]
        have := h b (by simp)
        exact ih _ (by omega) (fun r hr => h r (by simp [hr]))
    exact this l _ (h a (by simp)) (fun r hr => h r (by simp [hr]))

theorem spanX_no {x : Ft} (h : x.a.ov ≠ 2 ∨ x.ks = []) : spanX x = (0, 0) := by unfold spanX; rw [if_pos h]
theorem spanX_yes {x : Ft} (h : ¬ (x.a.ov ≠ 2 ∨ x.ks = [])) : spanX x = (max (wr (gmax (kR x.a.bd) x.ks - max (wr (wr (x.a.w - x.a.bd) - x.a.bd)) 0)) 0, max (wr (gmax (kC x.a.bd) x.ks - max (wr (wr (x.a.h - x.a.bd) - x.a.bd)) 0)) 0) := by unfold spanX; rw [if_neg h]
theorem rangeY_no {x : Ft} {r : R4} {A B : Int} (h : x.a.ov ≠ 2 ∨ (bxs A B x).length = 1) : rangeY x r A B = (0, 0) := by unfold rangeY; rw [if_pos h]
theorem rangeY_yes {x : Ft} {r : R4} {A B : Int} (h : ¬ (x.a.ov ≠ 2 ∨ (bxs A B x).length = 1)) : rangeY x r A B =
    (max 0 (wr (wr (wr (emax gX (((bxs A B x).drop 1).map (·.2)) - r.x) - x.a.bd) - max 0 (wr (wr (r.w - x.a.bd) - x.a.bd)))),
     max 0 (wr (wr (wr (emax gY (((bxs A B x).drop 1).map (·.2)) - r.y) - x.a.bd) - max 0 (wr (wr (r.h - x.a.bd) - x.a.bd))))) := by unfold rangeY; rw [if_neg h]
theorem spanX_eq {e : Nat} {x : Ft} {r : R4} (h : FtOk e x) (he : e ≤ 100) (hr : -20000 ≤ r.x ∧ r.x ≤ 20000) (hr2 : -20000 ≤ r.y ∧ r.y ≤ 20000) (hw : r.w = x.a.w) (hh : r.h = x.a.h) : spanX x = rangeX x r := by
  obtain ⟨a, ks⟩ := x
  have hok := h
  cases h with
  | mk d _ _ ha hk =>
  obtain ⟨⟨a1, a2⟩, ⟨a3, a4⟩, ⟨a5, a6⟩, ⟨a7, a8⟩, ⟨a9, a10⟩⟩ := ha
  simp only [Ft.a] at hw hh
  have eA : wr (r.x - a.x) = r.x - a.x := wr_id (by omega) (by omega)
  have eB : wr (r.y - a.y) = r.y - a.y := wr_id (by omega) (by omega)
  have eA2 : wr (r.x - a.x + a.x) = r.x := by rw [wr_id (by omega) (by omega)]; omega
  have eB2 : wr (r.y - a.y + a.y) = r.y := by rw [wr_id (by omega) (by omega)]; omega
  have hin : bxs (r.x - a.x) (r.y - a.y) (.mk a ks) = (.mk a ks, ⟨r.x, r.y, a.w, a.h⟩) :: bxsL r.x r.y ks := by rw [bxs, eA2, eB2]
  rw [rangeX_eq]
  have eA' : wr (r.x - (Ft.mk a ks).a.x) = r.x - a.x := eA
  have eB' : wr (r.y - (Ft.mk a ks).a.y) = r.y - a.y := eB
  rw [eA', eB']
  by_cases hc : a.ov ≠ 2 ∨ ks = []
  · have hc2 : a.ov ≠ 2 ∨ (bxs (r.x - a.x) (r.y - a.y) (.mk a ks)).length = 1 := by
      rcases hc with q | q
      · exact .inl q
      · subst q; exact .inr (by rw [hin]; simp [bxsL])
    rw [spanX_no (x := .mk a ks) hc, rangeY_no (x := .mk a ks) hc2]
  · have hks : ks ≠ [] := fun q => hc (.inr q)
    have hc2 : ¬ (a.ov ≠ 2 ∨ (bxs (r.x - a.x) (r.y - a.y) (.mk a ks)).length = 1) := by
      rintro (q | q)
      · exact hc (.inl q)
      · rw [hin, List.length_cons, bxsL_len] at q
        have := szL_ge ks
        have : 0 < ks.length := List.length_pos_iff.2 hks
        omega
    rw [spanX_yes (x := .mk a ks) hc, rangeY_yes (x := .mk a ks) hc2, hin]
    simp only [Ft.a, Ft.ks, List.drop_succ_cons, List.drop_zero]
    have hb : ∀ k ∈ ks, FtOk d k := hk
    have g1 : gmax (kR a.bd) ks = gmax (fun k => emax (fun r => r.x + r.w) (rcts k)) ks - a.bd := by
      rw [← gmax_sub _ _ _ hks]
      exact gmax_eq (fun k hk' => (kid_ext (hb k hk') (by omega) a.bd ⟨a9, a10⟩).1)
    have g2 : gmax (kC a.bd) ks = gmax (fun k => emax (fun r => r.y + r.h) (rcts k)) ks - a.bd := by
      rw [← gmax_sub _ _ _ hks]
      exact gmax_eq (fun k hk' => (kid_ext (hb k hk') (by omega) a.bd ⟨a9, a10⟩).2)
    have hbx := bxsL_bd d r.x r.y 20000 ks hb (by omega) (by omega) (by omega) (by omega) (by omega)
    have f1 : emax gX ((bxsL r.x r.y ks).map (·.2)) = gmax (fun k => emax (fun r => r.x + r.w) (rcts k)) ks + r.x := by
      have e1 : emax gX ((bxsL r.x r.y ks).map (·.2)) = emax (fun q => q.x + q.w) ((bxsL r.x r.y ks).map (·.2)) := emax_cong (fun q hq => by
        obtain ⟨p, hp, rfl⟩ := List.mem_map.1 hq
        obtain ⟨⟨⟨b1, b2⟩, ⟨b3, b4⟩, ⟨b5, b6⟩, ⟨b7, b8⟩⟩, -⟩ := hbx p hp
        rw [gX, wr_id (by omega) (by omega)])
      rw [e1, emax_bxsL _ _ _ _ hks, ← Int.sub_neg, ← gmax_sub _ _ _ hks]
      refine gmax_eq (fun k hk' => ?_)
      rw [rcts_mv (hb k hk') (by omega) _ _ (by omega) (by omega), emax_map, ← emax_sub _ _ _ (rcts_ne k)]
      exact emax_cong (fun q _ => by simp only [mv]; omega)
    have f2 : emax gY ((bxsL r.x r.y ks).map (·.2)) = gmax (fun k => emax (fun r => r.y + r.h) (rcts k)) ks + r.y := by
      have e1 : emax gY ((bxsL r.x r.y ks).map (·.2)) = emax (fun q => q.y + q.h) ((bxsL r.x r.y ks).map (·.2)) := emax_cong (fun q hq => by
        obtain ⟨p, hp, rfl⟩ := List.mem_map.1 hq
        obtain ⟨⟨⟨b1, b2⟩, ⟨b3, b4⟩, ⟨b5, b6⟩, ⟨b7, b8⟩⟩, -⟩ := hbx p hp
        rw [gY, wr_id (by omega) (by omega)])
      rw [e1, emax_bxsL _ _ _ _ hks, ← Int.sub_neg, ← gmax_sub _ _ _ hks]
      refine gmax_eq (fun k hk' => ?_)
      rw [rcts_mv (hb k hk') (by omega) _ _ (by omega) (by omega), emax_map, ← emax_sub _ _ _ (rcts_ne k)]
      exact emax_cong (fun q _ => by simp only [mv]; omega)
    have hkx : ∀ k ∈ ks, -2000000 ≤ emax (fun r => r.x + r.w) (rcts k) ∧ emax (fun r => r.x + r.w) (rcts k) ≤ 2000000 := fun k hk' => by
      obtain ⟨e1, -⟩ := ext_w (hb k hk') (by omega)
      obtain ⟨⟨b1, b2⟩, -⟩ := ext_bd (hb k hk') (by omega)
      obtain ⟨⟨c1, c2⟩, -⟩ := (hb k hk').a
      omega
    have hky : ∀ k ∈ ks, -2000000 ≤ emax (fun r => r.y + r.h) (rcts k) ∧ emax (fun r => r.y + r.h) (rcts k) ≤ 2000000 := fun k hk' => by
      obtain ⟨-, e1, -⟩ := ext_w (hb k hk') (by omega)
      obtain ⟨-, ⟨b1, b2⟩⟩ := ext_bd (hb k hk') (by omega)
      obtain ⟨-, ⟨c1, c2⟩, -⟩ := (hb k hk').a
      omega
    obtain ⟨n1, n2⟩ := gmax_bd _ 2000000 ks hks hkx
    obtain ⟨n3, n4⟩ := gmax_bd _ 2000000 ks hks hky
    rw [g1, g2, f1, f2, hw, hh]
    generalize gmax (fun k => emax (fun r => r.x + r.w) (rcts k)) ks = G1 at *
    generalize gmax (fun k => emax (fun r => r.y + r.h) (rcts k)) ks = G2 at *
    have w1 : wr (a.w - a.bd) = a.w - a.bd := wr_id (by omega) (by omega)
    have w2 : wr (a.w - a.bd - a.bd) = a.w - a.bd - a.bd := wr_id (by omega) (by omega)
    have w3 : wr (a.h - a.bd) = a.h - a.bd := wr_id (by omega) (by omega)
    have w4 : wr (a.h - a.bd - a.bd) = a.h - a.bd - a.bd := wr_id (by omega) (by omega)
    have w5 : wr (G1 + r.x - r.x) = G1 := by rw [wr_id (by omega) (by omega)]; omega
    have w6 : wr (G2 + r.y - r.y) = G2 := by rw [wr_id (by omega) (by omega)]; omega
    have w7 : wr (G1 - a.bd) = G1 - a.bd := wr_id (by omega) (by omega)
    have w8 : wr (G2 - a.bd) = G2 - a.bd := wr_id (by omega) (by omega)
    rw [w1, w2, w3, w4, w5, w6, w7, w8]
    rw [Int.max_comm (a.w - a.bd - a.bd) 0, Int.max_comm (a.h - a.bd - a.bd) 0]
    rw [Int.max_comm _ 0, Int.max_comm (wr (G2 - a.bd - max 0 (a.h - a.bd - a.bd))) 0]
theorem span_eq {d : Nat} {t : Ft} (h : FtOk d t) (hd : d ≤ 9) (h1 : t.a.nd = 1) (nd wd ht : Int) : spanT t nd wd ht = rangeT t nd wd ht := by
  by_cases hr : nd = t.a.nd
  · obtain ⟨e1, e2⟩ := rext_eq h (by omega)
    rw [spanT, rangeT, if_neg (by omega), if_pos hr, if_pos hr, e1, e2, Int.max_comm wd, Int.max_comm ht, Int.max_comm _ 0, Int.max_comm (wr (extH t - max 0 ht)) 0]
  · by_cases h0 : nd = 0
    · have : (bxs 0 0 t).find? (isB nd) = none := List.find?_eq_none.2 (fun p _ => by simp [isB, h0])
      rw [spanT, rangeT, if_pos h0, if_neg hr, this]
    · have e : isB nd = fun p => isBox nd p.1 := by
        funext p
        have : (nd != 0) = true := by simpa using h0
        rw [isB, this, Bool.and_true]
      rw [spanT, rangeT, if_neg h0, if_neg hr, if_neg hr, findT, e]
      cases hf : (bxs 0 0 t).find? (fun p => isBox nd p.1) with
      | none => rfl
      | some p =>
        have hm := List.mem_of_find?_eq_some hf
        obtain ⟨⟨⟨b1, b2⟩, ⟨b3, b4⟩, -, -⟩, e, he, hok⟩ := bxs_bd d 0 0 0 t h (by omega) (by omega) (by omega) (by omega) (by omega) p hm
        obtain ⟨hw, hh⟩ := bxs_wh d 0 0 t h p hm
        exact spanX_eq hok (by omega) (by omega) (by omega) hw hh
theorem span_bd (t : Ft) (nd wd ht : Int) : 0 ≤ (spanT t nd wd ht).1 ∧ 0 ≤ (spanT t nd wd ht).2 := by
  unfold spanT
  split
  · exact ⟨Int.le_refl _, Int.le_refl _⟩
  · split
    · exact ⟨by simp only; omega, by simp only; omega⟩
    · split
      · exact ⟨Int.le_refl _, Int.le_refl _⟩
      · unfold spanX
        split
        · exact ⟨Int.le_refl _, Int.le_refl _⟩
        · exact ⟨by simp only; omega, by simp only; omega⟩
theorem clamp_idem (t : Ft) (nd x y wd ht : Int) : clampT t nd (clampT t nd x y wd ht).1 (clampT t nd x y wd ht).2 wd ht = clampT t nd x y wd ht := by
  obtain ⟨h1, h2⟩ := span_bd t nd wd ht
  unfold clampT
  refine Prod.ext ?_ ?_ <;> simp only <;> omega
end Go.Proofs.Ytfjjgebfeklnhaa
