/-
  The law's check of the queues.
-/
import Derived.Test.YtnamkckpgaopkaaYd
import Derived.Test.YtnamkckpgaopkaaLt
import Derived.Deep.CutBlock
set_option linter.unusedVariables false
set_option linter.unusedSimpArgs false
namespace Go.Proofs.Ytnamkckpgaopkaa
open Go.RowKit Go.K

def lastA (f : Nat → Int) : Array Value := #[.int .i64 (f 0), .int .i64 (f 1), .int .i64 (f 2), .int .i64 (f 3), .int .i64 (f 4)]
theorem lastA_at {w : World} {b : Nat} {f : Nat → Int} (h : Blk w b (lastA f) 42) (i : Nat) (hi : i < 5) : w.cell? ⟨b, i, none⟩ = some (.int .i64 (f i)) := by
  rw [h.cell]
  obtain rfl | rfl | rfl | rfl | rfl : i = 0 ∨ i = 1 ∨ i = 2 ∨ i = 3 ∨ i = 4 := by omega
  all_goals rfl
theorem lastA_set (f : Nat → Int) (i : Nat) (hi : i < 5) (a : Int) : (lastA f).setIfInBounds i (.int .i64 a) = lastA (upd f i a) := by
  obtain rfl | rfl | rfl | rfl | rfl : i = 0 ∨ i = 1 ∨ i = 2 ∨ i = 3 ∨ i = 4 := by omega
  all_goals simp [lastA, upd]
def cnt (T : List RT) (k s : Nat) : Int := ((T.take k).countP (fun t => t.src == (s : Int)) : Nat)
theorem cnt_succ {T : List RT} {k s : Nat} (hk : k < T.length) (hs : T[k].src = s) : upd (cnt T k) s (cnt T k s + 1) = cnt T (k + 1) := by
  funext j
  unfold cnt upd
  rw [List.take_succ_eq_append_getElem hk, List.countP_append]
  by_cases e : j = s
  · subst e
    rw [if_pos rfl, show List.countP (fun t : RT => t.src == (j : Int)) [T[k]] = 1 by simp [hs]]
    rfl
  · rw [if_neg e, show List.countP (fun t : RT => t.src == (j : Int)) [T[k]] = 0 by simp [hs]; omega]
    simp
theorem qof_at {T : List RT} {k s : Nat} (hk : k < T.length) (hs : T[k].src = s) : (qof T s)[(cnt T k s).toNat]? = some (qt T[k]) ∧ cnt T k s < ((qof T s).length : Int) ∧ 0 ≤ cnt T k s := by
  have e : T = T.take k ++ T[k] :: T.drop (k + 1) := by rw [← List.drop_eq_getElem_cons hk, List.take_append_drop]
  have e2 : qof T s = qof (T.take k) s ++ qt T[k] :: qof (T.drop (k + 1)) s := by
    conv => lhs; rw [e]
    rw [qof_append, qof_cons, hs]
    simp
  have e3 : (qof (T.take k) s).length = (cnt T k s).toNat := by
    unfold cnt qof
    rw [List.length_map, ← List.countP_eq_length_filter]
    rfl
  rw [e2, List.getElem?_append_right (by omega), e3]
  refine ⟨by simp, ?_, by unfold cnt; omega⟩
  rw [List.length_append, List.length_cons, e3]
  unfold cnt
  omega
theorem cnt_all (T : List RT) (s : Nat) : cnt T T.length s = ((qof T s).length : Int) := by
  unfold cnt qof
  rw [List.take_length, List.length_map, ← List.countP_eq_length_filter]
def StRel1 (T : List RT) (R : RL) (p : Pt) (m3 m5 n : Nat) (w : World) (g : Nat) (v : Value) (wr : World) : Prop :=
  ∃ k : Nat, g = n - k ∧ k ≤ n ∧ v = .int .i64 k ∧ St w wr [As.cells m5 (lastA (cnt T k)) 42, As.cells m3 (rlc R p) 69]
def StRel2 (f : Nat → Int) (R : RL) (p : Pt) (m3 m5 : Nat) (w : World) (g : Nat) (v : Value) (wr : World) : Prop :=
  ∃ k : Nat, g = 5 - k ∧ k ≤ 5 ∧ v = .int .i64 k ∧ St w wr [As.cells m5 (lastA f) 42, As.cells m3 (rlc R p) 69]
theorem qt_cells {w : World} {g off : Nat} {n : Nat} {M : List Qt} (h : Rd w 5 (some ⟨g, off, none⟩) n (flat Qt.cells M)) {k : Nat} {q : Qt} (hq : M[k]? = some q) :
    w.cell? ⟨g, off + k * 5, none⟩ = some (.int .i64 q.o) ∧ w.cell? ⟨g, off + k * 5 + 1, none⟩ = some (.int .i64 q.k) ∧ w.cell? ⟨g, off + k * 5 + 2, none⟩ = some (.int .i64 q.n) ∧
    w.cell? ⟨g, off + k * 5 + 3, none⟩ = some (.string { data := #[] }) ∧ w.cell? ⟨g, off + k * 5 + 4, none⟩ = some (.slice none 0 0) := by
  obtain ⟨hk, rfl⟩ := List.getElem?_eq_some_iff.1 hq
  have key : ∀ j v, j < 5 → (M[k].cells)[j]? = some v → w.cell? ⟨g, off + k * 5 + j, none⟩ = some v := fun j v hj hv => by
    have h2 := h.cells _ rfl _ _ ((flat_at lenQ M k j hk hj).trans hv)
    rwa [Addr.add_lit, ← Nat.add_assoc] at h2
  exact ⟨key 0 _ (by omega) rfl, key 1 _ (by omega) rfl, key 2 _ (by omega) rfl, key 3 _ (by omega) rfl, key 4 _ (by omega) rfl⟩
set_option maxRecDepth 100000 in
set_option maxHeartbeats 2000000 in
theorem stasks_st {w0 w : World} {L : List As} {b b2 : Nat} {S : LS} {R : RL} {p : Pt} (hr : Rl S R) (hn : R.tasks.length ≤ 100000) (hq : ∀ i, (S.q i).length ≤ 100000) (h : St w0 w (rlL b2 R p ++ (stO b S :: L))) :
    Calls Try.prog 46 #[.pointer (some ⟨b, 0, none⟩), .agg (rlc R p)] w fun e w' => e = .returned (.bool true) ∧ Below w.heap.size w w' := by
  have HT := Lib.hid (show Rd w 4 (p 0).1 R.tasks.length (flat RT.cells R.tasks) from by
    have h1 := (foc_rrt h).swap
    unfold rrt at h1
    exact h1.sl.rd)
  obtain ⟨ps, G, -, hs⟩ := st_open (st_out h)
  have hlt := hs.blk.1.lt
  have HQ := Lib.hid (show ∀ i, i < 5 → w.cell? ⟨b, 1 + i, none⟩ = some (.slice (ps i).1 (S.q i).length (ps i).2) from fun i hi => st_q hs i hi)
  have HR := Lib.hid (show ∀ i, i < 5 → Rd w 5 (ps i).1 (S.q i).length (flat Qt.cells (S.q i)) from fun i hi => by
    have h1 := (foc_q hi hs).swap
    unfold rq at h1
    exact h1.sl.rd)
  have HRL := Lib.hid hr
  have HLQ := Lib.hid hq
  clear hs h hr hq
  obtain ⟨n, hl⟩ : ∃ n, R.tasks.length = n := ⟨_, rfl⟩
  obtain ⟨T, hT⟩ : ∃ T, R.tasks = T := ⟨_, rfl⟩
  have HTL := Lib.hid (show T.length = n by rw [← hT]; exact hl)
  have HTT := Lib.hid hT
  have HNN := Lib.hid hl
  rw [hl] at hn HT
  rw [hT] at HT
  have hrc : rlc R p = #[.int .i64 R.now, .int .i64 R.ord, .int .i64 R.next, .int .i64 R.last, .int .i64 R.shown, .int .i64 R.users, .bool R.dirty, .slice (p 0).1 n (p 0).2, .slice (p 1).1 R.jobs.length (p 1).2, .slice (p 2).1 R.shots.length (p 2).2, .slice (p 3).1 R.tms.length (p 3).2] := by rw [← hl]; rfl
  rw [hrc]
  have H0 := Lib.hid ((St.start w (Below.refl _ _)).new (rlc R p) 69)
  have HRC := Lib.hid hrc
  clear hl hT hrc
  rw [HRC.out] at H0
  go_enter Try.func46, Try.ntmps46
  go_upto_region 1 with fail
  obtain ⟨m3, hm3⟩ : ∃ m, w.heap.size = m := ⟨_, rfl⟩
  obtain ⟨W1, hW1⟩ : ∃ W, w.alloc (.cells #[.int .i64 R.now, .int .i64 R.ord, .int .i64 R.next, .int .i64 R.last, .int .i64 R.shown, .int .i64 R.users, .bool R.dirty, .slice (p 0).1 n (p 0).2, .slice (p 1).1 R.jobs.length (p 1).2, .slice (p 2).1 R.shots.length (p 2).2, .slice (p 3).1 R.tms.length (p 3).2] 69) = W := ⟨_, rfl⟩
  have h1 := H0.out
  rw [hW1, hm3, ← HRC.out] at h1
  rw [hW1]
  try simp only [hm3]
  have H1 := Lib.hid h1
  have HM3 := Lib.hid hm3
  clear h1 H0 hW1 hm3
  have c7 : W1.cell? ⟨m3, 7, none⟩ = some (.slice (p 0).1 n (p 0).2) := by rw [H1.out.blk.1.cell, HRC.out]; rfl
  have H2 := Lib.hid (show St w (W1.alloc (.cells (lastA (fun _ => 0)) 42)) [As.cells W1.heap.size (lastA (fun _ => 0)) 42, As.cells m3 (rlc R p) 69] from H1.out.new _ _)
  go_upto_region 2 with fail
  obtain ⟨m5, hm5⟩ : ∃ m, W1.heap.size = m := ⟨_, rfl⟩
  obtain ⟨W2, hW2⟩ : ∃ W, W1.alloc (.cells (lastA (fun _ => 0)) 42) = W := ⟨_, rfl⟩
  rw [hW2, hm5] at H2
  rw [show W1.alloc (.cells #[.int .i64 0, .int .i64 0, .int .i64 0, .int .i64 0, .int .i64 0] 42) = W2 from hW2]
  try simp only [hm5]
  clear hW2 hm5 c7 H1
  have c7 : W2.cell? ⟨m3, 7, none⟩ = some (.slice (p 0).1 n (p 0).2) := by rw [H2.out.swap.blk.1.cell, HRC.out]; rfl
  go_wp2_with fail
  clear c7
  go_loopg [14] n (StRel1 T R p m3 m5 n w)
  case atStart => exact ⟨0, rfl, Nat.zero_le _, rfl, by have e : cnt T 0 = fun _ => 0 := by funext s; simp [cnt]
                                                        rw [e]; exact H2.out⟩
  case round =>
    obtain ⟨k, hg, hk, rfl, hst⟩ := hrel
    have Hg := Lib.hid hg
    have H3 := Lib.hid hst
    clear hg hst H2
    have c7 : wr.cell? ⟨m3, 7, none⟩ = some (.slice (p 0).1 n (p 0).2) := by rw [H3.out.swap.blk.1.cell, HRC.out]; rfl
    by_cases hkn : k < n
    · have hkt : k < T.length := by rw [HTL.out]; exact hkn
      have hkI : (k : Int) < (n : Int) := by omega
      have hT2 := HT.out.below H3.out.bel
      obtain ⟨g, off, hga, -⟩ := hT2.addr (by omega)
      rw [hga] at c7 hT2
      obtain ⟨d0, d1, d2, d3⟩ := rt_cells hT2 hkt
      obtain ⟨t, ht⟩ : ∃ t, T[k] = t := ⟨_, rfl⟩
      rw [ht] at d0 d1 d2 d3
      obtain ⟨a0, a1⟩ := HRL.out.src t (by rw [HTT.out, ← ht]; exact List.getElem_mem hkt)
      obtain ⟨s, hs⟩ : ∃ s : Nat, t.src = s := ⟨t.src.toNat, by omega⟩
      have hs5 : s < 5 := by omega
      obtain ⟨e1, e2, e3⟩ := qof_at hkt (s := s) (by rw [ht]; exact hs)
      rw [ht] at e1
      have eq : S.q s = qof T s := by rw [HRL.out.q s, HTT.out]
      rw [← eq] at e1 e2
      have HCS := Lib.hid (cnt_succ hkt (s := s) (by rw [ht]; exact hs))
      rw [hs] at d0
      have HS := Lib.hid hs
      obtain ⟨c, hc⟩ : ∃ c : Nat, cnt T k s = c := ⟨(cnt T k s).toNat, by omega⟩
      have HCK := Lib.hid hc
      rw [hc] at e1 e2
      rw [Int.toNat_natCast] at e1
      have HE1 := Lib.hid e1
      have hcl : (c : Int) < ((S.q s).length : Int) := e2
      have hgl := World.block_lt_of_cell? _ _ d0
      have h4 := H3.out.new #[.int .i64 s, .int .i64 t.ord, .int .i64 t.k, .int .i64 t.n] 109
      clear e1 e2 e3 eq hc hT2 hga ht hs a0 a1
      go_upto_region 6 with fail
      obtain ⟨m7, hm7⟩ : ∃ m, wr.heap.size = m := ⟨_, rfl⟩
      obtain ⟨W4, hW4⟩ : ∃ W, wr.alloc (.cells #[.int .i64 s, .int .i64 t.ord, .int .i64 t.k, .int .i64 t.n] 109) = W := ⟨_, rfl⟩
      rw [hW4, hm7] at h4
      rw [hW4]
      try simp only [hm7]
      have H4 := Lib.hid h4
      clear h4 hW4 hm7 c7 d0 d1 d2 d3 hgl H3
      have k0 : W4.cell? ⟨m7, 0, none⟩ = some (.int .i64 s) := by rw [H4.out.blk.1.cell]; rfl
      have y0 := lastA_at H4.out.swap.blk.1 s hs5
      rw [HCK.out] at y0
      have f0 := H4.out.swap.free s
      have hsI0 : (0 : Int) ≤ (s : Int) := by omega
      have hsI5 : (s : Int) < 5 := by omega
      have hw1 : IntKind.i64.wrap ((c : Int) + 1) = (c : Int) + 1 := by rw [IntKind.wrap_i64]; have := HLQ.out s; omega
      go_upto_region 8 with fail
      have h5 := H4.out.swap.set s (.int .i64 ((c : Int) + 1))
      rw [lastA_set _ s hs5, ← HCK.out, HCS.out, HCK.out] at h5
      obtain ⟨W5, hW5⟩ : ∃ W, W4.setCell ⟨m5, s, none⟩ (.int .i64 ((c : Int) + 1)) = W := ⟨_, rfl⟩
      rw [hW5] at h5
      rw [hW5]
      have H5 := Lib.hid h5
      clear h5 hW5 y0 f0 k0 hw1 H4
      have hb5 := H5.out.swap.blk.1
      have k0 : W5.cell? ⟨m7, 0, none⟩ = some (.int .i64 s) := by rw [hb5.cell]; rfl
      have q1 : W5.cell? ⟨b, 1 + s, none⟩ = some (.slice (ps s).1 (S.q s).length (ps s).2) := (H5.out.bel.cell hlt).trans (HQ.out s hs5)
      have hge : decide (((S.q s).length : Int) ≤ (c : Int)) = false := by simp; omega
      go_quiet ((go_at_call 68; exact Calls.quiet_of_same ((qlenQ (b := b) (o := 1 + s) (s := (ps s).1) (n := (S.q s).length) (c := (ps s).2) (((H5.out.drewN _).bel.cell hlt).trans (HQ.out s hs5))).mono (fun _ _ h => ⟨h.1, h.2.symm⟩))))
      go_upto_region 10 with fail
      obtain ⟨W6, hW6⟩ : ∃ W, W5.drewN nq = W := ⟨_, rfl⟩
      have h6 := H5.out.drewN nq
      rw [hW6] at h6
      rw [hW6]
      obtain ⟨Wd, hWd⟩ : ∃ W, W6.drew = W := ⟨_, rfl⟩
      have h7 := h6.drew
      rw [hWd] at h7
      have H7 := Lib.hid h7
      clear h6 h7 hW6 H5 q1 k0 hb5 hge
      have hrq := (HR.out s hs5).below H7.out.bel
      obtain ⟨g2, off2, hga2, -⟩ := hrq.addr (by omega)
      have q1 : Wd.cell? ⟨b, 1 + s, none⟩ = some (.slice (ps s).1 (S.q s).length (ps s).2) := (H7.out.bel.cell hlt).trans (HQ.out s hs5)
      rw [hga2] at q1 hrq
      obtain ⟨x0, x1, x2, x3, x4⟩ := qt_cells hrq HE1.out
      have hS : (fun w' : World => w'.cell? ⟨m7, 0, none⟩ = some (.int .i64 s) ∧ w'.cell? ⟨b, 1 + s, none⟩ = some (.slice (some ⟨g2, off2, none⟩) (S.q s).length (ps s).2) ∧ w'.cell? ⟨g2, off2 + c * 5, none⟩ = some (.int .i64 t.ord) ∧ w'.cell? ⟨g2, off2 + c * 5 + 1, none⟩ = some (.int .i64 t.k) ∧ w'.cell? ⟨g2, off2 + c * 5 + 2, none⟩ = some (.int .i64 t.n) ∧ w'.cell? ⟨g2, off2 + c * 5 + 3, none⟩ = some (.string { data := #[] }) ∧ w'.cell? ⟨g2, off2 + c * 5 + 4, none⟩ = some (.slice none 0 0)) Wd := ⟨by rw [H7.out.swap.blk.1.cell]; rfl, q1, x0, x1, x2, x3, x4⟩
      have hg2 := World.block_lt_of_cell? _ _ x0
      have KP := Lib.hid (show ∀ w', Below Wd.heap.size Wd w' → w'.cell? ⟨m7, 0, none⟩ = some (.int .i64 s) → (fun w' : World => w'.cell? ⟨m7, 0, none⟩ = some (.int .i64 s) ∧ w'.cell? ⟨b, 1 + s, none⟩ = some (.slice (some ⟨g2, off2, none⟩) (S.q s).length (ps s).2) ∧ w'.cell? ⟨g2, off2 + c * 5, none⟩ = some (.int .i64 t.ord) ∧ w'.cell? ⟨g2, off2 + c * 5 + 1, none⟩ = some (.int .i64 t.k) ∧ w'.cell? ⟨g2, off2 + c * 5 + 2, none⟩ = some (.int .i64 t.n) ∧ w'.cell? ⟨g2, off2 + c * 5 + 3, none⟩ = some (.string { data := #[] }) ∧ w'.cell? ⟨g2, off2 + c * 5 + 4, none⟩ = some (.slice none 0 0)) w' from fun w' hb' h0' => ⟨h0', (hb'.cell (Nat.lt_of_lt_of_le hlt H7.out.bel.size)).trans q1, (hb'.cell hg2).trans x0, (hb'.cell (show (⟨g2, off2 + c * 5 + 1, none⟩ : Addr).block < _ from hg2)).trans x1, (hb'.cell (show (⟨g2, off2 + c * 5 + 2, none⟩ : Addr).block < _ from hg2)).trans x2, (hb'.cell (show (⟨g2, off2 + c * 5 + 3, none⟩ : Addr).block < _ from hg2)).trans x3, (hb'.cell (show (⟨g2, off2 + c * 5 + 4, none⟩ : Addr).block < _ from hg2)).trans x4⟩)
      clear x0 x1 x2 x3 x4 q1 hrq hga2
      refine wpLast.region (S := (fun w' : World => w'.cell? ⟨m7, 0, none⟩ = some (.int .i64 s) ∧ w'.cell? ⟨b, 1 + s, none⟩ = some (.slice (some ⟨g2, off2, none⟩) (S.q s).length (ps s).2) ∧ w'.cell? ⟨g2, off2 + c * 5, none⟩ = some (.int .i64 t.ord) ∧ w'.cell? ⟨g2, off2 + c * 5 + 1, none⟩ = some (.int .i64 t.k) ∧ w'.cell? ⟨g2, off2 + c * 5 + 2, none⟩ = some (.int .i64 t.n) ∧ w'.cell? ⟨g2, off2 + c * 5 + 3, none⟩ = some (.string { data := #[] }) ∧ w'.cell? ⟨g2, off2 + c * 5 + 4, none⟩ = some (.slice none 0 0))) (c := 12) (by kernel_rfl) ?_
      change wpLast _ _ _ _ _ _ _ _ (World.drew _)
      rw [hWd]
      refine' wpLast.take (i := 0) (v := _) rfl (by kernel_rfl) (fun _ _ _ h => h) (by kernel_rfl) _ _ _ _ (by kernel_rfl) (by kernel_rfl) (Or.inl ⟨by rfl, ?hy0⟩) hS ?rest0
      case hy0 => (intro w' hSw; obtain ⟨k0, q1, x0, x1, x2, x3, x4⟩ := hSw; go_simp; try with_reducible rfl)
      try simp only [Act.put, List.setIfInBounds_toArray, List.set_cons_zero, List.set_cons_succ]
      refine' wpLast.take (i := 1) (v := _) rfl (by kernel_rfl) (fun _ _ _ h => h) (by kernel_rfl) _ _ _ _ (by kernel_rfl) (by kernel_rfl) (Or.inl ⟨by rfl, ?hy1⟩) hS ?rest1
      case hy1 => (intro w' hSw; obtain ⟨k0, q1, x0, x1, x2, x3, x4⟩ := hSw; go_simp; try with_reducible rfl)
      try simp only [Act.put, List.setIfInBounds_toArray, List.set_cons_zero, List.set_cons_succ]
      refine' wpLast.take (i := 2) (v := _) rfl (by kernel_rfl) (fun _ _ _ h => h) (by kernel_rfl) _ _ _ _ (by kernel_rfl) (by kernel_rfl) (Or.inl ⟨by rfl, ?hy2⟩) hS ?rest2
      case hy2 => (intro w' hSw; obtain ⟨k0, q1, x0, x1, x2, x3, x4⟩ := hSw; go_simp; try with_reducible rfl)
      try simp only [Act.put, List.setIfInBounds_toArray, List.set_cons_zero, List.set_cons_succ]
      refine' wpLast.take (i := 3) (v := _) rfl (by kernel_rfl) (fun _ _ _ h => h) (by kernel_rfl) _ _ _ _ (by kernel_rfl) (by kernel_rfl) (Or.inl ⟨by rfl, ?hy3⟩) hS ?rest3
      case hy3 => (intro w' hSw; obtain ⟨k0, q1, x0, x1, x2, x3, x4⟩ := hSw; go_simp; try with_reducible rfl)
      try simp only [Act.put, List.setIfInBounds_toArray, List.set_cons_zero, List.set_cons_succ]
      refine' wpLast.take (i := 4) (v := _) rfl (by kernel_rfl) (fun _ _ _ h => h) (by kernel_rfl) _ _ _ _ (by kernel_rfl) (by kernel_rfl) (Or.inl ⟨by rfl, ?hy4⟩) hS ?rest4
      case hy4 => (intro w' hSw; obtain ⟨k0, q1, x0, x1, x2, x3, x4⟩ := hSw; go_simp; try with_reducible rfl)
      try simp only [Act.put, List.setIfInBounds_toArray, List.set_cons_zero, List.set_cons_succ]
      refine' wpLast.take (i := 5) (v := _) rfl (by kernel_rfl) (fun _ _ _ h => h) (by kernel_rfl) _ _ _ _ (by kernel_rfl) (by kernel_rfl) (Or.inl ⟨by rfl, ?hy5⟩) hS ?rest5
      case hy5 => (intro w' hSw; obtain ⟨k0, q1, x0, x1, x2, x3, x4⟩ := hSw; go_simp; try with_reducible rfl)
      try simp only [Act.put, List.setIfInBounds_toArray, List.set_cons_zero, List.set_cons_succ]
      refine' wpLast.take (i := 6) (v := _) rfl (by kernel_rfl) (fun _ _ _ h => h) (by kernel_rfl) _ _ _ _ (by kernel_rfl) (by kernel_rfl) (Or.inl ⟨by rfl, ?hy6⟩) hS ?rest6
      case hy6 => (intro w' hSw; obtain ⟨k0, q1, x0, x1, x2, x3, x4⟩ := hSw; go_simp; try with_reducible rfl)
      try simp only [Act.put, List.setIfInBounds_toArray, List.set_cons_zero, List.set_cons_succ]
      refine' wpLast.take (i := 7) (v := _) rfl (by kernel_rfl) (fun _ _ _ h => h) (by kernel_rfl) _ _ _ _ (by kernel_rfl) (by kernel_rfl) (Or.inl ⟨by rfl, ?hy7⟩) hS ?rest7
      case hy7 => (intro w' hSw; obtain ⟨k0, q1, x0, x1, x2, x3, x4⟩ := hSw; go_simp; try with_reducible rfl)
      try simp only [Act.put, List.setIfInBounds_toArray, List.set_cons_zero, List.set_cons_succ]
      refine' wpLast.take (i := 8) (v := _) rfl (by kernel_rfl) (fun _ _ _ h => h) (by kernel_rfl) _ _ _ _ (by kernel_rfl) (by kernel_rfl) (Or.inl ⟨by rfl, ?hy8⟩) hS ?rest8
      case hy8 => (intro w' hSw; obtain ⟨k0, q1, x0, x1, x2, x3, x4⟩ := hSw; go_simp; try with_reducible rfl)
      try simp only [Act.put, List.setIfInBounds_toArray, List.set_cons_zero, List.set_cons_succ]
      refine' wpLast.take (i := 9) (v := _) rfl (by kernel_rfl) (fun _ _ _ h => h) (by kernel_rfl) _ _ _ _ (by kernel_rfl) (by kernel_rfl) (Or.inl ⟨by rfl, ?hy9⟩) hS ?rest9
      case hy9 => (intro w' hSw; obtain ⟨k0, q1, x0, x1, x2, x3, x4⟩ := hSw; go_simp; try with_reducible rfl)
      try simp only [Act.put, List.setIfInBounds_toArray, List.set_cons_zero, List.set_cons_succ]
      refine' wpLast.take (i := 10) (v := _) rfl (by kernel_rfl) (fun _ _ _ h => h) (by kernel_rfl) _ _ _ _ (by kernel_rfl) (by kernel_rfl) (Or.inl ⟨by rfl, ?hy10⟩) hS ?rest10
      case hy10 => (intro w' hSw; obtain ⟨k0, q1, x0, x1, x2, x3, x4⟩ := hSw; go_simp; try with_reducible rfl)
      try simp only [Act.put, List.setIfInBounds_toArray, List.set_cons_zero, List.set_cons_succ]
      refine wpLast.one (i := 11) rfl (by kernel_rfl) ?_
      intro K' hK; have HK' := Lib.hid hK; clear hK
      go_simp
      have h8 := H7.out.new #[.int .i64 0, .int .i64 0, .int .i64 0, .string { data := #[] }, .slice none 0 0] 91
      obtain ⟨m9, hm9⟩ : ∃ m, Wd.heap.size = m := ⟨_, rfl⟩
      obtain ⟨W8, hW8⟩ : ∃ W, Wd.alloc (.cells #[.int .i64 0, .int .i64 0, .int .i64 0, .string { data := #[] }, .slice none 0 0] 91) = W := ⟨_, rfl⟩
      have hS8 := KP.out (Wd.alloc (.cells #[.int .i64 0, .int .i64 0, .int .i64 0, .string { data := #[] }, .slice none 0 0] 91)) ((Below.refl _ _).alloc (Nat.le_refl _) _) (by rw [World.cell?_alloc_some _ _ _ (by rw [hS.1]; rfl)]; exact hS.1)
      rw [hW8] at h8 hS8
      rw [hm9] at h8
      try rw [hW8]
      try simp only [hm9]
      have H8 := Lib.hid h8
      refine HK'.out _ _ ⟨fun _ => hS8, ?_⟩
      clear HK' K' h8 hm9 hW8
      try simp only [Act.put, List.setIfInBounds_toArray, List.set_cons_zero, List.set_cons_succ]
      refine wpLast.one (i := 12) rfl (by kernel_rfl) ?_
      intro K' hK; have HK' := Lib.hid hK; clear hK
      obtain ⟨y0, y1, y2, y3, y4, y5, y6, y7, y8, y9⟩ := H8.out.blk.1.c5
      go_simp
      have h9 := H8.out.set5 (.int .i64 t.ord) (.int .i64 t.k) (.int .i64 t.n) (.string { data := #[] }) (.slice none 0 0)
      obtain ⟨W9, hW9⟩ : ∃ W, ((((W8.setCell ⟨m9, 0, none⟩ (.int .i64 t.ord)).setCell ⟨m9, 1, none⟩ (.int .i64 t.k)).setCell ⟨m9, 2, none⟩ (.int .i64 t.n)).setCell ⟨m9, 3, none⟩ (.string { data := #[] })).setCell ⟨m9, 4, none⟩ (.slice none 0 0) = W := ⟨_, rfl⟩
      rw [hW9] at h9
      rw [hW9]
      have H9 := Lib.hid h9
      clear h9 hW9 y0 y1 y2 y3 y4 y5 y6 y7 y8 y9
      refine HK'.out _ _ ⟨fun h => absurd rfl h, ?_⟩
      clear HK' K'
      try simp only [Act.put, List.setIfInBounds_toArray, List.set_cons_zero, List.set_cons_succ]
      refine wpLast.done (by kernel_rfl) ?_
      have hb9 := H9.out.blk.1
      have hb7 := (St.sh [_, _, _] [2, 0, 1] (by decide) H9.out).blk.1
      have k0 : W9.cell? ⟨m9, 0, none⟩ = some (.int .i64 t.ord) := by rw [hb9.cell]; rfl
      have k1 : W9.cell? ⟨m9, 1, none⟩ = some (.int .i64 t.k) := by rw [hb9.cell]; rfl
      have k2 : W9.cell? ⟨m9, 2, none⟩ = some (.int .i64 t.n) := by rw [hb9.cell]; rfl
      have j1 : W9.cell? ⟨m7, 1, none⟩ = some (.int .i64 t.ord) := by rw [hb7.cell]; rfl
      have j2 : W9.cell? ⟨m7, 2, none⟩ = some (.int .i64 t.k) := by rw [hb7.cell]; rfl
      have j3 : W9.cell? ⟨m7, 3, none⟩ = some (.int .i64 t.n) := by rw [hb7.cell]; rfl
      clear hb9 hb7
      go_wp2_with fail
      go_roundg (n - (k + 1))
      case measure => have := Hg.out; omega
      case rel => exact ⟨k + 1, rfl, by omega, by simp, (St.sh [_, _, _, _] [2, 0, 1, 3] (by decide) H9.out).drop.drop⟩
    · have hkk : k = n := by omega
      subst hkk
      go_upto_region 14 with fail
      clear c7
      have hCA := Lib.hid (show ∀ s, s < 5 → cnt T k s = ((S.q s).length : Int) from fun s hs => by rw [HRL.out.q s, HTT.out, ← cnt_all, HTL.out])
      go_wp2_with fail
      go_loopg [74] 5 (StRel2 (cnt T k) R p m3 m5 w)
      case atStart => exact ⟨0, rfl, Nat.zero_le _, rfl, H3.out⟩
      case round =>
        obtain ⟨i, hg, hi, rfl, hst⟩ := hrel
        have Hg2 := Lib.hid hg
        have H5 := Lib.hid hst
        clear hg hst H3
        by_cases hi5 : i < 5
        · have y0 := lastA_at H5.out.blk.1 i hi5
          rw [hCA.out i hi5] at y0
          have hiI : (i : Int) < 5 := by omega
          have hiI0 : (0 : Int) ≤ (i : Int) := by omega
          go_upto_region 17 with fail
          go_quiet ((go_at_call 68; exact Calls.quiet_of_same ((qlenQ (b := b) (o := 1 + i) (s := (ps i).1) (n := (S.q i).length) (c := (ps i).2) (((H5.out.drewN _).bel.cell hlt).trans (HQ.out i hi5))).mono (fun _ _ h => ⟨h.1, h.2.symm⟩))))
          go_wp2_with fail
          go_roundg (5 - (i + 1))
          case measure => have := Hg2.out; omega
          case rel => exact ⟨i + 1, rfl, by omega, by simp, H5.out.drewN _⟩
        · have h5 : i = 5 := by omega
          subst h5
          go_wp2_with fail
          go_ret
          exact ⟨rfl, H5.out.bel⟩

end Go.Proofs.Ytnamkckpgaopkaa
