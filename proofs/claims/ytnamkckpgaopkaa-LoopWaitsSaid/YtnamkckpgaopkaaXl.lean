/-
  Take of the chapter's loop. Take of the chapter's loop: a frame.
-/
import Derived.Test.YtnamkckpgaopkaaXj
set_option linter.unusedVariables false
set_option linter.unusedSimpArgs false
namespace Go.Proofs.Ytnamkckpgaopkaa
section
open Go.RowKit Go.K
/-- what Take hands back -/
def tk (kd n src fn : Int) (s : Option Addr) (k c : Nat) : List Value := [.int .i64 kd, .int .i64 n, .int .i64 src, .int .i64 fn, .slice s k c]
theorem tk_one (kd n src fn : Int) (s : Option Addr) (k c : Nat) : ∀ v ∈ tk kd n src fn s k c, v.oneCell' = true := by
  intro v hv
  simp only [tk, List.mem_cons, List.not_mem_nil, or_false] at hv
  rcases hv with rfl | rfl | rfl | rfl | rfl <;> rfl
theorem size77 : (Try.prog.info? 77).map (·.size) = some 5 := by kernel_rfl
theorem rl_in {w0 w : World} {L : List As} {A : As} {b : Nat} {R : RL} {p : Pt} (h : St w0 w (A :: (rlL b R p ++ L))) : St w0 w (rlL b R p ++ (A :: L)) :=
  St.sh [_, _, _, _, _, _] [1, 2, 3, 4, 5, 0] (by decide) h
set_option maxRecDepth 100000 in
set_option maxHeartbeats 2000000 in
theorem rtake_job {w0 w : World} {L : List As} {b : Nat} {R : RL} {j : Int} {js : List Int} (hj : R.jobs = j :: js) (h : St w0 w (rlO b R :: L)) (hn : R.jobs.length ≤ 100000) :
    Calls Try.prog 22 #[.pointer (some ⟨b, 0, none⟩)] w (RetSt (.agg (tk 1 j 0 0 none 0 0).toArray) w0 (rlO b { R with jobs := js } :: L)) := by
  obtain ⟨p, h⟩ := rl_open h
  have H0 := Lib.hid (rl_in (h.new (tk 0 0 0 0 none 0 0).toArray 77))
  obtain ⟨m, hm⟩ : ∃ m, w.heap.size = m := ⟨_, rfl⟩
  rw [hm] at H0
  clear h
  go_enter Try.func22, Try.ntmps22
  go_upto_region 1 with fail
  try simp only [hm]
  obtain ⟨W, hW⟩ : ∃ W, w.alloc (.cells #[.int .i64 0, .int .i64 0, .int .i64 0, .int .i64 0, .slice none 0 0] 77) = W := ⟨_, rfl⟩
  have H1 := Lib.hid (show St w0 W (rlL b R p ++ (As.cells m (tk 0 0 0 0 none 0 0).toArray 77 :: L)) from by rw [← hW]; exact H0.out)
  rw [hW]
  clear hW hm H0
  have H2 := Lib.hid (foc_rrj H1.out)
  obtain ⟨n, hl⟩ : ∃ n, R.jobs.length = n := ⟨_, rfl⟩
  have hl2 : n = js.length + 1 := by rw [← hl, hj]; rfl
  have hSl := H2.out.swap.sl
  obtain ⟨-, c8, -⟩ := rl_s H1.out
  rw [hl] at c8 hSl hn
  rw [hj] at hSl
  obtain ⟨g, off, hga, hcell⟩ := hSl.rd.addr (by omega)
  have d0 := hcell 0 (.int .i64 j) (by simp [flat, ic])
  try simp only [Nat.add_zero] at d0
  rw [hga] at c8 hSl
  clear hcell
  obtain ⟨sb, hrb, hB⟩ := hSl.cut_l el60 1 (by omega)
  rw [rh_drop (j :: js) 1] at hB
  push_cast at hrb
  simp only [List.drop_succ_cons, List.drop_zero] at hB
  have RB := Lib.hid hB.1
  have o0 := Own.fresh (Below.refl W.heap.size W) 3 1
  have hlt := H2.out.blk.1.lt
  have c8' : (W.alloc (.cells #[] 3)).cell? ⟨b, 8, none⟩ = some (.slice (some ⟨g, off, none⟩) n (p 1).2) := (o0.bel.cell hlt).trans c8
  have hn1 : (1 : Int) ≤ (n : Int) := by omega
  have hn0 : (0 : Int) < (n : Int) := by omega
  have HL2 := Lib.hid hl2
  have HJ := Lib.hid hj
  have HLR := Lib.hid hl
  clear hB hSl hga hl hl2 hj
  go_upto_region 4 with (refine wpList_append_own' (by rfl) _ _ 60 (by rfl) el60 _ 0 0 [] (by rfl) o0 sb (n - 1) ((p 1).2 - 1) _ (by rfl) (RB.out.below o0.bel).rd (by omega) (by omega) ?_; intro s2 c2 w3 o3 f2 n2; have H4 := Lib.hid (H2.out.own_new o3).swap; have kf := H4.out.free 8; have kc := (o3.bel.cell hlt).trans c8; clear f2 n2)
  have h5 := H4.out.set 8 (.slice s2 (n - 1) c2)
  simp only [Nat.zero_add] at *
  obtain ⟨W5, hW5⟩ : ∃ W5, w3.setCell ⟨b, 8, none⟩ (.slice s2 (n - 1) c2) = W5 := ⟨_, rfl⟩
  rw [hW5] at h5
  rw [hW5]
  have h6 := unf_rrj (n := n - 1) js (by have := HL2.out; omega) (St.sh [_, _, _] [2, 0, 1] (by decide) h5).drop
  have H6 := Lib.hid (St.sh [_, _, _, _, _, _] [5, 0, 1, 2, 3, 4] (by decide) h6)
  clear h5 h6 hW5 kf kc c8 c8'
  go_wp2_with (first
    | (refine st_store rfl (.tmp 2) (.tmp 33) rfl H6.out (tk 1 j 0 0 none 0 0) rfl rfl rfl rfl size77 (tk_one _ _ _ _ _ _ _) ?_; intro W7 HW7; have H7 := Lib.hid HW7; clear HW7)
    | fail)
  refine bodyPost_ret (results_cell_row (P := Try.prog) Try.results22 _ _ m 77 (tk 1 j 0 0 none 0 0).toArray _ _ rfl H7.out.blk.1 Try.underlying77 rfl size77) rfl ?_
  exact ⟨rfl, rl_shut H7.out.drop⟩
end
section
open Go.RowKit Go.K
def rframe (R : RL) : Prop := (R.dirty = true ∨ R.shots ≠ []) ∧ R.shown + 16 ≤ R.now
def RFrPost (R : RL) (b : Nat) (w0 : World) (L : List As) (E : Ending) (w' : World) : Prop :=
  ∃ s c, E = .returned (.agg (tk 3 0 0 0 s R.shots.length c).toArray) ∧ St w0 w' (As.row 3 1 s R.shots.length c (flat ic R.shots) :: rlO b { R with shots := [], dirty := false, shown := R.now } :: L)
set_option maxRecDepth 100000 in
set_option maxHeartbeats 2000000 in
theorem rtake_frame {w0 w : World} {L : List As} {b : Nat} {R : RL} (hj : R.jobs = []) (hf : rframe R) (h : St w0 w (rlO b R :: L)) (hn : R.shots.length ≤ 100000) (h0 : 0 ≤ R.shown) (h1 : R.shown ≤ 1152921504606846976) :
    Calls Try.prog 22 #[.pointer (some ⟨b, 0, none⟩)] w (RFrPost R b w0 L) := by
  obtain ⟨p, h⟩ := rl_open h
  have H0 := Lib.hid (rl_in (h.new (tk 0 0 0 0 none 0 0).toArray 77))
  have hW : ∃ W, w.alloc (.cells (tk 0 0 0 0 none 0 0).toArray 77) = W := ⟨_, rfl⟩
  obtain ⟨W, hW⟩ := hW
  rw [hW] at H0
  obtain ⟨m, hm⟩ : ∃ m, w.heap.size = m := ⟨_, rfl⟩
  rw [hm] at H0
  clear h
  have hw16 : IntKind.i64.wrap (R.shown + 16) = R.shown + 16 := by rw [IntKind.wrap_i64]; omega
  obtain ⟨-, c8, c9, -⟩ := rl_s H0.out
  obtain ⟨c0, -, -, -, c4, -, c6⟩ := rl_c H0.out
  rw [hj] at c8
  simp only [List.length_nil] at c8
  have HJ := Lib.hid hj
  have hge : decide (R.now ≥ R.shown + 16) = true := by simpa using hf.2
  have HF := Lib.hid hf
  have hd : R.dirty = true ∨ (R.dirty = false ∧ 0 < R.shots.length) := by
    rcases hf.1 with q | q
    · exact .inl q
    · cases hb : R.dirty with
      | true => exact .inl rfl
      | false => exact .inr ⟨rfl, List.length_pos_iff.2 q⟩
  clear hj hf
  go_enter Try.func22, Try.ntmps22
  go_upto_region 1 with fail
  try simp only [hm]
  rw [show w.alloc (.cells #[.int .i64 0, .int .i64 0, .int .i64 0, .int .i64 0, .slice none 0 0] 77) = W from hW]
  clear hW hm
  rcases hd with q | ⟨q, q2⟩
  · rw [q] at c6
    go_upto_region 5 with fail
    go_quiet (fail)
    go_upto_region 6 with fail
    obtain ⟨W2, hW2⟩ : ∃ W2, W.drewN nq = W2 := ⟨_, rfl⟩
    have H2 := Lib.hid (show St w0 W2 (rlL b R p ++ (As.cells m (tk 0 0 0 0 none 0 0).toArray 77 :: L)) from by rw [← hW2]; exact H0.out.drewN nq)
    rw [hW2]
    clear hW2 c0 c4 c6 c8 c9
    obtain ⟨-, -, c9, -⟩ := rl_s H2.out
    go_upto_region 7 with fail
    have h3 := rl_in (H2.out.new (tk 3 0 0 0 (p 2).1 R.shots.length (p 2).2).toArray 77)
    obtain ⟨m4, hm4⟩ : ∃ m4, W2.heap.size = m4 := ⟨_, rfl⟩
    obtain ⟨W3, hW3⟩ : ∃ W3, W2.alloc (.cells #[.int .i64 3, .int .i64 0, .int .i64 0, .int .i64 0, .slice (p 2).1 R.shots.length (p 2).2] 77) = W3 := ⟨_, rfl⟩
    have h3' : St w0 W3 (rlL b R p ++ (As.cells m4 (tk 3 0 0 0 (p 2).1 R.shots.length (p 2).2).toArray 77 :: As.cells m (tk 0 0 0 0 none 0 0).toArray 77 :: L)) := by rw [← hW3, ← hm4]; exact h3
    rw [hW3]
    try simp only [hm4]
    have H3 := Lib.hid h3'
    clear h3 h3' hm4 hW3 c9 H2
    obtain ⟨-, -, c9, -⟩ := rl_s H3.out
    have f9 := H3.out.free 9
    go_upto_region 8 with fail
    have h4 := (foc_rrh H3.out).set 9 (.slice none 0 0)
    obtain ⟨W4, hW4⟩ : ∃ W4, W3.setCell ⟨b, 9, none⟩ (.slice none 0 0) = W4 := ⟨_, rfl⟩
    rw [hW4] at h4
    rw [hW4]
    have h5 : St w0 W4 (As.cells b ((rlc R p).setIfInBounds 9 (.slice none 0 0)) 69 :: As.row 3 1 none 0 0 (flat ic []) :: (rst_rrh R p ++ (rrh R p :: As.cells m4 (tk 3 0 0 0 (p 2).1 R.shots.length (p 2).2).toArray 77 :: As.cells m (tk 0 0 0 0 none 0 0).toArray 77 :: L))) :=
      St.sh [_, _, _, _, _, _] [1, 0, 3, 4, 5, 2] (by decide) (h4.row_nil 3 1)
    have H5 := Lib.hid (unf_rrh [] rfl h5)
    clear h4 h5 hW4 c9 f9 H3
    obtain ⟨-, -, -, -, -, -, c6⟩ := rl_c H5.out
    have f6 := H5.out.free 6
    go_upto_region 9 with fail
    have h6 := H5.out.set 6 (.bool false)
    obtain ⟨W6, hW6⟩ : ∃ W6, W4.setCell ⟨b, 6, none⟩ (.bool false) = W6 := ⟨_, rfl⟩
    rw [hW6] at h6
    rw [hW6]
    rw [rset_dirty] at h6
    have H6 := Lib.hid (show St w0 W6 (rlL b { R with shots := [], dirty := false } (upd p 2 (none, 0)) ++ (rrh R p :: As.cells m4 (tk 3 0 0 0 (p 2).1 R.shots.length (p 2).2).toArray 77 :: As.cells m (tk 0 0 0 0 none 0 0).toArray 77 :: L)) from h6)
    clear h6 hW6 c6 f6 H5
    obtain ⟨c0, -, -, -, c4, -, -⟩ := rl_c H6.out
    have f4 := H6.out.free 4
    go_upto_region 10 with fail
    have h7 := H6.out.set 4 (.int .i64 R.now)
    obtain ⟨W7, hW7⟩ : ∃ W7, W6.setCell ⟨b, 4, none⟩ (.int .i64 R.now) = W7 := ⟨_, rfl⟩
    rw [hW7] at h7
    rw [hW7]
    rw [rset_shown] at h7
    have H7 := Lib.hid (show St w0 W7 (rlL b { R with shots := [], dirty := false, shown := R.now } (upd p 2 (none, 0)) ++ (rrh R p :: As.cells m4 (tk 3 0 0 0 (p 2).1 R.shots.length (p 2).2).toArray 77 :: As.cells m (tk 0 0 0 0 none 0 0).toArray 77 :: L)) from h7)
    clear h7 hW7 c0 c4 f4 H6
    have H8 := Lib.hid (St.sh [_, _, _, _, _, _, _, _] [7, 0, 1, 2, 3, 4, 5, 6] (by decide) H7.out)
    have hb4 := (St.sh [_, _, _, _, _, _, _, _] [6, 0, 1, 2, 3, 4, 5, 7] (by decide) H7.out).blk.1
    have k0 : W7.cell? ⟨m4, 0, none⟩ = some (.int .i64 3) := by rw [hb4.cell]; rfl
    have k1 : W7.cell? ⟨m4, 1, none⟩ = some (.int .i64 0) := by rw [hb4.cell]; rfl
    have k2 : W7.cell? ⟨m4, 2, none⟩ = some (.int .i64 0) := by rw [hb4.cell]; rfl
    have k3 : W7.cell? ⟨m4, 3, none⟩ = some (.int .i64 0) := by rw [hb4.cell]; rfl
    have k4 : W7.cell? ⟨m4, 4, none⟩ = some (.slice (p 2).1 R.shots.length (p 2).2) := by rw [hb4.cell]; rfl
    clear hb4
    go_wp2_with (first
      | (refine st_store rfl (.tmp 2) (.tmp 76) rfl H8.out (tk 3 0 0 0 (p 2).1 R.shots.length (p 2).2) rfl rfl rfl rfl size77 (tk_one _ _ _ _ _ _ _) ?_; intro W9 HW9; have H9 := Lib.hid HW9; clear HW9)
      | fail)
    refine bodyPost_ret (results_cell_row (P := Try.prog) Try.results22 _ _ m 77 (tk 3 0 0 0 (p 2).1 R.shots.length (p 2).2).toArray _ _ rfl H9.out.blk.1 Try.underlying77 rfl size77) rfl ?_
    refine ⟨(p 2).1, (p 2).2, rfl, ?_⟩
    have h9 := H9.out.drop
    exact (rl_shut (St.sh [_, _, _, _, _, _, _] [6, 0, 1, 2, 3, 4, 5] (by decide) h9).drop).swap
  · rw [q] at c6
    have q3 : (0 : Int) < (R.shots.length : Int) := by omega
    go_upto_region 5 with fail
    go_quiet (fail)
    go_upto_region 6 with fail
    obtain ⟨W2, hW2⟩ : ∃ W2, W.drewN nq = W2 := ⟨_, rfl⟩
    have H2 := Lib.hid (show St w0 W2 (rlL b R p ++ (As.cells m (tk 0 0 0 0 none 0 0).toArray 77 :: L)) from by rw [← hW2]; exact H0.out.drewN nq)
    rw [hW2]
    clear hW2 c0 c4 c6 c8 c9
    obtain ⟨-, -, c9, -⟩ := rl_s H2.out
    go_upto_region 7 with fail
    have h3 := rl_in (H2.out.new (tk 3 0 0 0 (p 2).1 R.shots.length (p 2).2).toArray 77)
    obtain ⟨m4, hm4⟩ : ∃ m4, W2.heap.size = m4 := ⟨_, rfl⟩
    obtain ⟨W3, hW3⟩ : ∃ W3, W2.alloc (.cells #[.int .i64 3, .int .i64 0, .int .i64 0, .int .i64 0, .slice (p 2).1 R.shots.length (p 2).2] 77) = W3 := ⟨_, rfl⟩
    have h3' : St w0 W3 (rlL b R p ++ (As.cells m4 (tk 3 0 0 0 (p 2).1 R.shots.length (p 2).2).toArray 77 :: As.cells m (tk 0 0 0 0 none 0 0).toArray 77 :: L)) := by rw [← hW3, ← hm4]; exact h3
    rw [hW3]
    try simp only [hm4]
    have H3 := Lib.hid h3'
    clear h3 h3' hm4 hW3 c9 H2
    obtain ⟨-, -, c9, -⟩ := rl_s H3.out
    have f9 := H3.out.free 9
    go_upto_region 8 with fail
    have h4 := (foc_rrh H3.out).set 9 (.slice none 0 0)
    obtain ⟨W4, hW4⟩ : ∃ W4, W3.setCell ⟨b, 9, none⟩ (.slice none 0 0) = W4 := ⟨_, rfl⟩
    rw [hW4] at h4
    rw [hW4]
    have h5 : St w0 W4 (As.cells b ((rlc R p).setIfInBounds 9 (.slice none 0 0)) 69 :: As.row 3 1 none 0 0 (flat ic []) :: (rst_rrh R p ++ (rrh R p :: As.cells m4 (tk 3 0 0 0 (p 2).1 R.shots.length (p 2).2).toArray 77 :: As.cells m (tk 0 0 0 0 none 0 0).toArray 77 :: L))) :=
      St.sh [_, _, _, _, _, _] [1, 0, 3, 4, 5, 2] (by decide) (h4.row_nil 3 1)
    have H5 := Lib.hid (unf_rrh [] rfl h5)
    clear h4 h5 hW4 c9 f9 H3
    obtain ⟨-, -, -, -, -, -, c6⟩ := rl_c H5.out
    have f6 := H5.out.free 6
    go_upto_region 9 with fail
    have h6 := H5.out.set 6 (.bool false)
    obtain ⟨W6, hW6⟩ : ∃ W6, W4.setCell ⟨b, 6, none⟩ (.bool false) = W6 := ⟨_, rfl⟩
    rw [hW6] at h6
    rw [hW6]
    rw [rset_dirty] at h6
    have H6 := Lib.hid (show St w0 W6 (rlL b { R with shots := [], dirty := false } (upd p 2 (none, 0)) ++ (rrh R p :: As.cells m4 (tk 3 0 0 0 (p 2).1 R.shots.length (p 2).2).toArray 77 :: As.cells m (tk 0 0 0 0 none 0 0).toArray 77 :: L)) from h6)
    clear h6 hW6 c6 f6 H5
    obtain ⟨c0, -, -, -, c4, -, -⟩ := rl_c H6.out
    have f4 := H6.out.free 4
    go_upto_region 10 with fail
    have h7 := H6.out.set 4 (.int .i64 R.now)
    obtain ⟨W7, hW7⟩ : ∃ W7, W6.setCell ⟨b, 4, none⟩ (.int .i64 R.now) = W7 := ⟨_, rfl⟩
    rw [hW7] at h7
    rw [hW7]
    rw [rset_shown] at h7
    have H7 := Lib.hid (show St w0 W7 (rlL b { R with shots := [], dirty := false, shown := R.now } (upd p 2 (none, 0)) ++ (rrh R p :: As.cells m4 (tk 3 0 0 0 (p 2).1 R.shots.length (p 2).2).toArray 77 :: As.cells m (tk 0 0 0 0 none 0 0).toArray 77 :: L)) from h7)
    clear h7 hW7 c0 c4 f4 H6
    have H8 := Lib.hid (St.sh [_, _, _, _, _, _, _, _] [7, 0, 1, 2, 3, 4, 5, 6] (by decide) H7.out)
    have hb4 := (St.sh [_, _, _, _, _, _, _, _] [6, 0, 1, 2, 3, 4, 5, 7] (by decide) H7.out).blk.1
    have k0 : W7.cell? ⟨m4, 0, none⟩ = some (.int .i64 3) := by rw [hb4.cell]; rfl
    have k1 : W7.cell? ⟨m4, 1, none⟩ = some (.int .i64 0) := by rw [hb4.cell]; rfl
    have k2 : W7.cell? ⟨m4, 2, none⟩ = some (.int .i64 0) := by rw [hb4.cell]; rfl
    have k3 : W7.cell? ⟨m4, 3, none⟩ = some (.int .i64 0) := by rw [hb4.cell]; rfl
    have k4 : W7.cell? ⟨m4, 4, none⟩ = some (.slice (p 2).1 R.shots.length (p 2).2) := by rw [hb4.cell]; rfl
    clear hb4
    go_wp2_with (first
      | (refine st_store rfl (.tmp 2) (.tmp 76) rfl H8.out (tk 3 0 0 0 (p 2).1 R.shots.length (p 2).2) rfl rfl rfl rfl size77 (tk_one _ _ _ _ _ _ _) ?_; intro W9 HW9; have H9 := Lib.hid HW9; clear HW9)
      | fail)
    refine bodyPost_ret (results_cell_row (P := Try.prog) Try.results22 _ _ m 77 (tk 3 0 0 0 (p 2).1 R.shots.length (p 2).2).toArray _ _ rfl H9.out.blk.1 Try.underlying77 rfl size77) rfl ?_
    refine ⟨(p 2).1, (p 2).2, rfl, ?_⟩
    have h9 := H9.out.drop
    exact (rl_shut (St.sh [_, _, _, _, _, _, _] [6, 0, 1, 2, 3, 4, 5] (by decide) h9).drop).swap
end
end Go.Proofs.Ytnamkckpgaopkaa
