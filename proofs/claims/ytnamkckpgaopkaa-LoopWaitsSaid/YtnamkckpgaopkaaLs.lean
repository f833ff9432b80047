/-
  Next of a State.
-/
import Derived.Test.YtnamkckpgaopkaaLr
set_option linter.unusedVariables false
set_option linter.unusedSimpArgs false
namespace Go.Proofs.Ytnamkckpgaopkaa
open Go.RowKit Go.K

theorem jpop0 {w0 w : World} {L : List As} {b : Nat} {S : LS} (hq : S.jobs = []) (h : St w0 w (stO b S :: L)) :
    Calls Try.prog 30 #[.pointer (some ⟨b, 7, none⟩)] w (RetSt (.tuple #[.agg #[.int .i64 0, .slice none 0 0], .bool false]) w0 (stO b S :: L)) := by
  obtain ⟨p, G, hb, h⟩ := st_open h
  have h2 := foc_j h
  obtain ⟨e2, -⟩ := st_s h
  rw [h2.cell] at e2
  have e3 : S.jobs.length = 0 := by rw [hq]; rfl
  rw [e3] at e2
  have h3 : St w0 w (As.cells b (stc S p) 37 :: As.row 44 2 (p 5).1 0 (p 5).2 (flat Jb.cells S.jobs) :: (rstJ S p G ++ L)) := by
    have := h2
    unfold rj at this
    rwa [e3] at this
  refine (qpop0J h3 e2).mono ?_
  rintro e w' ⟨rfl, h4⟩
  refine ⟨rfl, st_shut (p := p) hb ?_⟩
  have h5 : St w0 w' (As.cells b (stc S p) 37 :: rj S p :: (rstJ S p G ++ L)) := by
    unfold rj
    rw [e3]
    exact h4
  exact St.sh [_, _, _, _, _, _, _] [0, 2, 3, 4, 5, 6, 1] (by decide) h5
theorem jpop1 {w0 w : World} {L : List As} {b : Nat} {S : LS} {j : Jb} {r : List Jb} (hq : S.jobs = j :: r) (hn : S.jobs.length ≤ 100000) (h : St w0 w (stO b S :: L)) :
    Calls Try.prog 30 #[.pointer (some ⟨b, 7, none⟩)] w fun E w' => E = .returned (.tuple #[.agg j.cells.toArray, .bool true]) ∧ ∃ p G, BagOk { S with jobs := r } G ∧ ⟨j.a, j.an, j.ac, vcells j.k⟩ ∈ G ∧ St w0 w' (stL b { S with jobs := r } p G ++ L) := by
  obtain ⟨p, G, hb, h⟩ := st_open h
  have h2 := foc_j h
  obtain ⟨e2, -⟩ := st_s h
  rw [h2.cell] at e2
  unfold rj at h2
  rw [hq] at h2 e2 hn
  rw [flat_cons] at h2
  refine (qpop1J j.k j.a j.an j.ac (n := r.length) h2 e2 (by simp at hn; omega)).mono ?_
  rintro e w' ⟨rfl, s', c', h3⟩
  exact ⟨rfl, _, G, ⟨hb.calls, fun y hy => hb.jobs y (by rw [hq]; exact List.mem_cons_of_mem _ hy)⟩, hb.jobs j (by rw [hq]; exact List.mem_cons_self), unf_j r rfl h3⟩
def showB (S : LS) : Bool := (S.dirty || decide (0 < S.shots.length)) && decide (S.shown + 16 ≤ S.now)
theorem showB_iff (S : LS) : showB S = true ↔ Shows S := by
  unfold showB Shows
  simp
theorem set_render (S : LS) (p : Pt) : (((stc S p).setIfInBounds 11 (.slice none 0 0)).setIfInBounds 13 (.bool false)).setIfInBounds 14 (.int .i64 S.now) = stc { S with shots := [], dirty := false, shown := S.now } (upd p 8 (none, 0)) := by
  simp [stc, upd]
theorem render_st {w0 w : World} {L : List As} {b : Nat} {S : LS} {p : Pt} {G : List Bx} (hb : BagOk S G) (h : St w0 w (As.cells b ((((stc S p).setIfInBounds 11 (.slice none 0 0)).setIfInBounds 13 (.bool false)).setIfInBounds 14 (.int .i64 S.now)) 37 :: rh S p :: (rstH S p G ++ L))) :
    St w0 w (stO b { S with shots := [], dirty := false, shown := S.now } :: rh S p :: L) := by
  rw [set_render] at h
  have h1 : St w0 w (As.cells b (stc { S with shots := [], dirty := false, shown := S.now } (upd p 8 (none, 0))) 37 :: (rstH S p G ++ (rh S p :: L))) := h.perm (List.Perm.cons _ (List.perm_middle.symm))
  have h2 := (h1.row_nil 63 5).swap
  refine st_shut (p := upd p 8 (none, 0)) (G := G) ⟨hb.calls, hb.jobs⟩ ?_
  have e : stL b { S with shots := [], dirty := false, shown := S.now } (upd p 8 (none, 0)) G = [As.cells b (stc { S with shots := [], dirty := false, shown := S.now } (upd p 8 (none, 0))) 37, rq S p 0, rq S p 1, rq S p 2, rq S p 3, rq S p 4, rj S p, rt S p, rc S p, As.row 63 5 none 0 0 [], As.bg G] := by
    simp [stL, rq, rj, rt, rc, rh, upd, flat]
  rw [e]
  exact St.sh [_, _, _, _, _, _, _, _, _, _] [0, 2, 3, 4, 5, 6, 7, 8, 9, 1] (by decide) h2
theorem held_two {P : Program} {ops : Array Oper} {Q : Exit → Act → World → Prop} {S : World → Prop} {i j : Nat} {o1 o2 : Oper} {n : Nat} {l : Array Bool} {a : Act} {w : World} (h1 : ops[i]? = some o1) (h2 : ops[j]? = some o2) (hr : Region.ready .any ops l = [i, j])
    (g1 : ∀ K' : Act → World → Prop, (∀ a w, S w ∧ wpAnyH P .any ops Q S n (l.setIfInBounds i true) a w → K' a w) → if Region.wanted o1 (yielded ops a.tmps) = true then Oper.wp P o1 a w K' Q else K' (a.put o1.dst undef) w)
    (g2 : ∀ K' : Act → World → Prop, (∀ a w, S w ∧ wpAnyH P .any ops Q S n (l.setIfInBounds j true) a w → K' a w) → if Region.wanted o2 (yielded ops a.tmps) = true then Oper.wp P o2 a w K' Q else K' (a.put o2.dst undef) w) : wpAnyH P .any ops Q S (n + 1) l a w := by
  refine wpAnyH_all hr (by simp) (fun k hk => ?_)
  simp at hk
  rcases hk with rfl | rfl
  · exact wpOp_step h1 g1
  · exact wpOp_step h2 g2
theorem pop_now {S S2 : LS} {T : Tm} {ok : Bool} (h : popTm S = (T, ok, S2)) : S2.now = S.now := by
  unfold popTm at h
  cases hs : S.tm with
  | nil => rw [hs] at h; simp only [Prod.mk.injEq] at h; rw [← h.2.2]
  | cons t r =>
    rw [hs] at h
    simp only at h
    split at h <;> (simp only [Prod.mk.injEq] at h; rw [← h.2.2])
theorem tpop_n {w0 w : World} {L : List As} {b : Nat} {S : LS} (h : St w0 w (stO b S :: L)) (hn : S.tm.length ≤ 100000) (t0 t1 t2 : Int) (ok : Bool) (S2 : LS) (hp : popTm S = (⟨t0, t1, t2⟩, ok, S2)) :
    Calls Try.prog 31 #[.pointer (some ⟨b, 8, none⟩), .int .i64 S.now] w fun E w' => E = .returned (.tuple #[.agg #[.int .i64 t0, .int .i64 t1, .int .i64 t2], .bool ok]) ∧ St w0 w' (stO b S2 :: L) := tpop_s h hn _ _ _ hp
theorem st_al {w0 w : World} {A B C : As} {L : List As} (h : St w0 w (A :: B :: C :: L)) : St w0 w (B :: C :: A :: L) := h.swap.perm (List.Perm.cons _ (.swap _ _ _))
def NxRel (S : LS) (b m : Nat) (w0 : World) (L : List As) (g : Nat) (wr : World) : Prop :=
  ∃ S1, g = S1.tm.length ∧ Room S1 ∧ fireS S1 = fireS S ∧ St w0 wr (As.cells m Ch.z.cells.toArray 50 :: stO b S1 :: L)
set_option maxRecDepth 100000 in
set_option maxHeartbeats 4000000 in
theorem next_st {w0 w : World} {L : List As} {b : Nat} {S : LS} (h : St w0 w (stO b S :: L)) (hR : Room S) (hF : Bnd (fireS S)) :
    Calls Try.prog 13 #[.pointer (some ⟨b, 0, none⟩)] w (NextPost S b w0 L) := by
  have H1 := Lib.hid (h.new Ch.z.cells.toArray 50)
  have HR := Lib.hid hR
  have HFB := Lib.hid hF
  have z50 : ∀ w, (zeroValue 50).run Try.prog w = .ok (.agg #[.int .i64 0, .int .i64 0, .slice none 0 0, .int .i64 0, .int .i64 0, .int .i64 0, .string { data := #[] }, .slice none 0 0, .int .i64 0, .int .i64 0, .int .i64 0, .int .i64 0, .string { data := #[] }, .int .i64 0, .slice none 0 0, .slice none 0 0]) w := zv50
  clear h hR hF
  obtain ⟨m, hm⟩ : ∃ m, w.heap.size = m := ⟨_, rfl⟩
  rw [hm] at H1
  cases hj : S.jobs with
  | cons j r =>
    have HJ := Lib.hid hj
    clear hj
    go_enter Try.func13, Try.ntmps13
    go_upto_region 2 with (go_at_call 30; refine (jpop1 HJ.out HR.out.bnd.jobs H1.out.swap).mono ?_; rintro e w2 ⟨rfl, p2, G2, hbg, hx, h2⟩; have HBG := Lib.hid hbg; have HX := Lib.hid hx; have H2 := Lib.hid (h2.new j.cells.toArray 44); clear hbg hx h2; simp only [Jb.cells])
    obtain ⟨m3, hm3⟩ : ∃ b, w2.heap.size = b := ⟨_, rfl⟩
    obtain ⟨W3, hW3⟩ : ∃ W, w2.alloc (.cells #[.int .i64 j.k, .slice j.a j.an j.ac] 44) = W := ⟨_, rfl⟩
    have h3 : St w0 W3 (As.cells m Ch.z.cells.toArray 50 :: As.cells m3 j.cells.toArray 44 :: (stL b { S with jobs := r } p2 G2 ++ L)) := by
      rw [← hW3, ← hm3]
      exact (H2.out.perm (List.Perm.cons _ List.perm_middle)).swap
    rw [hW3]
    simp only [hm3]
    clear H2 hW3 hm3
    have H3 := Lib.hid h3
    obtain ⟨k0, k1, -⟩ := (h3.swap.blk.1).two
    clear h3
    go_wp2_with (first
      | (refine st_store rfl (.tmp 2) (.tmp 17) rfl H3.out (chJ j).cells rfl rfl rfl rfl size50 (Ch.one _) ?_; intro W4 HW4; have H4 := Lib.hid HW4; clear HW4))
    refine bodyPost_ret (results_cell_row (P := Try.prog) Try.results13 _ _ m 50 (chJ j).cells.toArray _ _ rfl H4.out.blk.1 Try.underlying50 rfl size50) rfl ?_
    refine ⟨_, _, _, rfl, .job HJ.out, rfl, fun _ => (bg_rc H4.out (.tail _ (.tail _ (.tail _ (.tail _ (.tail _ (.tail _ (.tail _ (.tail _ (.tail _ (.tail _ (.tail _ (.tail _ (.head _))))))))))))) HX.out).1, ?_⟩
    exact ((st_shut HBG.out H4.out.drop.drop).row_nil 63 5).swap
  | nil =>
    have HJ := Lib.hid hj
    clear hj
    go_enter Try.func13, Try.ntmps13
    go_upto_region 4 with (go_at_call 30; refine (jpop0 HJ.out H1.out.swap).mono ?_; rintro e w2 ⟨rfl, h2⟩; have H2 := Lib.hid (h2.new #[.int .i64 0, .slice none 0 0] 44); clear h2)
    obtain ⟨W3, hW3⟩ : ∃ W, w2.alloc (.cells #[.int .i64 0, .slice none 0 0] 44) = W := ⟨_, rfl⟩
    rw [hW3] at H2
    rw [hW3]
    clear hW3
    have H3 := Lib.hid H2.out.drop
    clear H2
    obtain ⟨p, G, hbg, h4⟩ := st_open H3.out
    have H4 := Lib.hid h4
    have HBG := Lib.hid hbg
    obtain ⟨c0, -, -, -, c13, c14, -⟩ := st_c h4
    obtain ⟨-, -, -, c11⟩ := st_s h4
    clear h4 hbg H1
    have hsh0 := HR.out.bnd.sh0
    have hsh1 := HR.out.bnd.sh1
    go_cut [41] (fun v41 wx => v41 = .bool (showB S) ∧ ∃ d, wx = W3.drewN d)
    case first =>
      obtain ⟨d, hd⟩ : ∃ d, S.dirty = d := ⟨_, rfl⟩
      rw [hd] at c13
      have HD := Lib.hid hd
      clear hd
      cases d with
      | true =>
        by_cases hn : S.shown + 16 ≤ S.now
        · have hnb : decide (S.shown + 16 ≤ S.now) = true := by simp [hn]
          go_quiet (fail)
          go_wp2_with fail
          go_meet
          exact ⟨by simp [showB, HD.out, hn], _, rfl⟩
        · have hnb : decide (S.shown + 16 ≤ S.now) = false := by simp [hn]
          go_quiet (fail)
          go_wp2_with fail
          go_meet
          exact ⟨by simp [showB, HD.out]; omega, _, rfl⟩
      | false =>
        by_cases hl : 0 < S.shots.length
        · have hlI : (0 : Int) < (S.shots.length : Int) := by omega
          have hlb : decide ((0 : Int) < (S.shots.length : Int)) = true := by simp only [decide_eq_true_eq]; exact hlI
          by_cases hn : S.shown + 16 ≤ S.now
          · have hnb : decide (S.shown + 16 ≤ S.now) = true := by simp [hn]
            go_quiet (fail)
            go_wp2_with fail
            go_meet
            exact ⟨by simp [showB, HD.out, hn, hl], _, rfl⟩
          · have hnb : decide (S.shown + 16 ≤ S.now) = false := by simp [hn]
            go_quiet (fail)
            go_wp2_with fail
            go_meet
            exact ⟨by simp [showB, HD.out, hn, hl], _, rfl⟩
        · have hlI : ¬ (0 : Int) < (S.shots.length : Int) := by omega
          have hlb : decide ((0 : Int) < (S.shots.length : Int)) = false := by simp only [decide_eq_false_iff_not]; exact hlI
          go_quiet (fail)
          go_wp2_with fail
          go_meet
          exact ⟨by simp [showB, HD.out, hl], _, rfl⟩
    case rest =>
      obtain ⟨rfl, d, rfl⟩ := hcut
      obtain ⟨W4, hW4⟩ : ∃ W, W3.drewN d = W := ⟨_, rfl⟩
      have h5 := H4.out.drewN d
      rw [hW4] at h5
      rw [hW4]
      have H5 := Lib.hid h5
      clear hW4 c0 c13 c14 c11 h5 H4 H3
      cases hsb : showB S with
      | true =>
        have HSH := Lib.hid ((showB_iff S).1 hsb)
        clear hsb
        have h6 := foc_h H5.out
        obtain ⟨c0, -, -, -, -, -, -⟩ := st_c H5.out
        obtain ⟨-, -, -, c11⟩ := st_s H5.out
        have f11 := H5.out.free 11
        have f13 := H5.out.free 13
        have f14 := H5.out.free 14
        have c13 := h6.cell 13
        have c14 := h6.cell 14
        simp [stc] at c13 c14
        have H7 := Lib.hid (H5.out.new Ch.z.cells.toArray 50)
        clear h6
        go_upto_region 6 with (first
          | (refine st_store rfl (.tmp 5) (.tmp 46) rfl H7.out (chH (p 8).1 S.shots.length (p 8).2).cells rfl rfl rfl rfl size50 (Ch.one _) ?_; intro W8 HW8; have H8 := Lib.hid HW8; clear HW8))
        obtain ⟨m5, hm5⟩ : ∃ b, W4.heap.size = b := ⟨_, rfl⟩
        rw [hm5] at H8
        simp only [hm5]
        clear H7 hm5 c0 c11 c13 c14 f11 f13 f14
        have h8 := st_in (X := stL b S p G) H8.out
        obtain ⟨c0, -, -, -, c13, c14, -⟩ := st_c h8
        obtain ⟨-, -, -, c11⟩ := st_s h8
        have f11 := h8.free 11
        have f13 := h8.free 13
        have f14 := h8.free 14
        have H9 := Lib.hid (render_st HBG.out (((foc_h h8).set 11 (.slice none 0 0)).set 13 (.bool false) |>.set 14 (.int .i64 S.now)))
        clear h8
        go_upto_region 9 with fail
        obtain ⟨W9, hW9⟩ : ∃ W, ((W8.setCell ⟨b, 11, none⟩ (.slice none 0 0)).setCell ⟨b, 13, none⟩ (.bool false)).setCell ⟨b, 14, none⟩ (.int .i64 S.now) = W := ⟨_, rfl⟩
        rw [hW9] at H9
        rw [hW9]
        clear hW9 H8 H5 c0 c11 c13 c14 f11 f13 f14
        go_wp2_with (first
          | (refine st_load rfl (.tmp 5) rfl (chH (p 8).1 S.shots.length (p 8).2).cells H9.out (.tail _ (.tail _ (.head _))) rfl rfl Try.underlying50 rfl size50 ?_)
          | (refine st_store rfl (.tmp 2) (.tmp 60) rfl (st_rev4 H9.out) (chH (p 8).1 S.shots.length (p 8).2).cells rfl rfl rfl rfl size50 (Ch.one _) ?_; intro W10 HW10; have H10 := Lib.hid HW10; clear HW10))
        refine bodyPost_ret (results_cell_row (P := Try.prog) Try.results13 _ _ m 50 (chH (p 8).1 S.shots.length (p 8).2).cells.toArray _ _ rfl H10.out.blk.1 Try.underlying50 rfl size50) rfl ?_
        exact ⟨_, _, _, rfl, .shows HJ.out HSH.out, rfl, fun q => absurd q (by simp [chH]), H10.out.drop.drop.swap⟩
      | false =>
        have HSH := Lib.hid (show ¬ Shows S from fun q => by rw [(showB_iff S).2 q] at hsb; cases hsb)
        clear hsb
        have h6 := (st_shut HBG.out H5.out).swap
        have H6 := Lib.hid h6
        clear h6 H5 HBG
        go_wp2_with fail
        go_loopg [] S.tm.length (NxRel S b m w0 L)
        case atStart => exact ⟨S, rfl, HR.out, rfl, H6.out⟩
        case round =>
          obtain ⟨S1, hg, hR1, hf1, h1⟩ := hrel
          have Hg := Lib.hid hg
          have HR1 := Lib.hid hR1
          have HF1 := Lib.hid hf1
          have H7 := Lib.hid h1.drew
          obtain ⟨p7, G7, -, h7⟩ := st_open h1.swap
          obtain ⟨c0, -⟩ := st_c h7.drew
          clear hg hR1 hf1 h7 H6
          obtain ⟨T, ok, S2, hp⟩ : ∃ T ok S2, popTm S1 = (T, ok, S2) := ⟨_, _, _, rfl⟩
          obtain ⟨t0, t1, t2⟩ := T
          have HP := Lib.hid hp
          clear hp
          go_upto_region 10 with fail
          have hS : (fun w' : World => w'.cell? ⟨b, 0, none⟩ = some (.int .i64 S1.now)) wr.drew := c0
          clear c0 h1
          obtain ⟨Wd, hWd⟩ : ∃ W, wr.drew = W := ⟨_, rfl⟩
          rw [hWd] at H7 hS
          refine wp_region_held (S := (fun w' : World => w'.cell? ⟨b, 0, none⟩ = some (.int .i64 S1.now))) (by kernel_rfl) ?_
          change wpAnyH _ _ _ _ _ _ _ _ (World.drew _)
          rw [hWd]
          refine' wpAnyH_take (i := 0) (v := _) rfl (by kernel_rfl) (by kernel_rfl) (by kernel_rfl) (fun _ _ _ h => h) (Or.inl ⟨by rfl, ?hy0⟩) hS ?rest0
          case hy0 => (intro w' hSw; obtain k0 := hSw; go_simp; try with_reducible rfl)
          try simp only [Act.put, List.getElem_toArray, List.getElem_cons_zero, List.getElem_cons_succ, List.setIfInBounds_toArray, List.set_cons_zero, List.set_cons_succ]
          refine' wpAnyH_take (i := 1) (v := _) rfl (by kernel_rfl) (by kernel_rfl) (by kernel_rfl) (fun _ _ _ h => h) (Or.inl ⟨by rfl, ?hy1⟩) hS ?rest1
          case hy1 => (intro w' hSw; obtain k0 := hSw; go_simp; try with_reducible rfl)
          try simp only [Act.put, List.getElem_toArray, List.getElem_cons_zero, List.getElem_cons_succ, List.setIfInBounds_toArray, List.set_cons_zero, List.set_cons_succ]
          refine' wpAnyH_take (i := 2) (v := _) rfl (by kernel_rfl) (by kernel_rfl) (by kernel_rfl) (fun _ _ _ h => h) (Or.inl ⟨by rfl, ?hy2⟩) hS ?rest2
          case hy2 => (intro w' hSw; obtain k0 := hSw; go_simp; try with_reducible rfl)
          try simp only [Act.put, List.getElem_toArray, List.getElem_cons_zero, List.getElem_cons_succ, List.setIfInBounds_toArray, List.set_cons_zero, List.set_cons_succ]
          refine' wpAnyH_take (i := 3) (v := _) rfl (by kernel_rfl) (by kernel_rfl) (by kernel_rfl) (fun _ _ _ h => h) (Or.inl ⟨by rfl, ?hy3⟩) hS ?rest3
          case hy3 => (intro w' hSw; obtain k0 := hSw; go_simp; try with_reducible rfl)
          try simp only [Act.put, List.getElem_toArray, List.getElem_cons_zero, List.getElem_cons_succ, List.setIfInBounds_toArray, List.set_cons_zero, List.set_cons_succ]
          refine' wpAnyH_take (i := 4) (v := _) rfl (by kernel_rfl) (by kernel_rfl) (by kernel_rfl) (fun _ _ _ h => h) (Or.inl ⟨by rfl, ?hy4⟩) hS ?rest4
          case hy4 => (intro w' hSw; obtain k0 := hSw; go_simp; try with_reducible rfl)
          try simp only [Act.put, List.getElem_toArray, List.getElem_cons_zero, List.getElem_cons_succ, List.setIfInBounds_toArray, List.set_cons_zero, List.set_cons_succ]
          refine' wpAnyH_take (i := 5) (v := _) rfl (by kernel_rfl) (by kernel_rfl) (by kernel_rfl) (fun _ _ _ h => h) (Or.inl ⟨by rfl, ?hy5⟩) hS ?rest5
          case hy5 => (intro w' hSw; obtain k0 := hSw; go_simp; try with_reducible rfl)
          try simp only [Act.put, List.getElem_toArray, List.getElem_cons_zero, List.getElem_cons_succ, List.setIfInBounds_toArray, List.set_cons_zero, List.set_cons_succ]
          refine' wpAnyH_take (i := 6) (v := _) rfl (by kernel_rfl) (by kernel_rfl) (by kernel_rfl) (fun _ _ _ h => h) (Or.inl ⟨by rfl, ?hy6⟩) hS ?rest6
          case hy6 => (intro w' hSw; obtain k0 := hSw; go_simp; try with_reducible rfl)
          try simp only [Act.put, List.getElem_toArray, List.getElem_cons_zero, List.getElem_cons_succ, List.setIfInBounds_toArray, List.set_cons_zero, List.set_cons_succ]
          refine (?use : (∀ (W : World) (m6 : Nat), St w0 W (As.cells m6 #[.int .i64 t0, .int .i64 t1, .int .i64 t2] 95 :: As.cells m Ch.z.cells.toArray 50 :: stO b S2 :: L) → (?G : World → Nat → Prop) W m6) → _) ?fin
          case use =>
            intro fin
            refine held_two (i := 7) (j := 11) rfl rfl (by kernel_rfl) ?_ ?_
            · intro K' hK; have HK' := Lib.hid hK; clear hK
              refine wp_call (by rfl) (by rfl) Try.func31 (by kernel_rfl) (by kernel_rfl) (by kernel_rfl) (tpop_n H7.out.swap HR1.out.bnd.tm _ _ _ _ _ HP.out) ?_
              rintro e w8 ⟨rfl, h8⟩
              have H8 := Lib.hid h8.swap
              clear h8
              have hS8 : (fun w' : World => w'.cell? ⟨b, 0, none⟩ = some (.int .i64 S1.now)) w8 := by
                obtain ⟨p8, G8, -, h8⟩ := st_open H8.out.swap
                obtain ⟨q, -⟩ := st_c h8
                rw [pop_now HP.out] at q
                exact q
              refine ⟨_, rfl, HK'.out _ _ ⟨hS8, ?_⟩⟩
              clear HK' K'
              try simp only [Act.put, List.getElem_toArray, List.getElem_cons_zero, List.getElem_cons_succ, List.setIfInBounds_toArray, List.set_cons_zero, List.set_cons_succ]
              refine' wpAnyH_take (i := 8) (v := .tuple #[.agg #[.int .i64 t0, .int .i64 t1, .int .i64 t2], .bool ok]) rfl (by kernel_rfl) (by kernel_rfl) (by kernel_rfl) (fun _ _ _ h => h) (Or.inl ⟨by rfl, ?hy8a⟩) hS8 ?rest8a
              case hy8a => (intro w' hSw; obtain k0 := hSw; go_simp; try with_reducible rfl)
              try simp only [Act.put, List.getElem_toArray, List.getElem_cons_zero, List.getElem_cons_succ, List.setIfInBounds_toArray, List.set_cons_zero, List.set_cons_succ]
              refine' wpAnyH_take (i := 9) (v := .agg #[.int .i64 t0, .int .i64 t1, .int .i64 t2]) rfl (by kernel_rfl) (by kernel_rfl) (by kernel_rfl) (fun _ _ _ h => h) (Or.inl ⟨by rfl, ?hy9a⟩) hS8 ?rest9a
              case hy9a => (intro w' hSw; obtain k0 := hSw; go_simp; try with_reducible rfl)
              try simp only [Act.put, List.getElem_toArray, List.getElem_cons_zero, List.getElem_cons_succ, List.setIfInBounds_toArray, List.set_cons_zero, List.set_cons_succ]
              refine' wpAnyH_take (i := 10) (v := .bool ok) rfl (by kernel_rfl) (by kernel_rfl) (by kernel_rfl) (fun _ _ _ h => h) (Or.inl ⟨by rfl, ?hy10a⟩) hS8 ?rest10a
              case hy10a => (intro w' hSw; obtain k0 := hSw; go_simp; try with_reducible rfl)
              try simp only [Act.put, List.getElem_toArray, List.getElem_cons_zero, List.getElem_cons_succ, List.setIfInBounds_toArray, List.set_cons_zero, List.set_cons_succ]
              refine held_one (i := 11) rfl (by kernel_rfl) ?_
              intro K' hK; have HK' := Lib.hid hK; clear hK
              go_simp
              have h9 := H8.out.new #[.int .i64 0, .int .i64 0, .int .i64 0] 95
              obtain ⟨m6, hm6⟩ : ∃ b, w8.heap.size = b := ⟨_, rfl⟩
              obtain ⟨W9, hW9⟩ : ∃ W, w8.alloc (.cells #[.int .i64 0, .int .i64 0, .int .i64 0] 95) = W := ⟨_, rfl⟩
              rw [hW9, hm6] at h9
              rw [hW9]
              simp only [hm6]
              have H9 := Lib.hid h9
              clear h9 hW9 hm6
              have hS9 : (fun w' : World => w'.cell? ⟨b, 0, none⟩ = some (.int .i64 S1.now)) W9 := by
                obtain ⟨p8, G8, -, h8⟩ := st_open H9.out.front2
                obtain ⟨q, -⟩ := st_c h8
                rw [pop_now HP.out] at q
                exact q
              refine HK'.out _ _ ⟨hS9, ?_⟩
              clear HK' K'
              try simp only [Act.put, List.getElem_toArray, List.getElem_cons_zero, List.getElem_cons_succ, List.setIfInBounds_toArray, List.set_cons_zero, List.set_cons_succ]
              refine held_one (i := 12) rfl (by kernel_rfl) ?_
              intro K' hK; have HK' := Lib.hid hK; clear hK
              obtain ⟨y0, y1, y2, y3, y4, y5⟩ := H9.out.blk.1.three
              go_simp
              have h10 := ((H9.out.set 0 (.int .i64 t0)).set 1 (.int .i64 t1)).set 2 (.int .i64 t2)
              simp only [List.setIfInBounds_toArray, List.set_cons_zero, List.set_cons_succ] at h10
              obtain ⟨W10, hW10⟩ : ∃ W, ((W9.setCell ⟨m6, 0, none⟩ (.int .i64 t0)).setCell ⟨m6, 1, none⟩ (.int .i64 t1)).setCell ⟨m6, 2, none⟩ (.int .i64 t2) = W := ⟨_, rfl⟩
              rw [hW10] at h10
              rw [hW10]
              have H10 := Lib.hid h10
              clear h10 hW10 y0 y1 y2 y3 y4 y5
              have hS10 : (fun w' : World => w'.cell? ⟨b, 0, none⟩ = some (.int .i64 S1.now)) W10 := by
                obtain ⟨p8, G8, -, h8⟩ := st_open H10.out.front2
                obtain ⟨q, -⟩ := st_c h8
                rw [pop_now HP.out] at q
                exact q
              refine HK'.out _ _ ⟨hS10, ?_⟩
              clear HK' K'
              try simp only [Act.put, List.getElem_toArray, List.getElem_cons_zero, List.getElem_cons_succ, List.setIfInBounds_toArray, List.set_cons_zero, List.set_cons_succ]
              refine held_one (i := 13) rfl (by kernel_rfl) ?_
              intro K' hK; have HK' := Lib.hid hK; clear hK
              go_simp
              refine HK'.out _ _ ⟨hS10, ?_⟩
              clear HK' K'
              try simp only [Act.put, List.getElem_toArray, List.getElem_cons_zero, List.getElem_cons_succ, List.setIfInBounds_toArray, List.set_cons_zero, List.set_cons_succ]
              refine wpAnyH_done (by kernel_rfl) ?_ _
              exact fin W10 m6 H10.out
            · intro K' hK; have HK' := Lib.hid hK; clear hK
              go_simp
              have h9 := H7.out.new #[.int .i64 0, .int .i64 0, .int .i64 0] 95
              obtain ⟨m6, hm6⟩ : ∃ b, Wd.heap.size = b := ⟨_, rfl⟩
              obtain ⟨W9, hW9⟩ : ∃ W, Wd.alloc (.cells #[.int .i64 0, .int .i64 0, .int .i64 0] 95) = W := ⟨_, rfl⟩
              rw [hW9, hm6] at h9
              rw [hW9]
              simp only [hm6]
              have H7a := Lib.hid h9
              clear h9 hW9 hm6
              have hS9 : (fun w' : World => w'.cell? ⟨b, 0, none⟩ = some (.int .i64 S1.now)) W9 := by
                obtain ⟨p8, G8, -, h8⟩ := st_open H7a.out.front2
                obtain ⟨q, -⟩ := st_c h8
                exact q
              refine HK'.out _ _ ⟨hS9, ?_⟩
              clear HK' K'
              try simp only [Act.put, List.getElem_toArray, List.getElem_cons_zero, List.getElem_cons_succ, List.setIfInBounds_toArray, List.set_cons_zero, List.set_cons_succ]
              refine held_one (i := 7) rfl (by kernel_rfl) ?_
              intro K' hK; have HK' := Lib.hid hK; clear hK
              refine wp_call (by rfl) (by rfl) Try.func31 (by kernel_rfl) (by kernel_rfl) (by kernel_rfl) (tpop_n H7a.out.front2 HR1.out.bnd.tm _ _ _ _ _ HP.out) ?_
              rintro e w8 ⟨rfl, h8⟩
              have H8 := Lib.hid (st_al h8)
              clear h8
              have hS8 : (fun w' : World => w'.cell? ⟨b, 0, none⟩ = some (.int .i64 S1.now)) w8 := by
                obtain ⟨p8, G8, -, h8⟩ := st_open H8.out.front2
                obtain ⟨q, -⟩ := st_c h8
                rw [pop_now HP.out] at q
                exact q
              refine ⟨_, rfl, HK'.out _ _ ⟨hS8, ?_⟩⟩
              clear HK' K'
              try simp only [Act.put, List.getElem_toArray, List.getElem_cons_zero, List.getElem_cons_succ, List.setIfInBounds_toArray, List.set_cons_zero, List.set_cons_succ]
              refine' wpAnyH_take (i := 8) (v := .tuple #[.agg #[.int .i64 t0, .int .i64 t1, .int .i64 t2], .bool ok]) rfl (by kernel_rfl) (by kernel_rfl) (by kernel_rfl) (fun _ _ _ h => h) (Or.inl ⟨by rfl, ?hy8b⟩) hS8 ?rest8b
              case hy8b => (intro w' hSw; obtain k0 := hSw; go_simp; try with_reducible rfl)
              try simp only [Act.put, List.getElem_toArray, List.getElem_cons_zero, List.getElem_cons_succ, List.setIfInBounds_toArray, List.set_cons_zero, List.set_cons_succ]
              refine' wpAnyH_take (i := 9) (v := .agg #[.int .i64 t0, .int .i64 t1, .int .i64 t2]) rfl (by kernel_rfl) (by kernel_rfl) (by kernel_rfl) (fun _ _ _ h => h) (Or.inl ⟨by rfl, ?hy9b⟩) hS8 ?rest9b
              case hy9b => (intro w' hSw; obtain k0 := hSw; go_simp; try with_reducible rfl)
              try simp only [Act.put, List.getElem_toArray, List.getElem_cons_zero, List.getElem_cons_succ, List.setIfInBounds_toArray, List.set_cons_zero, List.set_cons_succ]
              refine' wpAnyH_take (i := 10) (v := .bool ok) rfl (by kernel_rfl) (by kernel_rfl) (by kernel_rfl) (fun _ _ _ h => h) (Or.inl ⟨by rfl, ?hy10b⟩) hS8 ?rest10b
              case hy10b => (intro w' hSw; obtain k0 := hSw; go_simp; try with_reducible rfl)
              try simp only [Act.put, List.getElem_toArray, List.getElem_cons_zero, List.getElem_cons_succ, List.setIfInBounds_toArray, List.set_cons_zero, List.set_cons_succ]
              refine held_one (i := 12) rfl (by kernel_rfl) ?_
              intro K' hK; have HK' := Lib.hid hK; clear hK
              obtain ⟨y0, y1, y2, y3, y4, y5⟩ := H8.out.blk.1.three
              go_simp
              have h10 := ((H8.out.set 0 (.int .i64 t0)).set 1 (.int .i64 t1)).set 2 (.int .i64 t2)
              simp only [List.setIfInBounds_toArray, List.set_cons_zero, List.set_cons_succ] at h10
              obtain ⟨W10, hW10⟩ : ∃ W, ((w8.setCell ⟨m6, 0, none⟩ (.int .i64 t0)).setCell ⟨m6, 1, none⟩ (.int .i64 t1)).setCell ⟨m6, 2, none⟩ (.int .i64 t2) = W := ⟨_, rfl⟩
              rw [hW10] at h10
              rw [hW10]
              have H10 := Lib.hid h10
              clear h10 hW10 y0 y1 y2 y3 y4 y5
              have hS10 : (fun w' : World => w'.cell? ⟨b, 0, none⟩ = some (.int .i64 S1.now)) W10 := by
                obtain ⟨p8, G8, -, h8⟩ := st_open H10.out.front2
                obtain ⟨q, -⟩ := st_c h8
                rw [pop_now HP.out] at q
                exact q
              refine HK'.out _ _ ⟨hS10, ?_⟩
              clear HK' K'
              try simp only [Act.put, List.getElem_toArray, List.getElem_cons_zero, List.getElem_cons_succ, List.setIfInBounds_toArray, List.set_cons_zero, List.set_cons_succ]
              refine held_one (i := 13) rfl (by kernel_rfl) ?_
              intro K' hK; have HK' := Lib.hid hK; clear hK
              go_simp
              refine HK'.out _ _ ⟨hS10, ?_⟩
              clear HK' K'
              try simp only [Act.put, List.getElem_toArray, List.getElem_cons_zero, List.getElem_cons_succ, List.setIfInBounds_toArray, List.set_cons_zero, List.set_cons_succ]
              refine wpAnyH_done (by kernel_rfl) ?_ _
              exact fin W10 m6 H10.out
          case fin =>
            intro W10 m6 h10
            have H10 := Lib.hid h10
            clear h10 hS
            cases ok with
            | false =>
              obtain ⟨hfe, rfl⟩ := fire_end HP.out
              have HFE := Lib.hid hfe
              clear hfe
              go_wp2_with (first
                | (go_at_call 32; refine (task_st H10.out.front2 HR1.out.bnd).mono ?_; rintro e w11 ⟨S3, x, rfl, ht, h11⟩; have HT := Lib.hid ht; have H11 := Lib.hid (st_al h11).swap; clear h11 ht)
                | (refine st_store rfl (.tmp 2) (.tmp 80) rfl H11.out x.cells rfl rfl rfl rfl size50 (Ch.one _) ?_; intro W12 HW12; have H12 := Lib.hid HW12; clear HW12))
              refine bodyPost_ret (results_cell_row (P := Try.prog) Try.results13 _ _ m 50 x.cells.toArray _ _ rfl H12.out.blk.1 Try.underlying50 rfl size50) rfl ?_
              obtain ⟨z1, z2, z3, z4⟩ := task_z HT.out
              refine ⟨S3, x, [], rfl, .task HJ.out HSH.out (by rw [← HF1.out, HFE.out]; exact HT.out), z2, fun q => by omega, ?_⟩
              rw [z1, z2, z3]
              exact (H12.out.drop.drop.row_nil 63 5).swap
            | true =>
              obtain ⟨hrm, hb2, ho2⟩ := room_step HP.out HR1.out
              obtain ⟨hfg, htl, -, htn⟩ := fire_go HP.out
              have HRM := Lib.hid hrm
              have HB2 := Lib.hid hb2
              have HFG := Lib.hid hfg
              have HTL := Lib.hid htl
              have HO := Lib.hid (show S2.ord ≤ 1000000000000 from hb2.ord1)
              clear hrm hb2 ho2 hfg htl htn
              obtain ⟨y0, y1, y2, -⟩ := H10.out.blk.1.three
              go_wp2_with (go_at_call 12; refine (push_st 2 0 t0 H10.out.front2 HB2.out.q HB2.out.ord0 HO.out).mono ?_; rintro e w11 ⟨rfl, h11⟩; have H11 := Lib.hid (st_al h11); clear h11 y0 y1 y2)
              go_roundg (pushS S2 2 0 t0).tm.length
              case measure => have := Hg.out; have := HTL.out; show S2.tm.length < _; omega
              case rel => exact ⟨_, rfl, HRM.out, by rw [← HF1.out, HFG.out], H11.out.drop⟩

end Go.Proofs.Ytnamkckpgaopkaa
