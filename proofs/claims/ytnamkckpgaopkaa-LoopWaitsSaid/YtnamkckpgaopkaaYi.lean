/-
  Take of the chapter's loop: a task.
-/
import Derived.Test.YtnamkckpgaopkaaYe
import Derived.Deep.CutBlock
set_option linter.unusedVariables false
set_option linter.unusedSimpArgs false
namespace Go.Proofs.Ytnamkckpgaopkaa
open Go.RowKit Go.K
set_option maxRecDepth 100000 in
set_option maxHeartbeats 4000000 in
theorem rtake_task {w0 w : World} {L : List As} {b : Nat} {R : RL} (hj : R.jobs = []) (hf : ¬ rframe R) (h : St w0 w (rlO b R :: L)) (hB : RBn R) :
    Calls Try.prog 22 #[.pointer (some ⟨b, 0, none⟩)] w (RTkP (rfireS R) b w0 L) := by
  obtain ⟨p, h⟩ := rl_open h
  have H0 := Lib.hid (rl_in (h.new (tk 0 0 0 0 none 0 0).toArray 77))
  have hW : ∃ W, w.alloc (.cells (tk 0 0 0 0 none 0 0).toArray 77) = W := ⟨_, rfl⟩
  obtain ⟨W, hW⟩ := hW
  rw [hW] at H0
  obtain ⟨m, hm⟩ : ∃ m, w.heap.size = m := ⟨_, rfl⟩
  rw [hm] at H0
  clear h
  have HB := Lib.hid hB
  have hw16 : IntKind.i64.wrap (R.shown + 16) = R.shown + 16 := by rw [IntKind.wrap_i64]; have := hB.sh0; have := hB.sh1; omega
  obtain ⟨-, c8, c9, -⟩ := rl_s H0.out
  obtain ⟨c0, -, -, -, c4, -, c6⟩ := rl_c H0.out
  rw [hj] at c8
  simp only [List.length_nil] at c8
  have HF := Lib.hid hf
  clear hj hf hB
  go_enter Try.func22, Try.ntmps22
  go_upto_region 1 with fail
  try simp only [hm]
  rw [show w.alloc (.cells #[.int .i64 0, .int .i64 0, .int .i64 0, .int .i64 0, .slice none 0 0] 77) = W from hW]
  clear hW hm
  go_upto_region 5 with fail
  go_cut [57] (fun v57 wx => v57 = .bool false ∧ ∃ d, wx = W.drewN d)
  case first =>
    have hd : (R.dirty = true ∧ ¬ R.shown + 16 ≤ R.now) ∨ (R.dirty = false ∧ 0 < R.shots.length ∧ ¬ R.shown + 16 ≤ R.now) ∨ (R.dirty = false ∧ ¬ 0 < R.shots.length) := by
      have hf := HF.out
      unfold rframe at hf
      cases hb : R.dirty with
      | true => exact .inl ⟨rfl, fun q => hf ⟨.inl hb, q⟩⟩
      | false =>
        by_cases hl : 0 < R.shots.length
        · exact .inr (.inl ⟨rfl, hl, fun q => hf ⟨.inr (List.length_pos_iff.1 hl), q⟩⟩)
        · exact .inr (.inr ⟨rfl, hl⟩)
    rcases hd with ⟨q, q2⟩ | ⟨q, q3, q2⟩ | ⟨q, q3⟩
    · rw [q] at c6
      have hge : decide (R.shown + 16 ≤ R.now) = false := by simpa using q2
      clear q
      go_quiet (fail)
      go_wp2_with fail
      go_meet
      exact ⟨rfl, _, rfl⟩
    · rw [q] at c6
      have hge : decide (R.shown + 16 ≤ R.now) = false := by simpa using q2
      have q4 : (0 : Int) < (R.shots.length : Int) := by omega
      have q5 : decide (0 < R.shots.length) = true := by simpa using q3
      clear q
      go_quiet (fail)
      go_wp2_with fail
      go_meet
      exact ⟨rfl, _, rfl⟩
    · rw [q] at c6
      have q4 : ¬ (0 : Int) < (R.shots.length : Int) := by omega
      have q5 : decide (0 < R.shots.length) = false := by simp only [decide_eq_false_iff_not]; exact q3
      clear q
      go_quiet (fail)
      go_wp2_with fail
      go_meet
      exact ⟨rfl, _, rfl⟩
  case rest =>
    obtain ⟨rfl, d, rfl⟩ := hcut
    obtain ⟨W4, hW4⟩ : ∃ W4, W.drewN d = W4 := ⟨_, rfl⟩
    have h5 := H0.out.drewN d
    rw [hW4] at h5
    rw [hW4]
    have H5 := Lib.hid (rl_shut h5).swap
    clear hW4 c0 c4 c6 c8 c9 h5 H0 HF hw16
    have H5 := Lib.hid (show St w0 W4 (As.cells m (tk 0 0 0 0 none 0 0).toArray 77 :: rlO b R :: L) from by
      obtain ⟨p, h⟩ := rl_open H5.out.swap
      exact H5.out)
    go_wp2_with fail
    go_loopg [] (waitN R.tms) (LR1 R b m w0 L)
    case atStart => exact ⟨R, rfl, rfl, HB.out, H5.out⟩
    case round =>
      obtain ⟨R1, hg, hf1, hB1, h1⟩ := hrel
      have Hg := Lib.hid hg
      have HF1 := Lib.hid hf1
      have HB1 := Lib.hid hB1
      have H1 := Lib.hid h1
      clear hg hf1 hB1 h1 H5
      go_upto_region 12 with (go_at_call 48; refine (rfirst_st H1.out.swap (by have := HB1.out.m; omega)).mono ?_; rintro e w2 ⟨rfl, hb⟩; have H2 := Lib.hid (H1.out.of_below hb); clear hb)
      obtain ⟨p, h2⟩ := rl_open H2.out.swap
      have H3 := Lib.hid h2
      obtain ⟨c0, -⟩ := rl_c h2
      obtain ⟨-, -, -, c10⟩ := rl_s h2
      obtain ⟨B, hB⟩ : ∃ B, bestM R1.tms R1.tms.length = B := ⟨_, rfl⟩
      rw [hB]
      have HBB := Lib.hid (show bestR R1 = B from hB)
      clear hB h2
      go_cut [95] (fun v95 wx => v95 = .bool (!(decide (dueR R1))) ∧ ∃ d, wx = w2.drewN d)
      case first =>
        by_cases hB0 : B < 0
        · have b0 : decide (B < 0) = true := by simpa using hB0
          have HN := Lib.hid (show decide (dueR R1) = false from by simp [dueR, HBB.out]; omega)
          clear hB0
          go_quiet (fail)
          go_wp2_with fail
          go_meet
          exact ⟨by rw [HN.out]; rfl, _, rfl⟩
        · obtain ⟨q, hq, hql⟩ := best_lt (R := R1) (by rw [HBB.out]; omega)
          have hqB : B = q := by rw [← HBB.out]; exact hq
          subst hqB
          obtain ⟨g, off, hga, hne, hfr, hrd⟩ := rm_at2 H3.out q hql
          rw [hga] at c10
          obtain ⟨d0, d1, d2, d3, d4, d5⟩ := rm_cells hrd hql
          obtain ⟨x, hx⟩ : ∃ x, R1.tms[q] = x := ⟨_, rfl⟩
          have HX := Lib.hid (show nthM R1.tms q = x by rw [nthM_eq hql, hx])
          rw [hx] at d1
          have b0 : decide ((q : Int) < 0) = false := by simp
          have hqn : (q : Int) < (R1.tms.length : Int) := by omega
          clear d0 d2 d3 d4 d5 hrd hfr hne hga hx hq
          by_cases hd : x.due > R1.now
          · have b1 : decide (x.due > R1.now) = true := by simpa using hd
            have HN := Lib.hid (show decide (dueR R1) = false from by simp [dueR, HBB.out, HX.out]; omega)
            clear hd hB0
            go_quiet (fail)
            go_wp2_with fail
            go_meet
            exact ⟨by rw [HN.out]; rfl, _, rfl⟩
          · have b1 : decide (x.due > R1.now) = false := by simpa using hd
            have HN := Lib.hid (show decide (dueR R1) = true from by simp [dueR, HBB.out, HX.out]; omega)
            clear hd hB0
            go_quiet (fail)
            go_wp2_with fail
            go_meet
            exact ⟨by rw [HN.out]; rfl, _, rfl⟩
      case rest =>
        obtain ⟨rfl, d, rfl⟩ := hcut
        obtain ⟨W4, hW4⟩ : ∃ W4, w2.drewN d = W4 := ⟨_, rfl⟩
        have h5 := H3.out.drewN d
        rw [hW4] at h5
        rw [hW4]
        have H5 := Lib.hid h5
        clear hW4 c0 c10 h5 H3 H2 H1
        cases hdd : decide (dueR R1) with
        | true =>
          have HD := Lib.hid (show dueR R1 from by simpa using hdd)
          clear hdd
          obtain ⟨q, hq, hql⟩ := best_lt (R := R1) HD.out.1
          have hqB : B = q := by rw [← HBB.out]; exact hq
          subst hqB
          obtain ⟨g, off, hga, hne, hfr, hrd⟩ := rm_at2 H5.out q hql
          obtain ⟨-, -, -, c10⟩ := rl_s H5.out
          rw [hga] at c10
          obtain ⟨d0, -, -, -, -, d5⟩ := rm_cells hrd hql
          obtain ⟨x, hx⟩ : ∃ x, R1.tms[q] = x := ⟨_, rfl⟩
          have HX := Lib.hid (show nthM R1.tms q = x by rw [nthM_eq hql, hx])
          rw [hx] at d0 d5
          have hqn : (q : Int) < (R1.tms.length : Int) := by omega
          have f5 := hfr (off + q * 6 + 5)
          go_upto_region 14 with fail
          have h6 := rm_set H5.out hga q hql 5 (by omega) (.bool false) rfl { x with w := false } (by rw [hx]; rfl)
          obtain ⟨W6, hW6⟩ : ∃ W6, W4.setCell ⟨g, off + q * 6 + 5, none⟩ (.bool false) = W6 := ⟨_, rfl⟩
          rw [hW6] at h6
          rw [hW6]
          have H6 := Lib.hid h6
          clear hW6 c10 d0 d5 f5 hrd hfr h6 H5
          have hql2 : q < (R1.tms.set q { x with w := false }).length := by simpa using hql
          obtain ⟨g', off', hga', -, -, hrd⟩ := rm_at2 H6.out q hql2
          rw [hga] at hga'
          cases hga'
          obtain ⟨-, -, -, c10⟩ := rl_s H6.out
          rw [hga] at c10
          simp only [List.length_set] at c10
          obtain ⟨d0, -⟩ := rm_cells hrd hql2
          simp only [List.getElem_set_self] at d0
          have hid : (nthM R1.tms q).id = x.id := by rw [HX.out]
          have H7 := Lib.hid (rl_shut (R := { R1 with tms := R1.tms.set q { x with w := false } }) H6.out)
          clear hrd H6
          have hbd := HB1.out
          have HC := Lib.hid (show R1.tasks.length ≤ 100000 ∧ 0 ≤ R1.ord ∧ R1.ord ≤ 1000000000000 from ⟨by have := hbd.t; omega, hbd.ord0, by have := hbd.ord1; omega⟩)
          clear hbd
          have HFI := Lib.hid (show fire1 R1 (bestR R1).toNat = rpushS { R1 with tms := R1.tms.set q { x with w := false } } 2 0 x.id from by rw [hq, Int.toNat_natCast, fire1, HX.out])
          clear hq hga hx hid hne
          go_wp2_with (go_at_call 41; refine (rpush_st 2 0 x.id H7.out HC.out.1 HC.out.2.1 HC.out.2.2).mono ?_; rintro e w8 ⟨rfl, h8⟩; have H8 := Lib.hid h8; clear h8 c10 d0)
          go_roundg (waitN (fire1 R1 (bestR R1).toNat).tms)
          case measure => have := fire1_wait HD.out; have := Hg.out; omega
          case rel => exact ⟨_, rfl, by rw [← HF1.out, rfireS_step HD.out], HB1.out.fire1 HD.out, by rw [HFI.out]; exact H8.out.swap⟩
        | false =>
          have HD := Lib.hid (show ¬ dueR R1 from by simpa using hdd)
          clear hdd
          have HRF := Lib.hid (show rfireS R = R1 from by rw [← HF1.out, rfireS_stop HD.out])
          have H6 := Lib.hid (rl_shut H5.out).swap
          clear H5 HD HBB Hg HB HF1
          go_upto_block 2 with fail
          rw [HRF.out]
          exact take_loop2 HB1.out H6.out

end Go.Proofs.Ytnamkckpgaopkaa
