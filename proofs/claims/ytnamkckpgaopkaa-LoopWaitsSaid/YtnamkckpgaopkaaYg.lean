/-
  The law's check of a state.
-/
import Derived.Test.YtnamkckpgaopkaaYf
import Derived.Test.YtnamkckpgaopkaaKy
import Derived.Lib.QuietBelow
import Derived.BigQuiet
set_option linter.unusedVariables false
set_option linter.unusedSimpArgs false
namespace Go.Proofs.Ytnamkckpgaopkaa
open Go.RowKit Go.K

theorem Wt.len {M : List RM} {ts : List Tm} {nx : Int} (h : Wt M ts nx) : ts.length = waitN M := by
  rw [← h.perm.length_eq, wl, List.length_map, waitN, List.countP_eq_length_filter]
def SmRel1 (R : RL) (p : Pt) (m3 n : Nat) (w : World) (g : Nat) (v : Value) (wr : World) : Prop :=
  ∃ k : Nat, g = n - k ∧ k ≤ n ∧ v = .int .i64 k ∧ St w wr [As.cells m3 (rlc R p) 69]
def SmRel2 (R : RL) (p : Pt) (m3 n : Nat) (w : World) (g : Nat) (v6 v : Value) (wr : World) : Prop :=
  ∃ k : Nat, g = n - k ∧ k ≤ n ∧ v = .int .i64 k ∧ v6 = .int .i64 (waitN (R.tms.take k)) ∧ St w wr [As.cells m3 (rlc R p) 69]
theorem waitN_succ {M : List RM} {k : Nat} (hk : k < M.length) : waitN (M.take (k + 1)) = waitN (M.take k) + (if M[k].w then 1 else 0) := by
  unfold waitN
  rw [List.take_succ_eq_append_getElem hk, List.countP_append]
  congr 1
  cases h : M[k].w <;> simp [h]
theorem hs_id {w : World} {g off : Nat} {n : Nat} {M : List Int} (h : Rd w 5 (some ⟨g, off, none⟩) n (flat Hs.cells (M.map (fun n => ⟨n, -n⟩)))) {k : Nat} (hk : k < M.length) :
    w.cell? ⟨g, off + k * 5, none⟩ = some (.int .i64 M[k]) ∧ w.cell? ⟨g, off + k * 5 + 2, none⟩ = some (.int .i64 (-M[k])) := by
  have key : ∀ j v, j < 5 → ((⟨M[k], -M[k]⟩ : Hs).cells)[j]? = some v → w.cell? ⟨g, off + k * 5 + j, none⟩ = some v := fun j v hj hv => by
    have h2 := h.cells _ rfl _ _ ((flat_at (f := Hs.cells) (sz := 5) (fun _ => rfl) (M.map (fun n => (⟨n, -n⟩ : Hs))) k j (by simpa using hk) hj).trans (by rw [List.getElem_map]; exact hv))
    rwa [Addr.add_lit, ← Nat.add_assoc] at h2
  exact ⟨key 0 _ (by omega) rfl, key 2 _ (by omega) rfl⟩
theorem ic_at {w : World} {g off : Nat} {n : Nat} {M : List Int} (h : Rd w 1 (some ⟨g, off, none⟩) n (flat ic M)) {k : Nat} (hk : k < M.length) : w.cell? ⟨g, off + k, none⟩ = some (.int .i64 M[k]) := by
  have h2 := h.cells _ rfl _ _ ((flat_at lenIc M k 0 hk (by omega)).trans rfl)
  rw [Addr.add_lit] at h2
  simpa using h2
theorem cl_cells {w : World} {g off : Nat} {n : Nat} {M : List Cl} (h : Rd w 7 (some ⟨g, off, none⟩) n (flat Cl.cells M)) {k : Nat} (hk : k < M.length) :
    w.cell? ⟨g, off + k * 7, none⟩ = some (.int .i64 M[k].id) ∧ w.cell? ⟨g, off + k * 7 + 1, none⟩ = some (.int .i64 M[k].ev) ∧ w.cell? ⟨g, off + k * 7 + 3, none⟩ = some (.int .i64 M[k].fn) := by
  have key : ∀ j v, j < 7 → (M[k].cells)[j]? = some v → w.cell? ⟨g, off + k * 7 + j, none⟩ = some v := fun j v hj hv => by
    have h2 := h.cells _ rfl _ _ ((flat_at lenC M k j hk hj).trans hv)
    rwa [Addr.add_lit, ← Nat.add_assoc] at h2
  exact ⟨key 0 _ (by omega) rfl, key 1 _ (by omega) rfl, key 3 _ (by omega) rfl⟩
theorem tlen_any {w0 w : World} {L : List As} {b : Nat} {S : LS} (h : St w0 w (stO b S :: L)) : Calls Try.prog 47 #[.pointer (some ⟨b, 8, none⟩)] w fun e w' => e = .returned (.int .i64 S.tm.length) ∧ w = w' := by
  obtain ⟨p, G, -, h⟩ := st_open h
  exact tlen_st (foc_t h)
set_option maxRecDepth 100000 in
set_option maxHeartbeats 4000000 in
theorem same_st {w0 w : World} {L : List As} {b b2 : Nat} {S : LS} {R : RL} {p : Pt} (hr : Rl S R) (hn : R.tasks.length ≤ 100000) (hq : ∀ i, (S.q i).length ≤ 100000) (h : St w0 w (rlL b2 R p ++ (stO b S :: L))) (ht : R.tms.length ≤ 100000) (hs : R.shots.length ≤ 100000) (hj : R.jobs.length ≤ 100000) :
    Calls Try.prog 21 #[.pointer (some ⟨b, 0, none⟩), .agg (rlc R p)] w fun e w' => e = .returned (.bool true) ∧ Below w.heap.size w w' := by
  have HA := Lib.hid h
  have HRL := Lib.hid hr
  have HLQ := Lib.hid hq
  have HNT := Lib.hid hn
  have HRH := Lib.hid (show Rd w 1 (p 2).1 R.shots.length (flat ic R.shots) from by
    have h1 := (foc_rrh h).swap
    unfold rrh at h1
    exact h1.sl.rd)
  have HRM := Lib.hid (show Rd w 6 (p 3).1 R.tms.length (flat RM.cells R.tms) from by
    have h1 := (foc_rrm h).swap
    unfold rrm at h1
    exact h1.sl.rd)
  obtain ⟨ps, G, -, hst⟩ := st_open (st_out h)
  have hlt := hst.blk.1.lt
  have e5 : S.jobs.length = R.jobs.length := by rw [← hr.jobs, List.length_map]
  have e8 : S.shots.length = R.shots.length := by rw [hr.shots, List.length_map]
  have e7 : S.calls.length = R.tms.length := by have := congrArg List.length hr.calls; simpa using this
  have e6 : S.tm.length = waitN R.tms := hr.wt.len
  have HSC := Lib.hid (show w.cell? ⟨b, 0, none⟩ = some (.int .i64 R.now) ∧ w.cell? ⟨b, 6, none⟩ = some (.int .i64 R.ord) ∧ w.cell? ⟨b, 9, none⟩ = some (.int .i64 R.next) ∧ w.cell? ⟨b, 12, none⟩ = some (.int .i64 R.last) ∧ w.cell? ⟨b, 14, none⟩ = some (.int .i64 R.shown) ∧ w.cell? ⟨b, 15, none⟩ = some (.int .i64 R.users) ∧ w.cell? ⟨b, 13, none⟩ = some (.bool R.dirty) ∧ w.cell? ⟨b, 7, none⟩ = some (.slice (ps 5).1 R.jobs.length (ps 5).2) ∧ w.cell? ⟨b, 11, none⟩ = some (.slice (ps 8).1 R.shots.length (ps 8).2) ∧ w.cell? ⟨b, 10, none⟩ = some (.slice (ps 7).1 R.tms.length (ps 7).2) ∧ w.cell? ⟨b, 8, none⟩ = some (.slice (ps 6).1 (waitN R.tms) (ps 6).2) from by
    obtain ⟨a0, a1, a2, a3, a4, a5, a6⟩ := st_c hst
    obtain ⟨a7, a8, a9, a10⟩ := st_s hst
    rw [hr.now] at a0
    rw [hr.ord] at a1
    rw [hr.nx] at a2
    rw [hr.last] at a3
    rw [hr.dirty] at a4
    rw [hr.shown] at a5
    rw [hr.users] at a6
    rw [e5] at a7
    rw [e6] at a8
    rw [e7] at a9
    rw [e8] at a10
    exact ⟨a0, a1, a2, a3, a5, a6, a4, a7, a10, a9, a8⟩)
  have HSH := Lib.hid (show Rd w 5 (ps 8).1 R.shots.length (flat Hs.cells (R.shots.map (fun n => ⟨n, -n⟩))) from by
    have h1 := (foc_h hst).swap
    unfold rh at h1
    have h2 := h1.sl.rd
    rw [e8, hr.shots] at h2
    exact h2)
  have HSK := Lib.hid (show Rd w 7 (ps 7).1 R.tms.length (flat Cl.cells S.calls) from by
    have h1 := (foc_c hst).swap
    unfold rc at h1
    have h2 := h1.sl.rd
    rw [e7] at h2
    exact h2)
  have HCL := Lib.hid e7
  clear hst h hr hq e5 e8 e7 e6 hn
  show Calls Try.prog 21 #[.pointer (some ⟨b, 0, none⟩), .agg #[.int .i64 R.now, .int .i64 R.ord, .int .i64 R.next, .int .i64 R.last, .int .i64 R.shown, .int .i64 R.users, .bool R.dirty, .slice (p 0).1 R.tasks.length (p 0).2, .slice (p 1).1 R.jobs.length (p 1).2, .slice (p 2).1 R.shots.length (p 2).2, .slice (p 3).1 R.tms.length (p 3).2]] w _
  have H0 := Lib.hid ((St.start w (Below.refl _ _)).new #[.int .i64 R.now, .int .i64 R.ord, .int .i64 R.next, .int .i64 R.last, .int .i64 R.shown, .int .i64 R.users, .bool R.dirty, .slice (p 0).1 R.tasks.length (p 0).2, .slice (p 1).1 R.jobs.length (p 1).2, .slice (p 2).1 R.shots.length (p 2).2, .slice (p 3).1 R.tms.length (p 3).2] 69)
  go_enter Try.func21, Try.ntmps21
  go_upto_region 1 with fail
  obtain ⟨m3, hm3⟩ : ∃ m, w.heap.size = m := ⟨_, rfl⟩
  obtain ⟨W1, hW1⟩ : ∃ W, w.alloc (.cells #[.int .i64 R.now, .int .i64 R.ord, .int .i64 R.next, .int .i64 R.last, .int .i64 R.shown, .int .i64 R.users, .bool R.dirty, .slice (p 0).1 R.tasks.length (p 0).2, .slice (p 1).1 R.jobs.length (p 1).2, .slice (p 2).1 R.shots.length (p 2).2, .slice (p 3).1 R.tms.length (p 3).2] 69) = W := ⟨_, rfl⟩
  have h1 := H0.out
  rw [hW1, hm3] at h1
  rw [hW1]
  try simp only [hm3]
  have H1 := Lib.hid h1
  clear h1 H0 hW1 hm3
  have k0 : W1.cell? ⟨m3, 0, none⟩ = some (.int .i64 R.now) := by rw [H1.out.blk.1.cell]; rfl
  have k1 : W1.cell? ⟨m3, 1, none⟩ = some (.int .i64 R.ord) := by rw [H1.out.blk.1.cell]; rfl
  have k2 : W1.cell? ⟨m3, 2, none⟩ = some (.int .i64 R.next) := by rw [H1.out.blk.1.cell]; rfl
  have k3 : W1.cell? ⟨m3, 3, none⟩ = some (.int .i64 R.last) := by rw [H1.out.blk.1.cell]; rfl
  have k4 : W1.cell? ⟨m3, 4, none⟩ = some (.int .i64 R.shown) := by rw [H1.out.blk.1.cell]; rfl
  have k5 : W1.cell? ⟨m3, 5, none⟩ = some (.int .i64 R.users) := by rw [H1.out.blk.1.cell]; rfl
  have k6 : W1.cell? ⟨m3, 6, none⟩ = some (.bool R.dirty) := by rw [H1.out.blk.1.cell]; rfl
  have k7 : W1.cell? ⟨m3, 7, none⟩ = some (.slice (p 0).1 R.tasks.length (p 0).2) := by rw [H1.out.blk.1.cell]; rfl
  have k8 : W1.cell? ⟨m3, 8, none⟩ = some (.slice (p 1).1 R.jobs.length (p 1).2) := by rw [H1.out.blk.1.cell]; rfl
  have k9 : W1.cell? ⟨m3, 9, none⟩ = some (.slice (p 2).1 R.shots.length (p 2).2) := by rw [H1.out.blk.1.cell]; rfl
  have k10 : W1.cell? ⟨m3, 10, none⟩ = some (.slice (p 3).1 R.tms.length (p 3).2) := by rw [H1.out.blk.1.cell]; rfl
  have HX := Lib.hid (show (W1.cell? ⟨b, 0, none⟩ = some (.int .i64 R.now) ∧ W1.cell? ⟨b, 6, none⟩ = some (.int .i64 R.ord) ∧ W1.cell? ⟨b, 9, none⟩ = some (.int .i64 R.next) ∧ W1.cell? ⟨b, 12, none⟩ = some (.int .i64 R.last) ∧ W1.cell? ⟨b, 14, none⟩ = some (.int .i64 R.shown) ∧ W1.cell? ⟨b, 15, none⟩ = some (.int .i64 R.users) ∧ W1.cell? ⟨b, 13, none⟩ = some (.bool R.dirty) ∧ W1.cell? ⟨b, 7, none⟩ = some (.slice (ps 5).1 R.jobs.length (ps 5).2) ∧ W1.cell? ⟨b, 11, none⟩ = some (.slice (ps 8).1 R.shots.length (ps 8).2) ∧ W1.cell? ⟨b, 10, none⟩ = some (.slice (ps 7).1 R.tms.length (ps 7).2) ∧ W1.cell? ⟨b, 8, none⟩ = some (.slice (ps 6).1 (waitN R.tms) (ps 6).2)) from by
    obtain ⟨a0, a1, a2, a3, a4, a5, a6, a7, a8, a9, a10⟩ := HSC.out
    have f := fun (o : Nat) => H1.out.bel.cell (p := ⟨b, o, none⟩) hlt
    exact ⟨(f _).trans a0, (f _).trans a1, (f _).trans a2, (f _).trans a3, (f _).trans a4, (f _).trans a5, (f _).trans a6, (f _).trans a7, (f _).trans a8, (f _).trans a9, (f _).trans a10⟩)
  obtain ⟨s0, s6, s9, s12, s14, s15, s13, s7, s11, s10, s8⟩ := HX.out
  have k0 := cell_regrown k0
  have k1 := cell_regrown k1
  have k2 := cell_regrown k2
  have k3 := cell_regrown k3
  have k4 := cell_regrown k4
  have k5 := cell_regrown k5
  have k6 := cell_regrown k6
  have k7 := cell_regrown k7
  have k8 := cell_regrown k8
  have k9 := cell_regrown k9
  have k10 := cell_regrown k10
  have s0 := cell_regrown s0
  have s6 := cell_regrown s6
  have s9 := cell_regrown s9
  have s12 := cell_regrown s12
  have s14 := cell_regrown s14
  have s15 := cell_regrown s15
  have s13 := cell_regrown s13
  have s7 := cell_regrown s7
  have s11 := cell_regrown s11
  have s10 := cell_regrown s10
  have s8 := cell_regrown s8
  have cJ := Lib.hid (fun d os => Calls.regrown_of (w := W1) (d := d) (os := os) ((qlenJ (b := b) (o := 7) (s7 d os)).mono (fun _ _ h => ⟨h.1, h.2 ▸ Below.refl _ _⟩)))
  have cT := Lib.hid (fun d os => Calls.regrown_of (w := W1) (d := d) (os := os) (stasks_st HRL.out HNT.out HLQ.out (((HA.out.of_below H1.out.bel).of_below (below_regrown W1 d os)))))
  simp only [List.append]
  refine wp_region_quiet_below (by kernel_rfl) (lexB_fast (by kernel_rfl) (by kernel_rfl)) ?_
  repeat (go_big_quiet_step (first | with_reducible exact cJ.out _ _ | exact cT.out _ _))
  refine wpQuiet_nil ?_
  intro _ hw'
  obtain ⟨⟨dq, osq⟩, hw''⟩ := hw'
  subst hw''
  obtain ⟨W2, hW2⟩ : ∃ W, W = Go.Sort.grow (redrawn W1 dq) osq := ⟨_, rfl⟩
  rw [show Go.Sort.grow (redrawn W1 (Regrown.mk dq osq).d) (Regrown.mk dq osq).os = W2 from hW2.symm]
  have h2 := H1.out.of_below (below_regrown W1 dq osq)
  rw [← hW2] at h2
  have H2 := Lib.hid h2
  clear h2 hW2 k0 k1 k2 k3 k4 k5 k6 k7 k8 k9 k10 s0 s6 s9 s12 s14 s15 s13 s7 s11 s10 s8 HX H1
  have k9 : W2.cell? ⟨m3, 9, none⟩ = some (.slice (p 2).1 R.shots.length (p 2).2) := by rw [H2.out.blk.1.cell]; rfl
  go_wp2_with fail
  clear k9
  obtain ⟨n1, hn1⟩ : ∃ n, R.shots.length = n := ⟨_, rfl⟩
  have HN1 := Lib.hid hn1
  rw [hn1] at hs
  try rw [hn1]
  clear hn1
  go_loopg [112] n1 (SmRel1 R p m3 n1 w)
  case atStart => exact ⟨0, rfl, Nat.zero_le _, rfl, H2.out⟩
  case round =>
    obtain ⟨k, hg, hk, rfl, hst⟩ := hrel
    have Hg := Lib.hid hg
    have H3 := Lib.hid hst
    clear hg hst H2
    by_cases hkn : k < n1
    · have hkt : k < R.shots.length := by rw [HN1.out]; exact hkn
      have hkI : (k : Int) < (n1 : Int) := by omega
      have c9 : wr.cell? ⟨m3, 9, none⟩ = some (.slice (p 2).1 n1 (p 2).2) := by rw [H3.out.blk.1.cell, ← HN1.out]; rfl
      have c11 : wr.cell? ⟨b, 11, none⟩ = some (.slice (ps 8).1 n1 (ps 8).2) := by rw [← HN1.out]; exact (H3.out.bel.cell hlt).trans HSC.out.2.2.2.2.2.2.2.2.1
      have r1 := HSH.out.below H3.out.bel
      have r2 := HRH.out.below H3.out.bel
      obtain ⟨g1, o1, hg1, -⟩ := r1.addr (by omega)
      obtain ⟨g2, o2, hg2, -⟩ := r2.addr (by omega)
      rw [hg1] at r1 c11
      rw [hg2] at r2 c9
      obtain ⟨x0, -⟩ := hs_id r1 hkt
      have y0 := ic_at r2 hkt
      clear r1 r2 hg1 hg2
      go_upto_region 6 with fail
      go_quiet (fail)
      go_wp2_with fail
      go_roundg (n1 - (k + 1))
      case measure => have := Hg.out; omega
      case rel => exact ⟨k + 1, rfl, by omega, by simp, H3.out.drewN _⟩
    · have hkk : k = n1 := by omega
      subst hkk
      have k10 : wr.cell? ⟨m3, 10, none⟩ = some (.slice (p 3).1 R.tms.length (p 3).2) := by rw [H3.out.blk.1.cell]; rfl
      go_wp2_with fail
      clear k10
      obtain ⟨n2, hn2⟩ : ∃ n, R.tms.length = n := ⟨_, rfl⟩
      have HN2 := Lib.hid hn2
      rw [hn2] at ht
      try rw [hn2]
      clear hn2
      go_loopg [6, 133] n2 (SmRel2 R p m3 n2 w)
      case atStart => exact ⟨0, rfl, Nat.zero_le _, rfl, by simp [waitN], H3.out⟩
      case round =>
        obtain ⟨i, hg, hi, rfl, rfl, hst⟩ := hrel
        have Hg2 := Lib.hid hg
        have H4 := Lib.hid hst
        clear hg hst H3
        by_cases hin : i < n2
        · have hit : i < R.tms.length := by rw [HN2.out]; exact hin
          have hic : i < S.calls.length := by rw [HCL.out]; exact hit
          have hiI : (i : Int) < (n2 : Int) := by omega
          have c10 : wr.cell? ⟨m3, 10, none⟩ = some (.slice (p 3).1 n2 (p 3).2) := by rw [H4.out.blk.1.cell, ← HN2.out]; rfl
          have r2 := HRM.out.below H4.out.bel
          obtain ⟨g2, o2, hg2, -⟩ := r2.addr (by omega)
          rw [hg2] at r2 c10
          obtain ⟨d0, d1, d2, d3, d4, d5⟩ := rm_cells r2 hit
          obtain ⟨y, hy⟩ : ∃ y, R.tms[i] = y := ⟨_, rfl⟩
          rw [hy] at d0 d1 d2 d3 d4 d5
          obtain ⟨e1, e2, e3⟩ := HRL.out.at (j := i) (c := S.calls[i]) (m := y) (List.getElem?_eq_getElem hic) (by rw [List.getElem?_eq_getElem hit, hy])
          have HE := Lib.hid (And.intro e1 (And.intro e2 e3))
          have HWS := Lib.hid (show waitN (R.tms.take (i + 1)) = waitN (R.tms.take i) + (if y.w then 1 else 0) by rw [waitN_succ hit, hy])
          have hgl := World.block_lt_of_cell? _ _ d0
          have h5 := H4.out.new y.cells.toArray 107
          clear r2 hg2 hy e1 e2 e3
          go_upto_region 14 with fail
          obtain ⟨m8, hm8⟩ : ∃ m, wr.heap.size = m := ⟨_, rfl⟩
          obtain ⟨W5, hW5⟩ : ∃ W, wr.alloc (.cells #[.int .i64 y.id, .int .i64 y.due, .int .i64 y.ord, .int .i64 y.ev, .int .i64 y.fn, .bool y.w] 107) = W := ⟨_, rfl⟩
          have H5 := Lib.hid (show St w W5 [As.cells m8 y.cells.toArray 107, As.cells m3 (rlc R p) 69] from by rw [← hW5, ← hm8]; exact h5)
          rw [hW5]
          try simp only [hm8]
          clear h5 hW5 hm8 c10 d0 d1 d2 d3 d4 d5 hgl H4
          have hb8 := H5.out.blk.1
          have j0 : W5.cell? ⟨m8, 0, none⟩ = some (.int .i64 y.id) := by rw [hb8.cell]; rfl
          have j3 : W5.cell? ⟨m8, 3, none⟩ = some (.int .i64 y.ev) := by rw [hb8.cell]; rfl
          have j4 : W5.cell? ⟨m8, 4, none⟩ = some (.int .i64 y.fn) := by rw [hb8.cell]; rfl
          have j5 : W5.cell? ⟨m8, 5, none⟩ = some (.bool y.w) := by rw [hb8.cell]; rfl
          have c10 : W5.cell? ⟨b, 10, none⟩ = some (.slice (ps 7).1 n2 (ps 7).2) := by rw [← HN2.out]; exact (H5.out.bel.cell hlt).trans HSC.out.2.2.2.2.2.2.2.2.2.1
          have r1 := HSK.out.below H5.out.bel
          obtain ⟨g1, o1, hg1, -⟩ := r1.addr (by omega)
          rw [hg1] at r1 c10
          obtain ⟨x0, x1, x3⟩ := cl_cells r1 hic
          rw [HE.out.1] at x0
          rw [HE.out.2.1] at x1
          rw [HE.out.2.2] at x3
          clear hb8 r1 hg1
          have hwl : waitN (R.tms.take i) ≤ 100000 := by unfold waitN; have h1 := List.countP_le_length (p := fun t : RM => t.w) (l := R.tms.take i); rw [List.length_take] at h1; omega
          obtain ⟨q, hq⟩ : ∃ q, waitN (R.tms.take i) = q := ⟨_, rfl⟩
          rw [hq] at hwl
          try rw [hq]
          have hw1 : IntKind.i64.wrap ((q : Int) + 1) = (q : Int) + 1 := by rw [IntKind.wrap_i64]; omega
          have HQ := Lib.hid hq
          clear hq
          go_quiet (fail)
          obtain ⟨z, hz⟩ : ∃ z, y.w = z := ⟨_, rfl⟩
          have HZ := Lib.hid hz
          rw [hz] at j5
          clear hz
          cases z with
          | true =>
            go_wp2_with fail
            go_roundg (n2 - (i + 1))
            case measure => have := Hg2.out; omega
            case rel => exact ⟨i + 1, rfl, by omega, by simp, by rw [HWS.out, HQ.out, HZ.out]; simp, (H5.out.drewN _).drop⟩
          | false =>
            go_wp2_with fail
            go_roundg (n2 - (i + 1))
            case measure => have := Hg2.out; omega
            case rel => exact ⟨i + 1, rfl, by omega, by simp, by rw [HWS.out, HQ.out, HZ.out]; simp, (H5.out.drewN _).drop⟩
        · have hkk : i = n2 := by omega
          subst hkk
          have HTK := Lib.hid (show waitN (R.tms.take i) = S.tm.length from by rw [HRL.out.wt.len, ← HN2.out, List.take_length])
          obtain ⟨q, hq⟩ : ∃ q, waitN (R.tms.take i) = q := ⟨_, rfl⟩
          rw [hq] at HTK
          try rw [hq]
          clear hq
          go_wp2_with (go_at_call 47; refine (tlen_any (st_out (HA.out.of_below H4.out.bel))).mono ?_; rintro e w2 ⟨rfl, rfl⟩; rw [← HTK.out])
          go_ret
          exact ⟨by simp, H4.out.bel⟩

end Go.Proofs.Ytnamkckpgaopkaa
