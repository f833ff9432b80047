/-
  The law's play of an operation.
-/
import Derived.Test.YtnamkckpgaopkaaYj
import Derived.Test.YtnamkckpgaopkaaYi
import Derived.Test.YtnamkckpgaopkaaYm
import Derived.Test.YtnamkckpgaopkaaXd
import Derived.Test.YtnamkckpgaopkaaXp
import Derived.Test.YtnamkckpgaopkaaLs
set_option linter.unusedVariables false
set_option linter.unusedSimpArgs false
namespace Go.Proofs.Ytnamkckpgaopkaa
open Go.RowKit Go.K

def PlPost (kd a b : Int) (S : LS) (R : RL) (bs bl : Nat) (w0 : World) (L : List As) (E : Ending) (w' : World) : Prop :=
  E = .returned (.bool true) ∧ ∃ S' R', PlayR kd a b R R' ∧ Rl S' R' ∧ St w0 w' (rlO bl R' :: stO bs S' :: L)
theorem rdr_of_row {w0 w : World} {L : List As} {e sz n c : Nat} {s : Option Addr} {xs : List Value} (hp : 0 < n * sz) (h : St w0 w (As.row e sz s n c xs :: L)) : St w0 w (As.rdr sz s n c xs :: L) :=
  h.to (fun F hF => ⟨fun k => ⟨fun q => ⟨(hF.1 k).1 q, hp⟩, fun q => (hF.1 k).2 q.1⟩, hF.2.rc⟩)
theorem pl_fin {kd a b : Int} {S S' : LS} {R R' : RL} {bs bl : Nat} {w0 w' : World} {L : List As} (hz : kd % 9 ≠ 8) (he : playF kd a b R = R') (hs : St w0 w' (rlO bl R' :: stO bs S' :: L)) (hr : Rl S' R') : PlPost kd a b S R bs bl w0 L (.returned (.bool true)) w' :=
  ⟨rfl, S', R', he ▸ .other hz, hr, hs⟩

def RTakePost (R : RL) (b : Nat) (w0 : World) (L : List As) (E : Ending) (w' : World) : Prop :=
  ∃ R' d ls s c, E = .returned (.agg (tk d.kd d.n d.src d.fn s ls.length c).toArray) ∧ RTakeR R R' d ls ∧ St w0 w' (As.row 3 1 s ls.length c (flat ic ls) :: rlO b R' :: L)
theorem rtake_st {w0 w : World} {L : List As} {b : Nat} {R : RL} (h : St w0 w (rlO b R :: L)) (hB : RBn R) : Calls Try.prog 22 #[.pointer (some ⟨b, 0, none⟩)] w (RTakePost R b w0 L) := by
  cases hj : R.jobs with
  | cons j js =>
    refine (rtake_job hj h (by have := hB.jobs; omega)).mono ?_
    rintro e w' ⟨rfl, h2⟩
    exact ⟨_, ⟨1, j, 0, 0⟩, [], none, 0, rfl, .job hj, h2.row_nil 3 1⟩
  | nil =>
    by_cases hf : rframe R
    · refine (rtake_frame hj hf h (by have := hB.shots; omega) hB.sh0 hB.sh1).mono ?_
      rintro e w' ⟨s, c, rfl, h2⟩
      exact ⟨_, ⟨3, 0, 0, 0⟩, _, s, c, rfl, .frame hj hf, h2⟩
    · refine (rtake_task hj hf h hB).mono ?_
      rintro e w' ⟨R', d, rfl, ht, h2⟩
      exact ⟨R', d, [], none, 0, rfl, .task hj hf ht, h2.row_nil 3 1⟩
theorem chosen_go {w0 w4 : World} {L : List As} {bl bs k : Nat} {N : Int} {S S3 : LS} {R R4 : RL} {x : Ch} {l : List Hs} {d : RC} {ls : List Int} {s : Option Addr} {c : Nat} (hr : Rl S R) (hb : Bk k N R) (hk : k ≤ 40000) (hn : NextR S S3 x l) (hx : x.hn = l.length) (ht : RTakeR R R4 d ls)
    (h4 : St w0 w4 (As.row 3 1 s ls.length c (flat ic ls) :: rlO bl R4 :: stO bs S3 :: As.row 63 5 x.ha x.hn x.hc (flat Hs.cells l) :: L)) :
    Calls Try.prog 23 #[.agg x.cells.toArray, .agg (tk d.kd d.n d.src d.fn s ls.length c).toArray] w4 fun e w5 => e = .returned (.bool true) ∧ Rl S3 R4 ∧ St w0 w5 (rlO bl R4 :: stO bs S3 :: L) := by
  obtain ⟨g1, g2, g3⟩ := rl_next hr hn ht
  obtain ⟨q1, q2, q3⟩ := hb.take ht
  have el : x.hn = ls.length := by rw [hx, g3, List.length_map]
  have r1 := (St.sh [_, _, _, _] [3, 0, 1, 2] (by decide) h4).sl.rd
  rw [el, g3] at r1
  refine (chosen_st (l := l) (s := s) (c := c) g2 el (by omega) (fun y hy => by have := q3 y hy; omega) r1 h4.sl.rd).mono ?_
  rintro e w5 ⟨rfl, hb5⟩
  exact ⟨rfl, g1, (St.sh [_, _, _, _] [0, 3, 1, 2] (by decide) (h4.of_below hb5)).drop.drop⟩
theorem jpush_st {w0 w : World} {L : List As} {b g : Nat} {S : LS} {n : Int} (h : St w0 w (As.row 46 4 (some ⟨g, 0, none⟩) 1 1 (vcells n) :: stO b S :: L)) (hn : S.jobs.length ≤ 100000) :
    Calls Try.prog 24 #[.pointer (some ⟨b, 7, none⟩), .agg #[.int .i64 n, .slice (some ⟨g, 0, none⟩) 1 1]] w fun e w' => e = .returned (.tuple #[]) ∧ St w0 w' (stO b { S with jobs := S.jobs ++ [⟨n, some ⟨g, 0, none⟩, 1, 1⟩] } :: L) := by
  obtain ⟨p, G, hb, h2⟩ := st_open h.swap
  have h3 := foc_j (st_bag h2 (by decide))
  refine (qpushJ n (some ⟨g, 0, none⟩) 1 1 h3 rfl hn).mono ?_
  rintro e w' ⟨rfl, s, c, h4⟩
  refine ⟨rfl, st_shut (G := ⟨some ⟨g, 0, none⟩, 1, 1, vcells n⟩ :: G) (p := upd p 5 (s, c)) ⟨fun c hc => ?_, fun j hj => ?_⟩ (unf_j (n := S.jobs.length + 1) (S.jobs ++ [⟨n, some ⟨g, 0, none⟩, 1, 1⟩]) (by simp) (by rw [flat_append, flat_one]; exact h4))⟩
  · obtain ⟨xs, hx⟩ := hb.calls c hc
    exact ⟨xs, List.mem_cons_of_mem _ hx⟩
  · rcases List.mem_append.1 hj with q | q
    · exact List.mem_cons_of_mem _ (hb.jobs j q)
    · rw [List.mem_singleton.1 q]; exact List.mem_cons_self

set_option maxRecDepth 100000 in
set_option maxHeartbeats 2000000 in
theorem play_0 {w0 w : World} {L : List As} {bs bl k : Nat} {N : Int} {S : LS} {R : RL} {kd a b : Int} (hz : kd % 9 = 0) (hr : Rl S R) (hb : Bk k N R) (hk : k ≤ 40000) (hN : N ≤ 576460752303390720) (ha : -32768 ≤ a ∧ a ≤ 32767) (hbb : -32768 ≤ b ∧ b ≤ 32767) (h0 : 0 ≤ kd ∧ kd ≤ 255) (h : St w0 w (rlO bl R :: stO bs S :: L)) :
    Calls Try.prog 20 #[.pointer (some ⟨bs, 0, none⟩), .pointer (some ⟨bl, 0, none⟩), .agg #[.int .u8 kd, .int .i16 a, .int .i16 b]] w (PlPost kd a b S R bs bl w0 L) := by
  obtain ⟨a0, a1⟩ := ha
  obtain ⟨b0, b1⟩ := hbb
  obtain ⟨z0, z1⟩ := h0
  have hzt : kd.tmod 9 = 0 := by rw [Int.tmod_eq_emod_of_nonneg z0]; exact hz
  have hwa : IntKind.i64.wrap a = a := by rw [IntKind.wrap_i64]; omega
  have hwb : IntKind.i64.wrap b = b := by rw [IntKind.wrap_i64]; omega
  have HR := Lib.hid hr
  have HB := Lib.hid hb
  have HRB := Lib.hid (hb.rbn hk (by omega))
  have HSB := Lib.hid (hr.bnd hb hk (by omega))
  have HZ := Lib.hid hz
  have HKN := Lib.hid (And.intro hk hN)
  have H0 := Lib.hid (h.new #[.int .u8 kd, .int .i16 a, .int .i16 b] 74)
  clear h hr hb
  go_enter Try.func20, Try.ntmps20
  go_upto_region 1 with fail
  obtain ⟨m5, hm5⟩ : ∃ m, w.heap.size = m := ⟨_, rfl⟩
  obtain ⟨W1, hW1⟩ : ∃ W, w.alloc (.cells #[.int .u8 kd, .int .i16 a, .int .i16 b] 74) = W := ⟨_, rfl⟩
  have h1 := H0.out
  rw [hW1, hm5] at h1
  rw [hW1]
  try simp only [hm5]
  have k0 : W1.cell? ⟨m5, 0, none⟩ = some (.int .u8 kd) := by rw [h1.blk.1.cell]; rfl
  have k1 : W1.cell? ⟨m5, 1, none⟩ = some (.int .i16 a) := by rw [h1.blk.1.cell]; rfl
  have k2 : W1.cell? ⟨m5, 2, none⟩ = some (.int .i16 b) := by rw [h1.blk.1.cell]; rfl
  go_quiet (fail)
  obtain ⟨W2, hW2⟩ : ∃ W, W1.drewN nq = W := ⟨_, rfl⟩
  have h2 := h1.drewN nq
  rw [hW2] at h2
  have k0 : W2.cell? ⟨m5, 0, none⟩ = some (.int .u8 kd) := by rw [h2.blk.1.cell]; rfl
  rw [hW2]
  have H1 := Lib.hid h2.drop
  clear h1 h2 hW1 hW2 hm5 k1 k2 H0
  obtain ⟨s7, hs7⟩ : ∃ s, a.tmod 7 = s := ⟨_, rfl⟩
  obtain ⟨s3, hs3⟩ : ∃ s, b.tmod 3 = s := ⟨_, rfl⟩
  have r7 : -7 < s7 ∧ s7 < 7 := by rw [← hs7]; exact ⟨Int.lt_tmod_of_pos a (by decide), Int.tmod_lt_of_pos a (by decide)⟩
  have r3 : -3 < s3 ∧ s3 < 3 := by rw [← hs3]; exact ⟨Int.lt_tmod_of_pos b (by decide), Int.tmod_lt_of_pos b (by decide)⟩
  have hw7 : IntKind.i64.wrap (s7 - 1) = s7 - 1 := by rw [IntKind.wrap_i64]; omega
  have HPF := Lib.hid (show playF kd a b R = rpushS R (s7 - 1) s3 b from by unfold playF; rw [if_pos HZ.out, hs7, hs3])
  go_wp2_with (first
    | (go_at_call 41; refine (rpush_st (s7 - 1) s3 b H1.out (by have := HRB.out.t; omega) HRB.out.ord0 (by have := HRB.out.ord1; omega)).mono ?_; rintro e w3 ⟨rfl, h3⟩; have H3 := Lib.hid h3.swap; clear h3)
    | (go_at_call 12; refine (push_st (s7 - 1) s3 b H3.out HSB.out.q HSB.out.ord0 HSB.out.ord1).mono ?_; rintro e w4 ⟨rfl, h4⟩; have H4 := Lib.hid h4.swap; clear h4)
    | fail)
  go_ret
  exact pl_fin (by rw [HZ.out]; decide) HPF.out (H4.out) (HR.out.push _ _ _)

set_option maxRecDepth 100000 in
set_option maxHeartbeats 2000000 in
theorem play_1 {w0 w : World} {L : List As} {bs bl k : Nat} {N : Int} {S : LS} {R : RL} {kd a b : Int} (hz : kd % 9 = 1) (hr : Rl S R) (hb : Bk k N R) (hk : k ≤ 40000) (hN : N ≤ 576460752303390720) (ha : -32768 ≤ a ∧ a ≤ 32767) (hbb : -32768 ≤ b ∧ b ≤ 32767) (h0 : 0 ≤ kd ∧ kd ≤ 255) (h : St w0 w (rlO bl R :: stO bs S :: L)) :
    Calls Try.prog 20 #[.pointer (some ⟨bs, 0, none⟩), .pointer (some ⟨bl, 0, none⟩), .agg #[.int .u8 kd, .int .i16 a, .int .i16 b]] w (PlPost kd a b S R bs bl w0 L) := by
  obtain ⟨a0, a1⟩ := ha
  obtain ⟨b0, b1⟩ := hbb
  obtain ⟨z0, z1⟩ := h0
  have hzt : kd.tmod 9 = 1 := by rw [Int.tmod_eq_emod_of_nonneg z0]; exact hz
  have hwa : IntKind.i64.wrap a = a := by rw [IntKind.wrap_i64]; omega
  have hwb : IntKind.i64.wrap b = b := by rw [IntKind.wrap_i64]; omega
  have HR := Lib.hid hr
  have HB := Lib.hid hb
  have HRB := Lib.hid (hb.rbn hk (by omega))
  have HSB := Lib.hid (hr.bnd hb hk (by omega))
  have HZ := Lib.hid hz
  have HKN := Lib.hid (And.intro hk hN)
  have H0 := Lib.hid (h.new #[.int .u8 kd, .int .i16 a, .int .i16 b] 74)
  clear h hr hb
  go_enter Try.func20, Try.ntmps20
  go_upto_region 1 with fail
  obtain ⟨m5, hm5⟩ : ∃ m, w.heap.size = m := ⟨_, rfl⟩
  obtain ⟨W1, hW1⟩ : ∃ W, w.alloc (.cells #[.int .u8 kd, .int .i16 a, .int .i16 b] 74) = W := ⟨_, rfl⟩
  have h1 := H0.out
  rw [hW1, hm5] at h1
  rw [hW1]
  try simp only [hm5]
  have k0 : W1.cell? ⟨m5, 0, none⟩ = some (.int .u8 kd) := by rw [h1.blk.1.cell]; rfl
  have k1 : W1.cell? ⟨m5, 1, none⟩ = some (.int .i16 a) := by rw [h1.blk.1.cell]; rfl
  have k2 : W1.cell? ⟨m5, 2, none⟩ = some (.int .i16 b) := by rw [h1.blk.1.cell]; rfl
  go_quiet (fail)
  obtain ⟨W2, hW2⟩ : ∃ W, W1.drewN nq = W := ⟨_, rfl⟩
  have h2 := h1.drewN nq
  rw [hW2] at h2
  have k0 : W2.cell? ⟨m5, 0, none⟩ = some (.int .u8 kd) := by rw [h2.blk.1.cell]; rfl
  rw [hW2]
  have H1 := Lib.hid h2.drop
  clear h1 h2 hW1 hW2 hm5 k1 k2 H0
  have HPF := Lib.hid (show playF kd a b R = rsetS R a (b.tmod 40) (a + b) from by unfold playF; simp [HZ.out])
  obtain ⟨e, he⟩ : ∃ s, b.tmod 40 = s := ⟨_, rfl⟩
  rw [he] at HPF
  have hwab : IntKind.i64.wrap (a + b) = a + b := by rw [IntKind.wrap_i64]; omega
  obtain ⟨n, hn⟩ : ∃ n, R.next + 1 = n := ⟨_, rfl⟩
  have HLN := Lib.hid hn
  have HSN := Lib.hid (show S.nx + 1 = n from by rw [HR.out.nx]; exact hn)
  clear hn
  go_wp2_with (first
    | (go_at_call 15; refine (number_c (a + b) _).mono ?_; rintro e w3 ⟨rfl, hb3⟩; have H3 := Lib.hid (H1.out.of_below hb3); clear hb3; simp only [vcells])
    | (go_at_call 15; refine (number_c a _).mono ?_; rintro e w4 ⟨rfl, hb4⟩; have H4 := Lib.hid (H3.out.of_below hb4); clear hb4; simp only [vcells])
    | (refine st_build_row rfl (.tmp 54) rfl H4.out Try.underlying39 zv46 ss46 (by decide) (by decide) (vcells a).toArray rfl (vc_one a) rfl ?_; intro W5 g5 HW5; have H5 := Lib.hid (St.sh [_, _, _] [2, 0, 1] (by decide) (rdr_of_row (by decide) HW5)); clear HW5)
    | (go_at_call 14; refine (set_st a e (a + b) (some ⟨g5, 0, none⟩) 1 1 (vcells a) H5.out (by decide) HSB.out.calls HSB.out.tm HSB.out.nx0 HSB.out.nx1 HSB.out.now0 HSB.out.now1).mono ?_; rintro e6 w6 ⟨rfl, i6, a6, c6, hf6, h6⟩; have HF6 := Lib.hid hf6; have H6 := Lib.hid (St.sh [_, _, _] [1, 2, 0] (by decide) h6).drop; clear hf6 h6; rw [HSN.out])
    | (go_at_call 42; refine (rset_st a e (a + b) H6.out (by have := HRB.out.m; omega) HRB.out.nx0 (by have := HB.out.nx1; have := HKN.out.1; omega) HRB.out.now0 (by have := HRB.out.now1; omega)).mono ?_; rintro e7 w7 ⟨rfl, h7⟩; have H7 := Lib.hid h7; clear h7; rw [HLN.out])
    | fail)
  go_ret
  exact pl_fin (by rw [HZ.out]; decide) HPF.out (H7.out) (HR.out.set HRB.out.nx0 a e (a + b) HF6.out)

set_option maxRecDepth 100000 in
set_option maxHeartbeats 2000000 in
theorem play_2 {w0 w : World} {L : List As} {bs bl k : Nat} {N : Int} {S : LS} {R : RL} {kd a b : Int} (hz : kd % 9 = 2) (hr : Rl S R) (hb : Bk k N R) (hk : k ≤ 40000) (hN : N ≤ 576460752303390720) (ha : -32768 ≤ a ∧ a ≤ 32767) (hbb : -32768 ≤ b ∧ b ≤ 32767) (h0 : 0 ≤ kd ∧ kd ≤ 255) (h : St w0 w (rlO bl R :: stO bs S :: L)) :
    Calls Try.prog 20 #[.pointer (some ⟨bs, 0, none⟩), .pointer (some ⟨bl, 0, none⟩), .agg #[.int .u8 kd, .int .i16 a, .int .i16 b]] w (PlPost kd a b S R bs bl w0 L) := by
  obtain ⟨a0, a1⟩ := ha
  obtain ⟨b0, b1⟩ := hbb
  obtain ⟨z0, z1⟩ := h0
  have hzt : kd.tmod 9 = 2 := by rw [Int.tmod_eq_emod_of_nonneg z0]; exact hz
  have hwa : IntKind.i64.wrap a = a := by rw [IntKind.wrap_i64]; omega
  have hwb : IntKind.i64.wrap b = b := by rw [IntKind.wrap_i64]; omega
  have HR := Lib.hid hr
  have HB := Lib.hid hb
  have HRB := Lib.hid (hb.rbn hk (by omega))
  have HSB := Lib.hid (hr.bnd hb hk (by omega))
  have HZ := Lib.hid hz
  have HKN := Lib.hid (And.intro hk hN)
  have H0 := Lib.hid (h.new #[.int .u8 kd, .int .i16 a, .int .i16 b] 74)
  clear h hr hb
  go_enter Try.func20, Try.ntmps20
  go_upto_region 1 with fail
  obtain ⟨m5, hm5⟩ : ∃ m, w.heap.size = m := ⟨_, rfl⟩
  obtain ⟨W1, hW1⟩ : ∃ W, w.alloc (.cells #[.int .u8 kd, .int .i16 a, .int .i16 b] 74) = W := ⟨_, rfl⟩
  have h1 := H0.out
  rw [hW1, hm5] at h1
  rw [hW1]
  try simp only [hm5]
  have k0 : W1.cell? ⟨m5, 0, none⟩ = some (.int .u8 kd) := by rw [h1.blk.1.cell]; rfl
  have k1 : W1.cell? ⟨m5, 1, none⟩ = some (.int .i16 a) := by rw [h1.blk.1.cell]; rfl
  have k2 : W1.cell? ⟨m5, 2, none⟩ = some (.int .i16 b) := by rw [h1.blk.1.cell]; rfl
  go_quiet (fail)
  obtain ⟨W2, hW2⟩ : ∃ W, W1.drewN nq = W := ⟨_, rfl⟩
  have h2 := h1.drewN nq
  rw [hW2] at h2
  have k0 : W2.cell? ⟨m5, 0, none⟩ = some (.int .u8 kd) := by rw [h2.blk.1.cell]; rfl
  rw [hW2]
  have H1 := Lib.hid h2.drop
  clear h1 h2 hW1 hW2 hm5 k1 k2 H0
  have HPF := Lib.hid (show playF kd a b R = rclearS R a from by unfold playF; simp [HZ.out])
  obtain ⟨hcl, hce⟩ := HR.out.clear a
  have HCL := Lib.hid hcl
  clear hcl
  obtain ⟨B, hBB⟩ : ∃ B, rclearB R a = B := ⟨_, rfl⟩
  rw [hBB] at hce
  have HCE := Lib.hid hce
  have HBE := Lib.hid hBB
  clear hce hBB
  go_wp2_with (first
    | (go_at_call 16; refine (clear_st a H1.out.swap HSB.out.calls HSB.out.tm).mono ?_; rintro e w3 ⟨rfl, h3⟩; have H3 := Lib.hid h3.swap; clear h3; rw [HCE.out])
    | (go_at_call 43; refine (rclear_st a H3.out (by have := HRB.out.m; omega)).mono ?_; rintro e w4 ⟨rfl, h4⟩; have H4 := Lib.hid h4; clear h4; rw [HBE.out])
    | fail)
  go_ret
  exact pl_fin (by rw [HZ.out]; decide) HPF.out (H4.out) (HCL.out)

set_option maxRecDepth 100000 in
set_option maxHeartbeats 2000000 in
theorem play_3 {w0 w : World} {L : List As} {bs bl k : Nat} {N : Int} {S : LS} {R : RL} {kd a b : Int} (hz : kd % 9 = 3) (hr : Rl S R) (hb : Bk k N R) (hk : k ≤ 40000) (hN : N ≤ 576460752303390720) (ha : -32768 ≤ a ∧ a ≤ 32767) (hbb : -32768 ≤ b ∧ b ≤ 32767) (h0 : 0 ≤ kd ∧ kd ≤ 255) (h : St w0 w (rlO bl R :: stO bs S :: L)) :
    Calls Try.prog 20 #[.pointer (some ⟨bs, 0, none⟩), .pointer (some ⟨bl, 0, none⟩), .agg #[.int .u8 kd, .int .i16 a, .int .i16 b]] w (PlPost kd a b S R bs bl w0 L) := by
  obtain ⟨a0, a1⟩ := ha
  obtain ⟨b0, b1⟩ := hbb
  obtain ⟨z0, z1⟩ := h0
  have hzt : kd.tmod 9 = 3 := by rw [Int.tmod_eq_emod_of_nonneg z0]; exact hz
  have hwa : IntKind.i64.wrap a = a := by rw [IntKind.wrap_i64]; omega
  have hwb : IntKind.i64.wrap b = b := by rw [IntKind.wrap_i64]; omega
  have HR := Lib.hid hr
  have HB := Lib.hid hb
  have HRB := Lib.hid (hb.rbn hk (by omega))
  have HSB := Lib.hid (hr.bnd hb hk (by omega))
  have HZ := Lib.hid hz
  have HKN := Lib.hid (And.intro hk hN)
  have H0 := Lib.hid (h.new #[.int .u8 kd, .int .i16 a, .int .i16 b] 74)
  clear h hr hb
  go_enter Try.func20, Try.ntmps20
  go_upto_region 1 with fail
  obtain ⟨m5, hm5⟩ : ∃ m, w.heap.size = m := ⟨_, rfl⟩
  obtain ⟨W1, hW1⟩ : ∃ W, w.alloc (.cells #[.int .u8 kd, .int .i16 a, .int .i16 b] 74) = W := ⟨_, rfl⟩
  have h1 := H0.out
  rw [hW1, hm5] at h1
  rw [hW1]
  try simp only [hm5]
  have k0 : W1.cell? ⟨m5, 0, none⟩ = some (.int .u8 kd) := by rw [h1.blk.1.cell]; rfl
  have k1 : W1.cell? ⟨m5, 1, none⟩ = some (.int .i16 a) := by rw [h1.blk.1.cell]; rfl
  have k2 : W1.cell? ⟨m5, 2, none⟩ = some (.int .i16 b) := by rw [h1.blk.1.cell]; rfl
  go_quiet (fail)
  obtain ⟨W2, hW2⟩ : ∃ W, W1.drewN nq = W := ⟨_, rfl⟩
  have h2 := h1.drewN nq
  rw [hW2] at h2
  have k0 : W2.cell? ⟨m5, 0, none⟩ = some (.int .u8 kd) := by rw [h2.blk.1.cell]; rfl
  rw [hW2]
  have H1 := Lib.hid h2.drop
  clear h1 h2 hW1 hW2 hm5 k1 k2 H0
  have HPF := Lib.hid (show playF kd a b R = rreqS R from by unfold playF; simp [HZ.out])
  have hl0 := HRB.out.last0
  have hl1 := HRB.out.last1
  obtain ⟨n, hn⟩ : ∃ n, R.last + 1 = n := ⟨_, rfl⟩
  have HLN := Lib.hid hn
  have HSN := Lib.hid (show S.last + 1 = n from by rw [HR.out.last]; exact hn)
  have hwn : IntKind.i64.wrap (-n) = -n := by rw [IntKind.wrap_i64]; omega
  clear hn hl0 hl1
  go_wp2_with (first
    | (go_at_call 44; refine (rreq_st H1.out (by have := HRB.out.shots; omega) HRB.out.last0 HRB.out.last1).mono ?_; rintro e w3 ⟨rfl, h3⟩; have H3 := Lib.hid h3.swap; clear h3; rw [HLN.out])
    | (go_at_call 15; refine (number_c (-n) _).mono ?_; rintro e w4 ⟨rfl, hb4⟩; have H4 := Lib.hid (H3.out.of_below hb4); clear hb4; simp only [vcells])
    | (go_at_call 18; refine (req_st (-n) H4.out HSB.out.shots HSB.out.last0 HSB.out.last1).mono ?_; rintro e w5 ⟨rfl, h5⟩; have H5 := Lib.hid h5.swap; clear h5; rw [HSN.out])
    | fail)
  go_ret
  exact pl_fin (by rw [HZ.out]; decide) HPF.out (H5.out) (by rw [← HLN.out]; exact HR.out.req HRB.out.last0)

set_option maxRecDepth 100000 in
set_option maxHeartbeats 2000000 in
theorem play_4 {w0 w : World} {L : List As} {bs bl k : Nat} {N : Int} {S : LS} {R : RL} {kd a b : Int} (hz : kd % 9 = 4) (hr : Rl S R) (hb : Bk k N R) (hk : k ≤ 40000) (hN : N ≤ 576460752303390720) (ha : -32768 ≤ a ∧ a ≤ 32767) (hbb : -32768 ≤ b ∧ b ≤ 32767) (h0 : 0 ≤ kd ∧ kd ≤ 255) (h : St w0 w (rlO bl R :: stO bs S :: L)) :
    Calls Try.prog 20 #[.pointer (some ⟨bs, 0, none⟩), .pointer (some ⟨bl, 0, none⟩), .agg #[.int .u8 kd, .int .i16 a, .int .i16 b]] w (PlPost kd a b S R bs bl w0 L) := by
  obtain ⟨a0, a1⟩ := ha
  obtain ⟨b0, b1⟩ := hbb
  obtain ⟨z0, z1⟩ := h0
  have hzt : kd.tmod 9 = 4 := by rw [Int.tmod_eq_emod_of_nonneg z0]; exact hz
  have hwa : IntKind.i64.wrap a = a := by rw [IntKind.wrap_i64]; omega
  have hwb : IntKind.i64.wrap b = b := by rw [IntKind.wrap_i64]; omega
  have HR := Lib.hid hr
  have HB := Lib.hid hb
  have HRB := Lib.hid (hb.rbn hk (by omega))
  have HSB := Lib.hid (hr.bnd hb hk (by omega))
  have HZ := Lib.hid hz
  have HKN := Lib.hid (And.intro hk hN)
  have H0 := Lib.hid (h.new #[.int .u8 kd, .int .i16 a, .int .i16 b] 74)
  clear h hr hb
  go_enter Try.func20, Try.ntmps20
  go_upto_region 1 with fail
  obtain ⟨m5, hm5⟩ : ∃ m, w.heap.size = m := ⟨_, rfl⟩
  obtain ⟨W1, hW1⟩ : ∃ W, w.alloc (.cells #[.int .u8 kd, .int .i16 a, .int .i16 b] 74) = W := ⟨_, rfl⟩
  have h1 := H0.out
  rw [hW1, hm5] at h1
  rw [hW1]
  try simp only [hm5]
  have k0 : W1.cell? ⟨m5, 0, none⟩ = some (.int .u8 kd) := by rw [h1.blk.1.cell]; rfl
  have k1 : W1.cell? ⟨m5, 1, none⟩ = some (.int .i16 a) := by rw [h1.blk.1.cell]; rfl
  have k2 : W1.cell? ⟨m5, 2, none⟩ = some (.int .i16 b) := by rw [h1.blk.1.cell]; rfl
  go_quiet (fail)
  obtain ⟨W2, hW2⟩ : ∃ W, W1.drewN nq = W := ⟨_, rfl⟩
  have h2 := h1.drewN nq
  rw [hW2] at h2
  have k0 : W2.cell? ⟨m5, 0, none⟩ = some (.int .u8 kd) := by rw [h2.blk.1.cell]; rfl
  rw [hW2]
  have H1 := Lib.hid h2.drop
  clear h1 h2 hW1 hW2 hm5 k1 k2 H0
  have HPF := Lib.hid (show playF kd a b R = rcanS R a from by unfold playF; simp [HZ.out])
  obtain ⟨hcl, hce⟩ := HR.out.cancel a
  have HCL := Lib.hid hcl
  clear hcl
  obtain ⟨B, hBB⟩ : ∃ B, rcanB R a = B := ⟨_, rfl⟩
  rw [hBB] at hce
  have HCE := Lib.hid hce
  have HBE := Lib.hid hBB
  clear hce hBB
  go_wp2_with (first
    | (go_at_call 19; refine (cancel_st a H1.out.swap HSB.out.shots).mono ?_; rintro e w3 ⟨rfl, h3⟩; have H3 := Lib.hid h3.swap; clear h3; rw [HCE.out])
    | (go_at_call 45; refine (rcan_st a H3.out (by have := HRB.out.shots; omega)).mono ?_; rintro e w4 ⟨rfl, h4⟩; have H4 := Lib.hid h4; clear h4; rw [HBE.out])
    | fail)
  go_ret
  exact pl_fin (by rw [HZ.out]; decide) HPF.out (H4.out) (HCL.out)

set_option maxRecDepth 100000 in
set_option maxHeartbeats 2000000 in
theorem play_5 {w0 w : World} {L : List As} {bs bl k : Nat} {N : Int} {S : LS} {R : RL} {kd a b : Int} (hz : kd % 9 = 5) (hr : Rl S R) (hb : Bk k N R) (hk : k ≤ 40000) (hN : N ≤ 576460752303390720) (ha : -32768 ≤ a ∧ a ≤ 32767) (hbb : -32768 ≤ b ∧ b ≤ 32767) (h0 : 0 ≤ kd ∧ kd ≤ 255) (h : St w0 w (rlO bl R :: stO bs S :: L)) :
    Calls Try.prog 20 #[.pointer (some ⟨bs, 0, none⟩), .pointer (some ⟨bl, 0, none⟩), .agg #[.int .u8 kd, .int .i16 a, .int .i16 b]] w (PlPost kd a b S R bs bl w0 L) := by
  obtain ⟨a0, a1⟩ := ha
  obtain ⟨b0, b1⟩ := hbb
  obtain ⟨z0, z1⟩ := h0
  have hzt : kd.tmod 9 = 5 := by rw [Int.tmod_eq_emod_of_nonneg z0]; exact hz
  have hwa : IntKind.i64.wrap a = a := by rw [IntKind.wrap_i64]; omega
  have hwb : IntKind.i64.wrap b = b := by rw [IntKind.wrap_i64]; omega
  have HR := Lib.hid hr
  have HB := Lib.hid hb
  have HRB := Lib.hid (hb.rbn hk (by omega))
  have HSB := Lib.hid (hr.bnd hb hk (by omega))
  have HZ := Lib.hid hz
  have HKN := Lib.hid (And.intro hk hN)
  have H0 := Lib.hid (h.new #[.int .u8 kd, .int .i16 a, .int .i16 b] 74)
  clear h hr hb
  go_enter Try.func20, Try.ntmps20
  go_upto_region 1 with fail
  obtain ⟨m5, hm5⟩ : ∃ m, w.heap.size = m := ⟨_, rfl⟩
  obtain ⟨W1, hW1⟩ : ∃ W, w.alloc (.cells #[.int .u8 kd, .int .i16 a, .int .i16 b] 74) = W := ⟨_, rfl⟩
  have h1 := H0.out
  rw [hW1, hm5] at h1
  rw [hW1]
  try simp only [hm5]
  have k0 : W1.cell? ⟨m5, 0, none⟩ = some (.int .u8 kd) := by rw [h1.blk.1.cell]; rfl
  have k1 : W1.cell? ⟨m5, 1, none⟩ = some (.int .i16 a) := by rw [h1.blk.1.cell]; rfl
  have k2 : W1.cell? ⟨m5, 2, none⟩ = some (.int .i16 b) := by rw [h1.blk.1.cell]; rfl
  go_quiet (fail)
  obtain ⟨W2, hW2⟩ : ∃ W, W1.drewN nq = W := ⟨_, rfl⟩
  have h2 := h1.drewN nq
  rw [hW2] at h2
  have k0 : W2.cell? ⟨m5, 0, none⟩ = some (.int .u8 kd) := by rw [h2.blk.1.cell]; rfl
  rw [hW2]
  have H1 := Lib.hid h2.drop
  clear h1 h2 hW1 hW2 hm5 k1 k2 H0
  have HPF := Lib.hid (show playF kd a b R = { R with now := max R.now (R.now + a) } from by unfold playF; simp [HZ.out])
  have m1 : ∀ a b : Int, (if a < b then b else a) = max a b := fun a b => by split <;> omega
  have hn0 := HB.out.now0
  have hn1 := HB.out.now1
  have hw1 : IntKind.i64.wrap (R.now + a) = R.now + a := by rw [IntKind.wrap_i64]; have := HKN.out.2; omega
  obtain ⟨ps, G, -, h2⟩ := st_open H1.out.swap
  obtain ⟨c0, -⟩ := st_c h2
  rw [HR.out.now] at c0
  clear h2
  go_upto_region 18 with (go_at_call 17; refine (tick_st (R.now + a) H1.out.swap).mono ?_; rintro e w3 ⟨rfl, h3⟩; have H3 := Lib.hid h3.swap; clear h3)
  clear c0
  obtain ⟨p, h4⟩ := rl_open H3.out
  have H4 := Lib.hid (show St w0 w3.drew _ from h4.drew)
  have hS : (fun w' : World => w'.cell? ⟨bl, 0, none⟩ = some (.int .i64 R.now)) w3.drew := (rl_c H4.out).1
  obtain ⟨mx, hmx⟩ : ∃ m, max R.now (R.now + a) = m := ⟨_, rfl⟩
  have f0 := H4.out.free 0
  have c0 := hS
  clear h4
  refine wpLast.region (S := (fun w' : World => w'.cell? ⟨bl, 0, none⟩ = some (.int .i64 R.now))) (c := 14) (by kernel_rfl) ?_
  refine' wpLast.take (i := 0) (v := _) rfl (by kernel_rfl) (fun _ _ _ h => h) (by kernel_rfl) _ _ _ _ (by kernel_rfl) (by kernel_rfl) (Or.inl ⟨by rfl, ?hy0⟩) hS ?rest0
  case hy0 => (intro w' hSw; obtain k9 := hSw; go_simp; try with_reducible rfl)
  try (first | rw [Go.put_some] | rw [Go.put_none])
  try dsimp only [List.set_cons_zero, List.set_cons_succ]
  refine' wpLast.take (i := 1) (v := _) rfl (by kernel_rfl) (fun _ _ _ h => h) (by kernel_rfl) _ _ _ _ (by kernel_rfl) (by kernel_rfl) (Or.inl ⟨by rfl, ?hy1⟩) hS ?rest1
  case hy1 => (intro w' hSw; obtain k9 := hSw; go_simp; try with_reducible rfl)
  try (first | rw [Go.put_some] | rw [Go.put_none])
  try dsimp only [List.set_cons_zero, List.set_cons_succ]
  refine' wpLast.take (i := 2) (v := _) rfl (by kernel_rfl) (fun _ _ _ h => h) (by kernel_rfl) _ _ _ _ (by kernel_rfl) (by kernel_rfl) (Or.inl ⟨by rfl, ?hy2⟩) hS ?rest2
  case hy2 => (intro w' hSw; obtain k9 := hSw; go_simp; try with_reducible rfl)
  try (first | rw [Go.put_some] | rw [Go.put_none])
  try dsimp only [List.set_cons_zero, List.set_cons_succ]
  refine' wpLast.take (i := 3) (v := _) rfl (by kernel_rfl) (fun _ _ _ h => h) (by kernel_rfl) _ _ _ _ (by kernel_rfl) (by kernel_rfl) (Or.inl ⟨by rfl, ?hy3⟩) hS ?rest3
  case hy3 => (intro w' hSw; obtain k9 := hSw; go_simp; try with_reducible rfl)
  try (first | rw [Go.put_some] | rw [Go.put_none])
  try dsimp only [List.set_cons_zero, List.set_cons_succ]
  refine' wpLast.take (i := 4) (v := _) rfl (by kernel_rfl) (fun _ _ _ h => h) (by kernel_rfl) _ _ _ _ (by kernel_rfl) (by kernel_rfl) (Or.inl ⟨by rfl, ?hy4⟩) hS ?rest4
  case hy4 => (intro w' hSw; obtain k9 := hSw; go_simp; try with_reducible rfl)
  try (first | rw [Go.put_some] | rw [Go.put_none])
  try dsimp only [List.set_cons_zero, List.set_cons_succ]
  refine' wpLast.take (i := 5) (v := _) rfl (by kernel_rfl) (fun _ _ _ h => h) (by kernel_rfl) _ _ _ _ (by kernel_rfl) (by kernel_rfl) (Or.inl ⟨by rfl, ?hy5⟩) hS ?rest5
  case hy5 => (intro w' hSw; obtain k9 := hSw; go_simp; try with_reducible rfl)
  try (first | rw [Go.put_some] | rw [Go.put_none])
  try dsimp only [List.set_cons_zero, List.set_cons_succ]
  refine' wpLast.take (i := 6) (v := _) rfl (by kernel_rfl) (fun _ _ _ h => h) (by kernel_rfl) _ _ _ _ (by kernel_rfl) (by kernel_rfl) (Or.inl ⟨by rfl, ?hy6⟩) hS ?rest6
  case hy6 => (intro w' hSw; obtain k9 := hSw; go_simp; try with_reducible rfl)
  try (first | rw [Go.put_some] | rw [Go.put_none])
  try dsimp only [List.set_cons_zero, List.set_cons_succ]
  refine' wpLast.take (i := 7) (v := _) rfl (by kernel_rfl) (fun _ _ _ h => h) (by kernel_rfl) _ _ _ _ (by kernel_rfl) (by kernel_rfl) (Or.inl ⟨by rfl, ?hy7⟩) hS ?rest7
  case hy7 => (intro w' hSw; obtain k9 := hSw; go_simp; try with_reducible rfl)
  try (first | rw [Go.put_some] | rw [Go.put_none])
  try dsimp only [List.set_cons_zero, List.set_cons_succ]
  refine' wpLast.take (i := 8) (v := _) rfl (by kernel_rfl) (fun _ _ _ h => h) (by kernel_rfl) _ _ _ _ (by kernel_rfl) (by kernel_rfl) (Or.inl ⟨by rfl, ?hy8⟩) hS ?rest8
  case hy8 => (intro w' hSw; obtain k9 := hSw; go_simp; try with_reducible rfl)
  try (first | rw [Go.put_some] | rw [Go.put_none])
  try dsimp only [List.set_cons_zero, List.set_cons_succ]
  refine' wpLast.take (i := 9) (v := _) rfl (by kernel_rfl) (fun _ _ _ h => h) (by kernel_rfl) _ _ _ _ (by kernel_rfl) (by kernel_rfl) (Or.inl ⟨by rfl, ?hy9⟩) hS ?rest9
  case hy9 => (intro w' hSw; obtain k9 := hSw; go_simp; try with_reducible rfl)
  try (first | rw [Go.put_some] | rw [Go.put_none])
  try dsimp only [List.set_cons_zero, List.set_cons_succ]
  refine' wpLast.take (i := 10) (v := _) rfl (by kernel_rfl) (fun _ _ _ h => h) (by kernel_rfl) _ _ _ _ (by kernel_rfl) (by kernel_rfl) (Or.inl ⟨by rfl, ?hy10⟩) hS ?rest10
  case hy10 => (intro w' hSw; obtain k9 := hSw; go_simp; try with_reducible rfl)
  try (first | rw [Go.put_some] | rw [Go.put_none])
  try dsimp only [List.set_cons_zero, List.set_cons_succ]
  refine' wpLast.take (i := 11) (v := _) rfl (by kernel_rfl) (fun _ _ _ h => h) (by kernel_rfl) _ _ _ _ (by kernel_rfl) (by kernel_rfl) (Or.inl ⟨by rfl, ?hy11⟩) hS ?rest11
  case hy11 => (intro w' hSw; obtain k9 := hSw; go_simp; try with_reducible rfl)
  try (first | rw [Go.put_some] | rw [Go.put_none])
  try dsimp only [List.set_cons_zero, List.set_cons_succ]
  refine wpLast.one (i := 12) rfl (by kernel_rfl) ?_
  intro K' hK; have HK' := Lib.hid hK; clear hK
  go_simp
  refine HK'.out _ _ ⟨fun _ => hS, ?_⟩
  clear HK' K'
  try (first | rw [Go.put_some] | rw [Go.put_none])
  try dsimp only [List.set_cons_zero, List.set_cons_succ]
  refine wpLast.one (i := 13) rfl (by kernel_rfl) ?_
  intro K' hK; have HK' := Lib.hid hK; clear hK
  go_simp
  refine HK'.out _ _ ⟨fun _ => hS, ?_⟩
  clear HK' K'
  try (first | rw [Go.put_some] | rw [Go.put_none])
  try dsimp only [List.set_cons_zero, List.set_cons_succ]
  refine wpLast.one (i := 14) rfl (by kernel_rfl) ?_
  intro K' hK; have HK' := Lib.hid hK; clear hK
  go_simp
  refine HK'.out _ _ ⟨fun h => absurd rfl h, ?_⟩
  clear HK' K'
  try (first | rw [Go.put_some] | rw [Go.put_none])
  try dsimp only [List.set_cons_zero, List.set_cons_succ]
  refine wpLast.done (by kernel_rfl) ?_
  have h5 := H4.out.set 0 (.int .i64 mx)
  rw [rset_now] at h5
  have H5 := Lib.hid (rl_shut (show St w0 _ (rlL bl { R with now := mx } p ++ _) from h5))
  clear h5 c0 hS
  go_wp2_with fail
  go_ret
  rw [hmx] at HPF
  exact pl_fin (by rw [HZ.out]; decide) HPF.out (H5.out) (by have q := HR.out.tick (R.now + a); rw [hmx] at q; exact q)

set_option maxRecDepth 100000 in
set_option maxHeartbeats 2000000 in
theorem play_6 {w0 w : World} {L : List As} {bs bl k : Nat} {N : Int} {S : LS} {R : RL} {kd a b : Int} (hz : kd % 9 = 6) (hr : Rl S R) (hb : Bk k N R) (hk : k ≤ 40000) (hN : N ≤ 576460752303390720) (ha : -32768 ≤ a ∧ a ≤ 32767) (hbb : -32768 ≤ b ∧ b ≤ 32767) (h0 : 0 ≤ kd ∧ kd ≤ 255) (h : St w0 w (rlO bl R :: stO bs S :: L)) :
    Calls Try.prog 20 #[.pointer (some ⟨bs, 0, none⟩), .pointer (some ⟨bl, 0, none⟩), .agg #[.int .u8 kd, .int .i16 a, .int .i16 b]] w (PlPost kd a b S R bs bl w0 L) := by
  obtain ⟨a0, a1⟩ := ha
  obtain ⟨b0, b1⟩ := hbb
  obtain ⟨z0, z1⟩ := h0
  have hzt : kd.tmod 9 = 6 := by rw [Int.tmod_eq_emod_of_nonneg z0]; exact hz
  have hwa : IntKind.i64.wrap a = a := by rw [IntKind.wrap_i64]; omega
  have hwb : IntKind.i64.wrap b = b := by rw [IntKind.wrap_i64]; omega
  have HR := Lib.hid hr
  have HB := Lib.hid hb
  have HRB := Lib.hid (hb.rbn hk (by omega))
  have HSB := Lib.hid (hr.bnd hb hk (by omega))
  have HZ := Lib.hid hz
  have HKN := Lib.hid (And.intro hk hN)
  have H0 := Lib.hid (h.new #[.int .u8 kd, .int .i16 a, .int .i16 b] 74)
  clear h hr hb
  go_enter Try.func20, Try.ntmps20
  go_upto_region 1 with fail
  obtain ⟨m5, hm5⟩ : ∃ m, w.heap.size = m := ⟨_, rfl⟩
  obtain ⟨W1, hW1⟩ : ∃ W, w.alloc (.cells #[.int .u8 kd, .int .i16 a, .int .i16 b] 74) = W := ⟨_, rfl⟩
  have h1 := H0.out
  rw [hW1, hm5] at h1
  rw [hW1]
  try simp only [hm5]
  have k0 : W1.cell? ⟨m5, 0, none⟩ = some (.int .u8 kd) := by rw [h1.blk.1.cell]; rfl
  have k1 : W1.cell? ⟨m5, 1, none⟩ = some (.int .i16 a) := by rw [h1.blk.1.cell]; rfl
  have k2 : W1.cell? ⟨m5, 2, none⟩ = some (.int .i16 b) := by rw [h1.blk.1.cell]; rfl
  go_quiet (fail)
  obtain ⟨W2, hW2⟩ : ∃ W, W1.drewN nq = W := ⟨_, rfl⟩
  have h2 := h1.drewN nq
  rw [hW2] at h2
  have k0 : W2.cell? ⟨m5, 0, none⟩ = some (.int .u8 kd) := by rw [h2.blk.1.cell]; rfl
  rw [hW2]
  have H1 := Lib.hid h2.drop
  clear h1 h2 hW1 hW2 hm5 k1 k2 H0
  have HPF := Lib.hid (show playF kd a b R = { R with dirty := true } from by unfold playF; simp [HZ.out])
  obtain ⟨ps, G, hbg, h2⟩ := st_open H1.out.swap
  have HBG := Lib.hid (show BagOk { S with dirty := true } G from ⟨hbg.calls, hbg.jobs⟩)
  have H2 := Lib.hid h2
  obtain ⟨-, -, -, -, c13, -⟩ := st_c h2
  have f13 := h2.free 13
  clear h2 hbg
  go_upto_region 21 with fail
  have h3 := H2.out.set 13 (.bool true)
  rw [set_dirty] at h3
  obtain ⟨W3, hW3⟩ : ∃ W, W2.setCell ⟨bs, 13, none⟩ (.bool true) = W := ⟨_, rfl⟩
  rw [hW3] at h3
  rw [hW3]
  have H3 := Lib.hid (st_shut HBG.out (show St w0 W3 (stL bs { S with dirty := true } ps G ++ (rlO bl R :: L)) from h3)).swap
  have H3 := Lib.hid (show St w0 W3 (rlO bl R :: stO bs { S with dirty := true } :: L) from by
    have q := st_shut HBG.out (show St w0 W3 (stL bs { S with dirty := true } ps G ++ (rlO bl R :: L)) from h3)
    exact q.swap)
  clear h3 hW3 c13 f13 H2
  obtain ⟨p, h4⟩ := rl_open H3.out
  have H4 := Lib.hid h4
  obtain ⟨-, -, -, -, -, -, c6⟩ := rl_c h4
  have f6 := h4.free 6
  clear h4
  go_wp2_with fail
  have h5 := H4.out.set 6 (.bool true)
  rw [rset_dirty] at h5
  go_ret
  exact pl_fin (by rw [HZ.out]; decide) HPF.out (rl_shut (show St w0 _ (rlL bl { R with dirty := true } p ++ (stO bs { S with dirty := true } :: L)) from h5)) (HR.out.mark)

set_option maxRecDepth 100000 in
set_option maxHeartbeats 2000000 in
theorem play_7 {w0 w : World} {L : List As} {bs bl k : Nat} {N : Int} {S : LS} {R : RL} {kd a b : Int} (hz : kd % 9 = 7) (hr : Rl S R) (hb : Bk k N R) (hk : k ≤ 40000) (hN : N ≤ 576460752303390720) (ha : -32768 ≤ a ∧ a ≤ 32767) (hbb : -32768 ≤ b ∧ b ≤ 32767) (h0 : 0 ≤ kd ∧ kd ≤ 255) (h : St w0 w (rlO bl R :: stO bs S :: L)) :
    Calls Try.prog 20 #[.pointer (some ⟨bs, 0, none⟩), .pointer (some ⟨bl, 0, none⟩), .agg #[.int .u8 kd, .int .i16 a, .int .i16 b]] w (PlPost kd a b S R bs bl w0 L) := by
  obtain ⟨a0, a1⟩ := ha
  obtain ⟨b0, b1⟩ := hbb
  obtain ⟨z0, z1⟩ := h0
  have hzt : kd.tmod 9 = 7 := by rw [Int.tmod_eq_emod_of_nonneg z0]; exact hz
  have hwa : IntKind.i64.wrap a = a := by rw [IntKind.wrap_i64]; omega
  have hwb : IntKind.i64.wrap b = b := by rw [IntKind.wrap_i64]; omega
  have HR := Lib.hid hr
  have HB := Lib.hid hb
  have HRB := Lib.hid (hb.rbn hk (by omega))
  have HSB := Lib.hid (hr.bnd hb hk (by omega))
  have HZ := Lib.hid hz
  have HKN := Lib.hid (And.intro hk hN)
  have H0 := Lib.hid (h.new #[.int .u8 kd, .int .i16 a, .int .i16 b] 74)
  clear h hr hb
  go_enter Try.func20, Try.ntmps20
  go_upto_region 1 with fail
  obtain ⟨m5, hm5⟩ : ∃ m, w.heap.size = m := ⟨_, rfl⟩
  obtain ⟨W1, hW1⟩ : ∃ W, w.alloc (.cells #[.int .u8 kd, .int .i16 a, .int .i16 b] 74) = W := ⟨_, rfl⟩
  have h1 := H0.out
  rw [hW1, hm5] at h1
  rw [hW1]
  try simp only [hm5]
  have k0 : W1.cell? ⟨m5, 0, none⟩ = some (.int .u8 kd) := by rw [h1.blk.1.cell]; rfl
  have k1 : W1.cell? ⟨m5, 1, none⟩ = some (.int .i16 a) := by rw [h1.blk.1.cell]; rfl
  have k2 : W1.cell? ⟨m5, 2, none⟩ = some (.int .i16 b) := by rw [h1.blk.1.cell]; rfl
  go_quiet (fail)
  obtain ⟨W2, hW2⟩ : ∃ W, W1.drewN nq = W := ⟨_, rfl⟩
  have h2 := h1.drewN nq
  rw [hW2] at h2
  have k0 : W2.cell? ⟨m5, 0, none⟩ = some (.int .u8 kd) := by rw [h2.blk.1.cell]; rfl
  rw [hW2]
  have H1 := Lib.hid h2.drop
  clear h1 h2 hW1 hW2 hm5 k1 k2 H0
  have HPF := Lib.hid (show playF kd a b R = { R with jobs := R.jobs ++ [b] } from by unfold playF; simp [HZ.out])
  go_upto_region 23 with fail
  have H2 := Lib.hid (show St w0 W2.drew _ from H1.out.drew)
  have hS : (fun _ : World => True) W2.drew := trivial
  refine wp_region_held (S := fun _ : World => True) (by kernel_rfl) ?_
  refine' wpAnyH_take (i := 0) (v := _) rfl (by kernel_rfl) (by kernel_rfl) (by kernel_rfl) (fun _ _ _ h => h) (Or.inl ⟨by rfl, ?hy0⟩) hS ?rest0
  case hy0 => (intro w' hSw; obtain _ := hSw; go_simp; try with_reducible rfl)
  try simp only [Act.put, List.getElem_toArray, List.getElem_cons_zero, List.getElem_cons_succ, List.setIfInBounds_toArray, List.set_cons_zero, List.set_cons_succ]
  refine' wpAnyH_take (i := 1) (v := _) rfl (by kernel_rfl) (by kernel_rfl) (by kernel_rfl) (fun _ _ _ h => h) (Or.inl ⟨by rfl, ?hy1⟩) hS ?rest1
  case hy1 => (intro w' hSw; obtain _ := hSw; go_simp; try with_reducible rfl)
  try simp only [Act.put, List.getElem_toArray, List.getElem_cons_zero, List.getElem_cons_succ, List.setIfInBounds_toArray, List.set_cons_zero, List.set_cons_succ]
  refine' wpAnyH_take (i := 2) (v := _) rfl (by kernel_rfl) (by kernel_rfl) (by kernel_rfl) (fun _ _ _ h => h) (Or.inl ⟨by rfl, ?hy2⟩) hS ?rest2
  case hy2 => (intro w' hSw; obtain _ := hSw; go_simp; try with_reducible rfl)
  try simp only [Act.put, List.getElem_toArray, List.getElem_cons_zero, List.getElem_cons_succ, List.setIfInBounds_toArray, List.set_cons_zero, List.set_cons_succ]
  refine' wpAnyH_take (i := 3) (v := _) rfl (by kernel_rfl) (by kernel_rfl) (by kernel_rfl) (fun _ _ _ h => h) (Or.inl ⟨by rfl, ?hy3⟩) hS ?rest3
  case hy3 => (intro w' hSw; obtain _ := hSw; go_simp; try with_reducible rfl)
  try simp only [Act.put, List.getElem_toArray, List.getElem_cons_zero, List.getElem_cons_succ, List.setIfInBounds_toArray, List.set_cons_zero, List.set_cons_succ]
  refine held_one (i := 4) rfl (by kernel_rfl) ?_
  intro K' hK; have HK' := Lib.hid hK; clear hK
  refine wp_call (by rfl) (by rfl) Try.func25 (by kernel_rfl) (by kernel_rfl) (by kernel_rfl) (job_st b H2.out) ?_
  rintro e w3 ⟨g, rfl, h3⟩
  have H3 := Lib.hid (St.sh [_, _, _] [0, 2, 1] (by decide) h3)
  clear h3
  refine ⟨_, rfl, HK'.out _ _ ⟨trivial, ?_⟩⟩
  clear HK' K'
  try simp only [Act.put, List.getElem_toArray, List.getElem_cons_zero, List.getElem_cons_succ, List.setIfInBounds_toArray, List.set_cons_zero, List.set_cons_succ]
  refine held_one (i := 5) rfl (by kernel_rfl) ?_
  intro K' hK; have HK' := Lib.hid hK; clear hK
  refine wp_call (by rfl) (by rfl) Try.func24 (by kernel_rfl) (by kernel_rfl) (by kernel_rfl) (jpush_st H3.out HSB.out.jobs) ?_
  rintro e w4 ⟨rfl, h4⟩
  have H4 := Lib.hid h4.swap
  clear h4
  refine ⟨_, rfl, HK'.out _ _ ⟨trivial, ?_⟩⟩
  clear HK' K'
  try simp only [Act.put, List.getElem_toArray, List.getElem_cons_zero, List.getElem_cons_succ, List.setIfInBounds_toArray, List.set_cons_zero, List.set_cons_succ]
  refine wpAnyH_done (by kernel_rfl) ?_ _
  go_upto_region 24 with fail
  obtain ⟨p, h5⟩ := rl_open H4.out
  have H5 := Lib.hid h5
  clear h5
  obtain ⟨-, c8, -, -⟩ := rl_s H5.out
  have f8 := H5.out.free 8
  have hlj : R.jobs.length ≤ 100000 := by have := HRB.out.jobs; omega
  have h6 := foc_rrj H5.out
  unfold rrj at h6
  have H6 := Lib.hid (h6.alloc (.cells #[.int .i64 b] 3))
  have r2 := rd_built_at w4 #[.int .i64 b] 3 1 1 w4.heap.size rfl rfl (by simp [Value.oneCell'])
  clear h6
  go_wp2_with (first
    | (at_builtin; refine wpList_append_any rfl _ _ 60 rfl el60 (p 1).1 R.jobs.length (p 1).2 _ rfl H6.out.swap.sl _ 1 _ _ rfl r2 (by omega) (by decide) ?_; intro s7 c7 w7 p1 p2 p3; have H7 := Lib.hid (H6.out.swap.row_step p1 p2 p3).swap; have f8 := H7.out.free 8; have c8 := H7.out.cell 8; clear p1 p2 p3)
    | fail)
  go_ret
  have h8 := H7.out.set 8 (.slice s7 (R.jobs.length + 1) c7)
  exact pl_fin (by rw [HZ.out]; decide) HPF.out (rl_shut (unf_rrj (n := R.jobs.length + 1) (R.jobs ++ [b]) (by simp) (by rw [flat_append, flat_one]; exact h8))) (HR.out.job b _ _)

set_option maxRecDepth 100000 in
set_option maxHeartbeats 2000000 in
theorem play_8 {w0 w : World} {L : List As} {bs bl k : Nat} {N : Int} {S : LS} {R : RL} {kd a b : Int} (hz : kd % 9 = 8) (hr : Rl S R) (hb : Bk k N R) (hk : k ≤ 40000) (hN : N ≤ 576460752303390720) (ha : -32768 ≤ a ∧ a ≤ 32767) (hbb : -32768 ≤ b ∧ b ≤ 32767) (h0 : 0 ≤ kd ∧ kd ≤ 255) (h : St w0 w (rlO bl R :: stO bs S :: L)) :
    Calls Try.prog 20 #[.pointer (some ⟨bs, 0, none⟩), .pointer (some ⟨bl, 0, none⟩), .agg #[.int .u8 kd, .int .i16 a, .int .i16 b]] w (PlPost kd a b S R bs bl w0 L) := by
  obtain ⟨a0, a1⟩ := ha
  obtain ⟨b0, b1⟩ := hbb
  obtain ⟨z0, z1⟩ := h0
  have hzt : kd.tmod 9 = 8 := by rw [Int.tmod_eq_emod_of_nonneg z0]; exact hz
  have hwa : IntKind.i64.wrap a = a := by rw [IntKind.wrap_i64]; omega
  have hwb : IntKind.i64.wrap b = b := by rw [IntKind.wrap_i64]; omega
  have HR := Lib.hid hr
  have HB := Lib.hid hb
  have HRB := Lib.hid (hb.rbn hk (by omega))
  have HSB := Lib.hid (hr.bnd hb hk (by omega))
  have HZ := Lib.hid hz
  have HKN := Lib.hid (And.intro hk hN)
  have H0 := Lib.hid (h.new #[.int .u8 kd, .int .i16 a, .int .i16 b] 74)
  clear h hr hb
  go_enter Try.func20, Try.ntmps20
  go_upto_region 1 with fail
  obtain ⟨m5, hm5⟩ : ∃ m, w.heap.size = m := ⟨_, rfl⟩
  obtain ⟨W1, hW1⟩ : ∃ W, w.alloc (.cells #[.int .u8 kd, .int .i16 a, .int .i16 b] 74) = W := ⟨_, rfl⟩
  have h1 := H0.out
  rw [hW1, hm5] at h1
  rw [hW1]
  try simp only [hm5]
  have k0 : W1.cell? ⟨m5, 0, none⟩ = some (.int .u8 kd) := by rw [h1.blk.1.cell]; rfl
  have k1 : W1.cell? ⟨m5, 1, none⟩ = some (.int .i16 a) := by rw [h1.blk.1.cell]; rfl
  have k2 : W1.cell? ⟨m5, 2, none⟩ = some (.int .i16 b) := by rw [h1.blk.1.cell]; rfl
  go_quiet (fail)
  obtain ⟨W2, hW2⟩ : ∃ W, W1.drewN nq = W := ⟨_, rfl⟩
  have h2 := h1.drewN nq
  rw [hW2] at h2
  have k0 : W2.cell? ⟨m5, 0, none⟩ = some (.int .u8 kd) := by rw [h2.blk.1.cell]; rfl
  rw [hW2]
  have H1 := Lib.hid h2.drop
  clear h1 h2 hW1 hW2 hm5 k1 k2 H0
  obtain ⟨hrm, hrf⟩ := HR.out.room HB.out HKN.out.1 (by have := HKN.out.2; omega)
  have HRM := Lib.hid hrm
  have HRF := Lib.hid hrf
  clear hrm hrf
  go_wp2_with (first
    | (go_at_call 13; refine (next_st H1.out.swap HRM.out HRF.out).mono ?_; rintro e w3 ⟨S3, x, l, rfl, hn3, hx3, -, h3⟩; have HN := Lib.hid hn3; have HX := Lib.hid hx3; have H3 := Lib.hid (St.sh [_, _, _] [2, 0, 1] (by decide) h3); clear hn3 hx3 h3)
    | (go_at_call 22; refine (rtake_st H3.out HRB.out).mono ?_; rintro e w4 ⟨R4, d, ls, s, c, rfl, ht4, h4⟩; have HT := Lib.hid ht4; have H4 := Lib.hid h4; clear h4 ht4)
    | (go_at_call 23; refine (chosen_go HR.out HB.out HKN.out.1 HN.out HX.out HT.out H4.out).mono ?_; rintro e w5 ⟨rfl, g1, h5⟩; have HQ := Lib.hid g1; have H5 := Lib.hid h5; clear g1 h5)
    | fail)
  go_ret
  exact ⟨rfl, S3, R4, .next HZ.out HT.out, HQ.out, H5.out⟩

theorem play_st {w0 w : World} {L : List As} {bs bl k : Nat} {N : Int} {S : LS} {R : RL} {kd a b : Int} (hr : Rl S R) (hb : Bk k N R) (hk : k ≤ 40000) (hN : N ≤ 576460752303390720) (ha : -32768 ≤ a ∧ a ≤ 32767) (hbb : -32768 ≤ b ∧ b ≤ 32767) (h0 : 0 ≤ kd ∧ kd ≤ 255) (h : St w0 w (rlO bl R :: stO bs S :: L)) :
    Calls Try.prog 20 #[.pointer (some ⟨bs, 0, none⟩), .pointer (some ⟨bl, 0, none⟩), .agg #[.int .u8 kd, .int .i16 a, .int .i16 b]] w (PlPost kd a b S R bs bl w0 L) := by
  obtain z | z | z | z | z | z | z | z | z : kd % 9 = 0 ∨ kd % 9 = 1 ∨ kd % 9 = 2 ∨ kd % 9 = 3 ∨ kd % 9 = 4 ∨ kd % 9 = 5 ∨ kd % 9 = 6 ∨ kd % 9 = 7 ∨ kd % 9 = 8 := by omega
  · exact play_0 z hr hb hk hN ha hbb h0 h
  · exact play_1 z hr hb hk hN ha hbb h0 h
  · exact play_2 z hr hb hk hN ha hbb h0 h
  · exact play_3 z hr hb hk hN ha hbb h0 h
  · exact play_4 z hr hb hk hN ha hbb h0 h
  · exact play_5 z hr hb hk hN ha hbb h0 h
  · exact play_6 z hr hb hk hN ha hbb h0 h
  · exact play_7 z hr hb hk hN ha hbb h0 h
  · exact play_8 z hr hb hk hN ha hbb h0 h

end Go.Proofs.Ytnamkckpgaopkaa
