/-
  awake, and the walk of PaintMeets.
-/
import Derived.Test.YtifgjccnhbbadaaMe
import Derived.Lib.QuietBelow
set_option linter.unusedVariables false
set_option linter.unusedSimpArgs false
namespace Go.Proofs.Ytifgjccnhbbadaa
open Go.RowKit Go.K Go.Sort

theorem draw_c {w0 w : World} {L : List As} (h : St w0 w L) : Calls Try.prog 7 #[.slice none 0 0, .int .i64 8, .int .i64 16] w fun e w' => ∃ s c, e = .returned (.agg #[.int .i64 1, .int .i64 1, .slice s 1 c]) ∧ St w0 w' L := draw_closed h
theorem _root_.Go.K.St.f4 {w0 w : World} {L : List As} {b t : Nat} {v0 v1 v2 v3 : Value} (h : St w0 w (As.cells b #[v0, v1, v2, v3] t :: L)) :
    w.cell? ⟨b, 0, none⟩ = some v0 ∧ w.cell? ⟨b, 1, none⟩ = some v1 ∧ w.cell? ⟨b, 2, none⟩ = some v2 ∧ w.cell? ⟨b, 3, none⟩ = some v3 ∧ b < w.heap.size := ⟨h.cell 0, h.cell 1, h.cell 2, h.cell 3, h.blk.1.lt⟩
theorem _root_.Go.K.St.f2 {w0 w : World} {L : List As} {b t : Nat} {v0 v1 : Value} (h : St w0 w (As.cells b #[v0, v1] t :: L)) :
    w.cell? ⟨b, 0, none⟩ = some v0 ∧ w.cell? ⟨b, 1, none⟩ = some v1 ∧ b < w.heap.size := ⟨h.cell 0, h.cell 1, h.blk.1.lt⟩

set_option maxHeartbeats 2000000 in
theorem awake_any (w : World) : Calls Try.prog 5 #[] w fun e w' => e = .returned (.bool true) ∧ Below w.heap.size w w' := by
  have hm : meetR ⟨0, 0, 2, 2⟩ ⟨1, 0, 5, 1⟩ = ⟨1, 0, 1, 1⟩ := by decide
  have ha : Bd 1000000000 ⟨0, 0, 2, 2⟩ := by simp [Bd]
  have hb : Bd 1000000000 ⟨1, 0, 5, 1⟩ := by simp [Bd]
  have HM := Lib.hid hm
  clear hm
  have hfd : ∀ (s : Option Addr) (c : Nat) (w : World), (Instr.field 37 (.agg #[.int .i64 1, .int .i64 1, .slice s 1 c]) 0).run Try.prog w = .ok (.int .i64 1) w := fun _ _ _ => by kernel_rfl
  go_enter Try.func5, Try.ntmps5
  go_wp2_with (first
    | (go_at_call 10; refine (meet_c _ ha hb HM.out).mono ?_; rintro e w1 ⟨rfl, hb1⟩; have H := Lib.hid (St.start w hb1))
    | (go_at_call 7; refine (draw_c H.out).mono ?_; rintro e w2 ⟨s, c, rfl, h2⟩))
  go_ret
  exact ⟨rfl, h2.bel⟩

theorem has_c {a0 a1 a2 a3 i j : Int} {b : Bool} (w : World) (ha : Bd 1000000000 ⟨a0, a1, a2, a3⟩) (hr : hasR ⟨a0, a1, a2, a3⟩ i j = b) :
    Calls Try.prog 11 #[r4 a0 a1 a2 a3, .int .i64 i, .int .i64 j] w fun e w' => e = .returned (.bool b) ∧ Below w.heap.size w w' := by
  have := has_any ⟨a0, a1, a2, a3⟩ i j w ha
  rw [hr] at this
  exact this
theorem lawMeet_c {a0 a1 a2 a3 b0 b1 b2 b3 r0 r1 r2 r3 : Int} (w : World) (ha : Bd 1000000000 ⟨a0, a1, a2, a3⟩) (hb : Bd 1000000000 ⟨b0, b1, b2, b3⟩) (hr : meetR ⟨a0, a1, a2, a3⟩ ⟨b0, b1, b2, b3⟩ = ⟨r0, r1, r2, r3⟩) :
    Calls Try.prog 13 #[r4 a0 a1 a2 a3, r4 b0 b1 b2 b3] w fun e w' => e = .returned (r4 r0 r1 r2 r3) ∧ Below w.heap.size w w' := by
  have := lawMeet_any ⟨a0, a1, a2, a3⟩ ⟨b0, b1, b2, b3⟩ w ha hb
  rw [hr] at this
  exact this

theorem HQ3 {w0 w : World} {A B C D E F : As} (h : St w0 w [A, B, C, D, E, F]) : St w0 w [A, B, C] := by
  have h2 := (h.perm (L' := [D, E, F, A, B, C]) (List.perm_append_comm (l₁ := [A, B, C]) (l₂ := [D, E, F]))).drop.drop.drop
  exact h2

set_option maxRecDepth 100000 in
set_option maxHeartbeats 4000000 in
theorem meets_go {a0 a1 a2 a3 b0 b1 b2 b3 c0 c1 : Int} (w : World) (la0 : -32768 ≤ a0) (ua0 : a0 ≤ 32767) (la1 : -32768 ≤ a1) (ua1 : a1 ≤ 32767) (la2 : -32768 ≤ a2) (ua2 : a2 ≤ 32767) (la3 : -32768 ≤ a3) (ua3 : a3 ≤ 32767) (lb0 : -32768 ≤ b0) (ub0 : b0 ≤ 32767) (lb1 : -32768 ≤ b1) (ub1 : b1 ≤ 32767) (lb2 : -32768 ≤ b2) (ub2 : b2 ≤ 32767) (lb3 : -32768 ≤ b3) (ub3 : b3 ≤ 32767) (lc0 : -32768 ≤ c0) (uc0 : c0 ≤ 32767) (lc1 : -32768 ≤ c1) (uc1 : c1 ≤ 32767) :
    Calls Try.prog 4 #[.agg #[.int .i16 a0, .int .i16 a1, .int .i16 a2, .int .i16 a3], .agg #[.int .i16 b0, .int .i16 b1, .int .i16 b2, .int .i16 b3], .agg #[.int .i16 c0, .int .i16 c1]] w fun e w' => e = .returned (.bool true) ∧ Below w.heap.size w w' := by
  obtain ⟨⟨m0, m1, m2, m3⟩, hm⟩ : ∃ m, meetR ⟨a0, a1, a2, a3⟩ ⟨b0, b1, b2, b3⟩ = m := ⟨_, rfl⟩
  have hA : Bd 1000000 ⟨a0, a1, a2, a3⟩ := by simp only [Bd]; omega
  have hB : Bd 1000000 ⟨b0, b1, b2, b3⟩ := by simp only [Bd]; omega
  have hM : Bd 1000000000 ⟨m0, m1, m2, m3⟩ := (hm ▸ bd_meetR hA hB).mono (by omega)
  have hA := hA.mono (n := 1000000000) (by omega)
  have hB := hB.mono (n := 1000000000) (by omega)
  have hm2 : meetR ⟨b0, b1, b2, b3⟩ ⟨a0, a1, a2, a3⟩ = ⟨m0, m1, m2, m3⟩ := by rw [meet_comm, hm]
  have hm3 : meetR ⟨m0, m1, m2, m3⟩ ⟨a0, a1, a2, a3⟩ = ⟨m0, m1, m2, m3⟩ := by rw [← hm, meet_idem]
  obtain ⟨bx, hbx⟩ : ∃ b, hasR ⟨a0, a1, a2, a3⟩ c0 c1 = b := ⟨_, rfl⟩
  obtain ⟨by', hby⟩ : ∃ b, hasR ⟨b0, b1, b2, b3⟩ c0 c1 = b := ⟨_, rfl⟩
  have hbm : hasR ⟨m0, m1, m2, m3⟩ c0 c1 = (bx && by') := by rw [← hm, has_meet, hbx, hby]
  have HA := Lib.hid hA
  have HB := Lib.hid hB
  have HM := Lib.hid hM
  have E1 := Lib.hid hm
  have E2 := Lib.hid hm2
  have E3 := Lib.hid hm3
  have B1 := Lib.hid hbx
  have B2 := Lib.hid hby
  have B3 := Lib.hid hbm
  clear hA hB hM hm hm2 hm3 hbx hby hbm
  have H := Lib.hid ((((St.start w (Below.refl _ w)).new #[.int .i16 a0, .int .i16 a1, .int .i16 a2, .int .i16 a3] 43).new #[.int .i16 b0, .int .i16 b1, .int .i16 b2, .int .i16 b3] 43).new #[.int .i16 c0, .int .i16 c1] 44)
  simp only [World.size_alloc] at H
  go_enter Try.func4, Try.ntmps4
  go_upto_region 3 with (go_at_call 5; refine (awake_any _).mono ?_; rintro e w1 ⟨rfl, hb1⟩; have H := Lib.hid (H.out.of_below hb1))
  obtain ⟨g0, g1, g2⟩ := H.out.f2
  obtain ⟨h0, h1, h2, h3, h4⟩ := H.out.drop.f4
  obtain ⟨i0, i1, i2, i3, i4⟩ := H.out.drop.drop.f4
  have HX := Lib.hid (H.out.new (#[.int .i64 a0, .int .i64 a1, .int .i64 a2, .int .i64 a3]) 31)
  go_upto_region 5 with fail
  have HY := Lib.hid (HX.out.new #[.int .i64 b0, .int .i64 b1, .int .i64 b2, .int .i64 b3] 31)
  simp only [World.size_alloc] at HY
  obtain ⟨V, hV⟩ : ∃ V, (w1.alloc (.cells #[.int .i64 a0, .int .i64 a1, .int .i64 a2, .int .i64 a3] 31)).alloc (.cells #[.int .i64 b0, .int .i64 b1, .int .i64 b2, .int .i64 b3] 31) = V := ⟨_, rfl⟩
  obtain ⟨bx', hbx'⟩ : ∃ b, w1.heap.size = b := ⟨_, rfl⟩
  rw [hV, hbx'] at HY
  rw [hV, hbx']
  clear hV hbx' g0 g1 g2 h0 h1 h2 h3 h4 i0 i1 i2 i3 i4 H HX
  obtain ⟨y0, y1, y2, y3, y4⟩ := HY.out.f4
  obtain ⟨x0, x1, x2, x3, x4⟩ := HY.out.drop.f4
  go_upto_region 6 with (go_at_call 10; refine (meet_c _ HA.out HB.out E1.out).mono ?_; rintro e w2 ⟨rfl, hb2⟩; have HY := Lib.hid (HY.out.of_below hb2))
  have HM' := Lib.hid (HY.out.new #[.int .i64 m0, .int .i64 m1, .int .i64 m2, .int .i64 m3] 31)
  obtain ⟨V2, hV2⟩ : ∃ V, w2.alloc (.cells #[.int .i64 m0, .int .i64 m1, .int .i64 m2, .int .i64 m3] 31) = V := ⟨_, rfl⟩
  obtain ⟨bm, hbm⟩ : ∃ b, w2.heap.size = b := ⟨_, rfl⟩
  rw [hV2, hbm] at HM'
  rw [hV2, hbm]
  clear hV2 hbm y0 y1 y2 y3 y4 x0 x1 x2 x3 x4 HY
  obtain ⟨g0, g1, g2⟩ := HM'.out.drop.drop.drop.f2
  go_quiet (fail)
  have HQ := Lib.hid (HM'.out.drewN nq)
  obtain ⟨V3, hV3⟩ : ∃ V, V2.drewN nq = V := ⟨_, rfl⟩
  rw [hV3] at HQ ⊢
  clear hV3 g0 g1 g2 HM'
  obtain ⟨k0, k1, k2, k3, -⟩ := HQ.out.f4
  obtain ⟨y0, y1, y2, y3, -⟩ := HQ.out.drop.f4
  obtain ⟨x0, x1, x2, x3, -⟩ := HQ.out.drop.drop.f4
  obtain ⟨bb, hbb⟩ : ∃ b, (bx && by') = b := ⟨_, rfl⟩
  rw [hbb] at B3
  have HBB := Lib.hid hbb
  clear hbb
  go_upto_region 7 with fail
  go_cut [12] (fun v12 wc => v12 = .bool bb ∧ St w wc [As.cells bm #[.int .i64 m0, .int .i64 m1, .int .i64 m2, .int .i64 m3] 31, As.cells (bx' + 1) #[.int .i64 b0, .int .i64 b1, .int .i64 b2, .int .i64 b3] 31, As.cells bx' #[.int .i64 a0, .int .i64 a1, .int .i64 a2, .int .i64 a3] 31])
  case first =>
    have hbb := HBB.out
    cases bx with
    | false =>
      simp only [Bool.false_and] at hbb
      subst hbb
      go_wp2_with (first
        | (go_at_call 12; refine (flat_c _ _ _ _ _).mono ?_; rintro e w2 ⟨rfl, hb2⟩; have HQ := Lib.hid (HQ.out.of_below ⟨hb2.os, hb2.tape, hb2.output, hb2.size, hb2.block⟩); obtain ⟨k0, k1, k2, k3, -⟩ := HQ.out.f4; obtain ⟨y0, y1, y2, y3, -⟩ := HQ.out.drop.f4; obtain ⟨x0, x1, x2, x3, -⟩ := HQ.out.drop.drop.f4)
        | (go_at_call 11; refine (has_c _ HA.out B1.out).mono ?_; rintro e w2 ⟨rfl, hb2⟩; have HQ := Lib.hid (HQ.out.of_below ⟨hb2.os, hb2.tape, hb2.output, hb2.size, hb2.block⟩); obtain ⟨k0, k1, k2, k3, -⟩ := HQ.out.f4; obtain ⟨y0, y1, y2, y3, -⟩ := HQ.out.drop.f4; obtain ⟨x0, x1, x2, x3, -⟩ := HQ.out.drop.drop.f4))
      go_meet
      exact ⟨rfl, St.perm (List.Perm.refl _) (HQ3 HQ.out)⟩
    | true =>
      simp only [Bool.true_and] at hbb
      subst hbb
      go_wp2_with (first
        | (go_at_call 12; refine (flat_c _ _ _ _ _).mono ?_; rintro e w2 ⟨rfl, hb2⟩; have HQ := Lib.hid (HQ.out.of_below ⟨hb2.os, hb2.tape, hb2.output, hb2.size, hb2.block⟩); obtain ⟨k0, k1, k2, k3, -⟩ := HQ.out.f4; obtain ⟨y0, y1, y2, y3, -⟩ := HQ.out.drop.f4; obtain ⟨x0, x1, x2, x3, -⟩ := HQ.out.drop.drop.f4)
        | (go_at_call 11; refine (has_c _ (by first | exact HA.out | exact HB.out) (by first | exact B1.out | exact B2.out)).mono ?_; rintro e w2 ⟨rfl, hb2⟩; have HQ := Lib.hid (HQ.out.of_below ⟨hb2.os, hb2.tape, hb2.output, hb2.size, hb2.block⟩); obtain ⟨k0, k1, k2, k3, -⟩ := HQ.out.f4; obtain ⟨y0, y1, y2, y3, -⟩ := HQ.out.drop.f4; obtain ⟨x0, x1, x2, x3, -⟩ := HQ.out.drop.drop.f4))
      go_meet
      exact ⟨rfl, St.perm (List.Perm.refl _) (HQ3 HQ.out)⟩
  case rest =>
    obtain ⟨rfl, hS⟩ := hcut
    obtain ⟨k0, k1, k2, k3, -⟩ := hS.f4
    obtain ⟨y0, y1, y2, y3, -⟩ := hS.drop.f4
    obtain ⟨x0, x1, x2, x3, -⟩ := hS.drop.drop.f4
    have HS := Lib.hid hS.bel
    clear hS HQ
    go_upto_region 8 with fail
    have k0 := cell_regrown k0
    have k1 := cell_regrown k1
    have k2 := cell_regrown k2
    have k3 := cell_regrown k3
    have y0 := cell_regrown y0
    have y1 := cell_regrown y1
    have y2 := cell_regrown y2
    have y3 := cell_regrown y3
    have x0 := cell_regrown x0
    have x1 := cell_regrown x1
    have x2 := cell_regrown x2
    have x3 := cell_regrown x3
    have cF := Lib.hid (fun d os => Calls.regrown_of (w := wc) (d := d) (os := os) (flat_c m0 m1 m2 m3 _))
    have cH := Lib.hid (fun d os => Calls.regrown_of (w := wc) (d := d) (os := os) (has_c _ HM.out B3.out))
    have cL := Lib.hid (fun d os => Calls.regrown_of (w := wc) (d := d) (os := os) (lawMeet_c _ HA.out HB.out E1.out))
    have cA := Lib.hid (fun d os => Calls.regrown_of (w := wc) (d := d) (os := os) (meet_c _ HB.out HA.out E2.out))
    have cB := Lib.hid (fun d os => Calls.regrown_of (w := wc) (d := d) (os := os) (meet_c _ HM.out HA.out E3.out))
    have cV := Lib.hid (fun d os => Calls.regrown_of (w := wc) (d := d) (os := os) (visible_any (k := 0) (z := 0) (n := 0) (s1 := ByteArray.empty) (s2 := ByteArray.empty) _ HA.out HB.out E1.out))
    cases bb
    all_goals
      refine wp_region_quiet_below (by kernel_rfl) (by kernel_rfl) ?_
      repeat (go_big_quiet_step (first | with_reducible exact cF.out _ _ | with_reducible exact cH.out _ _ | with_reducible exact cL.out _ _ | with_reducible exact cA.out _ _ | with_reducible exact cB.out _ _ | exact cV.out _ _))
      refine wpQuiet_nil ?_
      intro _ hw'
      obtain ⟨⟨dq, osq⟩, hw''⟩ := hw'
      subst hw''
      go_wp2_with fail
      go_ret
      exact ⟨rfl, HS.out.trans ((below_regrown wc dq osq).mono HS.out.size)⟩
end Go.Proofs.Ytifgjccnhbbadaa
