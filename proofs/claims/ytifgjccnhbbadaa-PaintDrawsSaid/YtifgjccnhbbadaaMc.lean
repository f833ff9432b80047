/-
  The law's meet, Visible, and the closed calls of awake.
-/
import Derived.Test.YtifgjccnhbbadaaMb
import Derived.Test.YtifgjccnhbbadaaKw
import Derived.Deep.RegionLaw
set_option linter.unusedVariables false
set_option linter.unusedSimpArgs false
namespace Go.Proofs.Ytifgjccnhbbadaa
open Go.RowKit Go.K

theorem Bd.mono {m n : Int} {a : R4} (h : Bd m a) (hmn : m ≤ n) : Bd n a := by
  obtain ⟨p0, p1, p2, p3, p4, p5, p6, p7⟩ := h
  exact ⟨by omega, by omega, by omega, by omega, by omega, by omega, by omega, by omega⟩
theorem bd_meetR {a b : R4} (ha : Bd 1000000 a) (hb : Bd 1000000 b) : Bd 10000000 (meetR a b) := by
  obtain ⟨p0, p1, p2, p3, p4, p5, p6, p7⟩ := ha
  obtain ⟨q0, q1, q2, q3, q4, q5, q6, q7⟩ := hb
  unfold meetR
  split
  · simp [Bd, R4.zero]
  · split
    · simp [Bd, R4.zero]
    · exact ⟨by simp only; omega, by simp only; omega, by simp only; omega, by simp only; omega, by simp only; omega, by simp only; omega, by simp only; omega, by simp only; omega⟩

abbrev r4 (a0 a1 a2 a3 : Int) : Value := .agg #[.int .i64 a0, .int .i64 a1, .int .i64 a2, .int .i64 a3]
theorem flat_c (a0 a1 a2 a3 : Int) (w : World) : Calls Try.prog 12 #[r4 a0 a1 a2 a3] w fun e w' => e = .returned (r4 a0 a1 a2 a3) ∧ Below w.heap.size w w' := flat_any ⟨a0, a1, a2, a3⟩ w
theorem rect_c (a0 a1 a2 a3 : Int) (w : World) : Calls Try.prog 26 #[r4 a0 a1 a2 a3] w fun e w' => e = .returned (r4 a0 a1 a2 a3) ∧ Below w.heap.size w w' := rect_any ⟨a0, a1, a2, a3⟩ w
theorem refMeet_c {a0 a1 a2 a3 b0 b1 b2 b3 r0 r1 r2 r3 : Int} (w : World) (ha : Bd 1000000000 ⟨a0, a1, a2, a3⟩) (hb : Bd 1000000000 ⟨b0, b1, b2, b3⟩) (hr : meetC ⟨a0, a1, a2, a3⟩ ⟨b0, b1, b2, b3⟩ = ⟨r0, r1, r2, r3⟩) :
    Calls Try.prog 19 #[r4 a0 a1 a2 a3, r4 b0 b1 b2 b3] w fun e w' => e = .returned (r4 r0 r1 r2 r3) ∧ Below w.heap.size w w' := by
  have := refMeet_any ⟨a0, a1, a2, a3⟩ ⟨b0, b1, b2, b3⟩ w ha hb
  rw [hr] at this
  exact this
theorem meet_c {a0 a1 a2 a3 b0 b1 b2 b3 r0 r1 r2 r3 : Int} (w : World) (ha : Bd 1000000000 ⟨a0, a1, a2, a3⟩) (hb : Bd 1000000000 ⟨b0, b1, b2, b3⟩) (hr : meetR ⟨a0, a1, a2, a3⟩ ⟨b0, b1, b2, b3⟩ = ⟨r0, r1, r2, r3⟩) :
    Calls Try.prog 10 #[r4 a0 a1 a2 a3, r4 b0 b1 b2 b3] w fun e w' => e = .returned (r4 r0 r1 r2 r3) ∧ Below w.heap.size w w' := by
  have := meet_any ⟨a0, a1, a2, a3⟩ ⟨b0, b1, b2, b3⟩ w ha hb
  rw [hr] at this
  exact this

abbrev i4 (a0 a1 a2 a3 : Int) : Array Value := #[.int .i64 a0, .int .i64 a1, .int .i64 a2, .int .i64 a3]
theorem _root_.Go.K.St.c4 {w0 w : World} {L : List As} {b t : Nat} {a0 a1 a2 a3 : Int} (h : St w0 w (As.cells b (i4 a0 a1 a2 a3) t :: L)) :
    w.cell? ⟨b, 0, none⟩ = some (.int .i64 a0) ∧ w.cell? ⟨b, 1, none⟩ = some (.int .i64 a1) ∧ w.cell? ⟨b, 2, none⟩ = some (.int .i64 a2) ∧ w.cell? ⟨b, 3, none⟩ = some (.int .i64 a3) ∧
      w.frozen? ⟨b, 0, none⟩ = false ∧ w.frozen? ⟨b, 1, none⟩ = false ∧ w.frozen? ⟨b, 2, none⟩ = false ∧ w.frozen? ⟨b, 3, none⟩ = false ∧ b < w.heap.size ∧ w0.heap.size ≤ b :=
  ⟨h.cell 0, h.cell 1, h.cell 2, h.cell 3, h.free 0, h.free 1, h.free 2, h.free 3, h.blk.1.lt, h.blk.2⟩

theorem _root_.Go.K.St.c4set {w0 w : World} {L : List As} {b t : Nat} {a0 a1 a2 a3 : Int} (h : St w0 w (As.cells b (i4 a0 a1 a2 a3) t :: L)) (r0 r1 r2 r3 : Int) :
    ∃ w', ((((w.setCell ⟨b, 0, none⟩ (.int .i64 r0)).setCell ⟨b, 1, none⟩ (.int .i64 r1)).setCell ⟨b, 2, none⟩ (.int .i64 r2)).setCell ⟨b, 3, none⟩ (.int .i64 r3)) = w' ∧ St w0 w' (As.cells b (i4 r0 r1 r2 r3) t :: L) := by
  have := (((h.set 0 (.int .i64 r0)).set 1 (.int .i64 r1)).set 2 (.int .i64 r2)).set 3 (.int .i64 r3)
  exact ⟨_, rfl, by simpa using this⟩

set_option maxHeartbeats 2000000 in
theorem lawMeet_any (a b : R4) (w : World) (ha : Bd 1000000000 a) (hb : Bd 1000000000 b) :
    Calls Try.prog 13 #[rv a, rv b] w fun e w' => e = .returned (rv (meetR a b)) ∧ Below w.heap.size w w' := by
  have hres := Lib.hid (meet_same a b)
  obtain ⟨r, hr⟩ : ∃ r, meetC a b = r := ⟨_, rfl⟩
  have HR := Lib.hid hr
  have HA := Lib.hid ha
  have HB := Lib.hid hb
  obtain ⟨a0, a1, a2, a3⟩ := a
  obtain ⟨b0, b1, b2, b3⟩ := b
  obtain ⟨r0, r1, r2, r3⟩ := r
  rw [← hres.out, hr]
  clear hr hres ha hb
  go_enter Try.func13, Try.ntmps13
  go_upto_region 1 with fail
  have H := Lib.hid (St.perm (List.reverse_perm _).symm ((((St.start w (Below.refl _ w)).new (i4 a0 a1 a2 a3) 31).new (i4 b0 b1 b2 b3) 31).new (i4 0 0 0 0) 31))
  simp only [List.reverse_cons, List.reverse_nil, List.nil_append, List.cons_append, World.size_alloc] at H
  obtain ⟨W, hW⟩ : ∃ W, ((w.alloc (.cells (i4 a0 a1 a2 a3) 31)).alloc (.cells (i4 b0 b1 b2 b3) 31)).alloc (.cells (i4 0 0 0 0) 31) = W := ⟨_, rfl⟩
  rw [hW] at H ⊢
  clear hW
  obtain ⟨k0, k1, k2, k3, -⟩ := H.out.c4
  obtain ⟨l0, l1, l2, l3, -⟩ := H.out.drop.c4
  obtain ⟨m0, m1, m2, m3, n0, n1, n2, n3, lt, ge⟩ := H.out.drop.drop.c4
  go_region_with (first
    | (go_at_call 12; refine (flat_c _ _ _ _ _).mono ?_; rintro e w1 ⟨rfl, hb1⟩; have H := Lib.hid (H.out.of_below ⟨hb1.os, hb1.tape, hb1.output, hb1.size, hb1.block⟩); obtain ⟨k0, k1, k2, k3, -⟩ := H.out.c4; obtain ⟨l0, l1, l2, l3, -⟩ := H.out.drop.c4; obtain ⟨m0, m1, m2, m3, n0, n1, n2, n3, lt, ge⟩ := H.out.drop.drop.c4)
    | (go_at_call 19; refine (refMeet_c _ HA.out HB.out HR.out).mono ?_; rintro e w3 ⟨rfl, hb3⟩; have H := Lib.hid (H.out.of_below ⟨hb3.os, hb3.tape, hb3.output, hb3.size, hb3.block⟩); obtain ⟨k0, k1, k2, k3, -⟩ := H.out.c4; obtain ⟨l0, l1, l2, l3, -⟩ := H.out.drop.c4; obtain ⟨m0, m1, m2, m3, n0, n1, n2, n3, lt, ge⟩ := H.out.drop.drop.c4)
    | (go_at_call 26; refine (rect_c _ _ _ _ _).mono ?_; rintro e w4 ⟨rfl, hb4⟩; have H := Lib.hid (H.out.of_below ⟨hb4.os, hb4.tape, hb4.output, hb4.size, hb4.block⟩); obtain ⟨k0, k1, k2, k3, -⟩ := H.out.c4; obtain ⟨l0, l1, l2, l3, -⟩ := H.out.drop.c4; obtain ⟨m0, m1, m2, m3, n0, n1, n2, n3, lt, ge⟩ := H.out.drop.drop.c4))
  all_goals
    go_wp2_with fail
    obtain ⟨w9, e9, H9⟩ := H.out.drop.drop.c4set r0 r1 r2 r3
    simp only [e9]
    obtain ⟨z0, z1, z2, z3, -⟩ := H9.c4
    refine bodyPost_ret (v := r4 r0 r1 r2 r3) (by simp [results, Try.results13, go_sem, z0, z1, z2, z3]) rfl ⟨rfl, H9.bel⟩
end Go.Proofs.Ytifgjccnhbbadaa
