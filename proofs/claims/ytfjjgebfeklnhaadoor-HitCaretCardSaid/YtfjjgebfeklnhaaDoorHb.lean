/-
  Which points an item covers: the program's function and the chapter's.
-/
import Derived.Test.YtfjjgebfeklnhaaDoorHa
set_option linter.unusedVariables false
set_option linter.unusedSimpArgs false
namespace Go.Proofs.YtfjjgebfeklnhaaDoor
open Go.RowKit Go.K

theorem Bd.mono {m n : Int} {a : R4} (h : Bd m a) (hmn : m ≤ n) : Bd n a := by
  obtain ⟨p0, p1, p2, p3, p4, p5, p6, p7⟩ := h
  exact ⟨by omega, by omega, by omega, by omega, by omega, by omega, by omega, by omega⟩
theorem bd_meetR {a b : R4} (ha : Bd 1000000 a) (hb : Bd 1000000 b) : Bd 10000000 (meetR a b) := by
  obtain ⟨p0, p1, p2, p3, p4, p5, p6, p7⟩ := ha
  obtain ⟨q0, q1, q2, q3, q4, q5, q6, q7⟩ := hb
  unfold meetR
  split
  · simp [Bd, R4.zero]
  · split
    · simp [Bd, R4.zero]
    · exact ⟨by simp only; omega, by simp only; omega, by simp only; omega, by simp only; omega, by simp only; omega, by simp only; omega, by simp only; omega, by simp only; omega⟩

abbrev r4 (a0 a1 a2 a3 : Int) : Value := .agg #[.int .i64 a0, .int .i64 a1, .int .i64 a2, .int .i64 a3]
theorem meet_c {a0 a1 a2 a3 b0 b1 b2 b3 r0 r1 r2 r3 : Int} (w : World) (ha : Bd 1000000000 ⟨a0, a1, a2, a3⟩) (hb : Bd 1000000000 ⟨b0, b1, b2, b3⟩) (hr : meetR ⟨a0, a1, a2, a3⟩ ⟨b0, b1, b2, b3⟩ = ⟨r0, r1, r2, r3⟩) :
    Calls Tryd.prog 33 #[r4 a0 a1 a2 a3, r4 b0 b1 b2 b3] w fun e w' => e = .returned (r4 r0 r1 r2 r3) ∧ Below w.heap.size w w' := by
  have := meet_any ⟨a0, a1, a2, a3⟩ ⟨b0, b1, b2, b3⟩ w ha hb
  rw [hr] at this
  exact this
abbrev i4 (a0 a1 a2 a3 : Int) : Array Value := #[.int .i64 a0, .int .i64 a1, .int .i64 a2, .int .i64 a3]
theorem _root_.Go.K.St.c4 {w0 w : World} {L : List As} {b t : Nat} {a0 a1 a2 a3 : Int} (h : St w0 w (As.cells b (i4 a0 a1 a2 a3) t :: L)) :
    w.cell? ⟨b, 0, none⟩ = some (.int .i64 a0) ∧ w.cell? ⟨b, 1, none⟩ = some (.int .i64 a1) ∧ w.cell? ⟨b, 2, none⟩ = some (.int .i64 a2) ∧ w.cell? ⟨b, 3, none⟩ = some (.int .i64 a3) ∧
      w.frozen? ⟨b, 0, none⟩ = false ∧ w.frozen? ⟨b, 1, none⟩ = false ∧ w.frozen? ⟨b, 2, none⟩ = false ∧ w.frozen? ⟨b, 3, none⟩ = false ∧ b < w.heap.size ∧ w0.heap.size ≤ b :=
  ⟨h.cell 0, h.cell 1, h.cell 2, h.cell 3, h.free 0, h.free 1, h.free 2, h.free 3, h.blk.1.lt, h.blk.2⟩
theorem _root_.Go.K.St.c4set {w0 w : World} {L : List As} {b t : Nat} {a0 a1 a2 a3 : Int} (h : St w0 w (As.cells b (i4 a0 a1 a2 a3) t :: L)) (r0 r1 r2 r3 : Int) :
    ∃ w', ((((w.setCell ⟨b, 0, none⟩ (.int .i64 r0)).setCell ⟨b, 1, none⟩ (.int .i64 r1)).setCell ⟨b, 2, none⟩ (.int .i64 r2)).setCell ⟨b, 3, none⟩ (.int .i64 r3)) = w' ∧ St w0 w' (As.cells b (i4 r0 r1 r2 r3) t :: L) := by
  have := (((h.set 0 (.int .i64 r0)).set 1 (.int .i64 r1)).set 2 (.int .i64 r2)).set 3 (.int .i64 r3)
  exact ⟨_, rfl, by simpa using this⟩

set_option maxHeartbeats 2000000 in
theorem visible_any {a0 a1 a2 a3 b0 b1 b2 b3 r0 r1 r2 r3 k z n : Int} {s1 s2 : ByteArray} (w : World) (ha : Bd 1000000000 ⟨a0, a1, a2, a3⟩) (hb : Bd 1000000000 ⟨b0, b1, b2, b3⟩) (hr : meetR ⟨a0, a1, a2, a3⟩ ⟨b0, b1, b2, b3⟩ = ⟨r0, r1, r2, r3⟩) :
    Calls Tryd.prog 27 #[.agg #[.int .i64 k, .int .i64 a0, .int .i64 a1, .int .i64 a2, .int .i64 a3, .int .i64 b0, .int .i64 b1, .int .i64 b2, .int .i64 b3, .string s1, .string s2, .int .i64 z, .int .i64 n]] w fun e w' => e = .returned (r4 r0 r1 r2 r3) ∧ Below w.heap.size w w' := by
  have HA := Lib.hid ha
  have HB := Lib.hid hb
  have HR := Lib.hid hr
  clear ha hb hr
  have H := Lib.hid (((St.start w (Below.refl _ w)).new #[.int .i64 k, .int .i64 a0, .int .i64 a1, .int .i64 a2, .int .i64 a3, .int .i64 b0, .int .i64 b1, .int .i64 b2, .int .i64 b3, .string s1, .string s2, .int .i64 z, .int .i64 n] 34).new (i4 0 0 0 0) 32)
  simp only [World.size_alloc] at H
  go_enter Tryd.func27, Tryd.ntmps27
  go_wp2_with (go_at_call 33; refine (meet_c _ HA.out HB.out HR.out).mono ?_; rintro e w3 ⟨rfl, hb3⟩; have H := Lib.hid (H.out.of_below ⟨hb3.os, hb3.tape, hb3.output, hb3.size, hb3.block⟩); obtain ⟨m0, m1, m2, m3, n0, n1, n2, n3, lt, ge⟩ := H.out.c4)
  obtain ⟨w9, e9, H9⟩ := H.out.c4set r0 r1 r2 r3
  simp only [e9]
  obtain ⟨z0, z1, z2, z3, -⟩ := H9.c4
  refine bodyPost_ret (v := r4 r0 r1 r2 r3) (by simp [results, Tryd.results27, go_sem, z0, z1, z2, z3]) rfl ⟨rfl, H9.bel⟩

set_option maxHeartbeats 2000000 in
theorem has_any (a : R4) (i j : Int) (w : World) (ha : Bd 1000000000 a) : Calls Tryd.prog 25 #[rv a, .int .i64 i, .int .i64 j] w fun e w' => e = .returned (.bool (hasR a i j)) ∧ Below w.heap.size w w' := by
  obtain ⟨a0, a1, a2, a3⟩ := a
  obtain ⟨p0, p1, p2, p3, p4, p5, p6, p7⟩ := ha
  simp only at *
  obtain ⟨r, hr⟩ : ∃ r, hasR ⟨a0, a1, a2, a3⟩ i j = r := ⟨_, rfl⟩
  have HR := Lib.hid hr
  rw [hr]
  clear hr
  go_enter Tryd.func25, Tryd.ntmps25
  by_cases h0 : a0 ≤ i <;> by_cases h1 : i < a0 + a2 <;> by_cases h2 : a1 ≤ j <;> by_cases h3 : j < a1 + a3
  all_goals
    go_wp2_with fail
  all_goals
    have hr := HR.out
    simp only [hasR, h0, h1, h2, h3, decide_true, decide_false, Bool.and_true, Bool.and_false, Bool.false_and, Bool.true_and] at hr
    refine bodyPost_ret (v := .bool r) (by simp [results, Tryd.results25, go_sem, ← hr, h0, h1, h2, h3]) rfl ⟨rfl, ?_⟩
    exact (Below.refl _ _).alloc (Nat.le_refl _) _
theorem has_c {a0 a1 a2 a3 i j : Int} {r : Bool} (w : World) (ha : Bd 1000000000 ⟨a0, a1, a2, a3⟩) (hr : hasR ⟨a0, a1, a2, a3⟩ i j = r) : Calls Tryd.prog 25 #[r4 a0 a1 a2 a3, .int .i64 i, .int .i64 j] w fun e w' => e = .returned (.bool r) ∧ Below w.heap.size w w' := by
  have := has_any ⟨a0, a1, a2, a3⟩ i j w ha
  rw [hr] at this
  exact this

/-- whether both rectangles have the point -/
def cov (a b : R4) (x y : Int) : Bool := hasR a x y && hasR b x y

set_option maxHeartbeats 2000000 in
theorem covers_c {k a0 a1 a2 a3 b0 b1 b2 b3 z n x y : Int} {s1 s2 : ByteArray} {r : Bool} (w : World) (ha : Bd 1000000 ⟨a0, a1, a2, a3⟩) (hb : Bd 1000000 ⟨b0, b1, b2, b3⟩) (hr : cov ⟨a0, a1, a2, a3⟩ ⟨b0, b1, b2, b3⟩ x y = r) :
    Calls Tryd.prog 18 #[.agg #[.int .i64 k, .int .i64 a0, .int .i64 a1, .int .i64 a2, .int .i64 a3, .int .i64 b0, .int .i64 b1, .int .i64 b2, .int .i64 b3, .string s1, .string s2, .int .i64 z, .int .i64 n], .int .i64 x, .int .i64 y] w fun e w' => e = .returned (.bool r) ∧ Below w.heap.size w w' := by
  have hm := bd_meetR ha hb
  unfold cov at hr
  rw [← has_meet] at hr
  obtain ⟨m, hM⟩ : ∃ m, meetR ⟨a0, a1, a2, a3⟩ ⟨b0, b1, b2, b3⟩ = m := ⟨_, rfl⟩
  rw [hM] at hr hm
  obtain ⟨m0, m1, m2, m3⟩ := m
  obtain ⟨p0, p1, p2, p3, p4, p5, p6, p7⟩ := hm
  simp only at p0 p1 p2 p3 p4 p5 p6 p7
  have HM := Lib.hid hM
  have HR := Lib.hid hr
  have HA := Lib.hid (ha.mono (n := 1000000000) (by omega))
  have HB := Lib.hid (hb.mono (n := 1000000000) (by omega))
  clear hM hr ha hb
  have H0 := Lib.hid ((St.start w (Below.refl _ w)).new #[.int .i64 k, .int .i64 a0, .int .i64 a1, .int .i64 a2, .int .i64 a3, .int .i64 b0, .int .i64 b1, .int .i64 b2, .int .i64 b3, .string s1, .string s2, .int .i64 z, .int .i64 n] 34)
  go_enter Tryd.func18, Tryd.ntmps18
  go_upto_region 2 with (go_at_call 27; refine (visible_any _ HA.out HB.out HM.out).mono ?_; rintro e w3 ⟨rfl, hb3⟩; have H1 := Lib.hid (H0.out.of_below ⟨hb3.os, hb3.tape, hb3.output, hb3.size, hb3.block⟩))
  have H9 := H1.out.new (i4 m0 m1 m2 m3) 32
  obtain ⟨w9, e9⟩ : ∃ w9, w3.alloc (.cells (i4 m0 m1 m2 m3) 32) = w9 := ⟨_, rfl⟩
  rw [e9] at H9 ⊢
  obtain ⟨z0, z1, z2, z3, -⟩ := H9.c4
  have hbel := Lib.hid H9.bel
  clear e9 H9 H1 H0
  by_cases h0 : m0 ≤ x <;> by_cases h1 : x < m0 + m2 <;> by_cases h2 : m1 ≤ y <;> by_cases h3 : y < m1 + m3
  all_goals
    go_wp2_with fail
  all_goals
    have hr := HR.out
    simp only [hasR, h0, h1, h2, h3, decide_true, decide_false, Bool.and_true, Bool.and_false, Bool.false_and, Bool.true_and] at hr
    refine bodyPost_ret (v := .bool r) (by simp [results, Tryd.results18, go_sem, ← hr, h0, h1, h2, h3]) rfl ⟨rfl, hbel.out⟩

set_option maxHeartbeats 2000000 in
theorem refcovers_c {k a0 a1 a2 a3 b0 b1 b2 b3 z n x y : Int} {s1 s2 : ByteArray} {r : Bool} (w : World) (ha : Bd 1000000 ⟨a0, a1, a2, a3⟩) (hb : Bd 1000000 ⟨b0, b1, b2, b3⟩) (hr : cov ⟨a0, a1, a2, a3⟩ ⟨b0, b1, b2, b3⟩ x y = r) :
    Calls Tryd.prog 16 #[.agg #[.int .i64 k, .int .i64 a0, .int .i64 a1, .int .i64 a2, .int .i64 a3, .int .i64 b0, .int .i64 b1, .int .i64 b2, .int .i64 b3, .string s1, .string s2, .int .i64 z, .int .i64 n], .int .i64 x, .int .i64 y] w fun e w' => e = .returned (.bool r) ∧ Below w.heap.size w w' := by
  unfold cov at hr
  obtain ⟨r1, hr1⟩ : ∃ r1, hasR ⟨a0, a1, a2, a3⟩ x y = r1 := ⟨_, rfl⟩
  obtain ⟨r2, hr2⟩ : ∃ r2, hasR ⟨b0, b1, b2, b3⟩ x y = r2 := ⟨_, rfl⟩
  have hp : r1 = true → 0 < a2 ∧ 0 < a3 := by
    rintro rfl; have := (has_iff _ _ _).1 hr1; simp only at this; omega
  have hq : r2 = true → 0 < b2 ∧ 0 < b3 := by
    rintro rfl; have := (has_iff _ _ _).1 hr2; simp only at this; omega
  rw [hr1, hr2] at hr
  have HR1 := Lib.hid hr1
  have HR2 := Lib.hid hr2
  have HR := Lib.hid hr
  have HA := Lib.hid (ha.mono (n := 1000000000) (by omega))
  have HB := Lib.hid (hb.mono (n := 1000000000) (by omega))
  clear hr1 hr2 hr ha hb
  have H0 := Lib.hid ((St.start w (Below.refl _ w)).new #[.int .i64 k, .int .i64 a0, .int .i64 a1, .int .i64 a2, .int .i64 a3, .int .i64 b0, .int .i64 b1, .int .i64 b2, .int .i64 b3, .string s1, .string s2, .int .i64 z, .int .i64 n] 34)
  go_enter Tryd.func16, Tryd.ntmps16
  go_upto_region 1 with fail
  obtain ⟨W, hW⟩ : ∃ W, w.alloc (.cells #[.int .i64 k, .int .i64 a0, .int .i64 a1, .int .i64 a2, .int .i64 a3, .int .i64 b0, .int .i64 b1, .int .i64 b2, .int .i64 b3, .string s1, .string s2, .int .i64 z, .int .i64 n] 34) = W := ⟨_, rfl⟩
  rw [hW] at H0 ⊢
  clear hW
  have cell := fun (i : Nat) => H0.out.cell i
  obtain ⟨c1, c2, c3, c4, c5, c6, c7, c8⟩ := And.intro (cell 1) (And.intro (cell 2) (And.intro (cell 3) (And.intro (cell 4) (And.intro (cell 5) (And.intro (cell 6) (And.intro (cell 7) (cell 8)))))))
  clear cell
  simp at c1 c2 c3 c4 c5 c6 c7 c8
  have hs := H0.out.blk.1.lt
  cases r1 with
  | false =>
    go_wp2_with (go_at_call 25; refine (has_c (r := false) _ HA.out HR1.out).mono ?_; rintro e w3 ⟨rfl, hb3⟩; have H0 := Lib.hid (H0.out.of_below ⟨hb3.os, hb3.tape, hb3.output, hb3.size, hb3.block⟩))
    have hr := HR.out
    simp at hr
    refine bodyPost_ret (v := .bool r) (by simp [results, Tryd.results16, go_sem, ← hr]) rfl ⟨rfl, H0.out.bel⟩
  | true =>
    obtain ⟨hp1, hp2⟩ := hp rfl
    cases r2 with
    | false =>
      go_wp2_with (first
        | (go_at_call 25; refine (has_c (r := true) _ HA.out HR1.out).mono ?_; rintro e w3 ⟨rfl, hb3⟩; clear HR1; have H1 := Lib.hid (H0.out.of_below ⟨hb3.os, hb3.tape, hb3.output, hb3.size, hb3.block⟩); clear H0; have cell := fun (i : Nat) => H1.out.cell i; obtain ⟨c1, c2, c3, c4, c5, c6, c7, c8⟩ := And.intro (cell 1) (And.intro (cell 2) (And.intro (cell 3) (And.intro (cell 4) (And.intro (cell 5) (And.intro (cell 6) (And.intro (cell 7) (cell 8))))))); clear cell; simp at c1 c2 c3 c4 c5 c6 c7 c8)
        | (go_at_call 25; refine (has_c (r := false) _ HB.out HR2.out).mono ?_; rintro e w4 ⟨rfl, hb4⟩; clear HR2; have H2 := Lib.hid (H1.out.of_below ⟨hb4.os, hb4.tape, hb4.output, hb4.size, hb4.block⟩); clear H1))
      have hr := HR.out
      simp at hr
      refine bodyPost_ret (v := .bool r) (by simp [results, Tryd.results16, go_sem, ← hr]) rfl ⟨rfl, H2.out.bel⟩
    | true =>
      obtain ⟨hq1, hq2⟩ := hq rfl
      go_wp2_with (first
        | (go_at_call 25; refine (has_c (r := true) _ HA.out HR1.out).mono ?_; rintro e w3 ⟨rfl, hb3⟩; clear HR1; have H1 := Lib.hid (H0.out.of_below ⟨hb3.os, hb3.tape, hb3.output, hb3.size, hb3.block⟩); clear H0; have cell := fun (i : Nat) => H1.out.cell i; obtain ⟨c1, c2, c3, c4, c5, c6, c7, c8⟩ := And.intro (cell 1) (And.intro (cell 2) (And.intro (cell 3) (And.intro (cell 4) (And.intro (cell 5) (And.intro (cell 6) (And.intro (cell 7) (cell 8))))))); clear cell; simp at c1 c2 c3 c4 c5 c6 c7 c8)
        | (go_at_call 25; refine (has_c (r := true) _ HB.out HR2.out).mono ?_; rintro e w4 ⟨rfl, hb4⟩; clear HR2; have H2 := Lib.hid (H1.out.of_below ⟨hb4.os, hb4.tape, hb4.output, hb4.size, hb4.block⟩); clear H1; have cell := fun (i : Nat) => H2.out.cell i; obtain ⟨c1, c2, c3, c4, c5, c6, c7, c8⟩ := And.intro (cell 1) (And.intro (cell 2) (And.intro (cell 3) (And.intro (cell 4) (And.intro (cell 5) (And.intro (cell 6) (And.intro (cell 7) (cell 8))))))); clear cell; simp at c1 c2 c3 c4 c5 c6 c7 c8))
      have hr := HR.out
      simp at hr
      refine bodyPost_ret (v := .bool r) (by simp [results, Tryd.results16, go_sem, ← hr]) rfl ⟨rfl, H2.out.bel⟩
end Go.Proofs.YtfjjgebfeklnhaaDoor
