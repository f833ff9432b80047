/-
  Visible, and the closed calls of awake.
-/
import Derived.Test.YtifgjccnhbbadaaMc
set_option linter.unusedVariables false
set_option linter.unusedSimpArgs false
namespace Go.Proofs.Ytifgjccnhbbadaa
open Go.RowKit Go.K
theorem bel_cell {w w' : World} {p : Addr} {v : Value} (h : Below w.heap.size w w') (hc : w.cell? p = some v) : w'.cell? p = some v := (h.cell (World.block_lt_of_cell? _ _ hc)).trans hc

set_option maxHeartbeats 2000000 in
theorem visible_any {a0 a1 a2 a3 b0 b1 b2 b3 r0 r1 r2 r3 k z n : Int} {s1 s2 : ByteArray} (w : World) (ha : Bd 1000000000 ⟨a0, a1, a2, a3⟩) (hb : Bd 1000000000 ⟨b0, b1, b2, b3⟩) (hr : meetR ⟨a0, a1, a2, a3⟩ ⟨b0, b1, b2, b3⟩ = ⟨r0, r1, r2, r3⟩) :
    Calls Try.prog 14 #[.agg #[.int .i64 k, .int .i64 a0, .int .i64 a1, .int .i64 a2, .int .i64 a3, .int .i64 b0, .int .i64 b1, .int .i64 b2, .int .i64 b3, .string s1, .string s2, .int .i64 z, .int .i64 n]] w fun e w' => e = .returned (r4 r0 r1 r2 r3) ∧ Below w.heap.size w w' := by
  have HA := Lib.hid ha
  have HB := Lib.hid hb
  have HR := Lib.hid hr
  clear ha hb hr
  have H := Lib.hid (((St.start w (Below.refl _ w)).new #[.int .i64 k, .int .i64 a0, .int .i64 a1, .int .i64 a2, .int .i64 a3, .int .i64 b0, .int .i64 b1, .int .i64 b2, .int .i64 b3, .string s1, .string s2, .int .i64 z, .int .i64 n] 33).new (i4 0 0 0 0) 31)
  simp only [World.size_alloc] at H
  go_enter Try.func14, Try.ntmps14
  go_wp2_with (go_at_call 10; refine (meet_c _ HA.out HB.out HR.out).mono ?_; rintro e w3 ⟨rfl, hb3⟩; have H := Lib.hid (H.out.of_below ⟨hb3.os, hb3.tape, hb3.output, hb3.size, hb3.block⟩); obtain ⟨m0, m1, m2, m3, n0, n1, n2, n3, lt, ge⟩ := H.out.c4)
  obtain ⟨w9, e9, H9⟩ := H.out.c4set r0 r1 r2 r3
  simp only [e9]
  obtain ⟨z0, z1, z2, z3, -⟩ := H9.c4
  refine bodyPost_ret (v := r4 r0 r1 r2 r3) (by simp [results, Try.results14, go_sem, z0, z1, z2, z3]) rfl ⟨rfl, H9.bel⟩

set_option maxHeartbeats 2000000 in
theorem parts8 (w : World) : Calls Try.prog 15 #[.int .i64 8, .int .i64 8] w fun e w' => e = .returned (.int .i64 1) ∧ Below w.heap.size w w' := by
  go_enter Try.func15, Try.ntmps15
  go_wp2_with fail
  go_ret
  exact ⟨rfl, Below.refl _ _⟩
set_option maxHeartbeats 2000000 in
theorem parts16 (w : World) : Calls Try.prog 15 #[.int .i64 16, .int .i64 16] w fun e w' => e = .returned (.int .i64 1) ∧ Below w.heap.size w w' := by
  go_enter Try.func15, Try.ntmps15
  go_wp2_with fail
  go_ret
  exact ⟨rfl, Below.refl _ _⟩
set_option maxHeartbeats 2000000 in
theorem mul64 (w : World) : Calls Try.prog 36 #[.int .u64 1, .int .u64 1] w fun e w' => e = .returned (.tuple #[.int .u64 0, .int .u64 1]) ∧ Below w.heap.size w w' := by
  go_enter Try.func36, Try.ntmps36
  go_wp2_with fail
  refine bodyPost_ret (v := .tuple #[.int .u64 0, .int .u64 1]) (by simp [results, Try.results36, go_sem] <;> kernel_rfl) rfl ⟨rfl, Below.refl _ _⟩
set_option maxHeartbeats 2000000 in
theorem mul (w : World) : Calls Try.prog 27 #[.int .u64 1, .int .u64 1] w fun e w' => e = .returned (.tuple #[.int .u64 0, .int .u64 1]) ∧ Below w.heap.size w w' := by
  go_enter Try.func27, Try.ntmps27
  go_wp2_with (go_at_call 36; refine (mul64 _).mono ?_; rintro e w3 ⟨rfl, hb3⟩)
  refine bodyPost_ret (v := .tuple #[.int .u64 0, .int .u64 1]) (by simp [results, Try.results27, go_sem]) rfl ⟨rfl, hb3⟩
theorem infoRune : (Try.prog.info? 21).map (fun i => (i.zero, i.size, i.bytes)) = some (some (.int .i32 0), 1, 4) := by kernel_rfl
theorem elRune : El Try.prog 55 21 1 4 := by
  obtain ⟨i, hi, h1, h2, h3⟩ := info_parts infoRune
  exact ⟨by kernel_rfl, ⟨i, _, hi, h1, h2, h3, rfl⟩, by decide⟩
theorem mk1 (w : World) : (Instr.makeSlice 55 (.int .i64 1) (.int .i64 1)).run Try.prog w = .ok (.slice (some ⟨w.heap.size, 0, none⟩) 1 1) (w.alloc (.cells #[.int .i32 0] 21)) := by
  obtain ⟨i, hi, h1, h2, h3⟩ := info_parts infoRune
  have := run_makeSlice (P := Try.prog) (w := w) 55 21 i (.int .i32 0) (by kernel_rfl) hi h1 .i64 .i64 1 1 (by decide) (by decide) (by rw [h2]; decide) (by rw [h3]; decide) (by decide)
  rw [h2, show madeCells (Value.int .i32 0).cells (Int.toNat 1 * 1) = #[.int .i32 0] by kernel_rfl] at this
  exact this
/-- a block of n elements seen as a row -/
theorem _root_.Go.K.St.to_row {w0 w : World} {L : List As} {b t sz n c : Nat} {cs : Array Value} (h : St w0 w (As.cells b cs t :: L)) (h1 : ∀ u ∈ cs, u.oneCell' = true) (hn : n ≤ c) (hc : c ≤ maxLen) (hsz : cs.size = c * sz) :
    St w0 w (As.row t sz (some ⟨b, 0, none⟩) n c (cs.toList.take (n * sz)) :: L) := by
  have hle : n * sz ≤ c * sz := Nat.mul_le_mul_right _ hn
  refine h.to (fun F q => ⟨fun k => ?_, ⟨by simp; omega, fun u hu => h1 u (by simpa using List.mem_of_mem_take hu), .inr ⟨b, 0, cs, rfl, q.2, hn, hc, by omega, by simp⟩⟩⟩)
  rw [q.1 k]
  exact ⟨fun e => by rw [e]; rfl, fun e => by cases e; rfl⟩
set_option maxHeartbeats 2000000 in
theorem repeat1 {w0 w : World} {L : List As} {s : Option Addr} {c : Nat} (h : St w0 w L) (hs : Rd w 1 s 1 [.int .i32 32]) : Calls Try.prog 16 #[.slice s 1 c, .int .i64 1] w fun e w' => ∃ s' c', e = .returned (.slice s' 1 c') ∧ St w0 w' (As.row 21 1 s' 1 c' [.int .i32 32] :: L) := by
  obtain ⟨g, off, rfl, hc⟩ := hs.addr (by decide)
  have c0 := hc 0 _ rfl
  simp only [Nat.add_zero] at c0
  have H := Lib.hid h
  clear h
  go_enter Try.func16, Try.ntmps16
  go_upto_region 6 with (go_at_call 27; refine (mul _).mono ?_; rintro e w3 ⟨rfl, hb3⟩; have c0 := bel_cell hb3 c0; have H := Lib.hid (H.out.of_below hb3))
  have hmk := mk1
  go_upto_region 7 with fail
  clear hmk
  have H1 := Lib.hid (H.out.new #[.int .i32 0] 21)
  have hcp := Lib.hid (fun ty => run_copy_any (P := Try.prog) (w3.alloc (.cells #[.int .i32 0] 21)) elRune 55 ty w3.heap.size 0 1 1 ⟨g, off, none⟩ 1 c 1 rfl [.int .i32 32] rfl (fun j v hj => by
    have : j = 0 := by have := (List.getElem?_eq_some_iff.1 hj).1; simp at this; omega
    subst this; cases hj
    exact bel_cell ((Below.refl _ _).alloc (Nat.le_refl _) _) c0) (fun j hj => by rw [(H1.out.cell (0 + j))]; simp at hj; subst hj; rfl) (fun j hj => H1.out.free _) (by simp [Value.oneCell']))
  go_wp2_with (refine wpList_copy_eq rfl _ _ 55 55 rfl _ _ _ rfl rfl (hcp.out _) ?_)
  have H2 := Lib.hid ((H1.out.set 0 (.int .i32 32)).to_row (sz := 1) (n := 1) (c := 1) (by simp [Value.oneCell']) (Nat.le_refl _) (by decide) (by simp))
  go_loopg [8] 0 (fun g v wr => g = 0 ∧ v = .int .i64 1 ∧ St w0 wr (As.row 21 1 (some ⟨w3.heap.size, 0, none⟩) 1 1 [.int .i32 32] :: L))
  case atStart => exact ⟨rfl, rfl, by simpa [World.setCells] using H2.out⟩
  case round =>
    obtain ⟨rfl, rfl, h3⟩ := hrel
    go_wp2_with fail
    go_ret
    exact ⟨_, _, rfl, h3⟩
end Go.Proofs.Ytifgjccnhbbadaa
