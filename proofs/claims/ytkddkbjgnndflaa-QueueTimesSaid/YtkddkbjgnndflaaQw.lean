/-
  The comparison of a set of timers with the chapter's.
-/
import Derived.Test.YtkddkbjgnndflaaQv
set_option linter.unusedVariables false
set_option linter.unusedSimpArgs false
namespace Go.Proofs.Ytkddkbjgnndflaa
open Go.RowKit Go.K

def SameRel (n : Nat) (W : World) (g : Nat) (v : Value) (wr : World) : Prop := ∃ j d : Nat, g = n - j ∧ j ≤ n ∧ v = .int .i64 j ∧ wr = W.drewN d

set_option maxRecDepth 100000 in
set_option maxHeartbeats 2000000 in
theorem same_any {w0 w : World} {L : List As} {b : Nat} {ts M : List Tm} {nx : Int} {s : Option Addr} {n c : Nat} (h : St w0 w (tObj b ts nx :: L)) (hr : Rc w 3 s n c (tcells M)) (hl : M.length = n) (hb : Both M ts nx) (hn : n ≤ 100000) :
    Calls Try.prog 34 #[.pointer (some ⟨b, 0, none⟩), MV s n c nx] w fun e w' => e = .returned (.bool true) ∧ Below w.heap.size w w' := by
  have b0 : Below w.heap.size w (w.alloc (.cells #[.slice s n c, .int .i64 nx] 67)) := (Below.refl _ _).alloc (Nat.le_refl _) _
  have HS := Lib.hid (rsort_any s n c M ts nx _ (hr.below b0) hl hn hb.same)
  have K0 := Lib.hid (Blk.new w #[.slice s n c, .int .i64 nx] 67)
  have B0 := Lib.hid b0
  have H := Lib.hid (h.of_below b0)
  have htl : ts.length ≤ 100000 := by have := hb.len; omega
  clear h hr hb b0 hl
  go_enter Try.func34, Try.ntmps34
  go_wp2_with fail
  refine HS.out.mono ?_
  rintro e w1 ⟨s1, c1, rfl, hr1, hb1⟩
  have H1 := Lib.hid (H.out.of_below hb1)
  have k0 := K0.out.kept (Fr.of_below hb1) (fun q => q)
  obtain ⟨c0, d0, -, -⟩ := k0.two
  obtain ⟨st, ct, ht⟩ := t_open H1.out
  obtain ⟨c2, d2, -, -⟩ := ht.two
  have HT := Lib.hid ht.swap.sl
  have R1 := Lib.hid hr1
  have hbel := Lib.hid (B0.out.trans (hb1.mono B0.out.size))
  clear hb1 hr1 k0 ht
  go_wp2_with fail
  go_quiet ((go_at_call 25; exact Calls.quiet_of_same ((tlen_st (H1.out.drewN _)).mono (fun _ _ h => ⟨h.1, h.2.symm⟩))))
  go_wp2_with fail
  go_loopg [35] ts.length (SameRel ts.length w1)
  case atStart => exact ⟨0, nq, rfl, Nat.zero_le _, rfl, rfl⟩
  case round =>
    obtain ⟨j, d, hg, hj, rfl, rfl⟩ := hrel
    have Hg := Lib.hid hg
    clear hg
    by_cases hjn : j < ts.length
    · obtain ⟨g, off, rfl, hcell, -, -⟩ := HT.out.some_of (Nat.lt_of_lt_of_le (by omega) HT.out.le)
      obtain ⟨g1, o1, rfl, hcell1⟩ := R1.out.rd.addr (by omega)
      obtain ⟨e0, e1, e2⟩ := tcells_at ts j hjn
      have p0 := hcell (j * 3) (by omega)
      have p1 := hcell (j * 3 + 1) (by omega)
      have p2 := hcell (j * 3 + 2) (by omega)
      have q0 := hcell1 _ _ e0
      have q1 := hcell1 _ _ e1
      have q2 := hcell1 _ _ e2
      rw [e0] at p0
      rw [e1, ← Nat.add_assoc] at p1
      rw [e2, ← Nat.add_assoc, show off + j * 3 + 2 = off + j * 3 + 1 + 1 by omega] at p2
      rw [← Nat.add_assoc] at q1
      rw [← Nat.add_assoc, show o1 + j * 3 + 2 = o1 + j * 3 + 1 + 1 by omega] at q2
      obtain ⟨t1, t2, t3⟩ := ts[j]
      try simp only at p0 p1 p2 q0 q1 q2
      have hjn' : (j : Int) < (ts.length : Int) := by omega
      clear hcell hcell1 e0 e1 e2
      go_wp2_with fail
      go_quiet (fail)
      go_wp2_with fail
      go_roundg (ts.length - (j + 1))
      case measure => have := Hg.out; omega
      case rel => exact ⟨j + 1, _, rfl, by omega, by simp, rfl⟩
    · go_wp2_with fail
      go_ret
      exact ⟨rfl, bel_drewN hbel.out d⟩
end Go.Proofs.Ytkddkbjgnndflaa
