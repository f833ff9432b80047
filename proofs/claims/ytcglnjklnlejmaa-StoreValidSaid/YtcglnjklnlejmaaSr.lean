/-
  SameStore: two stores that read alike are the same.
-/
import Derived.Test.YtcglnjklnlejmaaSl
set_option linter.unusedVariables false
set_option linter.unusedSimpArgs false
namespace Go.Proofs.Ytcglnjklnlejmaa
open Go.RowKit Go.K Go.K.Sr

/-- a value that reads as a store -/
structure Re (w : World) (v : Value) (S : SS) (sp : Option Addr) (cp : Nat) (st : Option Addr) (ct : Nat) (sc : Option Addr) (cc : Nat) : Prop where
  eq : v = .agg #[.slice sp S.pairs.length cp, .slice st S.txs.length ct, .int .i64 S.nx]
  ps : Rd w 2 sp S.pairs.length (flat pcells S.pairs)
  ts : Rd w 4 st S.txs.length (flat ycells (yz (.slice sc S.cs.length cc) S.txs))
  cs : Rd w 3 sc S.cs.length (flat ccells S.cs)
theorem Re.below {w w' : World} {v : Value} {S : SS} {sp st sc : Option Addr} {cp ct cc : Nat} (h : Re w v S sp cp st ct sc cc) (hb : Below w.heap.size w w') : Re w' v S sp cp st ct sc cc :=
  ⟨h.eq, h.ps.below hb, h.ts.below hb, h.cs.below hb⟩
/-- the changes of a row -/
theorem Re.row {w : World} {v : Value} {S : SS} {sp st sc : Option Addr} {cp ct cc : Nat} (h : Re w v S sp cp st ct sc cc) (k : Nat) :
    ∃ s c, (if k = 0 then Value.slice sc S.cs.length cc else nilS) = .slice s (chs S k).length c ∧ Rd w 3 s (chs S k).length (flat ccells (chs S k)) := by
  unfold chs
  by_cases hk : k = 0
  · simp only [hk, if_true]
    exact ⟨sc, cc, rfl, h.cs⟩
  · simp only [hk, if_false]
    exact ⟨none, 0, rfl, ⟨by simp [flat], by simp [flat], fun _ => by simp [flat], by simp⟩⟩
def CRel (n : Nat) (w : World) (g : Nat) (v : Value) (wr : World) : Prop := ∃ k : Nat, g = n - k ∧ k ≤ n ∧ v = .int .i64 k ∧ Below w.heap.size w wr

set_option maxRecDepth 100000 in
set_option maxHeartbeats 2000000 in
theorem same_any (S : SS) (va vb : Value) (w : World) {sp st sc sp' st' sc' : Option Addr} {cp ct cc cp' ct' cc' : Nat} (ha : Re w va S sp cp st ct sc cc) (hb : Re w vb S sp' cp' st' ct' sc' cc')
    (hn : S.pairs.length ≤ 100000) (ht : S.txs.length ≤ 100000) (hc : S.cs.length ≤ 100000) :
    Calls Try.prog 23 #[va, vb] w fun e w' => e = .returned (.bool true) ∧ Below w.heap.size w w' := by
  have HA := Lib.hid ha
  have HB := Lib.hid hb
  rw [ha.eq, hb.eq]
  clear ha hb
  go_enter Try.func23, Try.ntmps23
  go_upto_region 3 with fail
  obtain ⟨W, hW⟩ : ∃ W, (w.alloc (.cells #[.slice sp S.pairs.length cp, .slice st S.txs.length ct, .int .i64 S.nx] 43)).alloc (.cells #[.slice sp' S.pairs.length cp', .slice st' S.txs.length ct', .int .i64 S.nx] 43) = W := ⟨_, rfl⟩
  obtain ⟨b, hbz⟩ : ∃ b, w.heap.size = b := ⟨_, rfl⟩
  have HW := Lib.hid (show Below w.heap.size w W by rw [← hW]; exact ((Below.refl _ w).alloc (Nat.le_refl _) _).alloc (by simp) _)
  have KA := ((Blk.new w #[.slice sp S.pairs.length cp, .slice st S.txs.length ct, .int .i64 S.nx] 43).alloc (.cells #[.slice sp' S.pairs.length cp', .slice st' S.txs.length ct', .int .i64 S.nx] 43))
  have KB := blk_new (w.alloc (.cells #[.slice sp S.pairs.length cp, .slice st S.txs.length ct, .int .i64 S.nx] 43)) #[.slice sp' S.pairs.length cp', .slice st' S.txs.length ct', .int .i64 S.nx] 43 (b + 1) (by simp [hbz])
  rw [hW, hbz] at KA
  rw [hW] at KB
  try simp only [World.size_alloc] 
  try simp only [hW, hbz]
  have HBZ := Lib.hid hbz
  clear hW hbz
  have HA2 := Lib.hid (HA.out.below HW.out)
  have HB2 := Lib.hid (HB.out.below HW.out)
  have HKA := Lib.hid KA
  have HKB := Lib.hid KB
  clear KA KB HA HB
  go_wp2_with fail
  go_loopg [5] S.pairs.length (CRel S.pairs.length W)
  case atStart => exact ⟨0, rfl, Nat.zero_le _, rfl, Below.refl _ _⟩
  case round =>
    obtain ⟨k, hg, hk, rfl, hb⟩ := hrel
    have Hg := Lib.hid hg
    have HB := Lib.hid hb
    clear hg hb
    obtain ⟨a0, a1, a2, -⟩ := (HKA.out.kept (Fr.of_below HB.out) (fun q => q)).three
    obtain ⟨b0, b1, b2, -⟩ := (HKB.out.kept (Fr.of_below HB.out) (fun q => q)).three
    by_cases hkn : k < S.pairs.length
    · have hkI : (k : Int) < (S.pairs.length : Int) := by omega
      have hk0 : (0 : Int) ≤ (k : Int) := by omega
      have r1 := HA2.out.ps.below HB.out
      have r2 := HB2.out.ps.below HB.out
      obtain ⟨g1, o1, rfl, -⟩ := r1.addr (by omega)
      obtain ⟨g2, o2, rfl, -⟩ := r2.addr (by omega)
      obtain ⟨x, hx⟩ : ∃ x, S.pairs[k] = x := ⟨_, rfl⟩
      obtain ⟨x0, x1⟩ := p_at r1 hkn x hx
      obtain ⟨y0, y1⟩ := p_at r2 hkn x hx
      clear r1 r2 hx
      have hw1 : IntKind.i64.wrap ((k : Int) + 1) = (k : Int) + 1 := by rw [IntKind.wrap_i64]; omega
      go_wp2_with go_quiet (fail)
      go_roundg (S.pairs.length - (k + 1))
      case measure => have := Hg.out; omega
      case rel => exact ⟨k + 1, rfl, by omega, by simp, ⟨HB.out.os, HB.out.tape, HB.out.output, HB.out.size, HB.out.block⟩⟩
    · obtain rfl : k = S.pairs.length := by omega
      go_wp2_with fail
      go_loopg [6] S.txs.length (CRel S.txs.length W)
      case atStart => exact ⟨0, rfl, Nat.zero_le _, rfl, HB.out⟩
      case round =>
        clear a0 a1 a2 b0 b1 b2 HB Hg
        obtain ⟨k, hg, hk, rfl, hb⟩ := hrel
        have Hg := Lib.hid hg
        have HB := Lib.hid hb
        clear hg hb
        obtain ⟨a0, a1, a2, -⟩ := (HKA.out.kept (Fr.of_below HB.out) (fun q => q)).three
        obtain ⟨b0, b1, b2, -⟩ := (HKB.out.kept (Fr.of_below HB.out) (fun q => q)).three
        by_cases hkn : k < S.txs.length
        · have hkI : (k : Int) < (S.txs.length : Int) := by omega
          have hk0 : (0 : Int) ≤ (k : Int) := by omega
          have R1 := Lib.hid (HA2.out.below HB.out)
          have R2 := Lib.hid (HB2.out.below HB.out)
          have r1 := R1.out.ts
          have r2 := R2.out.ts
          obtain ⟨g1, o1, rfl, -⟩ := r1.addr (by omega)
          obtain ⟨g2, o2, rfl, -⟩ := r2.addr (by omega)
          obtain ⟨s1, c1, e1, q1⟩ := R1.out.row k
          obtain ⟨s2, c2, e2, q2⟩ := R2.out.row k
          obtain ⟨t, ht⟩ : ∃ t, S.txs[k] = t := ⟨_, rfl⟩
          have hy1 := yz_get (.slice sc S.cs.length cc) S.txs k hkn
          have hy2 := yz_get (.slice sc' S.cs.length cc') S.txs k hkn
          rw [e1, ht] at hy1
          rw [e2, ht] at hy2
          obtain ⟨x0, x1, x2, x3⟩ := y_at r1 (by rw [yz_len]; exact hkn) _ hy1
          obtain ⟨y0, y1, y2, y3⟩ := y_at r2 (by rw [yz_len]; exact hkn) _ hy2
          simp only at x0 x1 x2 x3 y0 y1 y2 y3
          have hm : (chs S k).length ≤ 100000 := by
            unfold chs
            split
            · exact hc
            · simp
          obtain ⟨cs, hcs⟩ : ∃ cs, chs S k = cs := ⟨_, rfl⟩
          rw [hcs] at x3 y3 q1 q2 hm
          have Q1 := Lib.hid q1
          have Q2 := Lib.hid q2
          clear r1 r2 e1 e2 ht hy1 hy2 hcs q1 q2
          have hw1 : IntKind.i64.wrap ((k : Int) + 1) = (k : Int) + 1 := by rw [IntKind.wrap_i64]; omega
          have hl1 : b + 1 < wr.heap.size := Nat.lt_of_lt_of_le HKB.out.lt HB.out.size
          have hl0 : b < wr.heap.size := by omega
          have hl2 : g2 < wr.heap.size := World.block_lt_of_cell? _ _ y0
          go_upto_region 15 with fail
          obtain ⟨W2, hW2⟩ : ∃ W2, (wr.alloc (.cells #[.int .i64 t.id, .string t.ow, .bool t.wr, .slice s1 cs.length c1] 36)).alloc (.cells #[.int .i64 t.id, .string t.ow, .bool t.wr, .slice s2 cs.length c2] 36) = W2 := ⟨_, rfl⟩
          obtain ⟨b5, hb5⟩ : ∃ b5, wr.heap.size = b5 := ⟨_, rfl⟩
          have HW2 := Lib.hid (show Below wr.heap.size wr W2 by rw [← hW2]; exact ((Below.refl _ wr).alloc (Nat.le_refl _) _).alloc (by simp) _)
          have KA := ((Blk.new wr #[.int .i64 t.id, .string t.ow, .bool t.wr, .slice s1 cs.length c1] 36).alloc (.cells #[.int .i64 t.id, .string t.ow, .bool t.wr, .slice s2 cs.length c2] 36))
          have KB := blk_new (wr.alloc (.cells #[.int .i64 t.id, .string t.ow, .bool t.wr, .slice s1 cs.length c1] 36)) #[.int .i64 t.id, .string t.ow, .bool t.wr, .slice s2 cs.length c2] 36 (b5 + 1) (by simp [hb5])
          rw [hW2, hb5] at KA
          rw [hW2] at KB
          try simp only [hW2, hb5]
          clear hW2 hb5
          have HKA2 := Lib.hid KA
          have HKB2 := Lib.hid KB
          have Q1' := Lib.hid (Q1.out.below HW2.out)
          have Q2' := Lib.hid (Q2.out.below HW2.out)
          have HBB := Lib.hid (HB.out.trans (HW2.out.mono HB.out.size))
          clear KA KB Q1 Q2 x0 x1 x2 x3 y0 y1 y2 y3 a0 a1 a2 b0 b1 b2
          go_wp2_with fail
          go_loopg [9] cs.length (CRel cs.length W2)
          case atStart => exact ⟨0, rfl, Nat.zero_le _, rfl, Below.refl _ _⟩
          case round =>
            obtain ⟨j, hg2, hj, rfl, hb2⟩ := hrel
            have Hg2 := Lib.hid hg2
            have HB3 := Lib.hid hb2
            clear hg2 hb2
            have a3 := (HKA2.out.kept (Fr.of_below HB3.out) (fun q => q)).cell 3
            have b3 := (HKB2.out.kept (Fr.of_below HB3.out) (fun q => q)).cell 3
            simp at a3 b3
            by_cases hjn : j < cs.length
            · have hjI : (j : Int) < (cs.length : Int) := by omega
              have hj0 : (0 : Int) ≤ (j : Int) := by omega
              have r1 := Q1'.out.below HB3.out
              have r2 := Q2'.out.below HB3.out
              obtain ⟨g1, o1, rfl, -⟩ := r1.addr (by omega)
              obtain ⟨g2, o2, rfl, -⟩ := r2.addr (by omega)
              obtain ⟨x, hx⟩ : ∃ x, cs[j] = x := ⟨_, rfl⟩
              obtain ⟨x0, x1, x2⟩ := c_at r1 hjn x hx
              obtain ⟨y0, y1, y2⟩ := c_at r2 hjn x hx
              clear r1 r2 hx
              have hw2 : IntKind.i64.wrap ((j : Int) + 1) = (j : Int) + 1 := by rw [IntKind.wrap_i64]; omega
              go_wp2_with go_quiet (fail)
              go_roundg (cs.length - (j + 1))
              case measure => have := Hg2.out; omega
              case rel => exact ⟨j + 1, rfl, by omega, by simp, ⟨HB3.out.os, HB3.out.tape, HB3.out.output, HB3.out.size, HB3.out.block⟩⟩
            · obtain rfl : j = cs.length := by omega
              go_wp2_with fail
              go_roundg (S.txs.length - (k + 1))
              case measure => have := Hg.out; omega
              case rel => exact ⟨k + 1, rfl, by omega, by simp, HBB.out.trans (HB3.out.mono HBB.out.size)⟩
        · obtain rfl : k = S.txs.length := by omega
          go_wp2_with fail
          go_ret
          exact ⟨rfl, HW.out.trans (HB.out.mono HW.out.size)⟩
end Go.Proofs.Ytcglnjklnlejmaa
