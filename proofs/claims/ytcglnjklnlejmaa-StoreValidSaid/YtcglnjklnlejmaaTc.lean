/-
  The reference: At, Turn, Size.
-/
import Derived.Test.YtcglnjklnlejmaaSw
set_option linter.unusedVariables false
set_option linter.unusedSimpArgs false
namespace Go.Proofs.Ytcglnjklnlejmaa
open Go.RowKit Go.K Go.K.Sr

abbrev rv (p : Sp) (S : SS) : Value := .agg #[.slice p.sp S.pairs.length p.cp, .slice p.st S.txs.length p.ct, .int .i64 S.nx]
/-- the reference's store, as it lies -/
abbrev Rf (w : World) (S : SS) (p : Sp) : Prop := Re w (rv p S) S p.sp p.cp p.st p.ct p.sc p.cc
theorem fnd_some {id : Int} {txs : List Tx} {k : Nat} (hk : k < txs.length) (h1 : ∀ t ∈ txs.take k, t.id ≠ id) (h2 : txs[k].id = id) : fnd id txs = some k := by
  unfold fnd
  rw [List.findIdx?_eq_some_iff_getElem]
  refine ⟨hk, by simp [h2], fun j hj => ?_⟩
  have := h1 txs[j] (by rw [List.mem_take_iff_getElem]; exact ⟨j, by omega, rfl⟩)
  simpa using this
theorem fnd_no {id : Int} {txs : List Tx} (h1 : ∀ t ∈ txs, t.id ≠ id) : fnd id txs = none := by
  unfold fnd
  rw [List.findIdx?_eq_none_iff]
  intro t ht
  simpa using h1 t ht
def RaRel (S : SS) (id : Int) (W : World) (g : Nat) (v : Value) (wr : World) : Prop := ∃ k : Nat, g = S.txs.length - k ∧ k ≤ S.txs.length ∧ v = .int .i64 k ∧ (∀ t ∈ S.txs.take k, t.id ≠ id) ∧ Below W.heap.size W wr
theorem take_ne {id : Int} {l : List Tx} {k : Nat} (hk : k < l.length) {t : Tx} (ht : l[k] = t) (h1 : ∀ t ∈ l.take k, t.id ≠ id) (h2 : t.id ≠ id) : ∀ t ∈ l.take (k + 1), t.id ≠ id := by
  rw [List.take_succ_eq_append_getElem hk, ht]
  intro x hx
  rcases List.mem_append.1 hx with q | q
  · exact h1 x q
  · rw [List.mem_singleton.1 q]; exact h2

set_option maxRecDepth 100000 in
set_option maxHeartbeats 1000000 in
theorem at_ref (S : SS) (p : Sp) (id : Int) (w : World) (h : Rf w S p) (hn : S.txs.length ≤ 100000) :
    Calls Try.prog 39 #[rv p S, .int .i64 id] w fun e w' => e = .returned (.int .i64 (fndI id S.txs)) ∧ Below w.heap.size w w' := by
  have HA := Lib.hid h
  clear h
  go_enter Try.func39, Try.ntmps39
  go_upto_region 1 with fail
  obtain ⟨W, hW⟩ : ∃ W, w.alloc (.cells #[.slice p.sp S.pairs.length p.cp, .slice p.st S.txs.length p.ct, .int .i64 S.nx] 43) = W := ⟨_, rfl⟩
  obtain ⟨b, hbz⟩ : ∃ b, w.heap.size = b := ⟨_, rfl⟩
  have HW := Lib.hid (show Below w.heap.size w W by rw [← hW]; exact (Below.refl _ w).alloc (Nat.le_refl _) _)
  have KA := Blk.new w #[.slice p.sp S.pairs.length p.cp, .slice p.st S.txs.length p.ct, .int .i64 S.nx] 43
  rw [hW, hbz] at KA
  try simp only [hW, hbz]
  have H2 := Lib.hid (HA.out.below HW.out)
  have HKA := Lib.hid KA
  clear hW hbz KA
  go_wp2_with fail
  go_loopg [5] S.txs.length (RaRel S id W)
  case atStart => exact ⟨0, rfl, Nat.zero_le _, rfl, by simp, Below.refl _ _⟩
  case round =>
    obtain ⟨k, hg, hk, rfl, hne, hb⟩ := hrel
    have Hg := Lib.hid hg
    have HB := Lib.hid hb
    have HNE := Lib.hid hne
    clear hg hb hne
    obtain ⟨a0, a1, a2, -⟩ := (HKA.out.kept (Fr.of_below HB.out) (fun q => q)).three
    by_cases hkn : k < S.txs.length
    · have hkI : (k : Int) < (S.txs.length : Int) := by omega
      have hk0 : (0 : Int) ≤ (k : Int) := by omega
      have r1 := (H2.out.below HB.out).ts
      obtain ⟨g1, o1, hst, -⟩ := r1.addr (by omega)
      obtain ⟨t, ht⟩ : ∃ t, S.txs[k] = t := ⟨_, rfl⟩
      have hy1 := yz_get (.slice p.sc S.cs.length p.cc) S.txs k hkn
      rw [ht] at hy1
      obtain ⟨x0, -, -, -⟩ := y_at (hst ▸ r1) (by rw [yz_len]; exact hkn) _ hy1
      simp only at x0
      rw [hst] at a1
      have HT := Lib.hid ht
      clear r1 ht hy1 hst a0 a2
      by_cases hid : t.id = id
      · have hidb : (t.id == id) = true := by simp [hid]
        have HID := Lib.hid hid
        clear hid
        go_wp2_with fail
        go_ret
        refine ⟨?_, HW.out.trans (HB.out.mono HW.out.size)⟩
        have e := fnd_some hkn HNE.out (by rw [HT.out]; exact HID.out)
        unfold fndI
        rw [e]
        rfl
      · have hidb : (t.id == id) = false := by simp [hid]
        have HID := Lib.hid hid
        clear hid
        go_wp2_with fail
        go_roundg (S.txs.length - (k + 1))
        case measure => have := Hg.out; omega
        case rel => exact ⟨k + 1, rfl, by omega, by simp, take_ne hkn HT.out HNE.out HID.out, HB.out⟩
    · obtain rfl : k = S.txs.length := by omega
      go_wp2_with fail
      go_ret
      refine ⟨?_, HW.out.trans (HB.out.mono HW.out.size)⟩
      have hne := HNE.out
      rw [List.take_length] at hne
      unfold fndI
      rw [fnd_no hne]
      rfl

def RtRel (S : SS) (n : Nat) (W : World) (g : Nat) (v : Value) (wr : World) : Prop := ∃ k : Nat, g = n - k ∧ k ≤ n ∧ v = .int .i64 k ∧ (S.txs.take k).any (·.wr) = false ∧ Below W.heap.size W wr
theorem any_succ {l : List Tx} {k : Nat} (hk : k < l.length) {t : Tx} (ht : l[k] = t) : (l.take (k + 1)).any (·.wr) = ((l.take k).any (·.wr) || t.wr) := by
  rw [List.take_succ_eq_append_getElem hk, ht, List.any_append]
  simp
theorem any_mem {l : List Tx} {k n : Nat} (hk : k < n) (hn : n < l.length) {t : Tx} (ht : l[k]'(by omega) = t) (hw : t.wr = true) : (l.take n).any (·.wr) = true := by
  rw [List.any_eq_true]
  exact ⟨t, by rw [List.mem_take_iff_getElem]; exact ⟨k, by omega, ht⟩, hw⟩
theorem turnB_any {txs : List Tx} {k : Nat} (hk : k < txs.length) (h : (txs.take k).any (·.wr) = true) : turnB txs k = false := by
  unfold turnB
  rw [List.getElem?_eq_getElem hk]
  simp only [h]
  cases (txs[k]).wr with
  | true =>
    simp
    rintro rfl
    simp at h
  | false => rfl
theorem turnB_none {txs : List Tx} {k : Nat} (hk : k < txs.length) {t : Tx} (ht : txs[k] = t) (h : (txs.take k).any (·.wr) = false) : turnB txs k = (decide (k = 0) || !t.wr) := by
  unfold turnB
  rw [List.getElem?_eq_getElem hk, ht]
  simp only [h]
  cases t.wr <;> simp

set_option maxRecDepth 100000 in
set_option maxHeartbeats 1000000 in
theorem turn_ref (S : SS) (p : Sp) (n : Nat) (w : World) (h : Rf w S p) (hn : S.txs.length ≤ 100000) (hnl : n < S.txs.length) :
    Calls Try.prog 40 #[rv p S, .int .i64 n] w fun e w' => e = .returned (.bool (turnB S.txs n)) ∧ Below w.heap.size w w' := by
  have HA := Lib.hid h
  clear h
  go_enter Try.func40, Try.ntmps40
  go_upto_region 1 with fail
  obtain ⟨W, hW⟩ : ∃ W, w.alloc (.cells #[.slice p.sp S.pairs.length p.cp, .slice p.st S.txs.length p.ct, .int .i64 S.nx] 43) = W := ⟨_, rfl⟩
  obtain ⟨b, hbz⟩ : ∃ b, w.heap.size = b := ⟨_, rfl⟩
  have HW := Lib.hid (show Below w.heap.size w W by rw [← hW]; exact (Below.refl _ w).alloc (Nat.le_refl _) _)
  have KA := Blk.new w #[.slice p.sp S.pairs.length p.cp, .slice p.st S.txs.length p.ct, .int .i64 S.nx] 43
  rw [hW, hbz] at KA
  try simp only [hW, hbz]
  have H2 := Lib.hid (HA.out.below HW.out)
  have HKA := Lib.hid KA
  clear hW hbz KA
  go_wp2_with fail
  go_loopg [5] n (RtRel S n W)
  case atStart => exact ⟨0, rfl, Nat.zero_le _, rfl, by simp, Below.refl _ _⟩
  case round =>
    obtain ⟨k, hg, hk, rfl, hne, hb⟩ := hrel
    have Hg := Lib.hid hg
    have HB := Lib.hid hb
    have HNE := Lib.hid hne
    clear hg hb hne
    obtain ⟨a0, a1, a2, -⟩ := (HKA.out.kept (Fr.of_below HB.out) (fun q => q)).three
    have r1 := (H2.out.below HB.out).ts
    obtain ⟨g1, o1, hst, -⟩ := r1.addr (by omega)
    rw [hst] at a1
    by_cases hkn : k < n
    · have hkI : (k : Int) < (n : Int) := by omega
      have hkS : (k : Int) < (S.txs.length : Int) := by omega
      have hk0 : (0 : Int) ≤ (k : Int) := by omega
      obtain ⟨t, ht⟩ : ∃ t, S.txs[k] = t := ⟨_, rfl⟩
      have hy1 := yz_get (.slice p.sc S.cs.length p.cc) S.txs k (by omega)
      rw [ht] at hy1
      obtain ⟨-, -, x2, -⟩ := y_at (hst ▸ r1) (by rw [yz_len]; omega) _ hy1
      simp only at x2
      have HT := Lib.hid ht
      clear r1 ht hy1 hst a0 a2
      cases hwr : t.wr with
      | true =>
        rw [hwr] at x2
        have HWR := Lib.hid hwr
        clear hwr
        go_wp2_with fail
        go_ret
        refine ⟨?_, HW.out.trans (HB.out.mono HW.out.size)⟩
        rw [turnB_any hnl (any_mem hkn hnl HT.out HWR.out)]
        rfl
      | false =>
        rw [hwr] at x2
        have HWR := Lib.hid hwr
        clear hwr
        go_wp2_with fail
        go_roundg (n - (k + 1))
        case measure => have := Hg.out; omega
        case rel => exact ⟨k + 1, rfl, by omega, by simp, by rw [any_succ (by omega) HT.out, HNE.out, HWR.out]; rfl, HB.out⟩
    · obtain rfl : k = n := by omega
      have hkS : (k : Int) < (S.txs.length : Int) := by omega
      have hk0 : (0 : Int) ≤ (k : Int) := by omega
      obtain ⟨t, ht⟩ : ∃ t, S.txs[k] = t := ⟨_, rfl⟩
      have hy1 := yz_get (.slice p.sc S.cs.length p.cc) S.txs k (by omega)
      rw [ht] at hy1
      obtain ⟨-, -, x2, -⟩ := y_at (hst ▸ r1) (by rw [yz_len]; omega) _ hy1
      simp only at x2
      have HTB := Lib.hid (turnB_none hnl ht HNE.out)
      clear r1 ht hy1 hst a0 a2
      by_cases h0 : (k : Int) = 0
      · have h0b : ((k : Int) == 0) = true := by simp [h0]
        have H0 := Lib.hid h0
        clear h0
        go_wp2_with fail
        go_ret
        refine ⟨?_, HW.out.trans (HB.out.mono HW.out.size)⟩
        rw [HTB.out]
        have hk' : k = 0 := by have := H0.out; omega
        simp [hk']
      · have h0b : ((k : Int) == 0) = false := by simp; omega
        have H0 := Lib.hid h0
        clear h0
        go_wp2_with fail
        go_ret
        refine ⟨?_, HW.out.trans (HB.out.mono HW.out.size)⟩
        rw [HTB.out]
        have hk' : ¬ k = 0 := by intro e; have h0x := H0.out; omega
        rw [decide_eq_false hk']
        simp

def RzRel (l : List Pr) (w : World) (g : Nat) (v3 v4 : Value) (wr : World) : Prop := ∃ k : Nat, g = l.length - k ∧ k ≤ l.length ∧ v4 = .int .i64 k ∧ v3 = .int .i64 (sizeP (l.take k)) ∧ Below w.heap.size w wr
theorem szp_take (l : List Pr) (k : Nat) : sizeP (l.take k) ≤ sizeP l := by
  conv => rhs; rw [← List.take_append_drop k l]
  unfold sizeP
  rw [List.map_append, List.sum_append]
  omega
theorem szp_succ {l : List Pr} {k : Nat} (hk : k < l.length) (x : Pr) (hx : l[k] = x) : sizeP (l.take (k + 1)) = sizeP (l.take k) + (x.k.size + x.v.size) := by
  unfold sizeP
  rw [List.take_succ_eq_append_getElem hk, hx, List.map_append, List.sum_append]
  simp
set_option maxRecDepth 100000 in
set_option maxHeartbeats 1000000 in
theorem size_ref (s : Option Addr) (c : Nat) (l : List Pr) (w : World) (h : Rd w 2 s l.length (flat pcells l)) (hn : l.length ≤ 1000000) (hz : sizeP l ≤ 4611686018427387904) :
    Calls Try.prog 41 #[.slice s l.length c] w fun e w' => e = .returned (.int .i64 (sizeP l)) ∧ Below w.heap.size w w' := by
  have HR := Lib.hid h
  clear h
  go_enter Try.func41, Try.ntmps41
  go_wp2_with fail
  go_loopg [3, 4] l.length (RzRel l w)
  case atStart => exact ⟨0, rfl, Nat.zero_le _, rfl, rfl, Below.refl _ _⟩
  case round =>
    obtain ⟨k, hg, hk, rfl, rfl, hb⟩ := hrel
    have Hg := Lib.hid hg
    have HB := Lib.hid hb
    clear hg hb
    by_cases hkn : k < l.length
    · have hkI : (k : Int) < (l.length : Int) := by omega
      have hk0 : (0 : Int) ≤ (k : Int) := by omega
      have r1 := HR.out.below HB.out
      obtain ⟨g1, o1, rfl, -⟩ := r1.addr (by omega)
      obtain ⟨x, hx⟩ : ∃ x, l[k] = x := ⟨_, rfl⟩
      obtain ⟨x0, x1⟩ := p_at r1 hkn x hx
      have hs1 := szp_succ hkn x hx
      have hs2 := szp_take l (k + 1)
      obtain ⟨z, hz1⟩ : ∃ z, sizeP (l.take k) = z := ⟨_, rfl⟩
      rw [hz1] at hs1
      have hs3 : z + (x.k.size + x.v.size) ≤ 4611686018427387904 := by omega
      have HSU := Lib.hid hs1
      rw [hz1]
      have hw1 : IntKind.i64.wrap ((x.k.size : Int) + (x.v.size : Int)) = (x.k.size : Int) + (x.v.size : Int) := by rw [IntKind.wrap_i64]; omega
      have hw2 : IntKind.i64.wrap ((z : Int) + ((x.k.size : Int) + (x.v.size : Int))) = (z : Int) + ((x.k.size : Int) + (x.v.size : Int)) := by rw [IntKind.wrap_i64]; omega
      clear r1 hx hs1 hs2 hs3 hz1
      go_wp2_with go_quiet (fail)
      go_roundg (l.length - (k + 1))
      case measure => have := Hg.out; omega
      case rel => exact ⟨k + 1, rfl, by omega, by simp, by rw [HSU.out]; simp, ⟨HB.out.os, HB.out.tape, HB.out.output, HB.out.size, HB.out.block⟩⟩
    · obtain rfl : k = l.length := by omega
      rw [List.take_length]
      go_wp2_with fail
      go_ret
      exact ⟨rfl, HB.out⟩

end Go.Proofs.Ytcglnjklnlejmaa
