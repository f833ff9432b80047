/-
  The walk of QueueKinds for at most 60 strings.
-/
import Derived.Test.YtkddkbjgnndflaaQi
import Derived.Test.YtkddkbjgnndflaaQg
set_option linter.unusedVariables false
namespace Go.Proofs.Ytkddkbjgnndflaa
open Go.RowKit Go.K

def strs (l : List ByteArray) : List Value := l.map Value.string
def pl (s : Option Addr) (c k : Nat) : List Value := (List.range k).map fun i => .slice s i c
theorem strs_take_succ (zs : List ByteArray) (k : Nat) (h : k < zs.length) : strs (zs.take (k + 1)) = strs (zs.take k) ++ [.string zs[k]] := by
  rw [List.take_succ_eq_append_getElem h]; simp only [strs, List.map_append, List.map_cons, List.map_nil]
theorem pl_succ (s : Option Addr) (c k : Nat) : pl s c (k + 1) = pl s c k ++ [.slice s k c] := by
  simp [pl, List.range_succ]
theorem pl_drop (s : Option Addr) (c k n : Nat) (h : k < n) : (pl s c n).drop k = .slice s k c :: (pl s c n).drop (k + 1) := by
  rw [List.drop_eq_getElem_cons (by simp [pl]; exact h)]
  simp [pl]

def KdRel1 (w : World) (b p len cap : Nat) (s0 : Option Addr) (zs : List ByteArray) (g : Nat) (v : Value) (wr : World) : Prop :=
  ∃ k : Nat, g = len - k ∧ k ≤ len ∧ v = .int .i64 k ∧ St w wr [qObj b 35 9 1 k (strs (zs.take k)), qObj p 38 33 1 k (pl s0 cap k)]
def KdRel2 (w : World) (b p len cap : Nat) (s0 : Option Addr) (zs : List ByteArray) (g : Nat) (v : Value) (wr : World) : Prop :=
  ∃ k m : Nat, g = len - k ∧ k + m = len ∧ v = .int .i64 k ∧ St w wr [qObj b 35 9 1 m (strs (zs.drop k)), qObj p 38 33 1 m ((pl s0 cap len).drop k)]

set_option maxRecDepth 100000 in
set_option maxHeartbeats 2000000 in
theorem kinds_go (s0 : Option Addr) (len cap : Nat) (zs : List ByteArray) (w : World) (hl : len ≤ 60) (hlc : len ≤ cap) (hr : Rd w 1 s0 len (strs zs)) :
    Calls Try.prog 4 #[.slice s0 len cap] w fun e w' => e = .returned (.bool true) ∧ Below w.heap.size w w' := by
  have hr' := Lib.hid hr
  have hzl := Lib.hid (show zs.length = len by have := hr.len; simpa [strs] using this)
  clear hr
  have hd : decide ((60 : Int) < (len : Int)) = false := by simp; omega
  go_enter Try.func4, Try.ntmps4
  go_wp2_with (go_at_call 11; refine (awake_any _).mono ?_; rintro e w1 ⟨rfl, hb1⟩)
  have h0 := q_start (q_start (St.start w hb1) 35 9 1) 38 33 1
  simp only [World.size_alloc] at h0
  go_loopg [25] len (KdRel1 w w1.heap.size (w1.heap.size + 1) len cap s0 zs)
  case atStart => exact ⟨0, rfl, Nat.zero_le _, rfl, h0.swap⟩
  case round =>
    obtain ⟨k, hg, hk, rfl, hp⟩ := hrel
    have Hg := Lib.hid hg
    have Hp := Lib.hid hp
    clear hg hp hb1 h0
    by_cases hlt : k < len
    · obtain ⟨gl, ol, rfl, hcell⟩ := hr'.out.addr (by omega)
      have hkz : k < zs.length := by rw [hzl.out]; exact hlt
      have hcz := hcell k (.string zs[k]) (by simp [strs, hkz])
      have hcz2 := Hp.out.old hcz
      have Hs := Lib.hid (strs_take_succ zs k hkz)
      have Hpl := Lib.hid (pl_succ (some ⟨gl, ol, none⟩) cap k)
      have hsl := fun kd W => slice_h_some (P := Try.prog) elS gl ol len cap k (by omega) (by omega) kd W
      generalize zs[k] = z at *
      clear hcell hcz
      have hlt' : (k : Int) < (len : Int) := by omega
      go_wp2_with fail
      refine (pushS z Hp.out (by omega)).mono ?_
      rintro e w2 ⟨rfl, h2⟩
      go_wp2_with fail
      refine (pushL _ _ _ h2.swap (by omega)).mono ?_
      rintro e w3 ⟨rfl, h3⟩
      go_wp2_with fail
      go_roundg (len - (k + 1))
      case measure => have := Hg.out; omega
      case rel => exact ⟨k + 1, rfl, by omega, by simp, by rw [Hs.out, Hpl.out]; exact h3.swap⟩
    · obtain rfl : k = len := by omega
      have e1 : zs.take k = zs := by rw [List.take_of_length_le]; rw [hzl.out]; omega
      rw [e1] at Hp
      clear e1
      go_wp2_with fail
      go_loopg [40] k (KdRel2 w w1.heap.size (w1.heap.size + 1) k cap s0 zs)
      case atStart => exact ⟨0, k, rfl, by omega, rfl, by simpa using Hp.out⟩
      case round =>
        obtain ⟨j, m, hg, hj, rfl, hp⟩ := hrel
        have Hg2 := Lib.hid hg
        have Hj := Lib.hid hj
        have hmb : m ≤ 60 := by omega
        have hjk : j ≤ k := by omega
        have Hp2 := Lib.hid hp
        clear hg hp hj
        by_cases hlt2 : j < k
        · obtain ⟨gl, ol, rfl, hcell⟩ := hr'.out.addr (by omega)
          have hkz : j < zs.length := by rw [hzl.out]; exact hlt2
          have hcz := hcell j (.string zs[j]) (by simp [strs, hkz])
          obtain ⟨m, rfl⟩ : ∃ m', m = m' + 1 := ⟨m - 1, by have := Hj.out; omega⟩
          have hp3 := Hp2.out
          rw [List.drop_eq_getElem_cons hkz, pl_drop _ _ _ _ hlt2] at hp3
          generalize zs[j] = z at *
          have Hp3 := Lib.hid hp3
          clear hcell hp3
          have hlt' : (j : Int) < (k : Int) := by omega
          go_wp2_with fail
          refine (popS z Hp3.out (by omega)).mono ?_
          rintro e w2 ⟨rfl, h2⟩
          go_wp2_with fail
          refine (popL _ _ _ h2.swap (by omega)).mono ?_
          rintro e w3 ⟨rfl, h3⟩
          have hcz3 := h3.old hcz
          have H3 := Lib.hid h3
          clear h2 h3 hcz
          go_wp2_with fail
          go_roundg (k - (j + 1))
          case measure => have := Hg2.out; omega
          case rel => exact ⟨j + 1, m, rfl, by have := Hj.out; omega, by simp, H3.out.swap⟩
        · obtain rfl : m = 0 := by have := Hj.out; omega
          go_wp2_with fail
          refine (pop0S Hp2.out).mono ?_
          rintro e w2 ⟨rfl, h2⟩
          obtain ⟨s4, c4, h4⟩ := q_open h2.swap
          have hc4 := h4.cell 0
          simp at hc4
          have H2 := Lib.hid h2
          clear h2 h4
          go_wp2_with fail
          refine (peek_noneL _ _ _ _ hc4).mono ?_
          rintro e w3 ⟨rfl, rfl⟩
          go_wp2_with fail
          go_ret
          exact ⟨by simp, H2.out.bel⟩

set_option maxHeartbeats 400000 in
theorem kinds_long (s0 : Option Addr) (len cap : Nat) (w : World) (hl : 60 < len) :
    Calls Try.prog 4 #[.slice s0 len cap] w fun e w' => e = .returned (.bool true) ∧ Below w.heap.size w w' := by
  have hd : decide ((60 : Int) < (len : Int)) = true := by simp; omega
  go_enter Try.func4, Try.ntmps4
  go_wp2_with fail
  refine (awake_any _).mono ?_
  rintro e w1 ⟨rfl, hb1⟩
  go_wp2_with fail
  refine (awake_any _).mono ?_
  rintro e w2 ⟨rfl, hb2⟩
  go_wp2_with fail
  go_ret
  exact ⟨rfl, hb1.trans (hb2.mono hb1.size)⟩
end Go.Proofs.Ytkddkbjgnndflaa
