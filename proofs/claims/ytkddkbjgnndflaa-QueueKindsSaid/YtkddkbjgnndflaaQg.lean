/-
  The walk of QueueClones for at most 100 elements.
-/
import Derived.Test.YtkddkbjgnndflaaQf
set_option linter.unusedVariables false
namespace Go.Proofs.Ytkddkbjgnndflaa
open Go.RowKit Go.K

theorem ints_len (l : List Int) : (ints l).length = l.length := by simp [ints]
theorem ints_app (a b : List Int) : ints (a ++ b) = ints a ++ ints b := by simp [ints]
theorem ints_take_succ (zs : List Int) (k : Nat) (h : k < zs.length) : ints (zs.take (k + 1)) = ints (zs.take k) ++ [.int .i64 zs[k]] := by
  rw [List.take_succ_eq_append_getElem h, ints_app]; rfl

def ClRel1 (w : World) (b len : Nat) (zs : List Int) (g : Nat) (v : Value) (wr : World) : Prop :=
  ∃ k : Nat, g = len - k ∧ k ≤ len ∧ v = .int .i64 k ∧ St w wr [qObj b 26 3 1 k (ints (zs.take k))]
def ClRel2 (w : World) (b b7 len t : Nat) (zs : List Int) (g : Nat) (v : Value) (wr : World) : Prop :=
  ∃ (k m : Nat) (ys : List Int), g = t - k ∧ k ≤ t ∧ v = .int .i64 k ∧ (m = len ∨ len = 0) ∧ m ≤ len + k ∧ St w wr [qObj b7 26 3 1 m (ints ys), qObj b 26 3 1 len (ints zs)]

def ClRel3 (w : World) (b b7 b8 t m N : Nat) (D E : List Value) (g : Nat) (v : Value) (wr : World) : Prop :=
  ∃ (k m2 : Nat) (ys : List Int), g = t - k ∧ k ≤ t ∧ v = .int .i64 k ∧ m2 ≤ N ∧ St w wr [qObj b 26 3 1 m2 (ints ys), qObj b8 26 3 1 N D, qObj b7 26 3 1 m E]
theorem q_len {w0 w : World} {L : List As} {b T e n : Nat} {xs : List Value} (h : St w0 w (qObj b T e 1 n xs :: L)) : xs.length = n := by
  obtain ⟨_, _, q⟩ := q_open h
  have := q.swap.sl.len
  omega

set_option maxRecDepth 100000 in
set_option maxHeartbeats 2000000 in
theorem clones_go (s0 : Option Addr) (len cap : Nat) (zs : List Int) (n : Int) (w : World) (hl : len ≤ 100) (hr : Rd w 1 s0 len (zs.map (Value.int .i8))) (hz : ∀ z ∈ zs, -128 ≤ z ∧ z ≤ 127) (hn0 : 0 ≤ n) (hn1 : n ≤ 255) :
    Calls Try.prog 5 #[.slice s0 len cap, .int .u8 n] w fun e w' => e = .returned (.bool true) ∧ Below w.heap.size w w' := by
  have hr' := Lib.hid hr
  have hz' := Lib.hid hz
  have hzl := Lib.hid (show zs.length = len by have := hr.len; simpa using this)
  clear hr hz
  have hd : decide ((100 : Int) < (len : Int)) = false := by simp; omega
  go_enter Try.func5, Try.ntmps5
  go_wp2_with (go_at_call 11; refine (awake_any _).mono ?_; rintro e w1 ⟨rfl, hb1⟩)
  have h0 := q_start (St.start w hb1) 26 3 1
  go_loopg [20] len (ClRel1 w w1.heap.size len zs)
  case atStart => exact ⟨0, rfl, Nat.zero_le _, rfl, h0⟩
  case round =>
    obtain ⟨k, hg, hk, rfl, hp⟩ := hrel
    have Hg := Lib.hid hg
    have Hp := Lib.hid hp
    clear hg hp hb1 h0
    by_cases hlt : k < len
    · obtain ⟨gl, ol, rfl, hcell⟩ := hr'.out.addr (by omega)
      have hkz : k < zs.length := by rw [hzl.out]; exact hlt
      have hcz := hcell k (.int .i8 zs[k]) (by simp [hkz])
      have hcz2 := Hp.out.old hcz
      obtain ⟨hz1, hz2⟩ := hz'.out zs[k] (List.getElem_mem _)
      have Hs := Lib.hid (ints_take_succ zs k hkz)
      generalize zs[k] = z at *
      clear hcell hcz
      have hlt' : (k : Int) < (len : Int) := by omega
      go_wp2_with fail
      refine (push_st z Hp.out (by omega)).mono ?_
      rintro e w2 ⟨rfl, h2⟩
      go_wp2_with fail
      go_roundg (len - (k + 1))
      case measure => have := Hg.out; omega
      case rel => exact ⟨k + 1, rfl, by omega, by simp, by rw [Hs.out]; exact h2⟩
    · obtain rfl : k = len := by omega
      have e1 : zs.take k = zs := by rw [List.take_of_length_le]; rw [hzl.out]; omega
      rw [e1] at Hp
      go_wp2_with fail
      refine (qclone_st Hp.out (by omega)).mono ?_
      rintro e w2 ⟨s2, c2, rfl, h2⟩
      have H2 := Lib.hid (q_shut (h2.new #[.slice s2 k c2] 26))
      clear h2
      go_wp2_with fail
      obtain ⟨t, ht⟩ : ∃ t : Nat, n % 9 = (t : Int) := ⟨(n % 9).toNat, by omega⟩
      have ht8 : t ≤ 8 := by omega
      rw [ht]
      have HT := Lib.hid ht
      clear ht
      go_loopg [34] t (ClRel2 w w1.heap.size w2.heap.size k t zs)
      case atStart => exact ⟨0, k, zs, rfl, Nat.zero_le _, rfl, .inl rfl, by omega, H2.out⟩
      case round =>
        obtain ⟨j, m, ys, hg, hj, rfl, hm, hmk, hp⟩ := hrel
        have Hg2 := Lib.hid hg
        have Hm := Lib.hid hm
        have Hp2 := Lib.hid hp
        clear hg hp hm
        by_cases hjt : j < t
        · have hjt' : (j : Int) < (t : Int) := by omega
          cases ys with
          | nil =>
            obtain rfl : m = 0 := by obtain ⟨_, _, q⟩ := q_open Hp2.out; have := q.swap.sl.len; simpa [ints] using this.symm
            go_wp2_with fail
            refine (pop0_st Hp2.out).mono ?_
            rintro e w3 ⟨rfl, h3⟩
            go_wp2_with fail
            refine (push_st 500 h3 (by omega)).mono ?_
            rintro e w4 ⟨rfl, h4⟩
            go_wp2_with fail
            go_roundg (t - (j + 1))
            case measure => have := Hg2.out; omega
            case rel => exact ⟨j + 1, 1, [500], rfl, by omega, by simp, .inr (by have := Hm.out; omega), by omega, h4⟩
          | cons y ys =>
            obtain ⟨m, rfl⟩ : ∃ m', m = m' + 1 := ⟨m - 1, by obtain ⟨_, _, q⟩ := q_open Hp2.out; have := q.swap.sl.len; simp [ints] at this; omega⟩
            go_wp2_with fail
            refine (pop_st y Hp2.out (by omega)).mono ?_
            rintro e w3 ⟨rfl, h3⟩
            go_wp2_with fail
            refine (push_st 500 h3 (by omega)).mono ?_
            rintro e w4 ⟨rfl, h4⟩
            go_wp2_with fail
            go_roundg (t - (j + 1))
            case measure => have := Hg2.out; omega
            case rel => exact ⟨j + 1, m + 1, ys ++ [500], rfl, by omega, by simp, Hm.out, by omega, by rw [ints_app]; exact h4⟩
        · go_wp2_with fail
          refine (push_st 7 Hp2.out.swap (by omega)).mono ?_
          rintro e w3 ⟨rfl, h3⟩
          go_wp2_with fail
          refine (push_st 8 h3 (by omega)).mono ?_
          rintro e w4 ⟨rfl, h4⟩
          go_wp2_with fail
          refine (qclone_st h4 (by omega)).mono ?_
          rintro e w5 ⟨s5, c5, rfl, h5⟩
          have H5 := Lib.hid (q_shut (h5.new #[.slice s5 (k + 1 + 1) c5] 26))
          clear h3 h4 h5
          go_wp2_with fail
          rw [HT.out]
          obtain ⟨N, hN⟩ : ∃ N, k + 1 + 1 = N := ⟨_, rfl⟩
          have hN1 : N = k + 2 := by omega
          have hNb : N ≤ 102 := by omega
          rw [hN] at H5 ⊢
          have HN := Lib.hid hN1
          clear hN hN1
          go_loopg [45] t (ClRel3 w w1.heap.size w2.heap.size w5.heap.size t m N (ints zs ++ [.int .i64 7] ++ [.int .i64 8]) (ints ys))
          case atStart => exact ⟨0, N, zs ++ [7] ++ [8], rfl, Nat.zero_le _, rfl, Nat.le_refl _, by rw [ints_app, ints_app]; exact H5.out.swap⟩
          case round =>
            obtain ⟨j2, m2, y2, hg, hj2, rfl, hm2, hp⟩ := hrel
            have Hg3 := Lib.hid hg
            have Hp3 := Lib.hid hp
            clear hg hp
            by_cases hjt2 : j2 < t
            · have hjt' : (j2 : Int) < (t : Int) := by omega
              cases y2 with
              | nil =>
                obtain rfl : m2 = 0 := (q_len Hp3.out).symm
                go_wp2_with fail
                refine (pop0_st Hp3.out).mono ?_
                rintro e w6 ⟨rfl, h6⟩
                go_wp2_with fail
                go_roundg (t - (j2 + 1))
                case measure => have := Hg3.out; omega
                case rel => exact ⟨j2 + 1, 0, [], rfl, by omega, by simp, by omega, h6⟩
              | cons y y2 =>
                obtain ⟨m2, rfl⟩ : ∃ m', m2 = m' + 1 := ⟨m2 - 1, by have := q_len Hp3.out; simp [ints] at this; omega⟩
                go_wp2_with fail
                refine (pop_st y Hp3.out (by omega)).mono ?_
                rintro e w6 ⟨rfl, h6⟩
                go_wp2_with fail
                go_roundg (t - (j2 + 1))
                case measure => have := Hg3.out; omega
                case rel => exact ⟨j2 + 1, m2, y2, rfl, by omega, by simp, by omega, h6⟩
            · go_wp2_with fail
              refine (push_st 9 Hp3.out (by omega)).mono ?_
              rintro e w6 ⟨rfl, h6⟩
              have H6 := Lib.hid h6
              obtain ⟨s8, c8, h8⟩ := q_open h6.swap
              have hc8 := h8.cell 0
              simp at hc8
              have hle8 := h8.swap.sl.le
              obtain ⟨g8, o8, rfl, hcell8, _, _⟩ := h8.swap.sl.some_of (by have := HN.out; omega)
              have hc7 := hcell8 k (by have := HN.out; omega)
              have hzk : zs.length = k := hzl.out
              have HC8 := Lib.hid hcell8
              rw [List.getElem?_append_left (by simp [ints, hzk]), List.getElem?_append_right (by simp [ints, hzk])] at hc7
              simp [ints, hzk] at hc7
              have HZK := Lib.hid hzk
              have hkN : (k : Int) < (N : Int) := by have := HN.out; omega
              have hkb : ((N : Int) != (k : Int) + 2) = false := by have := HN.out; simp; omega
              have H8 := Lib.hid h8
              clear hzk hcell8 h8 h6
              go_wp2_with (go_at_call 15; refine (len_st H6.out.swap).mono ?_; rintro e w' ⟨rfl, rfl⟩)
              go_loopg [66] k (fun g v wx => ∃ i d : Nat, g = k - i ∧ i ≤ k ∧ v = .int .i64 i ∧ wx = w6.drewN d)
              case atStart => exact ⟨0, 0, rfl, Nat.zero_le _, rfl, rfl⟩
              case round =>
                obtain ⟨i, d, hg, hik, rfl, rfl⟩ := hrel
                have Hg4 := Lib.hid hg
                clear hg hc7
                by_cases hil : i < k
                · obtain ⟨gl, ol, rfl, hcell⟩ := hr'.out.addr (by omega)
                  have hiz : i < zs.length := by rw [HZK.out]; exact hil
                  have hcz := H6.out.old (hcell i (.int .i8 zs[i]) (by simp [hiz]))
                  have hci := HC8.out i (by have := HN.out; omega)
                  rw [List.getElem?_append_left (by simp [ints]; omega), List.getElem?_append_left (by simp [ints]; omega)] at hci
                  simp [ints, hiz] at hci
                  obtain ⟨hz1, hz2⟩ := hz'.out zs[i] (List.getElem_mem _)
                  generalize zs[i] = z at *
                  clear hcell
                  have hil' : (i : Int) < (k : Int) := by omega
                  have hiN : (i : Int) < (N : Int) := by omega
                  go_wp2_with fail
                  go_quiet (fail)
                  go_wp2_with fail
                  go_roundg (k - (i + 1))
                  case measure => have := Hg4.out; omega
                  case rel => exact ⟨i + 1, _, rfl, by omega, by simp, rfl⟩
                · have H9 := Lib.hid (H6.out.front2.drewN d)
                  rcases Hm.out with rfl | rfl
                  · go_wp2_with (go_at_call 15; refine (len_st H9.out).mono ?_; rintro e w' ⟨rfl, rfl⟩)
                    go_ret
                    exact ⟨by simp, H9.out.bel⟩
                  · have hmb : ((m : Int) == 0) = decide (m = 0) := by by_cases h : m = 0 <;> simp [h]
                    go_wp2_with (go_at_call 15; refine (len_st H9.out).mono ?_; rintro e w' ⟨rfl, rfl⟩)
                    all_goals
                      go_ret
                      exact ⟨by simp, H9.out.bel⟩
end Go.Proofs.Ytkddkbjgnndflaa
