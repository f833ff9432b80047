/-
  The walk of QueueTakes for at most 100 elements.
-/
import Derived.Test.YtkddkbjgnndflaaQg
set_option linter.unusedVariables false
namespace Go.Proofs.Ytkddkbjgnndflaa
open Go.RowKit Go.K

def TkRel2 (w : World) (b b7 kk j c8 len : Nat) (s8 : Option Addr) (zs : List Int) (E : List Value) (g : Nat) (v : Value) (wr : World) : Prop :=
  ∃ i : Nat, g = kk - i ∧ i ≤ kk ∧ v = .int .i64 i ∧ St w wr [qObj b7 26 3 1 (len - i) (ints (zs.drop i)), As.row 3 1 s8 kk c8 (List.replicate i (.int .i64 999) ++ ints ((zs.take kk).drop i)), qObj b 26 3 1 j E]
def TkRel3 (w : World) (b b7 : Nat) (g : Nat) (wr : World) : Prop :=
  ∃ (m : Nat) (ys : List Int), g = m ∧ m ≤ 100 ∧ St w wr [qObj b 26 3 1 (m + 1) (ints ys ++ [.int .i64 5]), qObj b7 26 3 1 m (ints ys)]

set_option maxRecDepth 100000 in
set_option maxHeartbeats 2000000 in
theorem takes_go (s0 : Option Addr) (len cap : Nat) (zs : List Int) (n : Int) (w : World) (hl : len ≤ 100) (hr : Rd w 1 s0 len (zs.map (Value.int .i8))) (hz : ∀ z ∈ zs, -128 ≤ z ∧ z ≤ 127) :
    Calls Try.prog 6 #[.slice s0 len cap, .int .i64 n] w fun e w' => e = .returned (.bool true) ∧ Below w.heap.size w w' := by
  have hr' := Lib.hid hr
  have hz' := Lib.hid hz
  have hzl := Lib.hid (show zs.length = len by have := hr.len; simpa using this)
  clear hr hz
  have hd : decide ((100 : Int) < (len : Int)) = false := by simp; omega
  go_enter Try.func6, Try.ntmps6
  go_wp2_with (go_at_call 11; refine (awake_any _).mono ?_; rintro e w1 ⟨rfl, hb1⟩)
  have h0 := q_start (St.start w hb1) 26 3 1
  go_loopg [27] len (ClRel1 w w1.heap.size len zs)
  case atStart => exact ⟨0, rfl, Nat.zero_le _, rfl, h0⟩
  case round =>
    obtain ⟨k, hg, hk, rfl, hp⟩ := hrel
    have Hg := Lib.hid hg
    have Hp := Lib.hid hp
    clear hg hp hb1 h0
    by_cases hlt : k < len
    · obtain ⟨gl, ol, rfl, hcell⟩ := hr'.out.addr (by omega)
      have hkz : k < zs.length := by rw [hzl.out]; exact hlt
      have hcz := hcell k (.int .i8 zs[k]) (by simp [hkz])
      have hcz2 := Hp.out.old hcz
      obtain ⟨hz1, hz2⟩ := hz'.out zs[k] (List.getElem_mem _)
      have Hs := Lib.hid (ints_take_succ zs k hkz)
      generalize zs[k] = z at *
      clear hcell hcz
      have hlt' : (k : Int) < (len : Int) := by omega
      go_wp2_with fail
      refine (push_st z Hp.out (by omega)).mono ?_
      rintro e w2 ⟨rfl, h2⟩
      go_wp2_with fail
      go_roundg (len - (k + 1))
      case measure => have := Hg.out; omega
      case rel => exact ⟨k + 1, rfl, by omega, by simp, by rw [Hs.out]; exact h2⟩
    · obtain rfl : k = len := by omega
      have e1 : zs.take k = zs := by rw [List.take_of_length_le]; rw [hzl.out]; omega
      rw [e1] at Hp
      clear e1
      go_wp2_with fail
      refine (qclone_st Hp.out (by omega)).mono ?_
      rintro e w2 ⟨s2, c2, rfl, h2⟩
      have H2 := Lib.hid (q_shut (h2.new #[.slice s2 k c2] 26))
      clear h2
      obtain ⟨kk, hkk⟩ : ∃ kk : Nat, min (max n 0) (k : Int) = kk := ⟨(min (max n 0) (k : Int)).toNat, by omega⟩
      have hkk2 : kk ≤ k := by omega
      have HKK := Lib.hid hkk
      clear hkk
      go_wp2_with fail
      refine (take_st n kk HKK.out H2.out.swap (by omega)).mono ?_
      rintro e w3 ⟨s8, c8, rfl, h3⟩
      obtain ⟨j, hj⟩ : ∃ j, k - kk = j := ⟨_, rfl⟩
      rw [hj] at h3
      have hjn : (k : Int) - (kk : Int) = j := by omega
      have HJ := Lib.hid hjn
      have H3 := Lib.hid h3
      clear h3 hj hjn
      go_upto_region 11 with fail
      go_cut [9] (fun v9 wx => v9 = .int .i64 kk ∧ wx = w3)
      case first =>
        rcases Int.lt_or_le n 0 with hm | hm
        · obtain rfl : kk = 0 := by have := HKK.out; omega
          go_wp2_with fail
          go_meet
          exact ⟨rfl, rfl⟩
        · rcases Int.lt_or_le k n with hm2 | hm2
          · obtain rfl : kk = k := by have := HKK.out; omega
            go_wp2_with fail
            go_meet
            exact ⟨rfl, rfl⟩
          · obtain rfl : n = (kk : Int) := by have := HKK.out; omega
            go_wp2_with fail
            go_meet
            exact ⟨rfl, rfl⟩
      case rest =>
        obtain ⟨rfl, rfl⟩ := hcut
        have hjb : ((j : Int) != (k : Int) - (kk : Int)) = false := by have := HJ.out; simp; omega
        go_wp2_with (go_at_call 15; refine (len_st H3.out.swap).mono ?_; rintro e w' ⟨rfl, rfl⟩)
        go_loopg [59] kk (TkRel2 w w1.heap.size w2.heap.size kk j c8 k s8 zs (ints (zs.drop kk)))
        case atStart => exact ⟨0, rfl, Nat.zero_le _, rfl, by have := H3.out.front2; simpa [ints] using this⟩
        case round =>
          obtain ⟨i, hg, hi, rfl, hp⟩ := hrel
          have Hg2 := Lib.hid hg
          have Hp2 := Lib.hid hp
          clear hg hp
          by_cases hik : i < kk
          · have hiz : i < zs.length := by rw [hzl.out]; omega
            have hik' : (i : Int) < (kk : Int) := by omega
            obtain ⟨m, hm⟩ : ∃ m, k - i = m + 1 := ⟨k - i - 1, by omega⟩
            have hp3 := Hp2.out
            rw [hm, List.drop_eq_getElem_cons hiz] at hp3
            have hsl := hp3.swap.sl
            obtain ⟨g8, o8, rfl, hcell8, _, _⟩ := hsl.some_of (Nat.lt_of_lt_of_le (by omega) hsl.le)
            have hc8 := hcell8 i (by omega)
            rw [List.getElem?_append_right (by simp), List.length_replicate, Nat.sub_self] at hc8
            simp [ints, hik, hiz] at hc8
            have Hz := Lib.hid (show (ints ((zs.take kk).drop i)) = .int .i64 zs[i] :: ints ((zs.take kk).drop (i + 1)) by rw [List.drop_eq_getElem_cons (by simp; omega)]; simp [ints])
            have Hm : Hid (k - (i + 1) = m) := by have : k - (i + 1) = m := by omega
                                                  exact this
            have hmb : m ≤ 100 := by omega
            generalize zs[i] = z at *
            have Hp3 := Lib.hid hp3
            clear hp3 hsl hcell8 hm
            go_wp2_with fail
            refine (pop_st z Hp3.out (by omega)).mono ?_
            rintro e w4 ⟨rfl, h4⟩
            have hsl := h4.swap.sl
            obtain ⟨g9, o9, e9, hcell8, hsome, hfr⟩ := hsl.some_of (Nat.lt_of_lt_of_le (by omega) hsl.le)
            cases e9
            have hc9 := hcell8 i (by omega)
            rw [List.getElem?_append_right (by simp), List.length_replicate, Nat.sub_self, Hz.out] at hc9
            simp at hc9
            have hf9 := hfr (o8 + i)
            have H4 := Lib.hid h4
            clear h4 hsl hcell8 hc8 hsome hfr
            go_wp2_with fail
            go_roundg (kk - (i + 1))
            case measure => have := Hg2.out; omega
            case rel =>
              refine ⟨i + 1, rfl, by omega, by simp, ?_⟩
              have h5 := H4.out.swap.row_set i (by omega) (.int .i64 999) rfl
              rw [Hm.out]
              have e5 : (List.replicate i (Value.int .i64 999) ++ ints ((zs.take kk).drop i)).set i (.int .i64 999) = List.replicate (i + 1) (Value.int .i64 999) ++ ints ((zs.take kk).drop (i + 1)) := by
                rw [Hz.out, List.set_append_right _ _ (by simp), List.length_replicate, Nat.sub_self, List.set_cons_zero, List.replicate_succ', List.append_assoc]; rfl
              rw [e5] at h5
              exact h5.swap
          · obtain rfl : i = kk := by omega
            go_wp2_with fail
            have hl2 := q_len Hp2.out
            refine (push_st 5 (Hp2.out.swap.drop.swap) (by have := HJ.out; omega)).mono ?_
            rintro e w4 ⟨rfl, h4⟩
            have hij : k - i = j := by have := HJ.out; omega
            rw [hij] at h4
            have hj100 : j ≤ 100 := by omega
            have H4 := Lib.hid h4
            clear h4 hij hl2
            go_wp2_with fail
            go_loopg [] j (TkRel3 w w1.heap.size w2.heap.size)
            case atStart => exact ⟨j, _, rfl, hj100, H4.out⟩
            case round =>
              obtain ⟨m, ys, hg, hm, hp⟩ := hrel
              have Hg3 := Lib.hid hg
              have Hp3 := Lib.hid hp
              clear hg hp
              cases ys with
              | nil =>
                obtain rfl : m = 0 := (q_len Hp3.out.swap).symm
                go_wp2_with fail
                refine (len_st Hp3.out.swap).mono ?_
                rintro e w' ⟨rfl, rfl⟩
                go_wp2_with fail
                refine (len_st Hp3.out).mono ?_
                rintro e w' ⟨rfl, rfl⟩
                go_wp2_with fail
                go_ret
                exact ⟨by simp, Hp3.out.bel⟩
              | cons y ys =>
                obtain ⟨m, rfl⟩ : ∃ m', m = m' + 1 := ⟨m - 1, by have := q_len Hp3.out.swap; simp [ints] at this; omega⟩
                have hpos : (0 : Int) < (m : Int) + 1 := by omega
                go_wp2_with fail
                refine (len_st Hp3.out.swap).mono ?_
                rintro e w' ⟨rfl, rfl⟩
                go_wp2_with fail
                refine (pop_st y Hp3.out.swap (by omega)).mono ?_
                rintro e w5 ⟨rfl, h5⟩
                go_wp2_with fail
                refine (pop_st y h5.swap (by omega)).mono ?_
                rintro e w6 ⟨rfl, h6⟩
                go_wp2_with fail
                go_roundg m
                case measure => have := Hg3.out; omega
                case rel => exact ⟨m, ys, rfl, by omega, h6⟩
end Go.Proofs.Ytkddkbjgnndflaa
