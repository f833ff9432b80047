/-
  PaintDraws: the chapter's reading of UTF-8 (in, tail, second, Size) is the model's decode.
-/
import Derived.Test.YtifgjccnhbbadaaNb
import Derived.Test.YtifgjccnhbbadaaKv
import Derived.PlainAid
set_option linter.unusedVariables false
set_option linter.unusedSimpArgs false
namespace Go.Proofs.Ytifgjccnhbbadaa
open Go.RowKit Go.K Go.PlainAid

def inB (s : ByteArray) (i : Nat) (lo hi : Int) : Bool := decide (i < s.size) && decide (lo ≤ bt s i) && decide (bt s i ≤ hi)
theorem in_any (s : ByteArray) (i : Nat) (lo hi : Int) (w : World) (hi0 : i ≤ 100000) : Calls Try.prog 39 #[.string s, .int .i64 (i : Nat), .int .u8 lo, .int .u8 hi] w fun e w' => e = .returned (.bool (inB s i lo hi)) ∧ w' = w := by
  have hb := get_bt s
  by_cases h1 : i < s.size
  · have h1I : (i : Int) < (s.size : Int) := by omega
    by_cases h2 : lo ≤ bt s i <;> by_cases h3 : bt s i ≤ hi
    all_goals
      have hr : inB s i lo hi = (decide (i < s.size) && decide (lo ≤ bt s i) && decide (bt s i ≤ hi)) := rfl
      rw [hr]
      simp only [h1, h2, h3, decide_true, decide_false, Bool.and_true, Bool.and_false]
      clear hr
      go_enter Try.func39, Try.ntmps39
      go_wp2_with fail
      exact bodyPost_ret (results_tmp Try.results39 _ _ _) rfl ⟨rfl, rfl⟩
  · have h1I : ¬ (i : Int) < (s.size : Int) := by omega
    have hr : inB s i lo hi = false := by simp [inB, h1]
    rw [hr]
    clear hr
    go_enter Try.func39, Try.ntmps39
    go_wp2_with fail
    exact bodyPost_ret (results_tmp Try.results39 _ _ _) rfl ⟨rfl, rfl⟩
def tailB (s : ByteArray) (i n : Nat) : Bool := (List.range n).all fun k => inB s (i + k) 128 191
def TlRel (s : ByteArray) (i n : Nat) (w : World) (g : Nat) (v : Value) (wr : World) : Prop := ∃ k : Nat, g = n - k ∧ k ≤ n ∧ v = .int .i64 k ∧ wr = w ∧ (List.range k).all (fun k => inB s (i + k) 128 191) = true
set_option maxHeartbeats 1000000 in
theorem tail_any (s : ByteArray) (i n : Nat) (w : World) (hi : i ≤ 1000) (hn : n ≤ 10) : Calls Try.prog 40 #[.string s, .int .i64 (i : Nat), .int .i64 (n : Nat)] w fun e w' => e = .returned (.bool (tailB s i n)) ∧ w' = w := by
  go_enter Try.func40, Try.ntmps40
  go_wp2_with fail
  go_loopg [7] n (TlRel s i n w)
  case atStart => exact ⟨0, rfl, Nat.zero_le _, rfl, rfl, rfl⟩
  case round =>
    obtain ⟨k, hg, hk, rfl, rfl, ha⟩ := hrel
    have Hg := Lib.hid hg
    have HA := Lib.hid ha
    clear hg ha
    by_cases hkn : k < n
    · have hkI : (k : Int) < (n : Int) := by omega
      have hw := wrapS (a := (i : Int) + k) (by omega) (by omega)
      have hc : ((i : Int) + (k : Int)) = ((i + k : Nat) : Int) := by omega
      obtain ⟨b, hb⟩ : ∃ b, inB s (i + k) 128 191 = b := ⟨_, rfl⟩
      have HB := Lib.hid hb
      have hin := in_any s (i + k) 128 191 wr (by omega)
      rw [hb, ← hc] at hin
      have HIN := Lib.hid hin
      clear hb hin hc
      have hall : (List.range (k + 1)).all (fun k => inB s (i + k) 128 191) = b := by rw [List.range_succ, List.all_append, HA.out]; simp [HB.out]
      have HALL := Lib.hid hall
      clear hall
      cases b with
      | true =>
        go_wp2_with (go_at_call 39; refine HIN.out.mono ?_; rintro e w' ⟨rfl, rfl⟩)
        go_roundg (n - (k + 1))
        case measure => have := Hg.out; omega
        case rel => exact ⟨k + 1, rfl, by omega, rfl, rfl, HALL.out⟩
      | false =>
        have hf : tailB s i n = false := by
          rw [tailB, List.all_eq_false]
          exact ⟨k, List.mem_range.2 hkn, by simp [HB.out]⟩
        have HF := Lib.hid hf
        clear hf
        go_wp2_with (go_at_call 39; refine HIN.out.mono ?_; rintro e w' ⟨rfl, rfl⟩)
        exact bodyPost_ret (results_tmp Try.results40 _ _ _) rfl ⟨by rw [HF.out]; rfl, rfl⟩
    · have hkI : ¬ (k : Int) < (n : Int) := by omega
      have hke : k = n := by omega
      have ht : tailB s i n = true := by rw [tailB, ← hke]; exact HA.out
      have HTT := Lib.hid ht
      clear hke ht
      go_wp2_with fail
      exact bodyPost_ret (results_tmp Try.results40 _ _ _) rfl ⟨by rw [HTT.out]; rfl, rfl⟩
def secB (s : ByteArray) (i : Nat) : Bool :=
  if bt s i = 224 then inB s (i + 1) 160 191 else if bt s i = 237 then inB s (i + 1) 128 159 else if bt s i = 240 then inB s (i + 1) 144 191 else if bt s i = 244 then inB s (i + 1) 128 143 else inB s (i + 1) 128 191
set_option maxHeartbeats 1000000 in
theorem second_any (s : ByteArray) (i : Nat) (w : World) (hi : i < s.size) (hi2 : i ≤ 1000) : Calls Try.prog 41 #[.string s, .int .i64 (i : Nat)] w fun e w' => e = .returned (.bool (secB s i)) ∧ w' = w := by
  have hb := get_bt s
  have hiI : (i : Int) < (s.size : Int) := by omega
  have hw := wrapS (a := (i : Int) + 1) (by omega) (by omega)
  have HIN := Lib.hid fun lo hi w => in_any s (i + 1) lo hi w (by omega)
  have hc : ((i + 1 : Nat) : Int) = (i : Int) + 1 := by omega
  rw [hc] at HIN
  obtain ⟨z, hz⟩ : ∃ z, bt s i = z := ⟨_, rfl⟩
  have hz2 : ((s[i]'hi).toNat : Int) = z := by rw [hb]; exact hz
  unfold secB
  rw [hz]
  clear hb hz hc
  by_cases h1 : z = 224
  · subst h1
    go_enter Try.func41, Try.ntmps41
    go_wp2_with (go_at_call 39; refine (HIN.out _ _ _).mono ?_; rintro e w' ⟨rfl, rfl⟩)
    exact bodyPost_ret (results_tmp Try.results41 _ _ _) rfl ⟨rfl, rfl⟩
  by_cases h2 : z = 237
  · subst h2
    go_enter Try.func41, Try.ntmps41
    go_wp2_with (go_at_call 39; refine (HIN.out _ _ _).mono ?_; rintro e w' ⟨rfl, rfl⟩)
    exact bodyPost_ret (results_tmp Try.results41 _ _ _) rfl ⟨rfl, rfl⟩
  by_cases h3 : z = 240
  · subst h3
    go_enter Try.func41, Try.ntmps41
    go_wp2_with (go_at_call 39; refine (HIN.out _ _ _).mono ?_; rintro e w' ⟨rfl, rfl⟩)
    exact bodyPost_ret (results_tmp Try.results41 _ _ _) rfl ⟨rfl, rfl⟩
  by_cases h4 : z = 244
  · subst h4
    go_enter Try.func41, Try.ntmps41
    go_wp2_with (go_at_call 39; refine (HIN.out _ _ _).mono ?_; rintro e w' ⟨rfl, rfl⟩)
    exact bodyPost_ret (results_tmp Try.results41 _ _ _) rfl ⟨rfl, rfl⟩
  · rw [if_neg h1, if_neg h2, if_neg h3, if_neg h4]
    go_enter Try.func41, Try.ntmps41
    go_wp2_with (go_at_call 39; refine (HIN.out _ _ _).mono ?_; rintro e w' ⟨rfl, rfl⟩)
    exact bodyPost_ret (results_tmp Try.results41 _ _ _) rfl ⟨rfl, rfl⟩
/-- the length of the valid sequence at a place (0: none) -/
def sizeZ (s : ByteArray) (i : Nat) : Int :=
  if inB s i 0 127 then 1 else if inB s i 194 223 && tailB s (i + 1) 1 then 2 else if inB s i 224 239 && secB s i && tailB s (i + 2) 1 then 3 else if inB s i 240 244 && secB s i && tailB s (i + 2) 2 then 4 else 0
set_option maxHeartbeats 2000000 in
theorem size_any (s : ByteArray) (i : Nat) (w : World) (hi : i < s.size) (hs : s.size ≤ 900) : Calls Try.prog 31 #[.string s, .int .i64 (i : Nat)] w fun e w' => e = .returned (.int .i64 (sizeZ s i)) ∧ w' = w := by
  have HIN := Lib.hid fun lo hi w => in_any s i lo hi w (by omega)
  have HT1 := Lib.hid fun n w (h : n ≤ 10) => tail_any s (i + 1) n w (by omega) h
  have HT2 := Lib.hid fun n w (h : n ≤ 10) => tail_any s (i + 2) n w (by omega) h
  have HS := Lib.hid fun w => second_any s i w hi (by omega)
  have hw1 := wrapS (a := (i : Int) + 1) (by omega) (by omega)
  have hw2 := wrapS (a := (i : Int) + 2) (by omega) (by omega)
  have c1 : ((i + 1 : Nat) : Int) = (i : Int) + 1 := by omega
  have c2 : ((i + 2 : Nat) : Int) = (i : Int) + 2 := by omega
  rw [c1] at HT1
  rw [c2] at HT2
  have T11 := Lib.hid (fun w => (show Calls Try.prog 40 #[.string s, .int .i64 ((i : Int) + 1), .int .i64 1] w fun e w' => e = .returned (.bool (tailB s (i + 1) 1)) ∧ w' = w from HT1.out 1 w (by decide)))
  have T21 := Lib.hid (fun w => (show Calls Try.prog 40 #[.string s, .int .i64 ((i : Int) + 2), .int .i64 1] w fun e w' => e = .returned (.bool (tailB s (i + 2) 1)) ∧ w' = w from HT2.out 1 w (by decide)))
  have T22 := Lib.hid (fun w => (show Calls Try.prog 40 #[.string s, .int .i64 ((i : Int) + 2), .int .i64 2] w fun e w' => e = .returned (.bool (tailB s (i + 2) 2)) ∧ w' = w from HT2.out 2 w (by decide)))
  have I1 := Lib.hid (HIN.out 0 127)
  have I2 := Lib.hid (HIN.out 194 223)
  have I3 := Lib.hid (HIN.out 224 239)
  have I4 := Lib.hid (HIN.out 240 244)
  unfold sizeZ
  generalize inB s i 0 127 = b1 at *
  generalize inB s i 194 223 = b2 at *
  generalize inB s i 224 239 = b3 at *
  generalize inB s i 240 244 = b4 at *
  generalize tailB s (i + 1) 1 = t11 at *
  generalize tailB s (i + 2) 1 = t21 at *
  generalize tailB s (i + 2) 2 = t22 at *
  generalize secB s i = sb at *
  clear HIN HT1 HT2 c1 c2
  cases b1 <;> cases b2 <;> cases b3 <;> cases b4 <;> cases t11 <;> cases t21 <;> cases t22 <;> cases sb
  all_goals
    go_enter Try.func31, Try.ntmps31
    go_wp2_with (first
      | (go_at_call 39; refine (I1.out _).mono ?_; rintro e w' ⟨rfl, rfl⟩; clear I1)
      | (go_at_call 39; refine (I2.out _).mono ?_; rintro e w' ⟨rfl, rfl⟩; clear I2)
      | (go_at_call 39; refine (I3.out _).mono ?_; rintro e w' ⟨rfl, rfl⟩; clear I3)
      | (go_at_call 39; refine (I4.out _).mono ?_; rintro e w' ⟨rfl, rfl⟩; clear I4)
      | (go_at_call 40; with_reducible refine (T11.out _).mono ?_; rintro e w' ⟨rfl, rfl⟩; clear T11)
      | (go_at_call 40; with_reducible refine (T21.out _).mono ?_; rintro e w' ⟨rfl, rfl⟩; clear T21)
      | (go_at_call 40; with_reducible refine (T22.out _).mono ?_; rintro e w' ⟨rfl, rfl⟩; clear T22)
      | (go_at_call 41; refine (HS.out _).mono ?_; rintro e w' ⟨rfl, rfl⟩))
    exact bodyPost_ret (results_tmp Try.results31 _ _ _) rfl ⟨rfl, rfl⟩
end Go.Proofs.Ytifgjccnhbbadaa
