/-
  HitCaret: Width and Offset.
-/
import Derived.Test.YtfjjgebfeklnhaaDoorPa
set_option linter.unusedVariables false
set_option linter.unusedSimpArgs false
namespace Go.Proofs.YtfjjgebfeklnhaaDoor
open Go.RowKit Go.K Go.Lib

theorem wrapS {a : Int} (h1 : -(2 ^ 62) ≤ a) (h2 : a ≤ 2 ^ 62) : IntKind.i64.wrap a = a := by
  simp [IntKind.wrap, IntKind.bits, IntKind.signed, Int.bmod]; omega
theorem cum_in (sz : Int) (s : ByteArray) (hs : s.size ≤ 1000) {j : Nat} (hj : j ≤ runeCount s) : 0 ≤ cumW (chW sz) s j ∧ cumW (chW sz) s j ≤ 1048577000 := by
  have h1 := cumW_nonneg (fun r => (chW_in sz r).1) s j
  have h2 := cumW_le (B := 1048577) (by decide) (fun r => (chW_in sz r).2) s j
  have h3 := runeCount_le s
  omega
set_option maxRecDepth 100000 in
set_option maxHeartbeats 2000000 in
theorem width_any (s : ByteArray) (sz : Int) (w : World) (hs : s.size ≤ 1000) :
    Calls Tryd.prog 12 #[.string s, .int .i64 sz] w fun e w' => e = .returned (.int .i64 (cumW (chW sz) s (runeCount s))) ∧ ∃ pos, w' = w.iter s pos := by
  go_enter Tryd.func12, Tryd.ntmps12
  go_wp2_with fail
  go_loopw [5] (fun n w' => ∃ j : Nat, j ≤ runeCount s ∧ w' = w.iter s (posAt s j) ∧ n = .int .i64 (cumW (chW sz) s j)) (fun _ w' => s.size - w'.iterPos w.heap.size)
  case atStart => exact ⟨0, Nat.zero_le _, rfl, rfl⟩
  case round =>
    obtain ⟨j, hj, rfl, rfl⟩ := hrel
    by_cases hp : posAt s j < s.size
    · have hnx : ∀ ty, (Instr.next (.pointer (some ⟨w.heap.size, 0, none⟩)) true ty).run Tryd.prog (w.iter s (posAt s j)) = _ := fun ty => run_next_any w s (posAt s j) ty hp
      have h1 := cum_in sz s hs hj
      have h2 := chW_in sz (Utf8.decode s (posAt s j)).1
      have hwr := wrapS (a := cumW (chW sz) s j + chW sz (Utf8.decode s (posAt s j)).1) (by omega) (by omega)
      have hl := posAt_lt hp
      have hs2 := posAt_succ hp
      have hc2 := cumW_succ (f := chW sz) hp
      have hin := in_of_pos s hp
      go_wp2_with (go_at_call 24; refine (char_any _ _ _).mono ?_; rintro e w' ⟨rfl, rfl⟩)
      go_roundw
      case rel => exact ⟨j + 1, by omega, by rw [hs2], by rw [hc2]⟩
      case measure => simp; omega
    · have hnx : ∀ ty, (Instr.next (.pointer (some ⟨w.heap.size, 0, none⟩)) true ty).run Tryd.prog (w.iter s (posAt s j)) = _ := fun ty => run_next_end w s (posAt s j) ty hp
      go_wp2_with fail
      go_ret
      have he := at_end s hj hp
      exact ⟨by rw [he]; rfl, _, rfl⟩
/-- which boundary is the nearest one among the first m -/
def bst (f : Int → Int) (s : ByteArray) (x : Int) : Nat → Nat × Int
  | 0 => (0, x)
  | j + 1 => if max (cumW f s j - x) (x - cumW f s j) < (bst f s x j).2 then (j, max (cumW f s j - x) (x - cumW f s j)) else bst f s x j
theorem bst_spec (f : Int → Int) (s : ByteArray) (x : Int) (hx : 0 ≤ x) : ∀ m, (bst f s x m).1 ≤ m - 1 ∧ (bst f s x m).2 = max (cumW f s (bst f s x m).1 - x) (x - cumW f s (bst f s x m).1) ∧
    ∀ k, k < m → (bst f s x m).2 ≤ max (cumW f s k - x) (x - cumW f s k) ∧ (k < (bst f s x m).1 → (bst f s x m).2 < max (cumW f s k - x) (x - cumW f s k))
  | 0 => ⟨Nat.le_refl _, by simp [bst, cumW]; omega, fun k hk => absurd hk (Nat.not_lt_zero _)⟩
  | m + 1 => by
    obtain ⟨h1, h2, h3⟩ := bst_spec f s x hx m
    rw [bst]
    by_cases q : max (cumW f s m - x) (x - cumW f s m) < (bst f s x m).2
    · rw [if_pos q]
      refine ⟨by simp, rfl, fun k hk => ?_⟩
      rcases Nat.lt_or_ge k m with g | g
      · have := h3 k g
        simp only
        omega
      · obtain rfl : k = m := by omega
        simp
    · rw [if_neg q]
      refine ⟨by omega, h2, fun k hk => ?_⟩
      rcases Nat.lt_or_ge k m with g | g
      · exact h3 k g
      · obtain rfl : k = m := by omega
        refine ⟨by omega, fun g2 => by omega⟩
theorem bst_in (f : Int → Int) (s : ByteArray) (x B : Int) (hx : 0 ≤ x) (hB : x ≤ B) : ∀ m, 0 ≤ (bst f s x m).2 ∧ (bst f s x m).2 ≤ B
  | 0 => ⟨hx, hB⟩
  | m + 1 => by
    have ih := bst_in f s x B hx hB m
    rw [bst]
    split
    · simp only; omega
    · exact ih
/-- the boundary that Offset chooses -/
def offN (f : Int → Int) (s : ByteArray) (x : Int) : Nat := (bst f s (min (max x 0) (cumW f s (runeCount s))) (runeCount s + 1)).1
theorem off_best {f : Int → Int} (hf : ∀ r, 0 ≤ f r) (s : ByteArray) (x : Int) (hx : 0 ≤ x) (k : Nat) (hk : k ≤ runeCount s) :
    ¬ (max (cumW f s k - x) (x - cumW f s k) < max (cumW f s (offN f s x) - x) (x - cumW f s (offN f s x)) ∨ (max (cumW f s k - x) (x - cumW f s k) = max (cumW f s (offN f s x) - x) (x - cumW f s (offN f s x)) ∧ k < offN f s x)) := by
  have h0 := cumW_nonneg hf s (runeCount s)
  obtain ⟨h1, h2, h3⟩ := bst_spec f s (min (max x 0) (cumW f s (runeCount s))) (by omega) (runeCount s + 1)
  have h4 := h3 k (by omega)
  have h5 := cumW_mono hf s hk
  have h6 := cumW_mono hf s (show offN f s x ≤ runeCount s by unfold offN; omega)
  unfold offN at h6 ⊢
  generalize hb : bst f s (min (max x 0) (cumW f s (runeCount s))) (runeCount s + 1) = b at *
  omega
theorem off_le (f : Int → Int) (s : ByteArray) (x : Int) (hf : ∀ r, 0 ≤ f r) : offN f s x ≤ runeCount s := by
  have h0 := cumW_nonneg hf s (runeCount s)
  have := (bst_spec f s (min (max x 0) (cumW f s (runeCount s))) (by omega) (runeCount s + 1)).1
  unfold offN
  omega
set_option maxRecDepth 100000 in
set_option maxHeartbeats 4000000 in
theorem offset_any (s : ByteArray) (sz x : Int) (w : World) (hs : s.size ≤ 1000) :
    Calls Tryd.prog 19 #[.string s, .int .i64 sz, .int .i64 x] w fun e w' => e = .returned (.int .i64 (posAt s (offN (chW sz) s x))) ∧ Below w.heap.size w w' := by
  have m1 : ∀ a b : Int, (if a < b then b else a) = max a b := by intro a b; split <;> omega
  have m2 : ∀ a b : Int, (if b < a then b else a) = min a b := by intro a b; split <;> omega
  have hf : ∀ r, 0 ≤ chW sz r := fun r => (chW_in sz r).1
  have hn := cum_in sz s hs (Nat.le_refl _)
  obtain ⟨z, hz⟩ : ∃ z, min (max x 0) (cumW (chW sz) s (runeCount s)) = z := ⟨_, rfl⟩
  have hzb : 0 ≤ z ∧ z ≤ 1048577000 := by omega
  obtain ⟨N, hN⟩ : ∃ N, cumW (chW sz) s (runeCount s) = N := ⟨_, rfl⟩
  have HW := Lib.hid fun w => width_any s sz w hs
  have HZ := Lib.hid hz
  rw [hN] at HZ
  simp only [hN] at HW
  have HN := Lib.hid hN
  clear hz hN hn
  go_enter Tryd.func19, Tryd.ntmps19
  go_wp2_with (go_at_call 12; refine (HW.out _).mono ?_; rintro e w' ⟨rfl, pos, rfl⟩)
  obtain ⟨W1, hW1⟩ : ∃ W1, w.iter s pos = W1 := ⟨_, rfl⟩
  have hB1 : Below w.heap.size w W1 := by rw [← hW1]; exact (Below.refl _ _).alloc (Nat.le_refl _) _
  have HB1 := Lib.hid hB1
  rw [hW1, HZ.out]
  clear hW1 hB1
  go_loopw [7, 8, 9] (fun v7 v8 v9 w' => ∃ j : Nat, j ≤ runeCount s ∧ w' = W1.iter s (posAt s j) ∧ v7 = .int .i64 (posAt s (bst (chW sz) s z j).1) ∧ v8 = .int .i64 (bst (chW sz) s z j).2 ∧ v9 = .int .i64 (cumW (chW sz) s j)) (fun _ _ _ w' => s.size - w'.iterPos W1.heap.size)
  case atStart => exact ⟨0, Nat.zero_le _, rfl, rfl, rfl, rfl⟩
  case round =>
    obtain ⟨j, hj, rfl, rfl, rfl, rfl⟩ := hrel
    have h1 := cum_in sz s hs hj
    have h3 := bst_in (chW sz) s z 1048577000 hzb.1 hzb.2 j
    obtain ⟨C, hC⟩ : ∃ C, cumW (chW sz) s j = C := ⟨_, rfl⟩
    obtain ⟨R, hR⟩ : ∃ R, (bst (chW sz) s z j).2 = R := ⟨_, rfl⟩
    have HC := Lib.hid hC
    have HR := Lib.hid hR
    rw [hC] at h1 ⊢
    rw [hR] at h3 ⊢
    clear hC hR
    have w1 := wrapS (a := C - z) (by omega) (by omega)
    have w2 := wrapS (a := z - C) (by omega) (by omega)
    obtain ⟨d, hd⟩ : ∃ d, max (C - z) (z - C) = d := ⟨_, rfl⟩
    have HD := Lib.hid hd
    have m3 : ∀ a b : Int, (if a < b then b else a) = max a b := m1
    by_cases hp : posAt s j < s.size
    · have hnx : ∀ ty, (Instr.next (.pointer (some ⟨W1.heap.size, 0, none⟩)) true ty).run Tryd.prog (W1.iter s (posAt s j)) = _ := fun ty => run_next_any W1 s (posAt s j) ty hp
      have h2 := chW_in sz (Utf8.decode s (posAt s j)).1
      have hwr := wrapS (a := C + chW sz (Utf8.decode s (posAt s j)).1) (by omega) (by omega)
      have hl := posAt_lt hp
      have HS2 := Lib.hid (posAt_succ hp)
      have HC2 := Lib.hid (cumW_succ (f := chW sz) hp)
      have hin := in_of_pos s hp
      have hb : bst (chW sz) s z (j + 1) = if d < R then (j, d) else bst (chW sz) s z j := by rw [bst, HC.out, HR.out, hd]
      have HB := Lib.hid hb
      clear hb
      by_cases hq : d < R
      · go_wp2_with (go_at_call 24; refine (char_any _ _ _).mono ?_; rintro e w' ⟨rfl, rfl⟩)
        go_roundw
        case rel => exact ⟨j + 1, by omega, by rw [HS2.out], by rw [HB.out, if_pos hq], by rw [HB.out, if_pos hq], by rw [HC2.out, HC.out]⟩
        case measure => simp; rw [← HS2.out]; omega
      · go_wp2_with (go_at_call 24; refine (char_any _ _ _).mono ?_; rintro e w' ⟨rfl, rfl⟩)
        go_roundw
        case rel => exact ⟨j + 1, by omega, by rw [HS2.out], by rw [HB.out, if_neg (show ¬ d < R by omega)], by rw [HB.out, if_neg (show ¬ d < R by omega), HR.out], by rw [HC2.out, HC.out]⟩
        case measure => simp; rw [← HS2.out]; omega
    · have hnx : ∀ ty, (Instr.next (.pointer (some ⟨W1.heap.size, 0, none⟩)) true ty).run Tryd.prog (W1.iter s (posAt s j)) = _ := fun ty => run_next_end W1 s (posAt s j) ty hp
      have hend : Below w.heap.size w (W1.iter s (posAt s j)) := HB1.out.alloc HB1.out.size _
      have HE := Lib.hid hend
      have HJ := Lib.hid (at_end s hj hp)
      have HPN := Lib.hid (posAt_n s)
      have ho : offN (chW sz) s x = (if d < R then (j, d) else bst (chW sz) s z j).1 := by
        unfold offN
        rw [HN.out, HZ.out, ← HJ.out, bst, HC.out, HR.out, hd]
      have HO := Lib.hid ho
      have hsz : posAt s j = s.size := by rw [HJ.out]; exact HPN.out
      have HSZ := Lib.hid hsz
      clear ho hsz hend
      by_cases hq : d < R
      · go_wp2_with fail
        refine bodyPost_ret (results_tmp Tryd.results19 _ _ _) rfl ⟨?_, HE.out⟩
        rw [HO.out, if_pos hq]
        simp only [HSZ.out]
        rfl
      · go_wp2_with fail
        refine bodyPost_ret (results_tmp Tryd.results19 _ _ _) rfl ⟨?_, HE.out⟩
        rw [HO.out, if_neg (show ¬ d < R by omega)]
        rfl
end Go.Proofs.YtfjjgebfeklnhaaDoor
