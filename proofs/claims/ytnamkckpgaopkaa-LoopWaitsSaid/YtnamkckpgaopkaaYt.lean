/-
  Due of a State.
-/
import Derived.Test.YtnamkckpgaopkaaYs
set_option linter.unusedVariables false
set_option linter.unusedSimpArgs false
namespace Go.Proofs.Ytnamkckpgaopkaa
open Go.RowKit Go.K

theorem tfirst_go {w0 w : World} {L : List As} {b : Nat} {S : LS} (h : St w0 w (stO b S :: L)) (hn : S.tm.length ≤ 100000) :
    Calls Try.prog 56 #[.pointer (some ⟨b, 8, none⟩)] w (FirstPost S.tm w) := by
  obtain ⟨p, G, -, h⟩ := st_open h
  exact tfirst_st (foc_t h) hn
theorem best_nil {S : LS} {R : RL} (h : Rl S R) (ht : S.tm = []) : bestR R < 0 := by
  have hw := h.wt
  rw [ht] at hw
  rw [bestR, wt_nil hw]
  decide
theorem best_cons {S : LS} {R : RL} {t : Tm} {r : List Tm} (h : Rl S R) (ht : S.tm = t :: r) : 0 ≤ bestR R ∧ dueAt R = t.due := by
  have hw := h.wt
  rw [ht] at hw
  obtain ⟨b, hb, h1, h2, h3⟩ := wt_best hw
  have e : bestR R = b := h1
  refine ⟨by omega, ?_⟩
  rw [dueAt, e, Int.toNat_natCast, nthM_eq hb, ← h3]
  rfl
def DueO (R : RL) (a : Int) (ok : Bool) : Prop := ∃ R' d ls, RTakeR R R' d ls ∧ ((d.kd ≠ 0 ∧ a = R.now ∧ ok = true) ∨ (d.kd = 0 ∧ DueA R a ok))
def DuePost (S : LS) (R : RL) (b : Nat) (w0 : World) (L : List As) (E : Ending) (w' : World) : Prop :=
  ∃ a ok, E = .returned (.tuple #[.int .i64 a, .bool ok]) ∧ DueO R a ok ∧ St w0 w' (stO b S :: L)
set_option maxRecDepth 100000 in
set_option maxHeartbeats 4000000 in
theorem due_st {w0 w : World} {L : List As} {b k : Nat} {N : Int} {S : LS} {R : RL} (hr : Rl S R) (hb : Bk k N R) (hk : k ≤ 1000) (hN : N ≤ 4000000) (h : St w0 w (stO b S :: L)) :
    Calls Try.prog 28 #[.pointer (some ⟨b, 0, none⟩)] w (DuePost S R b w0 L) := by
  have HR := Lib.hid hr
  have HB := Lib.hid hb
  have HSB := Lib.hid (hr.bnd hb (by omega) (by omega))
  have H := Lib.hid h
  clear h hr hb
  have z37 : ∀ w, (zeroValue 37).run Try.prog w = .ok (.agg #[.int .i64 0, .slice none 0 0, .slice none 0 0, .slice none 0 0, .slice none 0 0, .slice none 0 0, .int .i64 0, .slice none 0 0, .slice none 0 0, .int .i64 0, .slice none 0 0, .slice none 0 0, .int .i64 0, .bool false, .int .i64 0, .int .i64 0]) w := fun w => by kernel_rfl
  go_enter Try.func28, Try.ntmps28
  go_upto_region 2 with (first
    | (go_at_call 26; refine (clone_go HR.out HB.out (by omega) (by omega) H.out).mono ?_; rintro e w6 ⟨S9, p9, G9, rfl, hc9, h6⟩; have HC9 := Lib.hid hc9; have h7 := h6.new zcells 37; have H7 := Lib.hid h7; clear hc9 h6 h7)
    | (refine st_store rfl (.tmp 4) (.tmp 8) rfl H7.out (stc S9 p9).toList rfl rfl rfl rfl size37 (stc_one S9 p9) ?_; intro W8 HW8; have H8 := Lib.hid (clo_shut HC9.out.2 HW8); clear HW8)
    | fail)
  obtain ⟨m4, hm4⟩ : ∃ m, w6.heap.size = m := ⟨_, rfl⟩
  rw [hm4] at H8
  try simp only [hm4]
  clear hm4 H7 H
  go_upto_if 11 with (first
    | (go_at_call 13; refine (next_alone HC9.out.1 HB.out (by omega) (by omega) H8.out).mono ?_; rintro e w10 ⟨S10, R10, x, d, ls, rfl, ht10, -, h10⟩; have HT := Lib.hid ht10; have H10 := Lib.hid h10.swap; have hf := hfld x; clear ht10 h10)
    | fail)
  clear hf
  by_cases hx : x.k = 0
  · have hxb : (x.k != 0) = false := by simp [hx]
    have HX := Lib.hid (show d.kd = 0 from by rw [← HT.out.2]; exact hx)
    clear hx
    have H11 := Lib.hid (show St w0 w10 (stO b S :: L) from H10.out.swap.drop)
    cases htm : S.tm with
    | nil =>
      have HTM := Lib.hid htm
      clear htm
      go_upto_region 5 with (first
        | (go_at_call 56; refine (tfirst_go H11.out HSB.out.tm).mono ?_; rintro e w12 ⟨rfl, hb12⟩; rw [HTM.out]; simp only [List.headD_nil, List.headD_cons, List.isEmpty_nil, List.isEmpty_cons, Bool.not_true, Bool.not_false, Tm.val, Tm.zero]; have H12 := Lib.hid (H11.out.of_below hb12); clear hb12)
        | fail)
      have h13 := H12.out.new #[.int .i64 0, .int .i64 0, .int .i64 0] 95
      obtain ⟨m5, hm5⟩ : ∃ m, w12.heap.size = m := ⟨_, rfl⟩
      obtain ⟨W13, hW13⟩ : ∃ W, w12.alloc (.cells #[.int .i64 0, .int .i64 0, .int .i64 0] 95) = W := ⟨_, rfl⟩
      rw [hW13, hm5] at h13
      rw [hW13]
      try simp only [hm5]
      have H13 := Lib.hid h13
      clear h13 hW13 hm5 H12 H11 H10
      have k1 : W13.cell? ⟨m5, 1, none⟩ = some (.int .i64 0) := by rw [H13.out.blk.1.cell]; rfl
      obtain ⟨pq, Gq, -, hq⟩ := st_open H13.out.swap
      obtain ⟨-, -, -, -, c13, c14, -⟩ := st_c hq
      obtain ⟨-, -, -, c11⟩ := st_s hq
      rw [HR.out.dirty] at c13
      rw [HR.out.shown] at c14
      have esl : S.shots.length = R.shots.length := by rw [HR.out.shots, List.length_map]
      rw [esl] at c11
      have hws : IntKind.i64.wrap (R.shown + 16) = R.shown + 16 := by rw [IntKind.wrap_i64]; have := HB.out.sh0; have := HB.out.sh1; omega
      have m2 : ∀ a b : Int, (if b < a then b else a) = min a b := fun a b => by split <;> omega
      clear hq esl
      cases hdt : R.dirty with
      | true =>
        rw [hdt] at c13
        have HF := Lib.hid (show hasF R from .inl hdt)
        clear hdt
        go_wp2_with fail
        refine bodyPost_ret (v := .tuple #[.int .i64 (R.shown + 16), .bool true]) (by simp [results, Try.results28, go_sem]) rfl ?_
        exact ⟨_, _, rfl, ⟨_, d, ls, HT.out.1, .inr ⟨HX.out, .inl ⟨HF.out, rfl, .inl ⟨best_nil HR.out HTM.out, rfl⟩⟩⟩⟩, H13.out.drop⟩
      | false =>
        rw [hdt] at c13
        by_cases hl : 0 < R.shots.length
        · have hlb : decide (0 < R.shots.length) = true := by simpa using hl
          have hlI : (0 : Int) < (R.shots.length : Int) := by omega
          have HF := Lib.hid (show hasF R from .inr (List.length_pos_iff.1 hl))
          clear hdt
          go_wp2_with fail
          refine bodyPost_ret (v := .tuple #[.int .i64 (R.shown + 16), .bool true]) (by simp [results, Try.results28, go_sem]) rfl ?_
          exact ⟨_, _, rfl, ⟨_, d, ls, HT.out.1, .inr ⟨HX.out, .inl ⟨HF.out, rfl, .inl ⟨best_nil HR.out HTM.out, rfl⟩⟩⟩⟩, H13.out.drop⟩
        · have hlb : decide (0 < R.shots.length) = false := by simpa using hl
          have hlI : ¬ (0 : Int) < (R.shots.length : Int) := by omega
          have HF := Lib.hid (show ¬ hasF R from by rintro (q | q); rw [hdt] at q; cases q; exact q (List.eq_nil_of_length_eq_zero (by omega)))
          clear hdt
          go_wp2_with fail
          refine bodyPost_ret (v := .tuple #[.int .i64 (0), .bool false]) (by simp [results, Try.results28, go_sem]) rfl ?_
          exact ⟨_, _, rfl, ⟨_, d, ls, HT.out.1, .inr ⟨HX.out, .inr ⟨HF.out, .inl ⟨best_nil HR.out HTM.out, rfl⟩⟩⟩⟩, H13.out.drop⟩
    | cons t r =>
      have HTM := Lib.hid htm
      clear htm
      go_upto_region 5 with (first
        | (go_at_call 56; refine (tfirst_go H11.out HSB.out.tm).mono ?_; rintro e w12 ⟨rfl, hb12⟩; rw [HTM.out]; simp only [List.headD_nil, List.headD_cons, List.isEmpty_nil, List.isEmpty_cons, Bool.not_true, Bool.not_false, Tm.val, Tm.zero]; have H12 := Lib.hid (H11.out.of_below hb12); clear hb12)
        | fail)
      have h13 := H12.out.new #[.int .i64 t.id, .int .i64 t.due, .int .i64 t.ord] 95
      obtain ⟨m5, hm5⟩ : ∃ m, w12.heap.size = m := ⟨_, rfl⟩
      obtain ⟨W13, hW13⟩ : ∃ W, w12.alloc (.cells #[.int .i64 t.id, .int .i64 t.due, .int .i64 t.ord] 95) = W := ⟨_, rfl⟩
      rw [hW13, hm5] at h13
      rw [hW13]
      try simp only [hm5]
      have H13 := Lib.hid h13
      clear h13 hW13 hm5 H12 H11 H10
      have k1 : W13.cell? ⟨m5, 1, none⟩ = some (.int .i64 t.due) := by rw [H13.out.blk.1.cell]; rfl
      obtain ⟨pq, Gq, -, hq⟩ := st_open H13.out.swap
      obtain ⟨-, -, -, -, c13, c14, -⟩ := st_c hq
      obtain ⟨-, -, -, c11⟩ := st_s hq
      rw [HR.out.dirty] at c13
      rw [HR.out.shown] at c14
      have esl : S.shots.length = R.shots.length := by rw [HR.out.shots, List.length_map]
      rw [esl] at c11
      have hws : IntKind.i64.wrap (R.shown + 16) = R.shown + 16 := by rw [IntKind.wrap_i64]; have := HB.out.sh0; have := HB.out.sh1; omega
      have m2 : ∀ a b : Int, (if b < a then b else a) = min a b := fun a b => by split <;> omega
      clear hq esl
      cases hdt : R.dirty with
      | true =>
        rw [hdt] at c13
        have HF := Lib.hid (show hasF R from .inl hdt)
        clear hdt
        go_upto_region 7 with fail
        go_quiet (fail)
        go_wp2_with fail
        refine bodyPost_ret (v := .tuple #[.int .i64 (min t.due (R.shown + 16)), .bool true]) (by simp [results, Try.results28, go_sem]) rfl ?_
        exact ⟨_, _, rfl, ⟨_, d, ls, HT.out.1, .inr ⟨HX.out, .inl ⟨HF.out, rfl, .inr ⟨(best_cons HR.out HTM.out).1, by rw [(best_cons HR.out HTM.out).2]⟩⟩⟩⟩, (H13.out.drewN _).drop⟩
      | false =>
        rw [hdt] at c13
        by_cases hl : 0 < R.shots.length
        · have hlb : decide (0 < R.shots.length) = true := by simpa using hl
          have hlI : (0 : Int) < (R.shots.length : Int) := by omega
          have HF := Lib.hid (show hasF R from .inr (List.length_pos_iff.1 hl))
          clear hdt
          go_upto_region 7 with fail
          go_quiet (fail)
          go_wp2_with fail
          refine bodyPost_ret (v := .tuple #[.int .i64 (min t.due (R.shown + 16)), .bool true]) (by simp [results, Try.results28, go_sem]) rfl ?_
          exact ⟨_, _, rfl, ⟨_, d, ls, HT.out.1, .inr ⟨HX.out, .inl ⟨HF.out, rfl, .inr ⟨(best_cons HR.out HTM.out).1, by rw [(best_cons HR.out HTM.out).2]⟩⟩⟩⟩, (H13.out.drewN _).drop⟩
        · have hlb : decide (0 < R.shots.length) = false := by simpa using hl
          have hlI : ¬ (0 : Int) < (R.shots.length : Int) := by omega
          have HF := Lib.hid (show ¬ hasF R from by rintro (q | q); rw [hdt] at q; cases q; exact q (List.eq_nil_of_length_eq_zero (by omega)))
          clear hdt
          go_wp2_with fail
          refine bodyPost_ret (v := .tuple #[.int .i64 (t.due), .bool true]) (by simp [results, Try.results28, go_sem]) rfl ?_
          exact ⟨_, _, rfl, ⟨_, d, ls, HT.out.1, .inr ⟨HX.out, .inr ⟨HF.out, .inr ⟨(best_cons HR.out HTM.out).1, rfl, (best_cons HR.out HTM.out).2.symm⟩⟩⟩⟩, H13.out.drop⟩
  · have hxb : (x.k != 0) = true := by simp [hx]
    have HX := Lib.hid (show d.kd ≠ 0 from by rw [← HT.out.2]; exact hx)
    clear hx
    obtain ⟨pq, Gq, -, hq⟩ := st_open H10.out
    obtain ⟨c0, -⟩ := st_c hq
    rw [HR.out.now] at c0
    clear hq
    go_wp2_with fail
    refine bodyPost_ret (v := .tuple #[.int .i64 R.now, .bool true]) (by simp [results, Try.results28, go_sem]) rfl ?_
    exact ⟨_, _, rfl, ⟨_, d, ls, HT.out.1, .inl ⟨HX.out, rfl, rfl⟩⟩, H10.out.swap.drop⟩

end Go.Proofs.Ytnamkckpgaopkaa
