/-
  awake; what Next does, where it is simple.
-/
import Derived.Test.YtnamkckpgaopkaaLs
set_option linter.unusedVariables false
set_option linter.unusedSimpArgs false
namespace Go.Proofs.Ytnamkckpgaopkaa
open Go.RowKit Go.K

set_option maxHeartbeats 400000 in
theorem number_c (n : Int) (w : World) : Calls Try.prog 15 #[.int .i64 n] w fun e w' => e = .returned (.agg (vcells n).toArray) ∧ Below w.heap.size w w' := by
  go_enter Try.func15, Try.ntmps15
  go_wp2_with fail
  refine bodyPost_ret (v := .agg (vcells n).toArray) (by simp [results, Try.results15, go_sem, vcells]) rfl ⟨rfl, ?_⟩
  exact (Below.refl _ _).alloc (Nat.le_refl _) _
/-! what Next does, where it is simple -/
theorem next_task {S S' : LS} {x : Ch} {l : List Hs} (h : NextR S S' x l) (hj : S.jobs = []) (hs : ¬ Shows S) : TaskR (fireS S) S' x ∧ l = [] := by
  cases h with
  | job h => rw [hj] at h; cases h
  | shows _ h => exact absurd h hs
  | task _ _ h => exact ⟨h, rfl⟩
theorem fire_nil {S : LS} (h : S.tm = []) : fireS S = S := by
  unfold fireS
  rw [h, fireL, ← h]
/-- the next task, where no task of a timer waits -/
theorem task_plain {S S' : LS} {x : Ch} (h : TaskR S S' x) (hk : ∀ y ∈ S.q 2, y.k ≠ 0) : (srcR S < 0 ∧ S' = S ∧ x = Ch.z) ∨ ∃ (i : Nat) (y : Qt) (r : List Qt), i < 5 ∧ srcR S = (i : Int) ∧ S.q i = y :: r ∧ S' = popS S i r ∧ x = chP i y := by
  cases h with
  | none h => exact .inl ⟨h, rfl, rfl⟩
  | plain h hi hq hp => exact .inr ⟨_, _, _, hi, h, hq, rfl, rfl⟩
  | skip h hq hk0 => exact absurd hk0 (hk _ (by rw [hq]; exact List.mem_cons_self))
  | again h hq hk0 => exact absurd hk0 (hk _ (by rw [hq]; exact List.mem_cons_self))
  | once h hq hk0 => exact absurd hk0 (hk _ (by rw [hq]; exact List.mem_cons_self))
theorem bnd_zero : Bnd LS.zero := by
  constructor <;> simp [LS.zero]
theorem fire_of {S : LS} (h : S.tm = []) (hB : Bnd S) : Room S ∧ Bnd (fireS S) :=
  ⟨⟨hB, fun i => by have := hB.q i; rw [h]; simpa using this, by have := hB.ord1; rw [h]; simpa using this⟩, by rw [fire_nil h]; exact hB⟩
def S1a : LS := pushS LS.zero 1 3 7
theorem aw1 : Bnd S1a ∧ S1a.tm = [] := by
  refine ⟨?_, rfl⟩
  constructor <;> simp [S1a, pushS, LS.setQ, LS.zero, srcN, upd]
  intro i
  split <;> simp
theorem aw_next {S2 : LS} {x : Ch} {l : List Hs} (h : NextR S1a S2 x l) : S2 = popS S1a 1 [] ∧ x = chP 1 ⟨1, 3, 7⟩ ∧ Bnd S2 ∧ S2.tm = [] := by
  have hs : ¬ Shows S1a := by rintro ⟨h, -⟩; revert h; decide
  obtain ⟨ht, -⟩ := next_task h rfl hs
  rw [fire_nil rfl] at ht
  have hsrc : srcR S1a = 1 := rfl
  rcases task_plain ht (by intro y hy; cases hy) with ⟨q, -, -⟩ | ⟨i, y, r, hi, h1, h2, rfl, rfl⟩
  · rw [hsrc] at q; omega
  · obtain rfl : i = 1 := by omega
    have h3 : [(⟨1, 3, 7⟩ : Qt)] = y :: r := h2
    simp only [List.cons.injEq] at h3
    obtain ⟨rfl, rfl⟩ := h3
    refine ⟨rfl, rfl, ?_, rfl⟩
    constructor <;> simp [S1a, pushS, popS, LS.setQ, LS.zero, srcN, upd]
    intro i
    split <;> simp
theorem aw_next2 {S2 : LS} {x : Ch} {l : List Hs} (h : NextR (popS S1a 1 []) S2 x l) : x = Ch.z := by
  have hs : ¬ Shows (popS S1a 1 []) := by rintro ⟨h, -⟩; revert h; decide
  obtain ⟨ht, -⟩ := next_task h rfl hs
  rw [fire_nil rfl] at ht
  have hsrc : srcR (popS S1a 1 []) = -1 := rfl
  rcases task_plain ht (by intro y hy; cases hy) with ⟨q, -, h⟩ | ⟨i, y, r, hi, h1, -⟩
  · exact h
  · rw [hsrc] at h1; omega
set_option maxRecDepth 100000 in
set_option maxHeartbeats 1000000 in
theorem awake_c (w : World) : Calls Try.prog 11 #[] w fun e w' => e = .returned (.bool true) ∧ Below w.heap.size w w' := by
  have H0 := Lib.hid (st_start (St.start w (Below.refl _ w)))
  go_enter Try.func11, Try.ntmps11
  go_upto_region 3 with (go_at_call 12; refine (push_st 1 3 7 H0.out (by simp [LS.zero]) (by decide) (by decide)).mono ?_; rintro e w1 ⟨rfl, h1⟩; have H1 := Lib.hid h1; clear h1)
  go_upto_region 4 with (first
    | (go_at_call 13; refine (next_st (S := S1a) H1.out (fire_of aw1.2 aw1.1).1 (fire_of aw1.2 aw1.1).2).mono ?_; rintro e w2 ⟨S2, x, l, rfl, hn, -, -, h2⟩; have HN := Lib.hid hn; have H2 := Lib.hid (h2.new Ch.z.cells.toArray 50); clear hn h2)
    | (refine st_store rfl (.tmp 2) (.tmp 5) rfl H2.out x.cells rfl rfl rfl rfl size50 (Ch.one _) ?_; intro W3 HW3; have H3 := Lib.hid HW3; clear HW3))
  obtain ⟨rfl, rfl, hb, htm⟩ := aw_next HN.out
  obtain ⟨b2, hb2⟩ : ∃ b, w2.heap.size = b := ⟨_, rfl⟩
  have h3 := H3.out
  rw [hb2] at h3
  simp only [hb2]
  have k0 := h3.cell 0
  have k3 := h3.cell 3
  have k5 := h3.cell 5
  simp [Ch.cells, chP, Ch.z] at k0 k3 k5
  have H4 := Lib.hid h3.swap
  clear h3 hb2
  have hfld : ∀ w, (Instr.field 50 (.agg Ch.z.cells.toArray) 0).run Try.prog w = .ok (.int .i64 0) w := fun _ => by kernel_rfl
  go_wp2_with (go_at_call 13; refine (next_st H4.out (fire_of htm hb).1 (fire_of htm hb).2).mono ?_; rintro e w5 ⟨S5, x5, l5, rfl, hn5, -, -, h5⟩; obtain rfl := aw_next2 hn5; have H5 := Lib.hid h5; clear h5 hn5)
  go_ret
  exact ⟨rfl, H5.out.bel⟩

end Go.Proofs.Ytnamkckpgaopkaa
