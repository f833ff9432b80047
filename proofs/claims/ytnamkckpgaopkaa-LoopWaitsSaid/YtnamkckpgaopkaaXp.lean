/-
  job of the laws. Clone of the queues of a State. Pure facts on the chapter's loop. What fires in the chapter's loop.
-/
import Derived.Test.YtnamkckpgaopkaaXl
import Derived.Test.YtnamkckpgaopkaaLt
set_option linter.unusedVariables false
set_option linter.unusedSimpArgs false
namespace Go.Proofs.Ytnamkckpgaopkaa
section
open Go.RowKit Go.K
theorem zv46 (w : World) : (zeroValue 46).run Try.prog w = .ok (.agg #[.int .i64 0, .int .i64 0, .string { data := #[] }, .int .i64 0]) w := by kernel_rfl
theorem ss46 (w : World) : (sizeOf 46).run Try.prog w = .ok 4 w := by kernel_rfl
theorem size44 : (Try.prog.info? 44).map (·.size) = some 2 := by kernel_rfl
theorem vc_one (n : Int) : ∀ u ∈ (vcells n).toArray.toList, u.oneCell' = true := by
  intro u hu
  simp only [vcells, List.mem_cons, List.not_mem_nil, or_false] at hu
  rcases hu with rfl | rfl | rfl | rfl <;> rfl
theorem jb_one (n : Int) (s : Option Addr) (k c : Nat) : ∀ u ∈ [Value.int .i64 n, .slice s k c], u.oneCell' = true := by
  intro u hu
  simp only [List.mem_cons, List.not_mem_nil, or_false] at hu
  rcases hu with rfl | rfl <;> rfl
def jbl (n : Int) (g : Nat) : List Value := [.int .i64 n, .slice (some ⟨g, 0, none⟩) 1 1]
set_option maxHeartbeats 1000000 in
theorem job_st {w0 w : World} {L : List As} (n : Int) (h : St w0 w L) :
    Calls Try.prog 25 #[.int .i64 n] w fun e w' => ∃ g, e = .returned (.agg #[.int .i64 n, .slice (some ⟨g, 0, none⟩) 1 1]) ∧ St w0 w' (As.row 46 4 (some ⟨g, 0, none⟩) 1 1 (vcells n) :: L) := by
  have H0 := Lib.hid (h.new #[.int .i64 0, .slice none 0 0] 44)
  obtain ⟨m, hm⟩ : ∃ m, w.heap.size = m := ⟨_, rfl⟩
  rw [hm] at H0
  clear h
  go_enter Try.func25, Try.ntmps25
  go_upto_region 1 with fail
  try simp only [hm]
  obtain ⟨W, hW⟩ : ∃ W, w.alloc (.cells #[.int .i64 0, .slice none 0 0] 44) = W := ⟨_, rfl⟩
  rw [hW] at H0
  rw [hW]
  clear hW hm
  go_wp2_with (first
    | (go_at_call 15; refine (number_c n _).mono ?_; rintro e w2 ⟨rfl, hb⟩; have H1 := Lib.hid (H0.out.of_below hb); clear hb)
    | (refine st_build_row rfl (.tmp 5) rfl H1.out Try.underlying39 zv46 ss46 (by decide) (by decide) (vcells n).toArray rfl (vc_one n) rfl ?_; intro W3 g3 HW3; have H3 := Lib.hid HW3.swap; clear HW3)
    | (refine st_store rfl (.tmp 2) (.tmp 7) rfl H3.out (jbl n g3) rfl rfl rfl rfl size44 (jb_one _ _ _ _) ?_; intro W4 HW4; have H4 := Lib.hid HW4; clear HW4)
    | fail)
  refine bodyPost_ret (results_cell_row (P := Try.prog) Try.results25 _ _ m 44 (jbl n g3).toArray _ _ rfl H4.out.blk.1 Try.underlying44 rfl size44) rfl ?_
  exact ⟨g3, rfl, H4.out.drop⟩
end
section
open Go.RowKit Go.K
theorem sizeq26 : (Try.prog.info? 26).map (·.size) = some 1 := by kernel_rfl
def qlQ (s : Option Addr) (n c : Nat) : List Value := [.slice s n c]
theorem qlQ_one (s : Option Addr) (n c : Nat) : ∀ u ∈ qlQ s n c, u.oneCell' = true := by
  intro u hu
  simp only [qlQ, List.mem_cons, List.not_mem_nil, or_false] at hu
  subst hu
  rfl
set_option maxHeartbeats 1000000 in
theorem qcloneQ {w0 w : World} {L : List As} {b o n c : Nat} {s : Option Addr} {xs : List Value} (h : St w0 w L) (ho : w.cell? ⟨b, o, none⟩ = some (.slice s n c)) (hr : Rc w 5 s n c xs) (hn : n ≤ 100000) :
    Calls Try.prog 51 #[.pointer (some ⟨b, o, none⟩)] w fun e w' => ∃ s' c', e = .returned (.agg (qlQ s' n c').toArray) ∧ St w0 w' (As.row 91 5 s' n c' xs :: L) := by
  have H0 := Lib.hid (h.new (qlQ none 0 0).toArray 26)
  have hlt := World.block_lt_of_cell? _ _ ho
  have b0 := (Below.refl w.heap.size w).alloc (Nat.le_refl _) (.cells #[.slice none 0 0] 26)
  have c0 := (b0.cell hlt).trans ho
  have HR := Lib.hid (hr.below b0)
  obtain ⟨m, hm⟩ : ∃ m, w.heap.size = m := ⟨_, rfl⟩
  rw [hm] at H0
  clear h hr ho b0
  go_enter Try.func51, Try.ntmps51
  go_upto_region 1 with fail
  try simp only [hm]
  obtain ⟨W, hW⟩ : ∃ W, w.alloc (.cells #[.slice none 0 0] 26) = W := ⟨_, rfl⟩
  have H1 := Lib.hid (show St w0 W (As.cells m (qlQ none 0 0).toArray 26 :: L) from by rw [← hW]; exact H0.out)
  rw [hW] at HR c0
  rw [hW]
  clear hW hm H0 hlt
  go_wp2_with (first
    | (go_at_call 69; refine (cloneQ s n c xs _ HR.out.rd HR.out.nil (by omega)).mono ?_; rintro e w4 ⟨s4, c4, rfl, g1, g2, g3⟩; have H4 := Lib.hid (H1.out.row_new g1 g2 g3).swap; clear g1 g2 g3)
    | (refine st_store rfl (.tmp 2) (.tmp 8) rfl H4.out (qlQ s4 n c4) rfl rfl rfl rfl sizeq26 (qlQ_one _ _ _) ?_; intro W5 HW5; have H5 := Lib.hid HW5; clear HW5)
    | fail)
  refine bodyPost_ret (results_cell_row (P := Try.prog) Try.results51 _ _ m 26 (qlQ s4 n c4).toArray _ _ rfl H5.out.blk.1 Try.underlying26 rfl sizeq26) rfl ?_
  exact ⟨s4, c4, rfl, H5.out.drop⟩

theorem sizeq30 : (Try.prog.info? 30).map (·.size) = some 1 := by kernel_rfl
def qlJ (s : Option Addr) (n c : Nat) : List Value := [.slice s n c]
theorem qlJ_one (s : Option Addr) (n c : Nat) : ∀ u ∈ qlJ s n c, u.oneCell' = true := by
  intro u hu
  simp only [qlJ, List.mem_cons, List.not_mem_nil, or_false] at hu
  subst hu
  rfl
set_option maxHeartbeats 1000000 in
theorem qcloneJ {w0 w : World} {L : List As} {b o n c : Nat} {s : Option Addr} {xs : List Value} (h : St w0 w L) (ho : w.cell? ⟨b, o, none⟩ = some (.slice s n c)) (hr : Rc w 2 s n c xs) (hn : n ≤ 100000) :
    Calls Try.prog 52 #[.pointer (some ⟨b, o, none⟩)] w fun e w' => ∃ s' c', e = .returned (.agg (qlJ s' n c').toArray) ∧ St w0 w' (As.row 44 2 s' n c' xs :: L) := by
  have H0 := Lib.hid (h.new (qlJ none 0 0).toArray 30)
  have hlt := World.block_lt_of_cell? _ _ ho
  have b0 := (Below.refl w.heap.size w).alloc (Nat.le_refl _) (.cells #[.slice none 0 0] 30)
  have c0 := (b0.cell hlt).trans ho
  have HR := Lib.hid (hr.below b0)
  obtain ⟨m, hm⟩ : ∃ m, w.heap.size = m := ⟨_, rfl⟩
  rw [hm] at H0
  clear h hr ho b0
  go_enter Try.func52, Try.ntmps52
  go_upto_region 1 with fail
  try simp only [hm]
  obtain ⟨W, hW⟩ : ∃ W, w.alloc (.cells #[.slice none 0 0] 30) = W := ⟨_, rfl⟩
  have H1 := Lib.hid (show St w0 W (As.cells m (qlJ none 0 0).toArray 30 :: L) from by rw [← hW]; exact H0.out)
  rw [hW] at HR c0
  rw [hW]
  clear hW hm H0 hlt
  go_wp2_with (first
    | (go_at_call 58; refine (cloneJ s n c xs _ HR.out.rd HR.out.nil (by omega)).mono ?_; rintro e w4 ⟨s4, c4, rfl, g1, g2, g3⟩; have H4 := Lib.hid (H1.out.row_new g1 g2 g3).swap; clear g1 g2 g3)
    | (refine st_store rfl (.tmp 2) (.tmp 8) rfl H4.out (qlJ s4 n c4) rfl rfl rfl rfl sizeq30 (qlJ_one _ _ _) ?_; intro W5 HW5; have H5 := Lib.hid HW5; clear HW5)
    | fail)
  refine bodyPost_ret (results_cell_row (P := Try.prog) Try.results52 _ _ m 30 (qlJ s4 n c4).toArray _ _ rfl H5.out.blk.1 Try.underlying30 rfl sizeq30) rfl ?_
  exact ⟨s4, c4, rfl, H5.out.drop⟩
end
section
open Go.RowKit Go.K
/-- what first finds: none waits, or the least of those that wait -/
theorem bestM_spec (M : List RM) (k : Nat) : (bestM M k = -1 ∧ ∀ j, j < k → (nthM M j).w = false) ∨
    ∃ b : Nat, bestM M k = b ∧ b < k ∧ (nthM M b).w = true ∧ ∀ j, j < k → (nthM M j).w = true → ¬ ltM (nthM M j) (nthM M b) := by
  induction k with
  | zero => exact .inl ⟨rfl, fun j h => by omega⟩
  | succ k ih =>
    rw [bestM_succ]
    rcases ih with ⟨h1, h2⟩ | ⟨b, h1, h2, h3, h4⟩
    · rw [h1]
      by_cases hw : (nthM M k).w = true
      · refine .inr ⟨k, by rw [stepM, if_pos ⟨hw, .inl (by omega)⟩], by omega, hw, fun j hj hjw => ?_⟩
        by_cases e : j = k
        · subst e; unfold ltM; omega
        · rw [h2 j (by omega)] at hjw; cases hjw
      · refine .inl ⟨by rw [stepM, if_neg fun h => hw h.1], fun j hj => ?_⟩
        by_cases e : j = k
        · subst e; simpa using hw
        · exact h2 j (by omega)
    · rw [h1]
      by_cases hc : (nthM M k).w = true ∧ ltM (nthM M k) (nthM M b)
      · refine .inr ⟨k, by rw [stepM, if_pos ⟨hc.1, .inr (by rw [Int.toNat_natCast]; exact hc.2)⟩], by omega, hc.1, fun j hj hjw => ?_⟩
        by_cases e : j = k
        · subst e; unfold ltM; omega
        · have h5 := h4 j (by omega) hjw
          have h6 := hc.2
          unfold ltM at *
          omega
      · refine .inr ⟨b, by rw [stepM, if_neg]; rintro ⟨q1, q2⟩; rw [Int.toNat_natCast] at q2; exact hc ⟨q1, q2.resolve_left (by omega)⟩, by omega, h3, fun j hj hjw => ?_⟩
        by_cases e : j = k
        · subst e; exact fun h => hc ⟨hjw, h⟩
        · exact h4 j (by omega) hjw
end
section
open Go.RowKit Go.K
/-- the timers that wait -/
def waitN (M : List RM) : Nat := M.countP (fun t => t.w)
/-- a timer fires: it waits no more, and a task of source 2 is made -/
def fire1 (R : RL) (k : Nat) : RL := rpushS { R with tms := R.tms.set k { nthM R.tms k with w := false } } 2 0 (nthM R.tms k).id
def bestR (R : RL) : Int := bestM R.tms R.tms.length
def dueR (R : RL) : Prop := 0 ≤ bestR R ∧ (nthM R.tms (bestR R).toNat).due ≤ R.now
instance (R : RL) : Decidable (dueR R) := inferInstanceAs (Decidable (_ ∧ _))
def rfireN : Nat → RL → RL
  | 0, R => R
  | n + 1, R => if dueR R then rfireN n (fire1 R (bestR R).toNat) else R
/-- all timers that are due fire -/
def rfireS (R : RL) : RL := rfireN (waitN R.tms) R
theorem fire1_wait {R : RL} (h : dueR R) : waitN (fire1 R (bestR R).toNat).tms + 1 = waitN R.tms := by
  rcases bestM_spec R.tms R.tms.length with ⟨h1, -⟩ | ⟨b, h1, h2, h3, -⟩
  · have := h.1
    rw [bestR, h1] at this
    omega
  · have e : (bestR R).toNat = b := by rw [bestR, h1, Int.toNat_natCast]
    rw [e]
    show waitN (R.tms.set b { nthM R.tms b with w := false }) + 1 = waitN R.tms
    have hw : R.tms[b].w = true := by rw [← nthM_eq h2]; exact h3
    have hp : 0 < waitN R.tms := List.countP_pos_iff.2 ⟨R.tms[b], List.getElem_mem _, hw⟩
    unfold waitN at *
    rw [List.countP_set (by simpa using h2)]
    simp only [hw, if_true]
    simp
    omega
theorem rfireS_step {R : RL} (h : dueR R) : rfireS R = rfireS (fire1 R (bestR R).toNat) := by
  have := fire1_wait h
  unfold rfireS
  rw [← this, rfireN, if_pos h]
theorem rfireS_stop {R : RL} (h : ¬ dueR R) : rfireS R = R := by
  unfold rfireS
  cases waitN R.tms with
  | zero => rfl
  | succ n => rw [rfireN, if_neg h]
end
end Go.Proofs.Ytnamkckpgaopkaa
