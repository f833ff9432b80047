/-
  Contracts of Timers.Len, Timers.Add and of the law awake.
-/
import Derived.Test.YtkddkbjgnndflaaQc
set_option linter.unusedVariables false
namespace Go.Proofs.Ytkddkbjgnndflaa
open Go.RowKit Go.K

set_option maxHeartbeats 400000 in
theorem tlen_at (b : Nat) (r : Option Nat) (ts : List Tm) (nx : Int) (w : World) (hq : Ts w b r ts nx) :
    Calls Try.prog 25 #[.pointer (some ⟨b, 0, none⟩)] w fun e w' => e = .returned (.int .i64 ts.length) ∧ w = w' := by
  obtain ⟨s, c, rfl, hb, hs, hne⟩ := hq
  have hc := hb.cell 0
  simp at hc
  go_enter Try.func25, Try.ntmps25
  go_wp2
  go_ret
  exact ⟨rfl, rfl⟩

def AddPost (w : World) (b : Nat) (r : Option Nat) (ts : List Tm) (due : Int) (nx : Int) (E : Ending) (w' : World) : Prop :=
  E = .returned (.int .i64 (nx + 1)) ∧ ∃ i r', Found ts ⟨nx + 1, due, nx + 1⟩ i ∧ Ts w' b r' (insAt ts i ⟨nx + 1, due, nx + 1⟩) (nx + 1) ∧ Fr (fun k => k = b ∨ r = some k) w w' ∧ NewOr w r r'

set_option maxRecDepth 100000 in
set_option maxHeartbeats 1000000 in
theorem add_of (b : Nat) (r : Option Nat) (ts : List Tm) (due nx : Int) (w : World) (hq : Ts w b r ts nx) (hn : ts.length ≤ 100000) (hx : 0 ≤ nx) (hx2 : nx < 4294967296) (hI : ∀ s c, rowOf s = r → InsAll s c ts ⟨nx + 1, due, nx + 1⟩) :
    Calls Try.prog 23 #[.pointer (some ⟨b, 0, none⟩), .int .i64 due] w (AddPost w b r ts due nx) := by
  obtain ⟨s, c, hrs, hb, hs, hne⟩ := hq
  have hc := hb.cell 1
  have hf := hb.free 1
  simp at hc
  have hb1 := hb.set 1 (.int .i64 (nx + 1))
  have hq1 : Ts (w.setCell ⟨b, 1, none⟩ (.int .i64 (nx + 1))) b r ts (nx + 1) := ⟨s, c, hrs, by simpa using hb1, hs.other (fun k hk e => by subst e; exact hne (hrs ▸ hk)) _, hne⟩
  have hI' := Lib.hid hI
  have hc1 := hb1.cell 1
  simp at hc1
  go_enter Try.func23, Try.ntmps23
  go_wp2_with fail
  have F1 : Fr (fun k => k = b) w (w.setCell ⟨b, 1, none⟩ (.int .i64 (nx + 1))) := Fr.setCell (S := fun k => k = b) (Fr.refl _ w) (fun _ => rfl) _
  generalize w.setCell ⟨b, 1, none⟩ (.int .i64 (nx + 1)) = w1 at hq1 hc1 F1 ⊢
  clear hc hf hb1
  go_still_tail 11, (by kernel_rfl)
  change wpList _ _ _ _ _ w1.drew
  have hq2 : Ts w1.drew b r ts (nx + 1) := by
    obtain ⟨s, c, h1, h2, h3, h4⟩ := hq1
    exact ⟨s, c, h1, h2.drew, h3.drew, h4⟩
  clear hc1
  go_wp2_with (go_at_call 40; refine (insert_of b r ts ⟨nx + 1, due, nx + 1⟩ (nx + 1) _ hq2 hn hI'.out).mono ?_)
  rintro e w' ⟨rfl, i, r', h1, ⟨s2, c2, h2, h3, h4, h5⟩, h6, h7⟩
  have hc := h3.cell 1
  simp at hc
  have hk := F1.size
  go_wp2
  go_ret
  refine ⟨rfl, i, r', h1, ⟨s2, c2, h2, h3, h4, h5⟩, ((F1.mono (fun _ _ q => .inl q)).drew.trans h6 (fun _ _ q => q)), ?_⟩
  rcases h7 with q | ⟨g, q1, q2⟩
  · exact .inl q
  · exact .inr ⟨g, q1, by simp at q2; omega⟩
theorem insAll_nil (s : Option Addr) (c : Nat) (t : Tm) : InsAll s c [] t := by
  intro i g2 w' hi hs hb _
  obtain rfl : i = 0 := by simpa using hi
  have := insert_end s 0 c g2 [] t.cells.toArray w' hs (by omega) hb rfl (by
    intro u hu
    simp only [Tm.cells, List.mem_cons, List.not_mem_nil, or_false] at hu
    rcases hu with rfl | rfl | rfl <;> rfl)
  simpa [insAt, tcells] using this

set_option maxHeartbeats 1000000 in
theorem awake_any (w : World) : Calls Try.prog 11 #[] w fun e w' => e = .returned (.bool true) ∧ Below w.heap.size w w' := by
  have hq : Qu ((w.alloc (.cells #[.slice none 0 0] 26)).alloc (.cells #[.slice none 0 0, .int .i64 0] 54)) w.heap.size 26 3 1 none 0 [] := ⟨none, 0, rfl, (Blk.new w _ _).alloc _, Sl.nil _ _ _, by simp⟩
  have ht : Ts ((w.alloc (.cells #[.slice none 0 0] 26)).alloc (.cells #[.slice none 0 0, .int .i64 0] 54)) (w.heap.size + 1) none [] 0 := ⟨none, 0, rfl, by simpa using Blk.new (w.alloc (.cells #[.slice none 0 0] 26)) _ _, Sl.nil _ _ _, by simp⟩
  go_enter Try.func11, Try.ntmps11
  go_wp2_with (go_at_call 12; refine (push_any _ _ _ _ _ _ hq (by omega)).mono ?_)
  rintro e w1 ⟨rfl, r1, ⟨s, c, rfl, h1, h2, h3⟩, h4, h5⟩
  obtain ⟨g, off, rfl, hcell, _, _⟩ := h2.some_of (Nat.lt_of_lt_of_le (by omega) h2.le)
  have hc := h1.cell 0
  have hx := hcell 0 (by omega)
  simp at hc hx
  have ht1 : Ts w1 (w.heap.size + 1) none [] 0 := by
    obtain ⟨s, c, e1, e2, e3, e4⟩ := ht
    exact ⟨s, c, e1, e2.kept h4 (by simp), e3.kept h4 (by simp [e1]), e4⟩
  go_wp2_with (first
    | (go_at_call 13; refine (peek_some _ _ _ _ _ _ _ hc hx).mono ?_; rintro e w' ⟨rfl, rfl⟩)
    | (go_at_call 15; refine (len_at _ _ _ _ _ hc).mono ?_; rintro e w' ⟨rfl, rfl⟩)
    | (go_at_call 23; refine (add_of _ _ _ _ _ _ ht1 (by simp) (by omega) (by omega) (fun s c _ => insAll_nil s c _)).mono ?_))
  rintro e w2 ⟨rfl, i, r2, k1, k2, k3, k4⟩
  go_wp2_with (go_at_call 25; refine (tlen_at _ _ _ _ _ k2).mono ?_; rintro e w' ⟨rfl, rfl⟩)
  go_ret
  refine ⟨?_, ?_⟩
  · rw [insAt_len _ _ _ k1.1]; rfl
  · have F1 : Fr emp w w1 := Fr.trans (((Fr.refl emp w).alloc _).alloc _) h4 (fun i hi q => by simp at q; omega)
    have F : Fr emp w w2 := Fr.trans F1 k3 (fun i hi q => by simp at q; omega)
    exact F.below (Nat.le_refl _) (fun _ _ h => h.elim)

end Go.Proofs.Ytkddkbjgnndflaa
