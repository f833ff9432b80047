/-
  Contracts of slices.Clone at timers and of Timers.Clone.
-/
import Derived.Test.YtkddkbjgnndflaaQm
set_option linter.unusedVariables false
namespace Go.Proofs.Ytkddkbjgnndflaa
open Go.RowKit Go.K

set_option maxHeartbeats 400000 in
theorem clone_nilT (w : World) : Calls Try.prog 45 #[.slice none 0 0] w (ClonePost w 57 3 0 []) := by
  have hnil := fun w => Lib.run_eql_slice_nil (P := Try.prog) w 52 57 none 0 0 0 0 Try.underlying52
  go_enter Try.func45, Try.ntmps45
  go_wp2
  go_ret
  exact ⟨none, 0, rfl, Sl.nil _ _ _, Fr.refl _ _, .inl rfl⟩

set_option maxHeartbeats 400000 in
theorem clone_someT (a : Addr) (n c : Nat) (xs : List Value) (w : World) (hr : Rd w 3 (some a) n xs) (hn : n ≤ 1000000) :
    Calls Try.prog 45 #[.slice (some a) n c] w (ClonePost w 57 3 n xs) := by
  have hnil := fun w => Lib.run_eql_slice_nil (P := Try.prog) w 52 57 (some a) n c 0 0 Try.underlying52
  have hr' := hr.alloc (.cells #[] 57)
  have h0 : Sl (w.alloc (.cells #[] 57)) 57 3 (some ⟨w.heap.size, 0, .none⟩) 0 0 [] := ⟨by simp, by simp, .inr ⟨w.heap.size, 0, #[], rfl, Blk.new w #[] 57, by omega, by simp [maxLen], by simp, by simp⟩⟩
  go_enter Try.func45, Try.ntmps45
  go_wp2_with (at_builtin; refine wpList_append_sl _ rfl _ _ 52 rfl elT _ 0 0 [] rfl h0 (some a) n c xs rfl hr'.len hr'.nil hr'.cells hr'.one (by simp only [maxLen]; omega) (by omega) ?_)
  intro s' c' w' g1 g2 g3
  try simp only [Nat.zero_add, List.nil_append] at g1
  go_wp2
  go_ret
  refine ⟨s', c', by simp, g1, (((Fr.refl emp w).alloc _).trans g2 ?_), ?_⟩
  · intro i hi e; simp [rowOf] at e; omega
  · rcases g3 with q | ⟨g, q1, q2⟩
    · exact .inr ⟨w.heap.size, by rw [q]; rfl, Nat.le_refl _⟩
    · exact .inr ⟨g, q1, by simp at q2; omega⟩

theorem cloneT (s : Option Addr) (n c : Nat) (xs : List Value) (w : World) (hs : Rd w 3 s n xs) (hc : s = none → c = 0) (hn : n ≤ 1000000) :
    Calls Try.prog 45 #[.slice s n c] w (ClonePost w 57 3 n xs) := by
  cases s with
  | some a => exact clone_someT a n c xs w hs hn
  | none =>
    obtain rfl := hs.nil rfl
    obtain rfl := hc rfl
    have : xs = [] := List.eq_nil_of_length_eq_zero (by have := hs.len; simpa using this)
    subst this
    exact clone_nilT w

def TClonePost (ts : List Tm) (nx : Int) (w0 : World) (L : List As) (E : Ending) (w' : World) : Prop := ∃ s c, E = .returned (.agg #[.slice s ts.length c, .int .i64 nx]) ∧ St w0 w' (As.row 57 3 s ts.length c (tcells ts) :: L)

set_option maxHeartbeats 1000000 in
theorem tclone_st {w0 w : World} {L : List As} {b : Nat} {ts : List Tm} {nx : Int} (h : St w0 w (tObj b ts nx :: L)) (hn : ts.length ≤ 100000) :
    Calls Try.prog 35 #[.pointer (some ⟨b, 0, none⟩)] w (TClonePost ts nx w0 (tObj b ts nx :: L)) := by
  have H := Lib.hid (h.new #[.slice none 0 0, .int .i64 0] 54)
  obtain ⟨s, c, h0⟩ := t_open h
  have hc0 := h0.cell 0
  have hc1 := h0.cell 1
  simp at hc0 hc1
  have hlt := h0.blk.1.lt
  have hcn : s = none → c = 0 := by
    intro e
    rcases h0.swap.sl.row with ⟨_, _, q⟩ | ⟨g, off, cur, q, _⟩
    · exact q
    · rw [e] at q; cases q
  have HS := Lib.hid ((h0.swap.sl).alloc (.cells #[.slice none 0 0, .int .i64 0] 54)).drew.rd
  have C := Lib.hid (cloneT s ts.length c (tcells ts) _ HS.out hcn (by omega))
  have k0 : ((w.alloc (.cells #[.slice none 0 0, .int .i64 0] 54)).drew).cell? ⟨b, 0, none⟩ = some (.slice s ts.length c) := (World.cell?_alloc_lt w _ ⟨b, 0, none⟩ hlt).trans hc0
  have k1 : ((w.alloc (.cells #[.slice none 0 0, .int .i64 0] 54)).drew).cell? ⟨b, 1, none⟩ = some (.int .i64 nx) := (World.cell?_alloc_lt w _ ⟨b, 1, none⟩ hlt).trans hc1
  have K0 := Lib.hid k0
  have K1 := Lib.hid k1
  clear h h0 hcn k0 k1
  go_enter Try.func35, Try.ntmps35
  go_wp2_with fail
  go_region_held3 (fun w' => w'.cell? ⟨b, 0, none⟩ = some (.slice s ts.length c) ∧ w'.cell? ⟨b, 1, none⟩ = some (.int .i64 nx))
    (first | go_keep | exact ⟨q2.cell K0.out (fun e => e), q2.cell K1.out (fun e => e)⟩ | exact ⟨by rw [World.cell?_setCell_other _ _ _ _ (by first | (simp; done) | (simp; omega)), World.cell?_setCell_other _ _ _ _ (by first | (simp; done) | (simp; omega))]; exact q2.cell K0.out (fun e => e), by rw [World.cell?_setCell_other _ _ _ _ (by first | (simp; done) | (simp; omega)), World.cell?_setCell_other _ _ _ _ (by first | (simp; done) | (simp; omega))]; exact q2.cell K1.out (fun e => e)⟩)
    (first
      | (go_at_call 45; refine C.out.mono ?_; rintro e w1 ⟨s1, c1, rfl, q1, q2, q3⟩; have H1 := Lib.hid (H.out.drew.row_new q1 q2 q3).swap; have r0 := H1.out.cell 0; have r1 := H1.out.cell 1; have f0 := H1.out.free 0; have f1 := H1.out.free 1; simp at r0 r1))
  have h2 := ((H1.out.set 0 (.slice s1 ts.length c1)).set 1 (.int .i64 nx))
  simp at h2
  have hc2 := h2.cell 0
  have hc3 := h2.cell 1
  simp at hc2 hc3
  go_wp2_with fail
  refine bodyPost_ret (v := .agg #[.slice s1 ts.length c1, .int .i64 nx]) (by simp [results, Try.results35, go_sem, hc2, hc3]) rfl ⟨s1, c1, rfl, h2.drop⟩
end Go.Proofs.Ytkddkbjgnndflaa
