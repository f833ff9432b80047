/-
  Contracts of slices.Clone at queued tasks, jobs and values.
-/
import Derived.Test.YtnamkckpgaopkaaLb
set_option linter.unusedVariables false
set_option linter.unusedSimpArgs false
namespace Go.Proofs.Ytnamkckpgaopkaa
open Go.RowKit Go.K

theorem infoQ : (Try.prog.info? 91).map (fun i => (i.zero, i.size, i.bytes)) = some (some (.agg #[.int .i64 0, .int .i64 0, .int .i64 0, .string { data := #[] }, .slice none 0 0]), 5, 64) := by kernel_rfl
theorem elQ : El Try.prog 24 91 5 64 := by
  obtain ⟨i, hi, h1, h2, h3⟩ := info_parts infoQ
  exact ⟨by kernel_rfl, ⟨i, _, hi, h1, h2, h3, rfl⟩, by decide⟩
theorem zvQ (w : World) : (zeroValue 91).run Try.prog w = .ok (.agg #[.int .i64 0, .int .i64 0, .int .i64 0, .string { data := #[] }, .slice none 0 0]) w := by kernel_rfl
theorem zlenQ : (zeros (.agg #[.int .i64 0, .int .i64 0, .int .i64 0, .string { data := #[] }, .slice none 0 0]) 1).length = 5 := by kernel_rfl
theorem zoneQ (n : Nat) : ∀ u ∈ zeros (.agg #[.int .i64 0, .int .i64 0, .int .i64 0, .string { data := #[] }, .slice none 0 0]) n, u.oneCell' = true := by
  intro u hu
  simp only [zeros, Builtin.zeroCells, Array.toList_map, List.mem_map] at hu
  obtain ⟨i, _, rfl⟩ := hu
  have hall : ∀ j, j < 5 → ((.agg #[.int .i64 0, .int .i64 0, .int .i64 0, .string { data := #[] }, .slice none 0 0] : Value).cells[j]!).oneCell' = true := by decide
  exact hall _ (Nat.mod_lt _ (by decide))

set_option maxHeartbeats 400000 in
theorem clone_nilQ (w : World) : Calls Try.prog 69 #[.slice none 0 0] w (ClonePost w 91 5 0 []) := by
  have hnil := fun w => Lib.run_eql_slice_nil (P := Try.prog) w 24 91 none 0 0 0 0 Try.underlying24
  go_enter Try.func69, Try.ntmps69
  go_wp2
  go_ret
  exact ⟨none, 0, rfl, Sl.nil _ _ _, Fr.refl _ _, .inl rfl⟩

set_option maxHeartbeats 400000 in
theorem clone_someQ (a : Addr) (n c : Nat) (xs : List Value) (w : World) (hr : Rd w 5 (some a) n xs) (hn : n ≤ 1000000) :
    Calls Try.prog 69 #[.slice (some a) n c] w (ClonePost w 91 5 n xs) := by
  have hnil := fun w => Lib.run_eql_slice_nil (P := Try.prog) w 24 91 (some a) n c 0 0 Try.underlying24
  have hr' := hr.alloc (.cells #[] 91)
  have h0 : Sl (w.alloc (.cells #[] 91)) 91 5 (some ⟨w.heap.size, 0, .none⟩) 0 0 [] := ⟨by simp, by simp, .inr ⟨w.heap.size, 0, #[], rfl, Blk.new w #[] 91, by omega, by simp [maxLen], by simp, by simp⟩⟩
  go_enter Try.func69, Try.ntmps69
  go_wp2_with (at_builtin; refine wpList_append_sl _ rfl _ _ 24 rfl elQ _ 0 0 [] rfl h0 (some a) n c xs rfl hr'.len hr'.nil hr'.cells hr'.one (by simp only [maxLen]; omega) (by omega) ?_)
  intro s' c' w' g1 g2 g3
  try simp only [Nat.zero_add, List.nil_append] at g1
  go_wp2
  go_ret
  refine ⟨s', c', by simp, g1, (((Fr.refl emp w).alloc _).trans g2 ?_), ?_⟩
  · intro i hi e; simp [rowOf] at e; omega
  · rcases g3 with q | ⟨g, q1, q2⟩
    · exact .inr ⟨w.heap.size, by rw [q]; rfl, Nat.le_refl _⟩
    · exact .inr ⟨g, q1, by simp at q2; omega⟩

theorem cloneQ (s : Option Addr) (n c : Nat) (xs : List Value) (w : World) (hs : Rd w 5 s n xs) (hc : s = none → c = 0) (hn : n ≤ 1000000) :
    Calls Try.prog 69 #[.slice s n c] w (ClonePost w 91 5 n xs) := by
  cases s with
  | some a => exact clone_someQ a n c xs w hs hn
  | none =>
    obtain rfl := hs.nil rfl
    obtain rfl := hc rfl
    have : xs = [] := List.eq_nil_of_length_eq_zero (by have := hs.len; simpa using this)
    subst this
    exact clone_nilQ w

theorem infoJ : (Try.prog.info? 44).map (fun i => (i.zero, i.size, i.bytes)) = some (some (.agg #[.int .i64 0, .slice none 0 0]), 2, 32) := by kernel_rfl
theorem elJ : El Try.prog 28 44 2 32 := by
  obtain ⟨i, hi, h1, h2, h3⟩ := info_parts infoJ
  exact ⟨by kernel_rfl, ⟨i, _, hi, h1, h2, h3, rfl⟩, by decide⟩
theorem zvJ (w : World) : (zeroValue 44).run Try.prog w = .ok (.agg #[.int .i64 0, .slice none 0 0]) w := by kernel_rfl
theorem zlenJ : (zeros (.agg #[.int .i64 0, .slice none 0 0]) 1).length = 2 := by kernel_rfl
theorem zoneJ (n : Nat) : ∀ u ∈ zeros (.agg #[.int .i64 0, .slice none 0 0]) n, u.oneCell' = true := by
  intro u hu
  simp only [zeros, Builtin.zeroCells, Array.toList_map, List.mem_map] at hu
  obtain ⟨i, _, rfl⟩ := hu
  have hall : ∀ j, j < 2 → ((.agg #[.int .i64 0, .slice none 0 0] : Value).cells[j]!).oneCell' = true := by decide
  exact hall _ (Nat.mod_lt _ (by decide))

set_option maxHeartbeats 400000 in
theorem clone_nilJ (w : World) : Calls Try.prog 58 #[.slice none 0 0] w (ClonePost w 44 2 0 []) := by
  have hnil := fun w => Lib.run_eql_slice_nil (P := Try.prog) w 28 44 none 0 0 0 0 Try.underlying28
  go_enter Try.func58, Try.ntmps58
  go_wp2
  go_ret
  exact ⟨none, 0, rfl, Sl.nil _ _ _, Fr.refl _ _, .inl rfl⟩

set_option maxHeartbeats 400000 in
theorem clone_someJ (a : Addr) (n c : Nat) (xs : List Value) (w : World) (hr : Rd w 2 (some a) n xs) (hn : n ≤ 1000000) :
    Calls Try.prog 58 #[.slice (some a) n c] w (ClonePost w 44 2 n xs) := by
  have hnil := fun w => Lib.run_eql_slice_nil (P := Try.prog) w 28 44 (some a) n c 0 0 Try.underlying28
  have hr' := hr.alloc (.cells #[] 44)
  have h0 : Sl (w.alloc (.cells #[] 44)) 44 2 (some ⟨w.heap.size, 0, .none⟩) 0 0 [] := ⟨by simp, by simp, .inr ⟨w.heap.size, 0, #[], rfl, Blk.new w #[] 44, by omega, by simp [maxLen], by simp, by simp⟩⟩
  go_enter Try.func58, Try.ntmps58
  go_wp2_with (at_builtin; refine wpList_append_sl _ rfl _ _ 28 rfl elJ _ 0 0 [] rfl h0 (some a) n c xs rfl hr'.len hr'.nil hr'.cells hr'.one (by simp only [maxLen]; omega) (by omega) ?_)
  intro s' c' w' g1 g2 g3
  try simp only [Nat.zero_add, List.nil_append] at g1
  go_wp2
  go_ret
  refine ⟨s', c', by simp, g1, (((Fr.refl emp w).alloc _).trans g2 ?_), ?_⟩
  · intro i hi e; simp [rowOf] at e; omega
  · rcases g3 with q | ⟨g, q1, q2⟩
    · exact .inr ⟨w.heap.size, by rw [q]; rfl, Nat.le_refl _⟩
    · exact .inr ⟨g, q1, by simp at q2; omega⟩

theorem cloneJ (s : Option Addr) (n c : Nat) (xs : List Value) (w : World) (hs : Rd w 2 s n xs) (hc : s = none → c = 0) (hn : n ≤ 1000000) :
    Calls Try.prog 58 #[.slice s n c] w (ClonePost w 44 2 n xs) := by
  cases s with
  | some a => exact clone_someJ a n c xs w hs hn
  | none =>
    obtain rfl := hs.nil rfl
    obtain rfl := hc rfl
    have : xs = [] := List.eq_nil_of_length_eq_zero (by have := hs.len; simpa using this)
    subst this
    exact clone_nilJ w

theorem infoV : (Try.prog.info? 46).map (fun i => (i.zero, i.size, i.bytes)) = some (some (.agg #[.int .i64 0, .int .i64 0, .string { data := #[] }, .int .i64 0]), 4, 40) := by kernel_rfl
theorem elV : El Try.prog 39 46 4 40 := by
  obtain ⟨i, hi, h1, h2, h3⟩ := info_parts infoV
  exact ⟨by kernel_rfl, ⟨i, _, hi, h1, h2, h3, rfl⟩, by decide⟩
theorem zvV (w : World) : (zeroValue 46).run Try.prog w = .ok (.agg #[.int .i64 0, .int .i64 0, .string { data := #[] }, .int .i64 0]) w := by kernel_rfl
theorem zlenV : (zeros (.agg #[.int .i64 0, .int .i64 0, .string { data := #[] }, .int .i64 0]) 1).length = 4 := by kernel_rfl
theorem zoneV (n : Nat) : ∀ u ∈ zeros (.agg #[.int .i64 0, .int .i64 0, .string { data := #[] }, .int .i64 0]) n, u.oneCell' = true := by
  intro u hu
  simp only [zeros, Builtin.zeroCells, Array.toList_map, List.mem_map] at hu
  obtain ⟨i, _, rfl⟩ := hu
  have hall : ∀ j, j < 4 → ((.agg #[.int .i64 0, .int .i64 0, .string { data := #[] }, .int .i64 0] : Value).cells[j]!).oneCell' = true := by decide
  exact hall _ (Nat.mod_lt _ (by decide))

set_option maxHeartbeats 400000 in
theorem clone_nilV (w : World) : Calls Try.prog 34 #[.slice none 0 0] w (ClonePost w 46 4 0 []) := by
  have hnil := fun w => Lib.run_eql_slice_nil (P := Try.prog) w 39 46 none 0 0 0 0 Try.underlying39
  go_enter Try.func34, Try.ntmps34
  go_wp2
  go_ret
  exact ⟨none, 0, rfl, Sl.nil _ _ _, Fr.refl _ _, .inl rfl⟩

set_option maxHeartbeats 400000 in
theorem clone_someV (a : Addr) (n c : Nat) (xs : List Value) (w : World) (hr : Rd w 4 (some a) n xs) (hn : n ≤ 1000000) :
    Calls Try.prog 34 #[.slice (some a) n c] w (ClonePost w 46 4 n xs) := by
  have hnil := fun w => Lib.run_eql_slice_nil (P := Try.prog) w 39 46 (some a) n c 0 0 Try.underlying39
  have hr' := hr.alloc (.cells #[] 46)
  have h0 : Sl (w.alloc (.cells #[] 46)) 46 4 (some ⟨w.heap.size, 0, .none⟩) 0 0 [] := ⟨by simp, by simp, .inr ⟨w.heap.size, 0, #[], rfl, Blk.new w #[] 46, by omega, by simp [maxLen], by simp, by simp⟩⟩
  go_enter Try.func34, Try.ntmps34
  go_wp2_with (at_builtin; refine wpList_append_sl _ rfl _ _ 39 rfl elV _ 0 0 [] rfl h0 (some a) n c xs rfl hr'.len hr'.nil hr'.cells hr'.one (by simp only [maxLen]; omega) (by omega) ?_)
  intro s' c' w' g1 g2 g3
  try simp only [Nat.zero_add, List.nil_append] at g1
  go_wp2
  go_ret
  refine ⟨s', c', by simp, g1, (((Fr.refl emp w).alloc _).trans g2 ?_), ?_⟩
  · intro i hi e; simp [rowOf] at e; omega
  · rcases g3 with q | ⟨g, q1, q2⟩
    · exact .inr ⟨w.heap.size, by rw [q]; rfl, Nat.le_refl _⟩
    · exact .inr ⟨g, q1, by simp at q2; omega⟩

theorem cloneV (s : Option Addr) (n c : Nat) (xs : List Value) (w : World) (hs : Rd w 4 s n xs) (hc : s = none → c = 0) (hn : n ≤ 1000000) :
    Calls Try.prog 34 #[.slice s n c] w (ClonePost w 46 4 n xs) := by
  cases s with
  | some a => exact clone_someV a n c xs w hs hn
  | none =>
    obtain rfl := hs.nil rfl
    obtain rfl := hc rfl
    have : xs = [] := List.eq_nil_of_length_eq_zero (by have := hs.len; simpa using this)
    subst this
    exact clone_nilV w

end Go.Proofs.Ytnamkckpgaopkaa
