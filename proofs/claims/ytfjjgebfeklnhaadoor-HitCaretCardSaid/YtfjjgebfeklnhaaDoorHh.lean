/-
  The law's awake; what Covering, At and Nodes say in common.
-/
import Derived.Test.YtfjjgebfeklnhaaDoorHf
set_option linter.unusedVariables false
set_option linter.unusedSimpArgs false
namespace Go.Proofs.YtfjjgebfeklnhaaDoor
open Go.RowKit Go.K

def aw : GI := ⟨⟨1, ⟨1, 1, 4, 4⟩, ⟨1, 1, 4, 4⟩, .empty, .empty, 0, 7⟩, by simp [It.ok, Bd]⟩
theorem at_one (s : Option Addr) (c : Nat) (w : World) (h : Rd w 13 s 1 (flat icells [aw])) : Calls Tryd.prog 14 #[.slice s 1 c, .int .i64 2, .int .i64 3] w fun e w' => e = .returned (.tuple #[.agg #[.int .i64 1, .int .i64 1, .int .i64 1, .int .i64 4, .int .i64 4, .int .i64 1, .int .i64 1, .int .i64 4, .int .i64 4, .string ByteArray.empty, .string ByteArray.empty, .int .i64 0, .int .i64 7], .bool true]) ∧ Below w.heap.size w w' := by
  refine (at_any s c [aw] 2 3 w h (by simp)).mono ?_
  rintro e w' ⟨rfl, hb⟩
  exact ⟨rfl, hb⟩

set_option maxHeartbeats 1000000 in
theorem awake_any (w : World) : Calls Tryd.prog 4 #[] w fun e w' => e = .returned (.bool true) ∧ Below w.heap.size w w' := by
  have H0 := Lib.hid ((((St.start w (Below.refl _ w)).new #[.int .i64 1, .int .i64 1, .int .i64 4, .int .i64 4] 32)).alloc (.cells #[.int .i64 1, .int .i64 1, .int .i64 1, .int .i64 4, .int .i64 4, .int .i64 1, .int .i64 1, .int .i64 4, .int .i64 4, .string ByteArray.empty, .string ByteArray.empty, .int .i64 0, .int .i64 7] 34))
  have r2 := rd_built_at (w.alloc (.cells #[.int .i64 1, .int .i64 1, .int .i64 4, .int .i64 4] 32)) #[.int .i64 1, .int .i64 1, .int .i64 1, .int .i64 4, .int .i64 4, .int .i64 1, .int .i64 1, .int .i64 4, .int .i64 4, .string ByteArray.empty, .string ByteArray.empty, .int .i64 0, .int .i64 7] 34 13 1 (w.heap.size + 1) (by simp) rfl (by simp [Value.oneCell'])
  go_enter Tryd.func4, Tryd.ntmps4
  go_upto_region 3 with (go_at_call 14; refine (at_one _ _ _ r2).mono ?_; rintro e w3 ⟨rfl, hb3⟩)
  have h5 := (H0.out.of_below hb3).alloc (.cells #[.int .i64 1, .int .i64 1, .int .i64 1, .int .i64 4, .int .i64 4, .int .i64 1, .int .i64 1, .int .i64 4, .int .i64 4, .string ByteArray.empty, .string ByteArray.empty, .int .i64 0, .int .i64 7] 34)
  go_wp2_with fail
  refine bodyPost_ret (v := .bool true) (by simp [results, Tryd.results4, go_sem]) rfl ⟨rfl, h5.bel⟩

/-- the items that cover a point, the topmost first -/
def hits (x y : Int) (ls : List GI) : List GI := ls.reverse.filter (fun g => cov g.1.r g.1.c x y)
theorem cov_hits (x y : Int) (ls : List GI) : (covD x y ls 0).map (fun i => ls.getD i.toNat default) = hits x y ls := by
  unfold covD hits
  rw [List.map_map, List.drop_zero]
  have e : ls = (List.range ls.length).map (fun i => ls.getD i default) := by
    apply List.ext_getElem
    · simp
    · intro i h1 h2
      simp [List.getElem?_eq_getElem h1]
  conv => rhs; rw [e]
  rw [← List.map_reverse, List.filter_map, ← List.filter_reverse]
  apply List.map_congr_left
  intro i hi
  simp
theorem top_hits (x y : Int) (ls : List GI) : topOf x y ls = (hits x y ls).head? := by
  unfold topOf hits
  rw [List.head?_filter]
theorem cov_range (x y : Int) (ls : List GI) : ∀ i ∈ covD x y ls 0, ∃ k : Nat, i = k ∧ k < ls.length := by
  intro i hi
  unfold covD at hi
  simp only [List.mem_map, List.mem_reverse, List.mem_filter, List.drop_zero, List.mem_range] at hi
  obtain ⟨k, ⟨h1, _⟩, rfl⟩ := hi
  exact ⟨k, rfl, h1⟩
theorem cov_len (x y : Int) (ls : List GI) : (covD x y ls 0).length = (hits x y ls).length := by rw [← cov_hits]; simp

end Go.Proofs.YtfjjgebfeklnhaaDoor
