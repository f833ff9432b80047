/-
  Contracts of the comparison of timers and of the binary search over them.
-/
import Derived.Test.YtnamkckpgaopkaaProg
import Derived.Test.YtnamkckpgaopkaaKl
import Derived.LoopN
import Derived.StillTailTactics
import Derived.BigQuiet
import Derived.Deep.RegionHeld3
import Derived.Lib.QuietBelow
set_option linter.unusedVariables false
namespace Go.Proofs.Ytnamkckpgaopkaa
open Go.RowKit Go.K

def cmpI (a b : Int) : Int := if a < b then -1 else if b < a then 1 else 0

theorem isnan_any (a : Int) (w : World) : Calls Try.prog 79 #[.int .i64 a] w fun e w' => e = .returned (.bool false) ∧ w = w' := by
  go_enter Try.func79, Try.ntmps79
  go_wp2
  go_ret
  exact ⟨by simp, rfl⟩

set_option maxHeartbeats 400000 in
theorem compare_any (a b : Int) (w : World) : Calls Try.prog 75 #[.int .i64 a, .int .i64 b] w fun e w' => e = .returned (.int .i64 (cmpI a b)) ∧ w = w' := by
  unfold cmpI
  by_cases h1 : a < b
  · go_enter Try.func75, Try.ntmps75
    go_wp2_with (go_at_call 79; refine (isnan_any _ _).mono ?_; rintro e w' ⟨rfl, rfl⟩)
    go_ret
    exact ⟨by simp, rfl⟩
  · by_cases h2 : b < a
    · go_enter Try.func75, Try.ntmps75
      go_wp2_with (go_at_call 79; refine (isnan_any _ _).mono ?_; rintro e w' ⟨rfl, rfl⟩)
      go_ret
      exact ⟨by simp, rfl⟩
    · go_enter Try.func75, Try.ntmps75
      go_wp2_with (go_at_call 79; refine (isnan_any _ _).mono ?_; rintro e w' ⟨rfl, rfl⟩)
      go_ret
      exact ⟨by simp, rfl⟩

def orI (x y : Int) : Int := if x = 0 then y else x

set_option maxHeartbeats 400000 in
theorem or_any (g : Nat) (x y : Int) (w : World) (h0 : w.cell? ⟨g, 0, none⟩ = some (.int .i64 x)) (h1 : w.cell? ⟨g, 1, none⟩ = some (.int .i64 y)) :
    Calls Try.prog 74 #[.slice (some ⟨g, 0, none⟩) 2 2] w fun e w' => e = .returned (.int .i64 (orI x y)) ∧ w = w' := by
  unfold orI
  by_cases hx : x = 0
  · subst hx
    by_cases hy : y = 0
    · subst hy
      go_enter Try.func74, Try.ntmps74
      go_wp2
      refine wp_loop_rounds 3 ?_
      rw [rounds_succ]
      go_wp2
      rw [rounds_succ]
      go_wp2
      rw [rounds_succ]
      go_wp2
      go_ret
      exact ⟨by simp, rfl⟩
    · have hy1 : (y != 0) = true := by simp [hy]
      go_enter Try.func74, Try.ntmps74
      go_wp2
      refine wp_loop_rounds 3 ?_
      rw [rounds_succ]
      go_wp2
      rw [rounds_succ]
      go_wp2
      go_ret
      exact ⟨by simp, rfl⟩
  · have hx1 : (x != 0) = true := by simp [hx]
    go_enter Try.func74, Try.ntmps74
    go_wp2
    refine wp_loop_rounds 3 ?_
    rw [rounds_succ]
    go_wp2
    go_ret
    exact ⟨by simp, rfl⟩

/-- a timer's value -/
structure Tm where
  id : Int
  due : Int
  ord : Int

def Tm.cells (t : Tm) : List Value := [.int .i64 t.id, .int .i64 t.due, .int .i64 t.ord]
def Tm.val (t : Tm) : Value := .agg #[.int .i64 t.id, .int .i64 t.due, .int .i64 t.ord]
def cmpT (a b : Tm) : Int := orI (cmpI a.due b.due) (cmpI a.ord b.ord)

set_option maxHeartbeats 1000000 in
theorem less_any (a b : Tm) (w : World) : Calls Try.prog 73 #[a.val, b.val] w fun e w' => e = .returned (.int .i64 (cmpT a b)) ∧ Below w.heap.size w w' := by
  obtain ⟨a0, a1, a2⟩ := a
  obtain ⟨b0, b1, b2⟩ := b
  unfold Tm.val cmpT
  go_enter Try.func73, Try.ntmps73
  go_wp2
  go_region_held3 (fun w' => w'.cell? ⟨w.heap.size, 1, none⟩ = some (.int .i64 a1) ∧ w'.cell? ⟨w.heap.size, 2, none⟩ = some (.int .i64 a2) ∧ w'.cell? ⟨w.heap.size + 1, 1, none⟩ = some (.int .i64 b1) ∧ w'.cell? ⟨w.heap.size + 1, 2, none⟩ = some (.int .i64 b2))
    (first | go_keep)
    (first
      | (go_at_call 75; refine (compare_any _ _ _).mono ?_; rintro e w' ⟨rfl, rfl⟩)
      | (go_at_call 74; refine (or_any _ (cmpI a1 b1) (cmpI a2 b2) _ (by go_simp) (by go_simp)).mono ?_; rintro e w' ⟨rfl, rfl⟩))
  go_wp2
  go_ret
  exact ⟨rfl, ((((Below.refl _ _).alloc (Nat.le_refl _) _).alloc (by simp) _).alloc (by simp; omega) _).drew⟩

/-- the cells of a list of timers -/
def tcells (ts : List Tm) : List Value := ts.flatMap Tm.cells

theorem tcells_len (ts : List Tm) : (tcells ts).length = ts.length * 3 := by
  induction ts with
  | nil => rfl
  | cons t ts ih => simp only [tcells, List.flatMap_cons, List.length_append, List.length_cons] at *; simp only [Tm.cells, List.length_cons, List.length_nil]; omega
theorem tcells_one (ts : List Tm) : ∀ u ∈ tcells ts, u.oneCell' = true := by
  intro u hu
  simp only [tcells, List.mem_flatMap] at hu
  obtain ⟨t, _, hu⟩ := hu
  simp only [Tm.cells, List.mem_cons, List.not_mem_nil, or_false] at hu
  rcases hu with rfl | rfl | rfl <;> rfl
theorem tcells_at (ts : List Tm) (k : Nat) (hk : k < ts.length) : (tcells ts)[k * 3]? = some (.int .i64 ts[k].id) ∧ (tcells ts)[k * 3 + 1]? = some (.int .i64 ts[k].due) ∧ (tcells ts)[k * 3 + 2]? = some (.int .i64 ts[k].ord) := by
  induction ts generalizing k with
  | nil => simp at hk
  | cons t ts ih =>
    cases k with
    | zero => simp [tcells, Tm.cells]
    | succ k =>
      have := ih k (by simpa using hk)
      simp only [tcells, List.flatMap_cons, Tm.cells, List.cons_append, List.nil_append, List.getElem_cons_succ] at *
      rw [show (k + 1) * 3 = k * 3 + 1 + 1 + 1 by omega, show k * 3 + 1 + 1 + 1 + 1 = k * 3 + 1 + 1 + 1 + 1 from rfl]
      simpa using this

/-- where the search ends: all before it are less, none from it on is (as far as the search looked) -/
def Found (ts : List Tm) (t : Tm) (i : Nat) : Prop := i ≤ ts.length ∧ (∀ h : 0 < i ∧ i - 1 < ts.length, cmpT (ts[i - 1]'h.2) t < 0) ∧ (∀ h : i < ts.length, 0 ≤ cmpT ts[i] t)

def SearchPost (w : World) (ts : List Tm) (t : Tm) (E : Ending) (w' : World) : Prop :=
  ∃ (i : Nat) (b : Bool), E = .returned (.tuple #[.int .i64 i, .bool b]) ∧ Found ts t i ∧ Below w.heap.size w w'

def SRel (ts : List Tm) (t : Tm) (n : Nat) (w0 : World) (i' j' : Nat) (wr : World) : Prop :=
  i' ≤ j' ∧ j' ≤ n ∧ (∀ h : 0 < i' ∧ i' - 1 < ts.length, cmpT (ts[i' - 1]'h.2) t < 0) ∧ (∀ h : j' < ts.length, 0 ≤ cmpT ts[j'] t) ∧ Below w0.heap.size w0 wr

set_option maxHeartbeats 1000000 in
theorem search_some (g off : Nat) (n c : Nat) (ts : List Tm) (t : Tm) (w : World) (hl : ts.length = n) (hcells : ∀ j u, (tcells ts)[j]? = some u → w.cell? ⟨g, off + j, none⟩ = some u) (hn : n ≤ 4294967296) :
    Calls Try.prog 72 #[.slice (some ⟨g, off, none⟩) n c, t.val, .func (.func 73) #[] #[]] w (SearchPost w ts t) := by
  obtain ⟨t0, t1, t2⟩ := t
  unfold Tm.val
  have HL := Lib.hid hl
  have HC := Lib.hid hcells
  clear hl hcells
  go_enter Try.func72, Try.ntmps72
  go_wp2
  go_loopw [9, 10] (fun i j wr => ∃ i' j' : Nat, i = .int .i64 i' ∧ j = .int .i64 j' ∧ SRel ts ⟨t0, t1, t2⟩ n (w.alloc (.cells #[.int .i64 t0, .int .i64 t1, .int .i64 t2] 95)) i' j' wr) (fun i j _ => (intOf j - intOf i).toNat)
  case atStart => exact ⟨0, n, rfl, rfl, by omega, by omega, fun h => by omega, fun h => by have := HL.out; omega, Below.refl _ _⟩
  case round =>
    obtain ⟨i, j, rfl, rfl, hij, hjn, hi, hj, hb⟩ := hrel
    have Hi := Lib.hid hi
    have Hj := Lib.hid hj
    clear hi hj
    have q0 : wr.cell? ⟨w.heap.size, 0, none⟩ = some (.int .i64 t0) := by rw [hb.cell (by simp)]; simp
    have q1 : wr.cell? ⟨w.heap.size, 1, none⟩ = some (.int .i64 t1) := by rw [hb.cell (by simp)]; simp
    have q2 : wr.cell? ⟨w.heap.size, 2, none⟩ = some (.int .i64 t2) := by rw [hb.cell (by simp)]; simp
    have old : ∀ j u, (tcells ts)[j]? = some u → wr.cell? ⟨g, off + j, none⟩ = some u := fun j u hu => by
      have := HC.out j u hu
      rw [hb.cell (Nat.lt_of_lt_of_le (World.block_lt_of_cell? _ _ this) (by simp))]
      exact (World.cell?_of_block (Below.heap_alloc w _ _ (World.block_lt_of_cell? w _ this))).trans this
    have p0 := fun d os => cell_regrown q0 d os
    have p1 := fun d os => cell_regrown q1 d os
    have p2 := fun d os => cell_regrown q2 d os
    clear q0 q1 q2
    by_cases hlt : i < j
    · have hm : (i + j) / 2 < ts.length := by rw [HL.out]; omega
      obtain ⟨c0, c1, c2⟩ := tcells_at ts ((i + j) / 2) hm
      have r0 := fun d os => cell_regrown (old _ _ c0) d os
      have r1 := fun d os => cell_regrown (old _ _ c1) d os
      have r2 := fun d os => cell_regrown (old _ _ c2) d os
      simp only [← Nat.add_assoc] at r1 r2
      clear old c0 c1 c2
      have b1 : (0 : Int) ≤ ((i : Int) + j) / 2 := by omega
      have b2 : ((i : Int) + j) / 2 < (n : Int) := by omega
      have b3 : (((i : Int) + j) / 2).toNat = (i + j) / 2 := by omega
      go_wp2_with fail
      refine wp_region_quiet_below (by kernel_rfl) (by kernel_rfl) ?_
      repeat (quiet_step ((go_at_call 73; exact Calls.regrown_of (less_any ⟨_, _, _⟩ ⟨_, _, _⟩ _))))
      refine wpQuiet_nil ?_
      rintro w2 ⟨p, rfl⟩
      have hb2 := hb.trans ((below_regrown wr p.d p.os).mono hb.size)
      generalize Sort.grow (redrawn wr p.d) p.os = w2 at hb2 ⊢
      clear r0 r1 r2 p0 p1 p2
      go_wp2_with fail
      · have hc : cmpT ⟨ts[(i + j) / 2].id, ts[(i + j) / 2].due, ts[(i + j) / 2].ord⟩ ⟨t0, t1, t2⟩ < 0 := by assumption
        refine ⟨⟨(i + j) / 2 + 1, j, by go_num, rfl, by omega, by omega, fun h => ?_, Hj.out, hb2⟩, by simp [intOf]; omega⟩
        simp only [Nat.add_sub_cancel]
        exact hc
      · have hc : 0 ≤ cmpT ⟨ts[(i + j) / 2].id, ts[(i + j) / 2].due, ts[(i + j) / 2].ord⟩ ⟨t0, t1, t2⟩ := by assumption
        refine ⟨⟨i, (i + j) / 2, rfl, by go_num, by omega, by omega, Hi.out, fun h => ?_, hb2⟩, by simp [intOf]; omega⟩
        exact hc
    · have Hf : Hid (Found ts ⟨t0, t1, t2⟩ i) := by
        obtain rfl : i = j := by omega
        exact ⟨by rw [HL.out]; omega, Hi.out, Hj.out⟩
      by_cases hin : i < n
      · have hm : i < ts.length := by rw [HL.out]; omega
        obtain ⟨c0, c1, c2⟩ := tcells_at ts i hm
        have r0 := fun d os => cell_regrown (old _ _ c0) d os
        have r1 := fun d os => cell_regrown (old _ _ c1) d os
        have r2 := fun d os => cell_regrown (old _ _ c2) d os
        simp only [← Nat.add_assoc] at r1 r2
        clear old c0 c1 c2
        have b1 : (0 : Int) ≤ (i : Int) := by omega
        have b2 : (i : Int) < (n : Int) := by omega
        go_wp2_with fail
        refine wp_region_quiet_below (by kernel_rfl) (by kernel_rfl) ?_
        repeat (quiet_step ((go_at_call 73; exact Calls.regrown_of (less_any ⟨_, _, _⟩ ⟨_, _, _⟩ _))))
        refine wpQuiet_nil ?_
        rintro w2 ⟨p, rfl⟩
        have hb2 := hb.trans ((below_regrown wr p.d p.os).mono hb.size)
        generalize Sort.grow (redrawn wr p.d) p.os = w2 at hb2 ⊢
        clear r0 r1 r2 p0 p1 p2
        go_wp2_with fail
        go_ret2
        exact ⟨i, _, rfl, Hf.out, ((Below.refl _ _).alloc (Nat.le_refl _) _).trans (hb2.mono (by simp))⟩
      · have hd : decide ((i : Int) < (n : Int)) = false := by simp; omega
        clear p0 p1 p2 old
        go_wp2_with fail
        refine wp_region_quiet_below (by kernel_rfl) (by kernel_rfl) ?_
        repeat (go_big_quiet_step (fail))
        refine wpQuiet_nil ?_
        rintro w2 ⟨p, rfl⟩
        have hb2 := hb.trans ((below_regrown wr p.d p.os).mono hb.size)
        generalize Sort.grow (redrawn wr p.d) p.os = w2 at hb2 ⊢
        go_wp2_with fail
        go_ret2
        exact ⟨i, _, rfl, Hf.out, ((Below.refl _ _).alloc (Nat.le_refl _) _).trans (hb2.mono (by simp))⟩

set_option maxHeartbeats 1000000 in
theorem search_none (s : Option Addr) (c : Nat) (t : Tm) (w : World) :
    Calls Try.prog 72 #[.slice s 0 c, t.val, .func (.func 73) #[] #[]] w (SearchPost w [] t) := by
  obtain ⟨t0, t1, t2⟩ := t
  unfold Tm.val
  go_enter Try.func72, Try.ntmps72
  go_wp2
  refine wp_loop_rounds 1 ?_
  rw [rounds_succ]
  go_wp2_with fail
  refine wp_region_quiet_below (by kernel_rfl) (by kernel_rfl) ?_
  repeat (go_big_quiet_step (fail))
  refine wpQuiet_nil ?_
  rintro w2 ⟨p, rfl⟩
  have hb2 := (below_regrown (w.alloc (.cells #[.int .i64 t0, .int .i64 t1, .int .i64 t2] 95)) p.d p.os)
  generalize Sort.grow (redrawn (w.alloc (.cells #[.int .i64 t0, .int .i64 t1, .int .i64 t2] 95)) p.d) p.os = w2 at hb2 ⊢
  go_wp2_with fail
  go_ret2
  exact ⟨0, _, rfl, ⟨Nat.le_refl _, fun h => by omega, fun h => by simp at h⟩, ((Below.refl _ _).alloc (Nat.le_refl _) _).trans (hb2.mono (by simp))⟩

theorem search_any (s : Option Addr) (n c : Nat) (ts : List Tm) (t : Tm) (w : World) (hs : Rd w 3 s n (tcells ts)) (hn : n ≤ 4294967296) :
    Calls Try.prog 72 #[.slice s n c, t.val, .func (.func 73) #[] #[]] w (SearchPost w ts t) := by
  have hl : ts.length = n := by have := hs.len; rw [tcells_len] at this; omega
  by_cases h0 : n = 0
  · subst h0
    rw [List.eq_nil_of_length_eq_zero hl]
    exact search_none s c t w
  · obtain ⟨g, off, rfl, hc⟩ := hs.addr (by omega)
    exact search_some g off n c ts t w hl hc hn

end Go.Proofs.Ytnamkckpgaopkaa
