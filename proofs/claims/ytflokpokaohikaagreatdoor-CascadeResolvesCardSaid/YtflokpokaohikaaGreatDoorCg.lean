/-
  CascadeResolves: Apply, Initial, awake, Resolve.
-/
import Derived.Test.YtflokpokaohikaaGreatDoorCf
set_option linter.unusedVariables false
set_option linter.unusedSimpArgs false
namespace Go.Proofs.YtflokpokaohikaaGreatDoor
open Go.RowKit Go.K Go.Maps
theorem lone {cs : Array Value} (h : ∀ v ∈ cs, v.oneCell' = true) : ∀ v ∈ cs.toList, v.oneCell' = true := fun v hv => h v (by simpa using hv)
theorem lsz {cs : Array Value} {n : Nat} (h : cs.size = n) : cs.toList.length = n := by simpa using h
theorem ltl (cs : Array Value) : Value.agg cs = .agg cs.toList.toArray := congrArg Value.agg (Array.toArray_toList (xs := cs)).symm
set_option maxRecDepth 100000 in
set_option maxHeartbeats 2000000 in
theorem apply7_c (w : World) : Calls Tryz.prog 7 #[.slice none 0 0, .agg pst.toArray] w (ApPost w) := by
  have h2 := ((St.start w (Below.refl _ _)).new pst.toArray 31).new z31.toArray 31
  simp only [World.size_alloc] at h2
  have H := Lib.hid h2
  have hA := apply_c
  have hmm := @run_makeMap Tryz.prog
  clear h2
  obtain ⟨pa, hpa⟩ : ∃ pa, pst.toArray = pa := ⟨_, rfl⟩
  have hps : pa.size = 53 := by rw [← hpa]; rfl
  simp only [hpa] at H hA ⊢
  have HA := Lib.hid hA
  clear hA hpa
  go_enter Tryz.func7, Tryz.ntmps7
  go_wp2_with (first
    | (refine st_ldw rfl (.tmp 3) rfl H.out (.tail _ (.head _)) rfl hps Tryz.underlying31 rfl size31 ?_)
    | (go_at_call 8; refine (HA.out _ _).mono ?_; rintro e W' ⟨cs, rfl, hs, h1, h37, h35, hb⟩; have H6 := Lib.hid ((H.out.alloc _).of_below hb); clear hb)
    | (refine st_store rfl (.tmp 4) (.tmp 8) rfl H6.out cs.toList rfl (ltl cs) z31_size (lsz hs) size31 (lone h1) ?_; intro W9 hW9; simp only [Array.toArray_toList] at hW9; have H9 := Lib.hid hW9; clear hW9)
    | fail)
  exact bodyPost_ret (results_cell_row (P := Tryz.prog) Tryz.results7 _ _ (w.heap.size + 1) 31 cs _ _ rfl H9.out.blk.1 Tryz.underlying31 rfl (by rw [hs]; exact size31)) rfl ⟨cs, rfl, hs, h1, h37, h35, H9.out.bel⟩
def InPost (w : World) (e : Ending) (w' : World) : Prop := ∃ cs : Array Value, e = .returned (.agg cs) ∧ cs.size = 53 ∧ (∀ v ∈ cs, v.oneCell' = true) ∧ cs[0]? = some (.int .i64 1) ∧ cs[37]? = some (.int .i64 16) ∧ cs[35]? = some blk ∧ Below w.heap.size w w'
set_option maxRecDepth 100000 in
set_option maxHeartbeats 2000000 in
theorem initial_c (w : World) : Calls Tryz.prog 6 #[] w (InPost w) := by
  have H := Lib.hid ((St.start w (Below.refl _ _)).new z31.toArray 31)
  have HA := Lib.hid apply7_c
  go_enter Tryz.func6, Tryz.ntmps6
  go_wp2_with (first
    | (go_at_call 7; refine (HA.out _).mono ?_; rintro e W' ⟨cs, rfl, hs, h1, h37, h35, hb⟩; have H6 := Lib.hid (((H.out).of_below hb).new z31.toArray 31); clear hb)
    | (refine st_store rfl (.tmp 1) (.tmp 3) rfl H6.out cs.toList rfl (ltl cs) z31_size (lsz hs) size31 (lone h1) ?_; intro W9 hW9; simp only [Array.toArray_toList] at hW9; have H9 := Lib.hid (sty_of (K := [(35, blk), (37, .int .i64 16)]) hW9 hs h1 (by simp [h35, h37])); clear hW9)
    | (refine st_put (K' := [(0, .int .i64 1), (35, blk), (37, .int .i64 16)]) rfl (.tmp 4) (.const (.int .i64 1)) rfl H9.out rfl (.int .i64 1) rfl [.int .i64 1] rfl (by simp) size3 (by simp [Value.oneCell']) (fun p hp => by rcases List.mem_cons.1 hp with q | q; (· rw [q]; exact .inr ⟨0, rfl, rfl⟩); (· exact keepK (o := 0) (vs := [.int .i64 1]) (by decide) p q)) ?_; intro W1 hW1; obtain ⟨⟨ds, es, e1, ek⟩, h3⟩ := hW1.open_ex; have HB := Lib.hid h3; clear h3 hW1)
    | (refine st_ldw rfl (.tmp 1) rfl HB.out (.head _) rfl es Tryz.underlying31 rfl size31 ?_)
    | (refine st_store rfl (.tmp 0) (.tmp 5) rfl HB.out.swap ds.toList rfl (ltl ds) z31_size (lsz es) size31 (lone e1) ?_; intro W2 hW2; simp only [Array.toArray_toList] at hW2; have HC := Lib.hid hW2; clear hW2)
    | fail)
  exact bodyPost_ret (results_cell_row (P := Tryz.prog) Tryz.results6 _ _ (w.heap.size) 31 ds _ _ rfl HC.out.blk.1 Tryz.underlying31 rfl (by rw [es]; exact size31)) rfl ⟨ds, rfl, es, e1, ek (0, .int .i64 1) (by simp), ek (37, .int .i64 16) (by simp), ek (35, blk) (by simp), HC.out.bel⟩
set_option maxRecDepth 100000 in
set_option maxHeartbeats 2000000 in
theorem awake_c (w : World) : Calls Tryz.prog 4 #[] w fun e w' => e = .returned (.bool true) ∧ Below w.heap.size w w' := by
  have HA := Lib.hid initial_c
  have H0 := Lib.hid (St.start w (Below.refl _ _))
  go_enter Tryz.func4, Tryz.ntmps4
  go_wp2_with (first
    | (go_at_call 6; refine (HA.out _).mono ?_; rintro e W' ⟨cs, rfl, hs, h1, h0, h37, h35, hb⟩; have H6 := Lib.hid (((H0.out).of_below hb).new z31.toArray 31); clear hb)
    | (refine st_store rfl (.tmp 1) (.tmp 2) rfl H6.out cs.toList rfl (ltl cs) z31_size (lsz hs) size31 (lone h1) ?_; intro W9 hW9; simp only [Array.toArray_toList] at hW9; have C0 := (hW9.blk.1.cell 0).trans h0; have C35 := (hW9.blk.1.cell 35).trans h35; have C37 := (hW9.blk.1.cell 37).trans h37; have H9 := Lib.hid hW9; clear hW9)
    | fail)
  exact bodyPost_ret (results_tmp Tryz.results4 _ _ _) rfl ⟨rfl, H9.out.bel⟩
def resv (k v b : Int) : Int × Bool := if k = 1 then (v, true) else if k = 2 then ((b * v).tdiv 10000, true) else (0, false)
set_option maxRecDepth 100000 in
set_option maxHeartbeats 2000000 in
theorem resolve_c (w : World) (k v b : Int) (h1 : -(2 ^ 62) ≤ b * v) (h2 : b * v ≤ 2 ^ 62) : Calls Tryz.prog 5 #[.agg #[.int .i64 k, .int .i64 v], .int .i64 b] w fun e w' => e = .returned (.tuple #[.int .i64 (resv k v b).1, .bool (resv k v b).2]) ∧ Below w.heap.size w w' := by
  have H0 := Lib.hid ((St.start w (Below.refl _ _)).new #[.int .i64 k, .int .i64 v] 26)
  have hm : IntKind.i64.wrap (b * v) = b * v := by simp [IntKind.wrap, IntKind.bits, IntKind.signed, Int.bmod]; omega
  have hd : -(2 ^ 62) ≤ (b * v).tdiv 10000 ∧ (b * v).tdiv 10000 ≤ 2 ^ 62 := by
    generalize b * v = x at h1 h2
    have := Int.mul_tdiv_add_tmod x 10000
    have := Int.tmod_lt_of_pos x (b := 10000) (by decide)
    have := Int.lt_tmod_of_pos x (b := 10000) (by decide)
    omega
  have hm2 : IntKind.i64.wrap ((b * v).tdiv 10000) = (b * v).tdiv 10000 := by
    generalize (b * v).tdiv 10000 = x at hd
    simp [IntKind.wrap, IntKind.bits, IntKind.signed, Int.bmod]; omega
  by_cases k1 : k = 1
  · subst k1
    go_enter Tryz.func5, Tryz.ntmps5
    go_wp2_with fail
    exact bodyPost_ret (results_tmp2 Tryz.results5 _ _ _) rfl ⟨rfl, (Below.refl _ _).alloc (Nat.le_refl _) _⟩
  · by_cases k2 : k = 2
    · subst k2
      go_enter Tryz.func5, Tryz.ntmps5
      go_wp2_with fail
      exact bodyPost_ret (results_tmp2 Tryz.results5 _ _ _) rfl ⟨rfl, (Below.refl _ _).alloc (Nat.le_refl _) _⟩
    · have hr : resv k v b = (0, false) := by rw [resv, if_neg k1, if_neg k2]
      rw [hr]
      clear hr
      go_enter Tryz.func5, Tryz.ntmps5
      go_wp2_with fail
      exact bodyPost_ret (results_tmp2 Tryz.results5 _ _ _) rfl ⟨rfl, (Below.refl _ _).alloc (Nat.le_refl _) _⟩
def i32b (v : Int) : Prop := -(2 ^ 31) ≤ v ∧ v < 2 ^ 31
theorem mulb {a b : Int} (h1 : i32b a) (h2 : i32b b) : -(2 ^ 62) ≤ a * b ∧ a * b ≤ 2 ^ 62 := by
  obtain ⟨a1, a2⟩ := h1
  obtain ⟨b1, b2⟩ := h2
  have q : (a * b).natAbs ≤ 2 ^ 31 * 2 ^ 31 := by rw [Int.natAbs_mul]; exact Nat.mul_le_mul (by omega) (by omega)
  omega
theorem rest_law (b v : Int) : let rest := b * v - (b * v).tdiv 10000 * 10000; -10000 < rest ∧ rest < 10000 ∧ (rest = 0 ∨ (decide (rest > 0) = ((decide (b > 0)) == (decide (v > 0))))) := by
  intro rest
  have h1 : rest = (b * v).tmod 10000 := by have := Int.mul_tdiv_add_tmod (b * v) 10000; simp only [rest]; omega
  have h2 := Int.tmod_lt_of_pos (b * v) (b := 10000) (by decide)
  have h3 := Int.lt_tmod_of_pos (b * v) (b := 10000) (by decide)
  refine ⟨by omega, by omega, ?_⟩
  by_cases h0 : rest = 0
  · exact .inl h0
  right
  have hs : 0 < rest ↔ 0 < b * v := by
    by_cases hp : 0 ≤ b * v
    · have := Int.tmod_nonneg 10000 hp
      have hne : b * v ≠ 0 := by intro hz; rw [hz] at h1; simp at h1; exact h0 h1
      omega
    · have : (-(b * v)).tmod 10000 = -((b * v).tmod 10000) := Int.neg_tmod ..
      have := Int.tmod_nonneg (a := -(b * v)) 10000 (by omega)
      omega
  have hb0 : b ≠ 0 := by rintro rfl; simp at h1; exact h0 h1
  have hv0 : v ≠ 0 := by rintro rfl; simp at h1; exact h0 h1
  rcases Int.lt_or_gt_of_ne hb0 with p | p <;> rcases Int.lt_or_gt_of_ne hv0 with q | q
  · have := Int.mul_pos_of_neg_of_neg p q
    have e1 : ¬ b > 0 := by omega
    have e2 : ¬ v > 0 := by omega
    have e3 : rest > 0 := by omega
    simp [e1, e2, e3]
  · have := Int.mul_neg_of_neg_of_pos p q
    have e1 : ¬ b > 0 := by omega
    have e3 : ¬ rest > 0 := by omega
    simp [e1, q, e3]
  · have := Int.mul_neg_of_pos_of_neg p q
    have e2 : ¬ v > 0 := by omega
    have e3 : ¬ rest > 0 := by omega
    simp [p, e2, e3]
  · have := Int.mul_pos p q
    have e3 : rest > 0 := by omega
    simp [p, q, e3]
end Go.Proofs.YtflokpokaohikaaGreatDoor
