/-
  ref24.edges, ref24.Extent.
-/
import Derived.Test.YtfjjgebfeklnhaaIh
set_option linter.unusedVariables false
set_option linter.unusedSimpArgs false
namespace Go.Proofs.Ytfjjgebfeklnhaa
open Go.RowKit Go.K

theorem b_at {w : World} {g off n : Nat} {ls : List (Ft × R4)} (hs : Rd w 71 (some ⟨g, off, none⟩) n (flat bc ls)) {k : Nat} (hk : k < ls.length) (r : R4) (hx : ls[k].2 = r) :
    w.cell? ⟨g, off + k * 71 + 67, none⟩ = some (.int .i64 r.x) ∧ w.cell? ⟨g, off + k * 71 + 67 + 1, none⟩ = some (.int .i64 r.y) ∧ w.cell? ⟨g, off + k * 71 + 67 + 2, none⟩ = some (.int .i64 r.w) ∧ w.cell? ⟨g, off + k * 71 + 67 + 3, none⟩ = some (.int .i64 r.h) := by
  have e := fun j hj => flat_at (f := bc) (sz := 71) bc_len ls k j hk hj
  have c := fun j u h => hs.cells _ rfl j u h
  simp only [Addr.add_lit] at c
  have hb : ∀ j, j < 4 → (bc ls[k])[67 + j]? = (rc4 r)[j]? := by
    intro j hj
    rw [bc, List.getElem?_append_right (by rw [fc_len]; omega), fc_len, hx]
    congr 1; omega
  have q := fun j (hj : j < 4) => c _ _ ((e (67 + j) (by omega)).trans ((hb j hj).trans (List.getElem?_eq_getElem (by show j < 4; exact hj))))
  simp only [← Nat.add_assoc] at q
  exact ⟨by have := q 0 (by omega); rwa [Nat.add_zero] at this, q 1 (by omega), q 2 (by omega), q 3 (by omega)⟩

def EdRel (rs : List R4) (r0 : R4) (w : World) (g : Nat) (v4 v5 v31 : Value) (wr' : World) : Prop :=
  ∃ k : Nat, g = rs.length - k ∧ k ≤ rs.length ∧ v31 = .int .i64 k ∧ v4 = .int .i64 ((rs.take k).foldl (fun m q => max m (gX q)) (gX r0)) ∧ v5 = .int .i64 ((rs.take k).foldl (fun m q => max m (gY q)) (gY r0)) ∧ Below w.heap.size w wr'
theorem fold_take (f : R4 → Int) (rs : List R4) (m : Int) (k : Nat) (hk : k < rs.length) : (rs.take (k + 1)).foldl (fun m q => max m (f q)) m = max ((rs.take k).foldl (fun m q => max m (f q)) m) (f rs[k]) := by
  rw [List.take_succ_eq_append_getElem hk, List.foldl_append]; rfl
theorem below_drewN' {B n : Nat} {w w2 : World} (h : Below B w w2) : Below B w (w2.drewN n) := ⟨h.os, h.tape, h.output, h.size, h.block⟩

set_option maxRecDepth 100000 in
set_option maxHeartbeats 1000000 in
theorem edges_c (s : Option Addr) (c : Nat) (l : List (Ft × R4)) (w : World) (h : Rd w 71 s l.length (flat bc l)) (hl : l ≠ []) (hn : l.length ≤ 1000000) :
    Calls Try.prog 35 #[.slice s l.length c] w fun e w' => e = .returned (.tuple #[.int .i64 (emax gX (l.map (·.2))), .int .i64 (emax gY (l.map (·.2)))]) ∧ Below w.heap.size w w' := by
  have h0 : 0 < l.length := List.length_pos_iff.2 hl
  have hnI : (l.length : Int) ≤ 1000000 := by omega
  have h0I : (0 : Int) < (l.length : Int) := by omega
  obtain ⟨g, off, rfl, -⟩ := h.addr (by omega)
  have HR := Lib.hid h
  obtain ⟨r0, hr0⟩ : ∃ r0, l[0].2 = r0 := ⟨_, rfl⟩
  obtain ⟨d0, d1, d2, d3⟩ := b_at h h0 r0 hr0
  simp only [Nat.zero_mul, Nat.add_zero] at d0 d1 d2 d3
  have ew : IntKind.i64.wrap (r0.x + r0.w) = gX r0 := rfl
  have eh : IntKind.i64.wrap (r0.y + r0.h) = gY r0 := rfl
  have ew2 : wrap64 (r0.x + r0.w) = gX r0 := by rw [wr64]; rfl
  have eh2 : wrap64 (r0.y + r0.h) = gY r0 := by rw [wr64]; rfl
  have HR0 := Lib.hid hr0
  clear h hr0
  go_enter Try.func35, Try.ntmps35
  go_upto_region 1 with fail
  go_quiet (fail)
  try simp only [ew2, eh2]
  clear d0 d1 d2 d3 ew eh ew2 eh2
  go_wp2_with fail
  go_loopg [4, 5, 31] l.length (EdRel (l.map (·.2)) r0 w)
  case atStart => exact ⟨0, by simp, Nat.zero_le _, rfl, rfl, rfl, below_drewN (Below.refl _ _)⟩
  case round =>
    obtain ⟨k, hg, hk, rfl, rfl, rfl, hb⟩ := hrel
    have Hg := Lib.hid hg
    have HB := Lib.hid hb
    simp only [List.length_map] at hk
    clear hg hb
    by_cases hkn : k < l.length
    · have hkI : (k : Int) < (l.length : Int) := by omega
      have hkI0 : (0 : Int) ≤ (k : Int) := by omega
      obtain ⟨r, hr⟩ : ∃ r, l[k].2 = r := ⟨_, rfl⟩
      obtain ⟨d0, d1, d2, d3⟩ := b_at (HR.out.below HB.out) hkn r hr
      have f1 := fold_take gX (l.map (·.2)) (gX r0) k (by simpa using hkn)
      have f2 := fold_take gY (l.map (·.2)) (gY r0) k (by simpa using hkn)
      rw [List.getElem_map, hr] at f1 f2
      have HF1 := Lib.hid f1
      have HF2 := Lib.hid f2
      obtain ⟨m1, hm1⟩ : ∃ m1, ((l.map (·.2)).take k).foldl (fun m q => max m (gX q)) (gX r0) = m1 := ⟨_, rfl⟩
      obtain ⟨m2, hm2⟩ : ∃ m2, ((l.map (·.2)).take k).foldl (fun m q => max m (gY q)) (gY r0) = m2 := ⟨_, rfl⟩
      rw [hm1] at HF1
      rw [hm2] at HF2
      simp only [hm1, hm2]
      have ew : IntKind.i64.wrap (r.x + r.w) = gX r := rfl
      have eh : IntKind.i64.wrap (r.y + r.h) = gY r := rfl
      have ew2 : wrap64 (r.x + r.w) = gX r := by rw [wr64]; rfl
      have eh2 : wrap64 (r.y + r.h) = gY r := by rw [wr64]; rfl
      have HLR := Lib.hid hr
      clear hr f1 f2 hm1 hm2
      go_upto_region 5 with fail
      go_quiet (fail)
      have hq1 : (if m1 < gX r then gX r else m1) = max m1 (gX r) := by split <;> omega
      simp only [hq1]
      obtain ⟨W1, hW1⟩ : ∃ W1, wr.drewN nq = W1 := ⟨_, rfl⟩
      have HB1 := Lib.hid (show Below w.heap.size w W1 by rw [← hW1]; exact below_drewN HB.out)
      rw [hW1]
      clear d0 d1 d2 d3 hW1 hq1
      obtain ⟨d0, d1, d2, d3⟩ := b_at (HR.out.below HB1.out) hkn r HLR.out
      go_upto_region 6 with fail
      go_quiet (fail)
      have hq2 : (if m2 < gY r then gY r else m2) = max m2 (gY r) := by split <;> omega
      simp only [hq2]
      obtain ⟨W2, hW2⟩ : ∃ W2, W1.drewN nq = W2 := ⟨_, rfl⟩
      have HB2 := Lib.hid (show Below w.heap.size w W2 by rw [← hW2]; exact below_drewN HB1.out)
      rw [hW2]
      clear d0 d1 d2 d3 hW2 hq2
      go_wp2_with fail
      go_roundg (l.length - (k + 1))
      case measure => have := Hg.out; simp only [List.length_map] at this; omega
      case rel => exact ⟨k + 1, by simp, by rw [List.length_map]; exact hkn, by simp, by rw [HF1.out], by rw [HF2.out], HB2.out⟩
    · have hkI : ¬ (k : Int) < (l.length : Int) := by omega
      have hke : k = l.length := by omega
      subst hke
      have e1 : ((l.map (·.2)).take l.length).foldl (fun m q => max m (gX q)) (gX r0) = emax gX (l.map (·.2)) := by
        rw [List.take_of_length_le (by simp)]
        cases l with
        | nil => exact absurd rfl hl
        | cons a l => rw [← HR0.out, List.map_cons, List.foldl_cons, emax]; simp
      have e2 : ((l.map (·.2)).take l.length).foldl (fun m q => max m (gY q)) (gY r0) = emax gY (l.map (·.2)) := by
        rw [List.take_of_length_le (by simp)]
        cases l with
        | nil => exact absurd rfl hl
        | cons a l => rw [← HR0.out, List.map_cons, List.foldl_cons, emax]; simp
      rw [e1, e2]
      clear e1 e2
      go_wp2_with fail
      refine bodyPost_ret (results_tmp2 rfl _ _ _) rfl ?_
      exact ⟨rfl, HB.out⟩
end Go.Proofs.Ytfjjgebfeklnhaa
