/-
  The law's check of a choice.
-/
import Derived.Test.YtnamkckpgaopkaaYg
set_option linter.unusedVariables false
set_option linter.unusedSimpArgs false
namespace Go.Proofs.Ytnamkckpgaopkaa
open Go.RowKit Go.K

def ChRel (m2 m3 : Nat) (X D : Array Value) (n : Nat) (w : World) (g : Nat) (v : Value) (wr : World) : Prop :=
  ∃ k : Nat, g = n - k ∧ k ≤ n ∧ v = .int .i64 k ∧ St w wr [As.cells m3 D 77, As.cells m2 X 50]
set_option maxRecDepth 100000 in
set_option maxHeartbeats 2000000 in
theorem chosen_c {w : World} {kd jk src tkk tn cid cev cvk cfn dn dfn : Int} {ja ca ha s : Option Addr} {jan jac can cac n hc c : Nat} {ls : List Int} (hln : ls.length = n) (hn : n ≤ 100000) (hb : ∀ x ∈ ls, 0 ≤ x ∧ x ≤ 1000000000000)
    (R1 : Rd w 5 ha n (flat Hs.cells (ls.map (fun n => ⟨n, -n⟩)))) (R2 : Rd w 1 s n (flat ic ls)) (h1 : kd = 1 → jk = dn ∧ jan = 1) (h2 : kd = 2 → tn = dn ∧ cfn = dfn) :
    Calls Try.prog 23 #[.agg #[.int .i64 kd, .int .i64 jk, .slice ja jan jac, .int .i64 src, .int .i64 tkk, .int .i64 tn, .string { data := #[] }, .slice none 0 0, .int .i64 cid, .int .i64 cev, .int .i64 cvk, .int .i64 cfn, .string { data := #[] }, .int .i64 0, .slice ca can cac, .slice ha n hc], .agg #[.int .i64 kd, .int .i64 dn, .int .i64 src, .int .i64 dfn, .slice s n c]] w fun e w' => e = .returned (.bool true) ∧ Below w.heap.size w w' := by
  have HR1 := Lib.hid R1
  have HR2 := Lib.hid R2
  have HLN := Lib.hid hln
  have HB := Lib.hid hb
  have HK1 := Lib.hid h1
  have HK2 := Lib.hid h2
  clear R1 R2 hln hb h1 h2
  have H0 := Lib.hid (((St.start w (Below.refl _ _)).new #[.int .i64 kd, .int .i64 jk, .slice ja jan jac, .int .i64 src, .int .i64 tkk, .int .i64 tn, .string { data := #[] }, .slice none 0 0, .int .i64 cid, .int .i64 cev, .int .i64 cvk, .int .i64 cfn, .string { data := #[] }, .int .i64 0, .slice ca can cac, .slice ha n hc] 50))
  go_enter Try.func23, Try.ntmps23
  go_upto_region 1 with fail
  obtain ⟨m2, hm2⟩ : ∃ m, w.heap.size = m := ⟨_, rfl⟩
  obtain ⟨W1, hW1⟩ : ∃ W, w.alloc (.cells #[.int .i64 kd, .int .i64 jk, .slice ja jan jac, .int .i64 src, .int .i64 tkk, .int .i64 tn, .string { data := #[] }, .slice none 0 0, .int .i64 cid, .int .i64 cev, .int .i64 cvk, .int .i64 cfn, .string { data := #[] }, .int .i64 0, .slice ca can cac, .slice ha n hc] 50) = W := ⟨_, rfl⟩
  have h1 := H0.out
  rw [hW1, hm2] at h1
  have h2 := h1.new #[.int .i64 kd, .int .i64 dn, .int .i64 src, .int .i64 dfn, .slice s n c] 77
  obtain ⟨m3, hm3⟩ : ∃ m, W1.heap.size = m := ⟨_, rfl⟩
  obtain ⟨W2, hW2⟩ : ∃ W, W1.alloc (.cells #[.int .i64 kd, .int .i64 dn, .int .i64 src, .int .i64 dfn, .slice s n c] 77) = W := ⟨_, rfl⟩
  rw [hW2, hm3] at h2
  have hsz : w.heap.size + 1 = m3 := by rw [← hm3, ← hW1, World.size_alloc]
  rw [hW1]
  try rw [hW2]
  try simp only [hm2, hm3]
  try rw [show m2 + 1 = m3 from by omega]
  have H2 := Lib.hid h2
  clear h1 h2 hW1 hW2 hm3 hsz H0 hm2
  have k0 : W2.cell? ⟨m2, 0, none⟩ = some (.int .i64 kd) := by rw [H2.out.swap.blk.1.cell]; rfl
  have k1 : W2.cell? ⟨m2, 3, none⟩ = some (.int .i64 src) := by rw [H2.out.swap.blk.1.cell]; rfl
  have k2 : W2.cell? ⟨m2, 15, none⟩ = some (.slice ha n hc) := by rw [H2.out.swap.blk.1.cell]; rfl
  have k3 : W2.cell? ⟨m3, 0, none⟩ = some (.int .i64 kd) := by rw [H2.out.blk.1.cell]; rfl
  have k4 : W2.cell? ⟨m3, 2, none⟩ = some (.int .i64 src) := by rw [H2.out.blk.1.cell]; rfl
  have k5 : W2.cell? ⟨m3, 4, none⟩ = some (.slice s n c) := by rw [H2.out.blk.1.cell]; rfl
  go_upto_region 3 with fail
  clear k0 k1 k2 k3 k4 k5
  have z4 : W2.cell? ⟨m3, 4, none⟩ = some (.slice s n c) := by rw [H2.out.blk.1.cell]; rfl
  go_wp2_with fail
  clear z4
  go_loopg [30] n (ChRel m2 m3 #[.int .i64 kd, .int .i64 jk, .slice ja jan jac, .int .i64 src, .int .i64 tkk, .int .i64 tn, .string { data := #[] }, .slice none 0 0, .int .i64 cid, .int .i64 cev, .int .i64 cvk, .int .i64 cfn, .string { data := #[] }, .int .i64 0, .slice ca can cac, .slice ha n hc] #[.int .i64 kd, .int .i64 dn, .int .i64 src, .int .i64 dfn, .slice s n c] n w)
  case atStart => exact ⟨0, rfl, Nat.zero_le _, rfl, H2.out⟩
  case round =>
    obtain ⟨k, hg, hk, rfl, hst⟩ := hrel
    have Hg := Lib.hid hg
    have H3 := Lib.hid hst
    clear hg hst H2
    have c4 : wr.cell? ⟨m3, 4, none⟩ = some (.slice s n c) := by rw [H3.out.blk.1.cell]; rfl
    have c15 : wr.cell? ⟨m2, 15, none⟩ = some (.slice ha n hc) := by rw [H3.out.swap.blk.1.cell]; rfl
    by_cases hkn : k < n
    · have hkt : k < ls.length := by rw [HLN.out]; exact hkn
      have hkI : (k : Int) < (n : Int) := by omega
      have r1 := HR1.out.below H3.out.bel
      have r2 := HR2.out.below H3.out.bel
      obtain ⟨g1, o1, hg1, -⟩ := r1.addr (by omega)
      obtain ⟨g2, o2, hg2, -⟩ := r2.addr (by omega)
      rw [hg1] at r1 c15
      rw [hg2] at r2 c4
      obtain ⟨x0, x2⟩ := hs_id r1 hkt
      have y0 := ic_at r2 hkt
      obtain ⟨b0, b1⟩ := HB.out _ (List.getElem_mem hkt)
      obtain ⟨z, hz⟩ : ∃ z, ls[k] = z := ⟨_, rfl⟩
      rw [hz] at x0 x2 y0 b0 b1
      have hw1 : IntKind.i64.wrap (-z) = -z := by rw [IntKind.wrap_i64]; omega
      clear r1 r2 hg1 hg2 hz
      go_upto_region 6 with fail
      go_quiet (fail)
      go_wp2_with fail
      go_roundg (n - (k + 1))
      case measure => have := Hg.out; omega
      case rel => exact ⟨k + 1, rfl, by omega, by simp, H3.out.drewN _⟩
    · have hkk : k = n := by omega
      subst hkk
      clear c4 c15
      have j0 : wr.cell? ⟨m2, 0, none⟩ = some (.int .i64 kd) := by rw [H3.out.swap.blk.1.cell]; rfl
      have j1 : wr.cell? ⟨m2, 1, none⟩ = some (.int .i64 jk) := by rw [H3.out.swap.blk.1.cell]; rfl
      have j2 : wr.cell? ⟨m2, 2, none⟩ = some (.slice ja jan jac) := by rw [H3.out.swap.blk.1.cell]; rfl
      have j3 : wr.cell? ⟨m2, 5, none⟩ = some (.int .i64 tn) := by rw [H3.out.swap.blk.1.cell]; rfl
      have j4 : wr.cell? ⟨m2, 11, none⟩ = some (.int .i64 cfn) := by rw [H3.out.swap.blk.1.cell]; rfl
      have j5 : wr.cell? ⟨m3, 1, none⟩ = some (.int .i64 dn) := by rw [H3.out.blk.1.cell]; rfl
      have j6 : wr.cell? ⟨m3, 3, none⟩ = some (.int .i64 dfn) := by rw [H3.out.blk.1.cell]; rfl
      by_cases hk1 : kd = 1
      · obtain ⟨e1, e2⟩ := HK1.out hk1
        subst hk1
        subst e1
        subst e2
        go_wp2_with fail
        go_ret
        exact ⟨rfl, H3.out.bel⟩
      · have hk1b : (kd == 1) = false := by simpa using hk1
        by_cases hk2 : kd = 2
        · obtain ⟨e1, e2⟩ := HK2.out hk2
          subst hk2
          subst e1
          subst e2
          go_wp2_with fail
          go_ret
          exact ⟨rfl, H3.out.bel⟩
        · have hk2b : (kd == 2) = false := by simpa using hk2
          go_wp2_with fail
          go_ret
          exact ⟨rfl, H3.out.bel⟩
theorem chosen_st {w : World} {x : Ch} {d : RC} {l : List Hs} {ls : List Int} {s : Option Addr} {c : Nat} (hc : Cho x d) (hl : x.hn = ls.length) (hn : ls.length ≤ 100000) (hb : ∀ x ∈ ls, 0 ≤ x ∧ x ≤ 1000000000000)
    (R1 : Rd w 5 x.ha ls.length (flat Hs.cells (ls.map (fun n => ⟨n, -n⟩)))) (R2 : Rd w 1 s ls.length (flat ic ls)) :
    Calls Try.prog 23 #[.agg x.cells.toArray, .agg (tk d.kd d.n d.src d.fn s ls.length c).toArray] w fun e w' => e = .returned (.bool true) ∧ Below w.heap.size w w' := by
  obtain ⟨e1, e2, e3, e4⟩ := hc
  obtain ⟨xk, xj, xsrc, xtk, xtn, xc, xa, xn, xc2⟩ := x
  simp only at e1 e2 e3 e4 hl R1
  subst e1 e2 hl
  exact chosen_c rfl hn hb R1 R2 e3 e4

end Go.Proofs.Ytnamkckpgaopkaa
