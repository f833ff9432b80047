/-
  The reference: Do at Get.
-/
import Derived.Test.YtcglnjklnlejmaaTf
import Derived.Test.YtcglnjklnlejmaaSt
set_option linter.unusedVariables false
set_option linter.unusedSimpArgs false
namespace Go.Proofs.Ytcglnjklnlejmaa
open Go.RowKit Go.K Go.K.Sr

theorem look_at {l : List Pr} {q : ByteArray} {j : Nat} (hj : j < l.length) (x : Pr) (hx : l[j] = x) (h1 : ∀ y ∈ l.take j, y.k ≠ q) (h2 : x.k = q) : lookP l q = some x := by
  unfold lookP
  rw [List.find?_eq_some_iff_getElem]
  refine ⟨by simpa using h2, j, hj, hx, fun i hi => ?_⟩
  have := h1 l[i] (by rw [List.mem_take_iff_getElem]; exact ⟨i, by omega, rfl⟩)
  simpa using this
theorem look_no {l : List Pr} {q : ByteArray} (h1 : ∀ y ∈ l, y.k ≠ q) : lookP l q = none := by
  unfold lookP
  rw [List.find?_eq_none]
  intro x hx
  simpa using h1 x hx
theorem take_nk {q : ByteArray} {l : List Pr} {k : Nat} (hk : k < l.length) {t : Pr} (ht : l[k] = t) (h1 : ∀ t ∈ l.take k, t.k ≠ q) (h2 : t.k ≠ q) : ∀ t ∈ l.take (k + 1), t.k ≠ q := by
  rw [List.take_succ_eq_append_getElem hk, ht]
  intro x hx
  rcases List.mem_append.1 hx with r | r
  · exact h1 x r
  · rw [List.mem_singleton.1 r]; exact h2
def GtRel (C : List Pr) (q : ByteArray) (w : World) (g : Nat) (v : Value) (wr : World) : Prop :=
  ∃ j : Nat, g = C.length - j ∧ j ≤ C.length ∧ v = .int .i64 j ∧ (∀ y ∈ C.take j, y.k ≠ q) ∧ Below w.heap.size w wr
theorem getV_look {S : SS} {k : Nat} {C : List Pr} (hC : content S.pairs (chs S k) = C) (ha : Asc Ch.k S.cs) (hr : Rv S.cs) (q : ByteArray) : getV S.pairs (chs S k) q = match lookP C q with | some p => (p.v, true) | none => (.empty, false) := by
  have ha' : Asc Ch.k (chs S k) := by unfold chs; split; exact ha; exact List.Pairwise.nil
  have hr' : Rv (chs S k) := by
    unfold chs; split
    · exact hr
    · intro c hc; cases hc
  rw [getV_content q ha' hr', hC, getV_nil]
  cases lookP C q <;> rfl

set_option maxRecDepth 100000 in
set_option maxHeartbeats 4000000 in
theorem d_get (S : SS) (p : Sp) (o : Op') (id : Int) (w : World) (n : Nat) (h : Rw w S p) (ho : o.ok) (hi : Iv n S) (hn : n ≤ 60) (hk : o.kd % 9 = 1) (k : Nat) (hf : fnd id S.txs = some k) (htb : turnB S.txs k = true) (hrv : Rv S.cs) :
    Calls Try.prog 20 #[rv p S, .agg #[.int .u8 o.kd, .int .u8 o.tx, .string o.key, .string o.val, .bool o.wr], .int .i64 id] w (RdPost (S) ⟨0, (getV S.pairs (chs S k) o.key).1, (getV S.pairs (chs S k) o.key).2, [], 0⟩ p w) := by
  have HA := Lib.hid h.rf
  have H00 := Lib.hid h
  have HIV := Lib.hid hi
  have htl : S.txs.length ≤ 60 := by have := hi.tl; omega
  have hpl : S.pairs.length ≤ 60 := by have := hi.ln; omega
  have hcl : S.cs.length ≤ 60 := by have := hi.ln; omega
  have hnx : 0 ≤ S.nx ∧ S.nx ≤ 60 := ⟨hi.nx0, by have := hi.nx1; omega⟩
  obtain ⟨ok1, ok2, ok3, ok4⟩ := ho
  have hw1 : IntKind.i64.wrap o.kd = o.kd := by rw [IntKind.wrap_i64]; omega
  have ht : o.kd.tmod 9 = 1 := by rw [Int.tmod_eq_emod_of_nonneg ok1]; exact hk
  clear h hi hk
  go_enter Try.func20, Try.ntmps20
  go_upto_region 1 with fail
  have h1 := St.sh [_, _, _, _] [1, 0, 2, 3] (by decide) (((((St.start w (Below.refl _ w)).new #[.slice p.sp S.pairs.length p.cp, .slice p.st S.txs.length p.ct, .int .i64 S.nx] 43).new #[.int .u8 o.kd, .int .u8 o.tx, .string o.key, .string o.val, .bool o.wr] 45).new #[.slice none 0 0, .slice none 0 0, .int .i64 0] 43).new #[.int .i64 0, .string { data := #[] }, .bool false, .slice none 0 0, .int .i64 0] 49)
  simp only [List.map_cons, List.map_nil, List.getD_cons_zero, List.getD_cons_succ, List.cons_append, List.nil_append] at h1
  obtain ⟨W, hW⟩ : ∃ W, (((w.alloc (.cells #[.slice p.sp S.pairs.length p.cp, .slice p.st S.txs.length p.ct, .int .i64 S.nx] 43)).alloc (.cells #[.int .u8 o.kd, .int .u8 o.tx, .string o.key, .string o.val, .bool o.wr] 45)).alloc (.cells #[.slice none 0 0, .slice none 0 0, .int .i64 0] 43)).alloc (.cells #[.int .i64 0, .string { data := #[] }, .bool false, .slice none 0 0, .int .i64 0] 49) = W := ⟨_, rfl⟩
  obtain ⟨m, hm⟩ : ∃ m, w.heap.size = m := ⟨_, rfl⟩
  simp only [World.size_alloc] at h1
  rw [hW, hm] at h1
  try simp only [World.size_alloc]
  try simp only [hW, hm]
  have H1 := Lib.hid h1
  have H2 := Lib.hid (HA.out.below h1.bel)
  obtain ⟨c0, c1, c2, f0, f1, f2⟩ := (h1.blkm (b := m) (.tail _ (.tail _ (.tail _ (.head _))))).three; obtain ⟨q0, q1, q2, q3, q4, -⟩ := blk5 (h1.blkm (b := m + 1) (.tail _ (.tail _ (.head _))))
  have KAT := Lib.hid (at_ref S p id W H2.out (by omega))
  clear h1 hW hm
  have HTB := Lib.hid htb
  have HRV := Lib.hid hrv
  clear htb hrv
  have hkl := fnd_lt hf
  have e1 : fndI id S.txs = k := by unfold fndI; rw [hf]
  have E1 := Lib.hid e1
  have HFN := Lib.hid hf
  have hkI : (k : Int) < (S.txs.length : Int) := by omega
  have hk0I : (0 : Int) ≤ (k : Int) := by omega
  clear hf e1
  go_upto_region 20 with (go_at_call 39; refine (KAT.out).mono ?_; rintro e w3 ⟨rfl, hb3⟩; rw [E1.out]; have H3 := Lib.hid (H1.out.of_below hb3); clear c0 c1 c2 f0 f1 f2 q0 q1 q2 q3 q4; obtain ⟨c0, c1, c2, f0, f1, f2⟩ := (H3.out.blkm (b := m) (.tail _ (.tail _ (.tail _ (.head _))))).three; obtain ⟨q0, q1, q2, q3, q4, -⟩ := blk5 (H3.out.blkm (b := m + 1) (.tail _ (.tail _ (.head _)))); obtain ⟨e0, e1, e2, j0, j1, j2⟩ := (H3.out.blkm (b := m + 1 + 1) (.head _)).three; obtain ⟨s0, s1, s2, s3, s4, g0, g1, g2, g3, g4⟩ := blk5 (H3.out.blkm (b := m + 1 + 1 + 1) (.tail _ (.head _))); clear hb3)
  obtain ⟨t, ht⟩ : ∃ t, S.txs[k] = t := ⟨_, rfl⟩
  have HR3 := Lib.hid (HA.out.below H3.out.bel)
  obtain ⟨g, o2, hst, -⟩ := HR3.out.ts.addr (by omega)
  obtain ⟨sq, cq, hvq, hrq⟩ := HR3.out.row k
  have hyx := yz_get (.slice p.sc S.cs.length p.cc) S.txs k hkl
  rw [hvq, ht] at hyx
  obtain ⟨d0, d1, d2, d3⟩ := y_at (hst ▸ HR3.out.ts) (by rw [yz_len]; exact hkl) _ hyx
  simp only at d0 d1 d2 d3
  rw [hst] at c1
  have HST := Lib.hid hst
  have HT := Lib.hid ht
  have HSQ := Lib.hid hrq
  clear hst hvq hyx ht hrq
  go_upto_region 21 with fail
  have h4 := St.sh [_, _, _, _, _] [1, 2, 3, 4, 0] (by decide) (H3.out.new #[.int .i64 t.id, .string t.ow, .bool t.wr, .slice sq (chs S k).length cq] 36)
  simp only [List.map_cons, List.map_nil, List.getD_cons_zero, List.getD_cons_succ, List.cons_append, List.nil_append] at h4
  obtain ⟨w4, hw4⟩ : ∃ w4, w3.alloc (.cells #[.int .i64 t.id, .string t.ow, .bool t.wr, .slice sq (chs S k).length cq] 36) = w4 := ⟨_, rfl⟩
  obtain ⟨b13, hb13⟩ : ∃ b13, w3.heap.size = b13 := ⟨_, rfl⟩
  have HB4 := Lib.hid (show Below w3.heap.size w3 w4 by rw [← hw4]; exact (Below.refl _ w3).alloc (Nat.le_refl _) _)
  rw [hw4, hb13] at h4
  try simp only [hw4, hb13]
  have H4 := Lib.hid h4
  have HSQ4 := Lib.hid (HSQ.out.below HB4.out)
  clear c0 c1 c2 f0 f1 f2 q0 q1 q2 q3 q4 e0 e1 e2 j0 j1 j2 s0 s1 s2 s3 s4 g0 g1 g2 g3 g4 d0 d1 d2 d3 hw4 hb13
  obtain ⟨c0, c1, c2, f0, f1, f2⟩ := (h4.blkm (b := m) (.tail _ (.tail _ (.tail _ (.head _))))).three; obtain ⟨q0, q1, q2, q3, q4, -⟩ := blk5 (h4.blkm (b := m + 1) (.tail _ (.tail _ (.head _))))
  obtain ⟨e0, e1, e2, j0, j1, j2⟩ := (h4.blkm (b := m + 1 + 1) (.head _)).three; obtain ⟨s0, s1, s2, s3, s4, g0, g1, g2, g3, g4⟩ := blk5 (h4.blkm (b := m + 1 + 1 + 1) (.tail _ (.head _)))
  obtain ⟨i0, i1, i2, i3, l0, l1, l2, l3⟩ := blk4 (h4.blkm (b := b13) (.tail _ (.tail _ (.tail _ (.tail _ (.head _))))))
  rw [HST.out] at c1
  have HR4 := Lib.hid (HA.out.below h4.bel)
  clear h4
  have KT := Lib.hid (turn_ref S p k w4 HR4.out (by omega) hkl)
  rw [HTB.out] at KT
  rw [← HST.out] at c1
  have hchl : (chs S k).length ≤ 60 := by unfold chs; split; exact hcl; simp
  obtain ⟨cl, hcl2⟩ : ∃ cl, chs S k = cl := ⟨_, rfl⟩
  have hcon := content_len cl S.pairs
  obtain ⟨C, hC⟩ : ∃ C, content S.pairs cl = C := ⟨_, rfl⟩
  have HCC := Lib.hid (show content S.pairs (chs S k) = C by rw [hcl2]; exact hC)
  have HCL := Lib.hid hcl2
  rw [hcl2] at hchl HSQ4 i3 H4 ⊢
  rw [hC] at hcon
  have HC1 := Lib.hid hC
  clear hcl2 hC
  go_upto_region 28 with (first
    | (go_at_call 40; refine (KT.out).mono ?_; rintro e w5 ⟨rfl, hb5⟩; have H5 := Lib.hid (H4.out.of_below hb5); clear c0 c1 c2 f0 f1 f2 q0 q1 q2 q3 q4; clear e0 e1 e2 j0 j1 j2 s0 s1 s2 s3 s4 g0 g1 g2 g3 g4; clear i0 i1 i2 i3 l0 l1 l2 l3; obtain ⟨c0, c1, c2, f0, f1, f2⟩ := (H5.out.blkm (b := m) (.tail _ (.tail _ (.tail _ (.head _))))).three; obtain ⟨q0, q1, q2, q3, q4, -⟩ := blk5 (H5.out.blkm (b := m + 1) (.tail _ (.tail _ (.head _)))); obtain ⟨e0, e1, e2, j0, j1, j2⟩ := (H5.out.blkm (b := m + 1 + 1) (.head _)).three; obtain ⟨s0, s1, s2, s3, s4, g0, g1, g2, g3, g4⟩ := blk5 (H5.out.blkm (b := m + 1 + 1 + 1) (.tail _ (.head _))); obtain ⟨i0, i1, i2, i3, l0, l1, l2, l3⟩ := blk4 (H5.out.blkm (b := b13) (.tail _ (.tail _ (.tail _ (.tail _ (.head _)))))); have KC := Lib.hid (content_ref p.sp p.cp S.pairs sq cq cl w5 (H00.out.pc.below H5.out.bel) (HSQ4.out.below hb5) (by omega) HIV.out.pa); have HS5 := Lib.hid hb5.size; clear hb5)
    | (go_at_call 25; refine (KC.out).mono ?_; rintro e w6 ⟨s6, c6, rfl, hr6, hn6, hb6⟩; rw [HC1.out] at hr6 ⊢; have H6 := Lib.hid (H5.out.of_below hb6); have HRC := Lib.hid hr6; have HNC := Lib.hid hn6; clear c0 c1 c2 f0 f1 f2 q0 q1 q2 q3 q4; clear e0 e1 e2 j0 j1 j2 s0 s1 s2 s3 s4 g0 g1 g2 g3 g4; clear i0 i1 i2 i3 l0 l1 l2 l3; obtain ⟨c0, c1, c2, f0, f1, f2⟩ := (H6.out.blkm (b := m) (.tail _ (.tail _ (.tail _ (.head _))))).three; obtain ⟨q0, q1, q2, q3, q4, -⟩ := blk5 (H6.out.blkm (b := m + 1) (.tail _ (.tail _ (.head _)))); obtain ⟨e0, e1, e2, j0, j1, j2⟩ := (H6.out.blkm (b := m + 1 + 1) (.head _)).three; obtain ⟨s0, s1, s2, s3, s4, g0, g1, g2, g3, g4⟩ := blk5 (H6.out.blkm (b := m + 1 + 1 + 1) (.tail _ (.head _))); obtain ⟨i0, i1, i2, i3, l0, l1, l2, l3⟩ := blk4 (H6.out.blkm (b := b13) (.tail _ (.tail _ (.tail _ (.tail _ (.head _)))))); clear hb6 hr6 hn6))
  have HGV := Lib.hid (getV_look HCC.out HIV.out.ca HRV.out o.key)
  go_wp2_with fail
  go_loopg [15] C.length (GtRel C o.key w6)
  case atStart => exact ⟨0, rfl, Nat.zero_le _, rfl, by simp, Below.refl _ _⟩
  case round =>
    clear c0 c1 c2 f0 f1 f2 q0 q1 q2 q3 q4 e0 e1 e2 j0 j1 j2 s0 s1 s2 s3 s4 g0 g1 g2 g3 g4 i0 i1 i2 i3 l0 l1 l2 l3
    obtain ⟨j, hg, hj, rfl, hne, hb⟩ := hrel
    have Hg := Lib.hid hg
    have HNE := Lib.hid hne
    have HB := Lib.hid hb
    have H7 := Lib.hid (H6.out.of_below hb)
    clear hg hne hb
    obtain ⟨c0, c1, c2, f0, f1, f2⟩ := (H7.out.blkm (b := m) (.tail _ (.tail _ (.tail _ (.head _))))).three; obtain ⟨q0, q1, q2, q3, q4, -⟩ := blk5 (H7.out.blkm (b := m + 1) (.tail _ (.tail _ (.head _)))); obtain ⟨e0, e1, e2, j0, j1, j2⟩ := (H7.out.blkm (b := m + 1 + 1) (.head _)).three; obtain ⟨s0, s1, s2, s3, s4, g0, g1, g2, g3, g4⟩ := blk5 (H7.out.blkm (b := m + 1 + 1 + 1) (.tail _ (.head _))); obtain ⟨i0, i1, i2, i3, l0, l1, l2, l3⟩ := blk4 (H7.out.blkm (b := b13) (.tail _ (.tail _ (.tail _ (.tail _ (.head _))))))
    by_cases hjn : j < C.length
    · have hrd := HRC.out.rd.below HB.out
      obtain ⟨g6, o6, hs6, -⟩ := hrd.addr (by omega)
      subst hs6
      obtain ⟨x, hx⟩ : ∃ x, C[j] = x := ⟨_, rfl⟩
      obtain ⟨d0, d1⟩ := p_at hrd hjn x hx
      have HX := Lib.hid hx
      have hjI : (j : Int) < (C.length : Int) := by omega
      have hj0I : (0 : Int) ≤ (j : Int) := by omega
      clear hrd hx
      obtain ⟨u, hu⟩ : ∃ u, (x.k.toList == o.key.toList) = u := ⟨_, rfl⟩
      have hu' := hu
      rw [keq] at hu'
      have HU := Lib.hid hu'
      clear hu'
      go_upto_region 33 with fail
      go_quiet (fail)
      obtain ⟨wq, hwq⟩ : ∃ wq, wr.drewN nq = wq := ⟨_, rfl⟩
      have h8 := H7.out.drewN nq
      have hb8 : Below w6.heap.size w6 wq := by rw [← hwq]; exact ⟨HB.out.os, HB.out.tape, HB.out.output, HB.out.size, HB.out.block⟩
      have d1q : (wr.drewN nq).cell? ⟨g6, o6 + j * 2 + 1, none⟩ = some (.string x.v) := d1
      rw [hwq] at h8 d1q ⊢
      have H8 := Lib.hid h8
      have HB8 := Lib.hid hb8
      clear hwq h8 hb8 d0 d1 c0 c1 c2 f0 f1 f2 q0 q1 q2 q3 q4 e0 e1 e2 j0 j1 j2 s0 s1 s2 s3 s4 g0 g1 g2 g3 g4 i0 i1 i2 i3 l0 l1 l2 l3
      obtain ⟨c0, c1, c2, f0, f1, f2⟩ := (H8.out.blkm (b := m) (.tail _ (.tail _ (.tail _ (.head _))))).three; obtain ⟨q0, q1, q2, q3, q4, -⟩ := blk5 (H8.out.blkm (b := m + 1) (.tail _ (.tail _ (.head _)))); obtain ⟨e0, e1, e2, j0, j1, j2⟩ := (H8.out.blkm (b := m + 1 + 1) (.head _)).three; obtain ⟨s0, s1, s2, s3, s4, g0, g1, g2, g3, g4⟩ := blk5 (H8.out.blkm (b := m + 1 + 1 + 1) (.tail _ (.head _))); obtain ⟨i0, i1, i2, i3, l0, l1, l2, l3⟩ := blk4 (H8.out.blkm (b := b13) (.tail _ (.tail _ (.tail _ (.tail _ (.head _))))))
      cases u with
      | true =>
        have hk1 : x.k = o.key := by simpa using HU.out
        have HK1 := Lib.hid hk1
        clear hk1 hu
        go_upto_region 34 with fail
        obtain ⟨wd, hwd⟩ : ∃ wd, wq.drew = wd := ⟨_, rfl⟩
        have hd := H8.out.drew
        have d1d : wq.drew.cell? ⟨g6, o6 + j * 2 + 1, none⟩ = some (.string x.v) := d1q
        rw [hwd] at hd d1d
        have HD := Lib.hid hd
        clear c0 c1 c2 f0 f1 f2 q0 q1 q2 q3 q4 e0 e1 e2 j0 j1 j2 s0 s1 s2 s3 s4 g0 g1 g2 g3 g4 i0 i1 i2 i3 l0 l1 l2 l3 d1q
        obtain ⟨c0, c1, c2, f0, f1, f2⟩ := (hd.blkm (b := m) (.tail _ (.tail _ (.tail _ (.head _))))).three; obtain ⟨q0, q1, q2, q3, q4, -⟩ := blk5 (hd.blkm (b := m + 1) (.tail _ (.tail _ (.head _))))
        have hS : (fun w' : World => (w'.cell? ⟨m, 0, none⟩ = some (.slice p.sp S.pairs.length p.cp) ∧ w'.cell? ⟨m, 1, none⟩ = some (.slice p.st S.txs.length p.ct) ∧ w'.cell? ⟨m, 2, none⟩ = some (.int .i64 S.nx)) ∧ w'.cell? ⟨g6, o6 + j * 2 + 1, none⟩ = some (.string x.v)) wd := ⟨⟨c0, c1, c2⟩, d1d⟩
        clear hd d1d
        refine wpLast.region (S := (fun w' : World => (w'.cell? ⟨m, 0, none⟩ = some (.slice p.sp S.pairs.length p.cp) ∧ w'.cell? ⟨m, 1, none⟩ = some (.slice p.st S.txs.length p.ct) ∧ w'.cell? ⟨m, 2, none⟩ = some (.int .i64 S.nx)) ∧ w'.cell? ⟨g6, o6 + j * 2 + 1, none⟩ = some (.string x.v))) (c := 8) (by kernel_rfl) ?_
        rw [hwd]
        clear hwd c0 c1 c2 f0 f1 f2 q0 q1 q2 q3 q4
        refine' wpLast.take_c (i := 0) (v := _) [7] rfl (by kernel_rfl) (fun _ _ _ h => h) (by kernel_rfl) _ _ _ _ (by kernel_rfl) (by kernel_rfl) (by kernel_rfl) (Or.inl ⟨by rfl, ?hy0⟩) hS ?rest0
        case hy0 => (intro w' hSw; obtain ⟨⟨k0, k1, k2⟩, k3⟩ := hSw; go_simp; try with_reducible rfl)
        try simp only [Act.put, List.setIfInBounds_toArray, List.set_cons_zero, List.set_cons_succ]
        refine' wpLast.take_c (i := 1) (v := _) [6, 5, 4, 3] rfl (by kernel_rfl) (fun _ _ _ h => h) (by kernel_rfl) _ _ _ _ (by kernel_rfl) (by kernel_rfl) (by kernel_rfl) (Or.inl ⟨by rfl, ?hy1⟩) hS ?rest1
        case hy1 => (intro w' hSw; obtain ⟨⟨k0, k1, k2⟩, k3⟩ := hSw; go_simp; try with_reducible rfl)
        try simp only [Act.put, List.setIfInBounds_toArray, List.set_cons_zero, List.set_cons_succ]
        refine' wpLast.take_c (i := 2) (v := _) [6, 5, 4, 3] rfl (by kernel_rfl) (fun _ _ _ h => h) (by kernel_rfl) _ _ _ _ (by kernel_rfl) (by kernel_rfl) (by kernel_rfl) (Or.inl ⟨by rfl, ?hy2⟩) hS ?rest2
        case hy2 => (intro w' hSw; obtain ⟨⟨k0, k1, k2⟩, k3⟩ := hSw; go_simp; try with_reducible rfl)
        try simp only [Act.put, List.setIfInBounds_toArray, List.set_cons_zero, List.set_cons_succ]
        refine' wpLast.take_c (i := 3) (v := _) [6, 5, 4] rfl (by kernel_rfl) (fun _ _ _ h => h) (by kernel_rfl) _ _ _ _ (by kernel_rfl) (by kernel_rfl) (by kernel_rfl) (Or.inl ⟨by rfl, ?hy3⟩) hS ?rest3
        case hy3 => (intro w' hSw; obtain ⟨⟨k0, k1, k2⟩, k3⟩ := hSw; go_simp; try with_reducible rfl)
        try simp only [Act.put, List.setIfInBounds_toArray, List.set_cons_zero, List.set_cons_succ]
        refine' wpLast.take_c (i := 4) (v := _) [6, 5] rfl (by kernel_rfl) (fun _ _ _ h => h) (by kernel_rfl) _ _ _ _ (by kernel_rfl) (by kernel_rfl) (by kernel_rfl) (Or.inl ⟨by rfl, ?hy4⟩) hS ?rest4
        case hy4 => (intro w' hSw; obtain ⟨⟨k0, k1, k2⟩, k3⟩ := hSw; go_simp; try with_reducible rfl)
        try simp only [Act.put, List.setIfInBounds_toArray, List.set_cons_zero, List.set_cons_succ]
        refine' wpLast.take_c (i := 5) (v := _) [6] rfl (by kernel_rfl) (fun _ _ _ h => h) (by kernel_rfl) _ _ _ _ (by kernel_rfl) (by kernel_rfl) (by kernel_rfl) (Or.inl ⟨by rfl, ?hy5⟩) hS ?rest5
        case hy5 => (intro w' hSw; obtain ⟨⟨k0, k1, k2⟩, k3⟩ := hSw; go_simp; try with_reducible rfl)
        try simp only [Act.put, List.setIfInBounds_toArray, List.set_cons_zero, List.set_cons_succ]
        refine' wpLast.take_c (i := 6) (v := _) [] rfl (by kernel_rfl) (fun _ _ _ h => h) (by kernel_rfl) _ _ _ _ (by kernel_rfl) (by kernel_rfl) (by kernel_rfl) (Or.inl ⟨by rfl, ?hy6⟩) hS ?rest6
        case hy6 => (intro w' hSw; obtain ⟨⟨k0, k1, k2⟩, k3⟩ := hSw; go_simp; try with_reducible rfl)
        try simp only [Act.put, List.setIfInBounds_toArray, List.set_cons_zero, List.set_cons_succ]
        obtain ⟨e0, e1, e2, j0, j1, j2⟩ := (HD.out.blkm (b := m + 1 + 1) (.head _)).three; obtain ⟨s0, s1, s2, s3, s4, g0, g1, g2, g3, g4⟩ := blk5 (HD.out.blkm (b := m + 1 + 1 + 1) (.tail _ (.head _)))
        obtain ⟨W9, hW9, hf, hfr⟩ := fin_st HD.out (.slice p.sp S.pairs.length p.cp) (.slice p.st S.txs.length p.ct) (.int .i64 S.nx) (.int .i64 0) (.string x.v) (.bool true) (.slice none 0 0) (.int .i64 0); have HW9 := Lib.hid hW9; have HF := Lib.hid hf; have HFR := Lib.hid hfr; clear hW9 hf hfr
        refine wpLast.one (i := 7) rfl (by kernel_rfl) ?_
        intro K' hK; have HK' := Lib.hid hK; clear hK
        go_simp
        have hS6 : (fun w' : World => (w'.cell? ⟨m, 0, none⟩ = some (.slice p.sp S.pairs.length p.cp) ∧ w'.cell? ⟨m, 1, none⟩ = some (.slice p.st S.txs.length p.ct) ∧ w'.cell? ⟨m, 2, none⟩ = some (.int .i64 S.nx)) ∧ w'.cell? ⟨g6, o6 + j * 2 + 1, none⟩ = some (.string x.v)) (((wd.setCell ⟨m + 1 + 1, 0, none⟩ (.slice p.sp S.pairs.length p.cp)).setCell ⟨m + 1 + 1, 1, none⟩ (.slice p.st S.txs.length p.ct)).setCell ⟨m + 1 + 1, 2, none⟩ (.int .i64 S.nx)) := by
          obtain ⟨⟨k0, k1, k2⟩, k3⟩ := hS
          have hfr := fr3 wd (m + 1 + 1) (.slice p.sp S.pairs.length p.cp) (.slice p.st S.txs.length p.ct) (.int .i64 S.nx)
          have hg6 : g6 ≠ m + 1 + 1 := by
            have hm := mlt H4.out
            have h5s := HS5.out
            rcases HNC.out g6 rfl with q | q
            · have := H00.out.rows g6 (.inl q)
              omega
            · omega
          exact ⟨⟨hfr.cell k0 (by simp; omega), hfr.cell k1 (by simp; omega), hfr.cell k2 (by simp; omega)⟩, hfr.cell k3 hg6⟩
        refine HK'.out _ _ ⟨fun _ => hS6, ?_⟩
        clear HK' K' hS6 hS
        try simp only [Act.put, List.setIfInBounds_toArray, List.set_cons_zero, List.set_cons_succ]
        refine wpLast.one (i := 8) rfl (by kernel_rfl) ?_
        intro K' hK; have HK' := Lib.hid hK; clear hK
        go_simp
        refine HK'.out _ _ ⟨fun h => absurd rfl h, ?_⟩
        clear HK' K'
        try simp only [Act.put, List.setIfInBounds_toArray, List.set_cons_zero, List.set_cons_succ]
        refine wpLast.done (by kernel_rfl) ?_
        go_wp2_with fail
        rw [HW9.out]
        obtain ⟨t0, t1, t2, t3, t4, t5, t6, t7⟩ := fin_rd HF.out
        refine bodyPost_ret (v := .tuple #[.agg #[.slice p.sp S.pairs.length p.cp, .slice p.st S.txs.length p.ct, .int .i64 S.nx], .agg #[.int .i64 0, .string x.v, .bool true, .slice none 0 0, .int .i64 0]]) (by simp [results, Try.results20, go_sem, t0, t1, t2, t3, t4, t5, t6, t7]) rfl ?_
        have hgv := HGV.out
        rw [look_at hjn x HX.out HNE.out HK1.out] at hgv
        show RdPost S ⟨0, (getV S.pairs (chs S k) o.key).1, (getV S.pairs (chs S k) o.key).2, [], 0⟩ p w _ _
        rw [hgv]
        exact rd_same H00.out HF.out.bel _ _ _ _
      | false =>
        have hk1 : ¬ x.k = o.key := by simpa using HU.out
        have HK1 := Lib.hid hk1
        clear hk1 hu
        go_wp2_with fail
        go_roundg (C.length - (j + 1))
        case measure => have := Hg.out; omega
        case rel => exact ⟨j + 1, rfl, by omega, by simp, take_nk hjn HX.out HNE.out HK1.out, HB8.out⟩
    · obtain rfl : j = C.length := by omega
      obtain ⟨W9, hW9, hf, hfr⟩ := fin_st H7.out (.slice p.sp S.pairs.length p.cp) (.slice p.st S.txs.length p.ct) (.int .i64 S.nx) (.int .i64 0) (.string { data := #[] }) (.bool false) (.slice none 0 0) (.int .i64 0); have HW9 := Lib.hid hW9; have HF := Lib.hid hf; have HFR := Lib.hid hfr; clear hW9 hf hfr
      go_wp2_with fail
      rw [HW9.out]
      obtain ⟨t0, t1, t2, t3, t4, t5, t6, t7⟩ := fin_rd HF.out
      refine bodyPost_ret (v := .tuple #[.agg #[.slice p.sp S.pairs.length p.cp, .slice p.st S.txs.length p.ct, .int .i64 S.nx], .agg #[.int .i64 0, .string { data := #[] }, .bool false, .slice none 0 0, .int .i64 0]]) (by simp [results, Try.results20, go_sem, t0, t1, t2, t3, t4, t5, t6, t7]) rfl ?_
      have hgv := HGV.out
      have hne := HNE.out
      rw [List.take_length] at hne
      rw [look_no hne] at hgv
      show RdPost S ⟨0, (getV S.pairs (chs S k) o.key).1, (getV S.pairs (chs S k) o.key).2, [], 0⟩ p w _ _
      rw [hgv]
      exact rd_same H00.out HF.out.bel _ _ _ _

end Go.Proofs.Ytcglnjklnlejmaa
