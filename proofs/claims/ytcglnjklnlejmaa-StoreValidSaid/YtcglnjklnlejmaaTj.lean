/-
  The reference: Do at Put.
-/
import Derived.Test.YtcglnjklnlejmaaTi
import Derived.Test.YtcglnjklnlejmaaSx
set_option linter.unusedVariables false
set_option linter.unusedSimpArgs false
namespace Go.Proofs.Ytcglnjklnlejmaa
open Go.RowKit Go.K Go.K.Sr

theorem put_len (k v : ByteArray) (l : List Pr) : (putP k v l).length ≤ l.length + 1 := by
  induction l with
  | nil => simp [putP]
  | cons p l ih =>
    unfold putP
    split
    · simp; omega
    · split <;> simp

set_option maxRecDepth 100000 in
set_option maxHeartbeats 4000000 in
theorem d_put (S : SS) (p : Sp) (o : Op') (id : Int) (w : World) (n : Nat) (h : Rw w S p) (ho : o.ok) (hi : Iv n S) (hn : n ≤ 60) (hk : o.kd % 9 = 2) (k : Nat) (hf : fnd id S.txs = some k) (htb : turnB S.txs k = true) (hwr : ∀ t, S.txs[k]? = some t → t.wr = true) (hk0 : k = 0) (halt : altS S id (⟨o.key, o.val, false⟩ : Ch) = if 1048576 < sizeP (content S.pairs (withC (⟨o.key, o.val, false⟩ : Ch) S.cs)) then (S, 20) else ({ S with cs := withC (⟨o.key, o.val, false⟩ : Ch) S.cs }, 0)) (hz : sizeP (content S.pairs (withC (⟨o.key, o.val, false⟩ : Ch) S.cs)) ≤ 4611686018427387904) :
    Calls Try.prog 20 #[rv p S, .agg #[.int .u8 o.kd, .int .u8 o.tx, .string o.key, .string o.val, .bool o.wr], .int .i64 id] w (RdPost ((altS S id (⟨o.key, o.val, false⟩ : Ch)).1) ⟨0, .empty, false, [], (altS S id (⟨o.key, o.val, false⟩ : Ch)).2⟩ p w) := by
  have HA := Lib.hid h.rf
  have H00 := Lib.hid h
  have HIV := Lib.hid hi
  have htl : S.txs.length ≤ 60 := by have := hi.tl; omega
  have hpl : S.pairs.length ≤ 60 := by have := hi.ln; omega
  have hcl : S.cs.length ≤ 60 := by have := hi.ln; omega
  have hnx : 0 ≤ S.nx ∧ S.nx ≤ 60 := ⟨hi.nx0, by have := hi.nx1; omega⟩
  obtain ⟨ok1, ok2, ok3, ok4⟩ := ho
  have hw1 : IntKind.i64.wrap o.kd = o.kd := by rw [IntKind.wrap_i64]; omega
  have ht : o.kd.tmod 9 = 2 := by rw [Int.tmod_eq_emod_of_nonneg ok1]; exact hk
  clear h hi hk
  go_enter Try.func20, Try.ntmps20
  go_upto_region 1 with fail
  have h1 := St.sh [_, _, _, _] [1, 0, 2, 3] (by decide) (((((St.start w (Below.refl _ w)).new #[.slice p.sp S.pairs.length p.cp, .slice p.st S.txs.length p.ct, .int .i64 S.nx] 43).new #[.int .u8 o.kd, .int .u8 o.tx, .string o.key, .string o.val, .bool o.wr] 45).new #[.slice none 0 0, .slice none 0 0, .int .i64 0] 43).new #[.int .i64 0, .string { data := #[] }, .bool false, .slice none 0 0, .int .i64 0] 49)
  simp only [List.map_cons, List.map_nil, List.getD_cons_zero, List.getD_cons_succ, List.cons_append, List.nil_append] at h1
  obtain ⟨W, hW⟩ : ∃ W, (((w.alloc (.cells #[.slice p.sp S.pairs.length p.cp, .slice p.st S.txs.length p.ct, .int .i64 S.nx] 43)).alloc (.cells #[.int .u8 o.kd, .int .u8 o.tx, .string o.key, .string o.val, .bool o.wr] 45)).alloc (.cells #[.slice none 0 0, .slice none 0 0, .int .i64 0] 43)).alloc (.cells #[.int .i64 0, .string { data := #[] }, .bool false, .slice none 0 0, .int .i64 0] 49) = W := ⟨_, rfl⟩
  obtain ⟨m, hm⟩ : ∃ m, w.heap.size = m := ⟨_, rfl⟩
  simp only [World.size_alloc] at h1
  rw [hW, hm] at h1
  try simp only [World.size_alloc]
  try simp only [hW, hm]
  have H1 := Lib.hid h1
  have H2 := Lib.hid (HA.out.below h1.bel)
  obtain ⟨c0, c1, c2, f0, f1, f2⟩ := (h1.blkm (b := m) (.tail _ (.tail _ (.tail _ (.head _))))).three; obtain ⟨q0, q1, q2, q3, q4, -⟩ := blk5 (h1.blkm (b := m + 1) (.tail _ (.tail _ (.head _))))
  have KAT := Lib.hid (at_ref S p id W H2.out (by omega))
  clear h1 hW hm
  have HTB := Lib.hid htb
  have HWR := Lib.hid hwr
  have HK0 := Lib.hid hk0
  have HAL := Lib.hid halt
  have HZ := Lib.hid hz
  clear htb hwr hk0 halt hz
  have hkl := fnd_lt hf
  have e1 : fndI id S.txs = k := by unfold fndI; rw [hf]
  have E1 := Lib.hid e1
  have HFN := Lib.hid hf
  have hkI : (k : Int) < (S.txs.length : Int) := by omega
  have hk0I : (0 : Int) ≤ (k : Int) := by omega
  clear hf e1
  go_upto_region 20 with (go_at_call 39; refine (KAT.out).mono ?_; rintro e w3 ⟨rfl, hb3⟩; rw [E1.out]; have H3 := Lib.hid (H1.out.of_below hb3); clear c0 c1 c2 f0 f1 f2 q0 q1 q2 q3 q4; obtain ⟨c0, c1, c2, f0, f1, f2⟩ := (H3.out.blkm (b := m) (.tail _ (.tail _ (.tail _ (.head _))))).three; obtain ⟨q0, q1, q2, q3, q4, -⟩ := blk5 (H3.out.blkm (b := m + 1) (.tail _ (.tail _ (.head _)))); obtain ⟨e0, e1, e2, j0, j1, j2⟩ := (H3.out.blkm (b := m + 1 + 1) (.head _)).three; obtain ⟨s0, s1, s2, s3, s4, g0, g1, g2, g3, g4⟩ := blk5 (H3.out.blkm (b := m + 1 + 1 + 1) (.tail _ (.head _))); clear hb3)
  obtain ⟨t, ht⟩ : ∃ t, S.txs[k] = t := ⟨_, rfl⟩
  have HR3 := Lib.hid (HA.out.below H3.out.bel)
  obtain ⟨g, o2, hst, -⟩ := HR3.out.ts.addr (by omega)
  obtain ⟨sq, cq, hvq, hrq⟩ := HA.out.row k
  have hyx := yz_get (.slice p.sc S.cs.length p.cc) S.txs k hkl
  rw [hvq, ht] at hyx
  obtain ⟨d0, d1, d2, d3⟩ := y_at (hst ▸ HR3.out.ts) (by rw [yz_len]; exact hkl) _ hyx
  simp only at d0 d1 d2 d3
  rw [hst] at c1
  have HST := Lib.hid hst
  have HT := Lib.hid ht
  have HSQ := Lib.hid hrq
  clear hst hvq hyx ht hrq
  go_upto_region 21 with fail
  have h4 := St.sh [_, _, _, _, _] [1, 2, 3, 4, 0] (by decide) (H3.out.new #[.int .i64 t.id, .string t.ow, .bool t.wr, .slice sq (chs S k).length cq] 36)
  simp only [List.map_cons, List.map_nil, List.getD_cons_zero, List.getD_cons_succ, List.cons_append, List.nil_append] at h4
  obtain ⟨w4, hw4⟩ : ∃ w4, w3.alloc (.cells #[.int .i64 t.id, .string t.ow, .bool t.wr, .slice sq (chs S k).length cq] 36) = w4 := ⟨_, rfl⟩
  obtain ⟨b13, hb13⟩ : ∃ b13, w3.heap.size = b13 := ⟨_, rfl⟩
  have HB4 := Lib.hid (show Below w3.heap.size w3 w4 by rw [← hw4]; exact (Below.refl _ w3).alloc (Nat.le_refl _) _)
  rw [hw4, hb13] at h4
  try simp only [hw4, hb13]
  have H4 := Lib.hid h4
  have HSQ4 := Lib.hid (HSQ.out.below H4.out.bel)
  clear c0 c1 c2 f0 f1 f2 q0 q1 q2 q3 q4 e0 e1 e2 j0 j1 j2 s0 s1 s2 s3 s4 g0 g1 g2 g3 g4 d0 d1 d2 d3 hw4 hb13
  obtain ⟨c0, c1, c2, f0, f1, f2⟩ := (h4.blkm (b := m) (.tail _ (.tail _ (.tail _ (.head _))))).three; obtain ⟨q0, q1, q2, q3, q4, -⟩ := blk5 (h4.blkm (b := m + 1) (.tail _ (.tail _ (.head _))))
  obtain ⟨e0, e1, e2, j0, j1, j2⟩ := (h4.blkm (b := m + 1 + 1) (.head _)).three; obtain ⟨s0, s1, s2, s3, s4, g0, g1, g2, g3, g4⟩ := blk5 (h4.blkm (b := m + 1 + 1 + 1) (.tail _ (.head _)))
  obtain ⟨i0, i1, i2, i3, l0, l1, l2, l3⟩ := blk4 (h4.blkm (b := b13) (.tail _ (.tail _ (.tail _ (.tail _ (.head _))))))
  rw [HST.out] at c1
  have HR4 := Lib.hid (HA.out.below h4.bel)
  clear h4
  have KT := Lib.hid (turn_ref S p k w4 HR4.out (by omega) hkl)
  rw [HTB.out] at KT
  rw [← HST.out] at c1
  have hchl : (chs S k).length ≤ 60 := by unfold chs; split; exact hcl; simp
  obtain ⟨cl, hcl2⟩ : ∃ cl, chs S k = cl := ⟨_, rfl⟩
  have hcon := content_len cl S.pairs
  obtain ⟨C, hC⟩ : ∃ C, content S.pairs cl = C := ⟨_, rfl⟩
  have HCC := Lib.hid (show content S.pairs (chs S k) = C by rw [hcl2]; exact hC)
  have HCL := Lib.hid hcl2
  rw [hcl2] at hchl HSQ HSQ4 i3 H4 ⊢
  rw [hC] at hcon
  have HC1 := Lib.hid hC
  clear hcl2 hC
  go_upto_region 28 with (first
    | (go_at_call 40; refine (KT.out).mono ?_; rintro e w5 ⟨rfl, hb5⟩; have H5 := Lib.hid (H4.out.of_below hb5); clear c0 c1 c2 f0 f1 f2 q0 q1 q2 q3 q4; clear e0 e1 e2 j0 j1 j2 s0 s1 s2 s3 s4 g0 g1 g2 g3 g4; clear i0 i1 i2 i3 l0 l1 l2 l3; obtain ⟨c0, c1, c2, f0, f1, f2⟩ := (H5.out.blkm (b := m) (.tail _ (.tail _ (.tail _ (.head _))))).three; obtain ⟨q0, q1, q2, q3, q4, -⟩ := blk5 (H5.out.blkm (b := m + 1) (.tail _ (.tail _ (.head _)))); obtain ⟨e0, e1, e2, j0, j1, j2⟩ := (H5.out.blkm (b := m + 1 + 1) (.head _)).three; obtain ⟨s0, s1, s2, s3, s4, g0, g1, g2, g3, g4⟩ := blk5 (H5.out.blkm (b := m + 1 + 1 + 1) (.tail _ (.head _))); obtain ⟨i0, i1, i2, i3, l0, l1, l2, l3⟩ := blk4 (H5.out.blkm (b := b13) (.tail _ (.tail _ (.tail _ (.tail _ (.head _)))))); have KC := Lib.hid (content_ref p.sp p.cp S.pairs sq cq cl w5 (H00.out.pc.below H5.out.bel) (HSQ4.out.below hb5) (by omega) HIV.out.pa); have HS5 := Lib.hid hb5.size; clear hb5)
    | (go_at_call 25; refine (KC.out).mono ?_; rintro e w6 ⟨s6, c6, rfl, hr6, hn6, hb6⟩; rw [HC1.out] at hr6 ⊢; have H6 := Lib.hid (H5.out.of_below hb6); have HRC := Lib.hid hr6; have HNC := Lib.hid hn6; have HS6 := Lib.hid (Nat.le_trans HS5.out hb6.size); clear c0 c1 c2 f0 f1 f2 q0 q1 q2 q3 q4; clear e0 e1 e2 j0 j1 j2 s0 s1 s2 s3 s4 g0 g1 g2 g3 g4; clear i0 i1 i2 i3 l0 l1 l2 l3; obtain ⟨c0, c1, c2, f0, f1, f2⟩ := (H6.out.blkm (b := m) (.tail _ (.tail _ (.tail _ (.head _))))).three; obtain ⟨q0, q1, q2, q3, q4, -⟩ := blk5 (H6.out.blkm (b := m + 1) (.tail _ (.tail _ (.head _)))); obtain ⟨e0, e1, e2, j0, j1, j2⟩ := (H6.out.blkm (b := m + 1 + 1) (.head _)).three; obtain ⟨s0, s1, s2, s3, s4, g0, g1, g2, g3, g4⟩ := blk5 (H6.out.blkm (b := m + 1 + 1 + 1) (.tail _ (.head _))); obtain ⟨i0, i1, i2, i3, l0, l1, l2, l3⟩ := blk4 (H6.out.blkm (b := b13) (.tail _ (.tail _ (.tail _ (.tail _ (.head _)))))); clear hb6 hr6 hn6))
  have hwf : t.wr = true := HWR.out t (by rw [List.getElem?_eq_getElem hkl, HT.out])
  have HWT := Lib.hid hwf
  rw [hwf] at i2
  have hclS : cl = S.cs := by rw [← HCL.out, HK0.out]; rfl
  have HCS := Lib.hid hclS
  have HCA := Lib.hid (show Asc Ch.k cl by rw [hclS]; exact HIV.out.ca)
  have hCw : content S.pairs (withC (⟨o.key, o.val, false⟩ : Ch) S.cs) = putP o.key o.val C := by
    rw [content_with _ HIV.out.pa HIV.out.ca, ← hclS, HC1.out]
    rfl
  have hAC : Asc Pr.k C := by rw [← HC1.out]; exact asc_content HIV.out.pa
  have hal := HAL.out
  have hz2 := HZ.out
  rw [hCw] at hal hz2
  obtain ⟨C2, hC2⟩ : ∃ C2, putP o.key o.val C = C2 := ⟨_, rfl⟩
  rw [hC2] at hal hz2
  have HC2 := Lib.hid hC2
  have HZ2 := Lib.hid hz2
  have hC2l : C2.length ≤ 1000 := by
    rw [← hC2]
    have := put_len o.key o.val C
    omega
  have HAL2 := Lib.hid hal
  clear hwf hclS hCw hC2 hz2 hal
  have hn7 := H6.out.new #[.string o.key, .string { data := #[] }, .bool true] 59
  have h7s := St.sh [_, _, _, _, _, _] [1, 2, 3, 4, 5, 0] (by decide) hn7; simp only [List.map_cons, List.map_nil, List.getD_cons_zero, List.getD_cons_succ, List.cons_append, List.nil_append] at h7s
  obtain ⟨w7, hw7⟩ : ∃ w7, w6.alloc (.cells #[.string o.key, .string { data := #[] }, .bool true] 59) = w7 := ⟨_, rfl⟩
  obtain ⟨b18, hb18⟩ : ∃ b18, w6.heap.size = b18 := ⟨_, rfl⟩
  have hB7 : Below w6.heap.size w6 w7 := by rw [← hw7]; exact (Below.refl _ w6).alloc (Nat.le_refl _) _
  rw [hw7, hb18] at h7s
  have HX7 := Lib.hid h7s
  have HW7 := Lib.hid hw7
  have HB18 := Lib.hid hb18
  have KS := Lib.hid (set_any s6 c6 C o.key o.val w7 (HRC.out.rd.below hB7) (by omega) hAC)
  clear hn7 h7s hw7 hb18 hB7 hAC
  go_upto_region 51 with fail
  try rw [HW7.out]
  try simp only [HB18.out]
  clear c0 c1 c2 f0 f1 f2 q0 q1 q2 q3 q4 e0 e1 e2 j0 j1 j2 s0 s1 s2 s3 s4 g0 g1 g2 g3 g4 i0 i1 i2 i3 l0 l1 l2 l3
  obtain ⟨c0, c1, c2, f0, f1, f2⟩ := (HX7.out.blkm (b := m) (.tail _ (.tail _ (.tail _ (.head _))))).three; obtain ⟨q0, q1, q2, q3, q4, -⟩ := blk5 (HX7.out.blkm (b := m + 1) (.tail _ (.tail _ (.head _)))); obtain ⟨e0, e1, e2, j0, j1, j2⟩ := (HX7.out.blkm (b := m + 1 + 1) (.head _)).three; obtain ⟨s0, s1, s2, s3, s4, g0, g1, g2, g3, g4⟩ := blk5 (HX7.out.blkm (b := m + 1 + 1 + 1) (.tail _ (.head _))); obtain ⟨i0, i1, i2, i3, l0, l1, l2, l3⟩ := blk4 (HX7.out.blkm (b := b13) (.tail _ (.tail _ (.tail _ (.tail _ (.head _)))))); obtain ⟨n0, n1, n2, x0, x1, x2⟩ := (HX7.out.blkm (b := b18) (.tail _ (.tail _ (.tail _ (.tail _ (.tail _ (.head _))))))).three
  by_cases hzz : 1048576 < sizeP C2
  · have hal2 := HAL2.out
    rw [if_pos hzz] at hal2
    have HAL3 := Lib.hid hal2
    have hzI : (1048576 : Int) < (sizeP C2 : Int) := by omega
    clear hal2 hzz
    go_wp2_with (first
      | (go_at_call 42; refine (KS.out).mono ?_; rintro e w8 ⟨s8, c8, rfl, h8⟩; rw [HC2.out] at h8 ⊢; have H8 := Lib.hid (HX7.out.of_below h8.bel); have KZ := Lib.hid (size_ref s8 c8 C2 w8 h8.rd (by omega) HZ2.out); clear c0 c1 c2 f0 f1 f2 q0 q1 q2 q3 q4 e0 e1 e2 j0 j1 j2 s0 s1 s2 s3 s4 g0 g1 g2 g3 g4 i0 i1 i2 i3 l0 l1 l2 l3; clear n0 n1 n2 x0 x1 x2; obtain ⟨c0, c1, c2, f0, f1, f2⟩ := (H8.out.blkm (b := m) (.tail _ (.tail _ (.tail _ (.head _))))).three; obtain ⟨q0, q1, q2, q3, q4, -⟩ := blk5 (H8.out.blkm (b := m + 1) (.tail _ (.tail _ (.head _)))); obtain ⟨e0, e1, e2, j0, j1, j2⟩ := (H8.out.blkm (b := m + 1 + 1) (.head _)).three; obtain ⟨s0, s1, s2, s3, s4, g0, g1, g2, g3, g4⟩ := blk5 (H8.out.blkm (b := m + 1 + 1 + 1) (.tail _ (.head _))); obtain ⟨i0, i1, i2, i3, l0, l1, l2, l3⟩ := blk4 (H8.out.blkm (b := b13) (.tail _ (.tail _ (.tail _ (.tail _ (.head _)))))); obtain ⟨n0, n1, n2, x0, x1, x2⟩ := (H8.out.blkm (b := b18) (.tail _ (.tail _ (.tail _ (.tail _ (.tail _ (.head _))))))).three; clear h8)
      | (go_at_call 41; refine (KZ.out).mono ?_; rintro e w9 ⟨rfl, h9⟩; have H9 := Lib.hid (H8.out.of_below h9); clear c0 c1 c2 f0 f1 f2 q0 q1 q2 q3 q4 e0 e1 e2 j0 j1 j2 s0 s1 s2 s3 s4 g0 g1 g2 g3 g4 i0 i1 i2 i3 l0 l1 l2 l3; clear n0 n1 n2 x0 x1 x2; obtain ⟨c0, c1, c2, f0, f1, f2⟩ := (H9.out.blkm (b := m) (.tail _ (.tail _ (.tail _ (.head _))))).three; obtain ⟨q0, q1, q2, q3, q4, -⟩ := blk5 (H9.out.blkm (b := m + 1) (.tail _ (.tail _ (.head _)))); obtain ⟨e0, e1, e2, j0, j1, j2⟩ := (H9.out.blkm (b := m + 1 + 1) (.head _)).three; obtain ⟨s0, s1, s2, s3, s4, g0, g1, g2, g3, g4⟩ := blk5 (H9.out.blkm (b := m + 1 + 1 + 1) (.tail _ (.head _))); obtain ⟨i0, i1, i2, i3, l0, l1, l2, l3⟩ := blk4 (H9.out.blkm (b := b13) (.tail _ (.tail _ (.tail _ (.tail _ (.head _)))))); obtain ⟨n0, n1, n2, x0, x1, x2⟩ := (H9.out.blkm (b := b18) (.tail _ (.tail _ (.tail _ (.tail _ (.tail _ (.head _))))))).three; clear h9; obtain ⟨W9, hW9, hf, hfr⟩ := fin_st H9.out (.slice p.sp S.pairs.length p.cp) (.slice p.st S.txs.length p.ct) (.int .i64 S.nx) (.int .i64 0) (.string { data := #[] }) (.bool false) (.slice none 0 0) (.int .i64 20); have HW9 := Lib.hid hW9; have HF := Lib.hid hf; have HFR := Lib.hid hfr; clear hW9 hf hfr))
    rw [HW9.out]
    obtain ⟨t0, t1, t2, t3, t4, t5, t6, t7⟩ := fin_rd HF.out
    refine bodyPost_ret (v := .tuple #[.agg #[.slice p.sp S.pairs.length p.cp, .slice p.st S.txs.length p.ct, .int .i64 S.nx], .agg #[.int .i64 0, .string { data := #[] }, .bool false, .slice none 0 0, .int .i64 20]]) (by simp [results, Try.results20, go_sem, t0, t1, t2, t3, t4, t5, t6, t7]) rfl ?_
    show RdPost (altS S id (⟨o.key, o.val, false⟩ : Ch)).1 ⟨0, .empty, false, [], (altS S id (⟨o.key, o.val, false⟩ : Ch)).2⟩ p w _ _
    rw [HAL3.out]
    exact rd_same H00.out HF.out.bel _ _ _ _
  · have hal2 := HAL2.out
    rw [if_neg hzz] at hal2
    have HAL3 := Lib.hid hal2
    have hzI : (sizeP C2 : Int) ≤ 1048576 := by omega
    clear hal2 hzz
    go_upto_region 53 with (first
    | (go_at_call 42; refine (KS.out).mono ?_; rintro e w8 ⟨s8, c8, rfl, h8⟩; rw [HC2.out] at h8 ⊢; have H8 := Lib.hid (HX7.out.of_below h8.bel); have KZ := Lib.hid (size_ref s8 c8 C2 w8 h8.rd (by omega) HZ2.out); clear c0 c1 c2 f0 f1 f2 q0 q1 q2 q3 q4 e0 e1 e2 j0 j1 j2 s0 s1 s2 s3 s4 g0 g1 g2 g3 g4 i0 i1 i2 i3 l0 l1 l2 l3; clear n0 n1 n2 x0 x1 x2; obtain ⟨c0, c1, c2, f0, f1, f2⟩ := (H8.out.blkm (b := m) (.tail _ (.tail _ (.tail _ (.head _))))).three; obtain ⟨q0, q1, q2, q3, q4, -⟩ := blk5 (H8.out.blkm (b := m + 1) (.tail _ (.tail _ (.head _)))); obtain ⟨e0, e1, e2, j0, j1, j2⟩ := (H8.out.blkm (b := m + 1 + 1) (.head _)).three; obtain ⟨s0, s1, s2, s3, s4, g0, g1, g2, g3, g4⟩ := blk5 (H8.out.blkm (b := m + 1 + 1 + 1) (.tail _ (.head _))); obtain ⟨i0, i1, i2, i3, l0, l1, l2, l3⟩ := blk4 (H8.out.blkm (b := b13) (.tail _ (.tail _ (.tail _ (.tail _ (.head _)))))); obtain ⟨n0, n1, n2, x0, x1, x2⟩ := (H8.out.blkm (b := b18) (.tail _ (.tail _ (.tail _ (.tail _ (.tail _ (.head _))))))).three; clear h8)
    | (go_at_call 41; refine (KZ.out).mono ?_; rintro e w9 ⟨rfl, h9⟩; have H9 := Lib.hid (H8.out.of_below h9); clear c0 c1 c2 f0 f1 f2 q0 q1 q2 q3 q4 e0 e1 e2 j0 j1 j2 s0 s1 s2 s3 s4 g0 g1 g2 g3 g4 i0 i1 i2 i3 l0 l1 l2 l3; clear n0 n1 n2 x0 x1 x2; obtain ⟨c0, c1, c2, f0, f1, f2⟩ := (H9.out.blkm (b := m) (.tail _ (.tail _ (.tail _ (.head _))))).three; obtain ⟨q0, q1, q2, q3, q4, -⟩ := blk5 (H9.out.blkm (b := m + 1) (.tail _ (.tail _ (.head _)))); obtain ⟨e0, e1, e2, j0, j1, j2⟩ := (H9.out.blkm (b := m + 1 + 1) (.head _)).three; obtain ⟨s0, s1, s2, s3, s4, g0, g1, g2, g3, g4⟩ := blk5 (H9.out.blkm (b := m + 1 + 1 + 1) (.tail _ (.head _))); obtain ⟨i0, i1, i2, i3, l0, l1, l2, l3⟩ := blk4 (H9.out.blkm (b := b13) (.tail _ (.tail _ (.tail _ (.tail _ (.head _)))))); obtain ⟨n0, n1, n2, x0, x1, x2⟩ := (H9.out.blkm (b := b18) (.tail _ (.tail _ (.tail _ (.tail _ (.tail _ (.head _))))))).three; clear h9))
    have hs := St.sh [_, _, _, _, _, _] [5, 0, 1, 2, 3, 4] (by decide) H9.out; simp only [List.map_cons, List.map_nil, List.getD_cons_zero, List.getD_cons_succ, List.cons_append, List.nil_append] at hs
    have hs1 := hs.set3 (.string o.key) (.string o.val) (.bool false)
    have hs2 := St.sh [_, _, _, _, _, _] [1, 2, 3, 4, 5, 0] (by decide) hs1; simp only [List.map_cons, List.map_nil, List.getD_cons_zero, List.getD_cons_succ, List.cons_append, List.nil_append] at hs2
    obtain ⟨w10, hw10⟩ : ∃ w10, ((w9.setCell ⟨b18, 0, none⟩ (.string o.key)).setCell ⟨b18, 1, none⟩ (.string o.val)).setCell ⟨b18, 2, none⟩ (.bool false) = w10 := ⟨_, rfl⟩
    rw [hw10] at hs2
    have HX8 := Lib.hid hs2
    have HW10 := Lib.hid hw10
    clear hs hs1 hs2 hw10
    go_upto_region 54 with fail
    rw [HW10.out]
    clear c0 c1 c2 f0 f1 f2 q0 q1 q2 q3 q4 e0 e1 e2 j0 j1 j2 s0 s1 s2 s3 s4 g0 g1 g2 g3 g4 i0 i1 i2 i3 l0 l1 l2 l3
    clear n0 n1 n2 x0 x1 x2
    obtain ⟨wx, hwx⟩ : ∃ wx, w10 = wx := ⟨_, rfl⟩
    rw [hwx] at HX8 ⊢
    clear hwx HX7
    have HX7 := Lib.hid HX8.out
    have KG := Lib.hid (show Calls Try.prog 43 #[.slice sq cl.length cq, .agg #[.string (⟨o.key, o.val, false⟩ : Ch).k, .string (⟨o.key, o.val, false⟩ : Ch).v, .bool (⟨o.key, o.val, false⟩ : Ch).r]] wx (CsPost (withC (⟨o.key, o.val, false⟩ : Ch) cl) wx) from change_ref sq cq cl (⟨o.key, o.val, false⟩ : Ch) wx (HSQ.out.below HX7.out.bel) (by omega) (by have := HCA.out; exact this))
    obtain ⟨R, hR⟩ : ∃ R, withC (⟨o.key, o.val, false⟩ : Ch) cl = R := ⟨_, rfl⟩
    rw [hR] at KG
    have HRR := Lib.hid hR
    clear hR
    obtain ⟨c0, c1, c2, f0, f1, f2⟩ := (HX7.out.blkm (b := m) (.tail _ (.tail _ (.tail _ (.head _))))).three; obtain ⟨q0, q1, q2, q3, q4, -⟩ := blk5 (HX7.out.blkm (b := m + 1) (.tail _ (.tail _ (.head _)))); obtain ⟨e0, e1, e2, j0, j1, j2⟩ := (HX7.out.blkm (b := m + 1 + 1) (.head _)).three; obtain ⟨s0, s1, s2, s3, s4, g0, g1, g2, g3, g4⟩ := blk5 (HX7.out.blkm (b := m + 1 + 1 + 1) (.tail _ (.head _))); obtain ⟨i0, i1, i2, i3, l0, l1, l2, l3⟩ := blk4 (HX7.out.blkm (b := b13) (.tail _ (.tail _ (.tail _ (.tail _ (.head _)))))); obtain ⟨n0, n1, n2, x0, x1, x2⟩ := (HX7.out.blkm (b := b18) (.tail _ (.tail _ (.tail _ (.tail _ (.tail _ (.head _))))))).three
    go_upto_region 55 with (go_at_call 43; refine (KG.out).mono ?_; rintro e y8 ⟨z8, d8, rfl, hh8⟩; have hj := join_own HX7.out hh8; have h8s := St.sh [_, _, _, _, _, _, _] [1, 2, 3, 4, 5, 6, 0] (by decide) hj; simp only [List.map_cons, List.map_nil, List.getD_cons_zero, List.getD_cons_succ, List.cons_append, List.nil_append] at h8s; have H8z := Lib.hid h8s; clear h8s hj hh8; clear c0 c1 c2 f0 f1 f2 q0 q1 q2 q3 q4 e0 e1 e2 j0 j1 j2 s0 s1 s2 s3 s4 g0 g1 g2 g3 g4 i0 i1 i2 i3 l0 l1 l2 l3; clear n0 n1 n2 x0 x1 x2; obtain ⟨c0, c1, c2, f0, f1, f2⟩ := (H8z.out.blkm (b := m) (.tail _ (.tail _ (.tail _ (.head _))))).three; obtain ⟨q0, q1, q2, q3, q4, -⟩ := blk5 (H8z.out.blkm (b := m + 1) (.tail _ (.tail _ (.head _)))); obtain ⟨e0, e1, e2, j0, j1, j2⟩ := (H8z.out.blkm (b := m + 1 + 1) (.head _)).three; obtain ⟨s0, s1, s2, s3, s4, g0, g1, g2, g3, g4⟩ := blk5 (H8z.out.blkm (b := m + 1 + 1 + 1) (.tail _ (.head _))); obtain ⟨i0, i1, i2, i3, l0, l1, l2, l3⟩ := blk4 (H8z.out.blkm (b := b13) (.tail _ (.tail _ (.tail _ (.tail _ (.head _)))))); obtain ⟨n0, n1, n2, x0, x1, x2⟩ := (H8z.out.blkm (b := b18) (.tail _ (.tail _ (.tail _ (.tail _ (.tail _ (.head _))))))).three)
    have hs := St.sh [_, _, _, _, _, _, _] [4, 0, 1, 2, 3, 5, 6] (by decide) H8z.out; simp only [List.map_cons, List.map_nil, List.getD_cons_zero, List.getD_cons_succ, List.cons_append, List.nil_append] at hs
    have hs1 := hs.set 3 (.slice z8 R.length d8)
    simp only [List.setIfInBounds_toArray, List.set_cons_zero, List.set_cons_succ] at hs1
    have hs2 := St.sh [_, _, _, _, _, _, _] [1, 2, 3, 4, 0, 5, 6] (by decide) hs1; simp only [List.map_cons, List.map_nil, List.getD_cons_zero, List.getD_cons_succ, List.cons_append, List.nil_append] at hs2
    obtain ⟨y9, hy9⟩ : ∃ y9, y8.setCell ⟨b13, 3, none⟩ (.slice z8 R.length d8) = y9 := ⟨_, rfl⟩
    rw [hy9] at hs2 ⊢
    have H9z := Lib.hid hs2
    clear hs hs1 hs2 hy9
    clear c0 c1 c2 f0 f1 f2 q0 q1 q2 q3 q4 e0 e1 e2 j0 j1 j2 s0 s1 s2 s3 s4 g0 g1 g2 g3 g4 i0 i1 i2 i3 l0 l1 l2 l3
    clear n0 n1 n2 x0 x1 x2
    obtain ⟨c0, c1, c2, f0, f1, f2⟩ := (H9z.out.blkm (b := m) (.tail _ (.tail _ (.tail _ (.head _))))).three; obtain ⟨q0, q1, q2, q3, q4, -⟩ := blk5 (H9z.out.blkm (b := m + 1) (.tail _ (.tail _ (.head _)))); obtain ⟨e0, e1, e2, j0, j1, j2⟩ := (H9z.out.blkm (b := m + 1 + 1) (.head _)).three; obtain ⟨s0, s1, s2, s3, s4, g0, g1, g2, g3, g4⟩ := blk5 (H9z.out.blkm (b := m + 1 + 1 + 1) (.tail _ (.head _))); obtain ⟨i0, i1, i2, i3, l0, l1, l2, l3⟩ := blk4 (H9z.out.blkm (b := b13) (.tail _ (.tail _ (.tail _ (.tail _ (.head _)))))); obtain ⟨n0, n1, n2, x0, x1, x2⟩ := (H9z.out.blkm (b := b18) (.tail _ (.tail _ (.tail _ (.tail _ (.tail _ (.head _))))))).three
    have HRT := Lib.hid (HA.out.below H9z.out.bel).ts
    have HNO := Lib.hid (K.Own.nil (Below.refl y9.heap.size y9) 36 4)
    go_upto_region 57 with (refine wpList_append_own' rfl (.tmp 218) (.tmp 220) 26 rfl elX none 0 0 [] rfl HNO.out _ S.txs.length _ _ rfl HRT.out (by omega) (by omega) ?_; intro sT cT y10 p1 p2 p3; have HQ := Lib.hid p1; clear p1 p2 p3; try simp only [Nat.zero_add, List.nil_append])
    rw [Nat.zero_add, List.nil_append] at HQ
    have hj := join_own H9z.out HQ.out
    have h10 := St.sh [_, _, _, _, _, _, _, _] [1, 2, 3, 4, 5, 6, 7, 0] (by decide) hj; simp only [List.map_cons, List.map_nil, List.getD_cons_zero, List.getD_cons_succ, List.cons_append, List.nil_append] at h10
    clear c0 c1 c2 f0 f1 f2 q0 q1 q2 q3 q4 e0 e1 e2 j0 j1 j2 s0 s1 s2 s3 s4 g0 g1 g2 g3 g4 i0 i1 i2 i3 l0 l1 l2 l3
    clear n0 n1 n2 x0 x1 x2
    obtain ⟨c0, c1, c2, f0, f1, f2⟩ := (h10.blkm (b := m) (.tail _ (.tail _ (.tail _ (.head _))))).three; obtain ⟨q0, q1, q2, q3, q4, -⟩ := blk5 (h10.blkm (b := m + 1) (.tail _ (.tail _ (.head _)))); obtain ⟨e0, e1, e2, j0, j1, j2⟩ := (h10.blkm (b := m + 1 + 1) (.head _)).three; obtain ⟨s0, s1, s2, s3, s4, g0, g1, g2, g3, g4⟩ := blk5 (h10.blkm (b := m + 1 + 1 + 1) (.tail _ (.head _))); obtain ⟨i0, i1, i2, i3, l0, l1, l2, l3⟩ := blk4 (h10.blkm (b := b13) (.tail _ (.tail _ (.tail _ (.tail _ (.head _)))))); obtain ⟨n0, n1, n2, x0, x1, x2⟩ := (h10.blkm (b := b18) (.tail _ (.tail _ (.tail _ (.tail _ (.tail _ (.head _))))))).three
    have hrow := h10.slm (e := 36) (sz := 4) (s := sT) (n := S.txs.length) (c := cT) (.tail _ (.tail _ (.tail _ (.tail _ (.tail _ (.tail _ (.tail _ (.head _))))))))
    obtain ⟨gT, oT, hsT, -⟩ := hrow.rd.addr (by omega)
    subst hsT
    have hyx := yz_get (.slice p.sc S.cs.length p.cc) S.txs k hkl
    obtain ⟨d0, d1, d2, d3⟩ := y_at hrow.rd (by rw [yz_len]; exact hkl) _ hyx
    have f30 := hrow.some_free (oT + k * 4)
    have f31 := hrow.some_free (oT + k * 4 + 1)
    have f32 := hrow.some_free (oT + k * 4 + 2)
    have f33 := hrow.some_free (oT + k * 4 + 3)
    have h10f := St.sh [_, _, _, _, _, _, _, _] [7, 0, 1, 2, 3, 4, 5, 6] (by decide) h10; simp only [List.map_cons, List.map_nil, List.getD_cons_zero, List.getD_cons_succ, List.cons_append, List.nil_append] at h10f
    have h11 := row4 h10f k hkl (.int .i64 t.id) (.string t.ow) (.bool t.wr) (.slice z8 R.length d8) rfl rfl rfl rfl
    rw [sets_yz hkl HT.out HK0.out] at h11
    have h11s := St.sh [_, _, _, _, _, _, _, _] [1, 2, 3, 4, 5, 6, 7, 0] (by decide) h11; simp only [List.map_cons, List.map_nil, List.getD_cons_zero, List.getD_cons_succ, List.cons_append, List.nil_append] at h11s
    obtain ⟨w11, hw11⟩ : ∃ w11, ((((y10.setCell ⟨gT, oT + k * 4, none⟩ (.int .i64 t.id)).setCell ⟨gT, oT + k * 4 + 1, none⟩ (.string t.ow)).setCell ⟨gT, oT + k * 4 + 2, none⟩ (.bool t.wr)).setCell ⟨gT, oT + k * 4 + 3, none⟩ (.slice z8 R.length d8)) = w11 := ⟨_, rfl⟩
    rw [hw11] at h11s
    have H11 := Lib.hid h11s
    have HW11 := Lib.hid hw11
    clear hw11 h11s h11 h10f h10 hj hrow hyx
    go_upto_region 58 with fail
    rw [HW11.out]
    clear d0 d1 d2 d3 f30 f31 f32 f33
    clear c0 c1 c2 f0 f1 f2 q0 q1 q2 q3 q4 e0 e1 e2 j0 j1 j2 s0 s1 s2 s3 s4 g0 g1 g2 g3 g4 i0 i1 i2 i3 l0 l1 l2 l3
    clear n0 n1 n2 x0 x1 x2
    obtain ⟨c0, c1, c2, f0, f1, f2⟩ := (H11.out.blkm (b := m) (.tail _ (.tail _ (.tail _ (.head _))))).three; obtain ⟨q0, q1, q2, q3, q4, -⟩ := blk5 (H11.out.blkm (b := m + 1) (.tail _ (.tail _ (.head _)))); obtain ⟨e0, e1, e2, j0, j1, j2⟩ := (H11.out.blkm (b := m + 1 + 1) (.head _)).three; obtain ⟨s0, s1, s2, s3, s4, g0, g1, g2, g3, g4⟩ := blk5 (H11.out.blkm (b := m + 1 + 1 + 1) (.tail _ (.head _))); obtain ⟨i0, i1, i2, i3, l0, l1, l2, l3⟩ := blk4 (H11.out.blkm (b := b13) (.tail _ (.tail _ (.tail _ (.tail _ (.head _))))))
    have hs := St.sh [_, _, _, _, _, _, _, _] [3, 0, 1, 2, 4, 5, 6, 7] (by decide) H11.out; simp only [List.map_cons, List.map_nil, List.getD_cons_zero, List.getD_cons_succ, List.cons_append, List.nil_append] at hs
    have hs1 := hs.set 1 (.slice (some ⟨gT, oT, none⟩) S.txs.length cT)
    simp only [List.setIfInBounds_toArray, List.set_cons_zero, List.set_cons_succ] at hs1
    have hs2 := St.sh [_, _, _, _, _, _, _, _] [1, 2, 3, 0, 4, 5, 6, 7] (by decide) hs1; simp only [List.map_cons, List.map_nil, List.getD_cons_zero, List.getD_cons_succ, List.cons_append, List.nil_append] at hs2
    obtain ⟨w12, hw12⟩ : ∃ w12, w11.setCell ⟨m, 1, none⟩ (.slice (some ⟨gT, oT, none⟩) S.txs.length cT) = w12 := ⟨_, rfl⟩
    rw [hw12] at hs2
    have H12 := Lib.hid hs2
    have HW12 := Lib.hid hw12
    clear hw12 hs hs1 hs2
    go_upto_region 59 with fail
    rw [HW12.out]
    clear c0 c1 c2 f0 f1 f2 q0 q1 q2 q3 q4 e0 e1 e2 j0 j1 j2 s0 s1 s2 s3 s4 g0 g1 g2 g3 g4 i0 i1 i2 i3 l0 l1 l2 l3
    obtain ⟨c0, c1, c2, f0, f1, f2⟩ := (H12.out.blkm (b := m) (.tail _ (.tail _ (.tail _ (.head _))))).three; obtain ⟨q0, q1, q2, q3, q4, -⟩ := blk5 (H12.out.blkm (b := m + 1) (.tail _ (.tail _ (.head _)))); obtain ⟨e0, e1, e2, j0, j1, j2⟩ := (H12.out.blkm (b := m + 1 + 1) (.head _)).three; obtain ⟨s0, s1, s2, s3, s4, g0, g1, g2, g3, g4⟩ := blk5 (H12.out.blkm (b := m + 1 + 1 + 1) (.tail _ (.head _))); obtain ⟨i0, i1, i2, i3, l0, l1, l2, l3⟩ := blk4 (H12.out.blkm (b := b13) (.tail _ (.tail _ (.tail _ (.tail _ (.head _))))))
    obtain ⟨W9, hW9, hf, hfr⟩ := fin_st H12.out (.slice p.sp S.pairs.length p.cp) (.slice (some ⟨gT, oT, none⟩) S.txs.length cT) (.int .i64 S.nx) (.int .i64 0) (.string { data := #[] }) (.bool false) (.slice none 0 0) (.int .i64 0); have HW9 := Lib.hid hW9; have HF := Lib.hid hf; have HFR := Lib.hid hfr; clear hW9 hf hfr
    go_wp2_with fail
    rw [HW9.out]
    obtain ⟨t0, t1, t2, t3, t4, t5, t6, t7⟩ := fin_rd HF.out
    refine bodyPost_ret (v := .tuple #[.agg #[.slice p.sp S.pairs.length p.cp, .slice (some ⟨gT, oT, none⟩) S.txs.length cT, .int .i64 S.nx], .agg #[.int .i64 0, .string { data := #[] }, .bool false, .slice none 0 0, .int .i64 0]]) (by simp [results, Try.results20, go_sem, t0, t1, t2, t3, t4, t5, t6, t7]) rfl ?_
    show RdPost (altS S id (⟨o.key, o.val, false⟩ : Ch)).1 _ p w _ _
    rw [HAL3.out, ← HCS.out, HRR.out]
    have hsT := HF.out.slm (e := 36) (sz := 4) (s := some ⟨gT, oT, none⟩) (n := S.txs.length) (c := cT) (.tail _ (.tail _ (.tail _ (.tail _ (.tail _ (.tail _ (.tail _ (.head _))))))))
    have hsC := HF.out.slm (e := 59) (sz := 3) (s := z8) (n := R.length) (c := d8) (.tail _ (.tail _ (.tail _ (.tail _ (.tail _ (.tail _ (.head _)))))))
    have hw0 := H00.out.below HF.out.bel
    refine ⟨⟨p.sp, p.cp, some ⟨gT, oT, none⟩, cT, z8, d8⟩, none, 0, rfl, ⟨⟨rfl, hw0.rf.ps, hsT.rd, hsC.rd⟩, hw0.pc, fun r hr => ?_⟩, rd_nil _ _, (by intro r hr; cases hr), fun r hr => ?_, HF.out.bel⟩
    · rcases hr with q | q | q
      · exact hw0.rows r (.inl q)
      · exact hsT.lt r q
      · exact hsC.lt r q
    · rcases hr with q | q | q
      · exact .inl (.inl q)
      · exact .inr ⟨rowT_new HF.out r q, hsT.lt r q⟩
      · exact .inr ⟨rowC_new HF.out r q, hsC.lt r q⟩

end Go.Proofs.Ytcglnjklnlejmaa
