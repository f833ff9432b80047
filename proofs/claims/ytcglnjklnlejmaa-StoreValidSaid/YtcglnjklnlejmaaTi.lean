/-
  The reference: Do at Put and Remove.
-/
import Derived.Test.YtcglnjklnlejmaaTh
set_option linter.unusedVariables false
set_option linter.unusedSimpArgs false
namespace Go.Proofs.Ytcglnjklnlejmaa
open Go.RowKit Go.K Go.K.Sr

theorem row4 {w0 w : World} {L : List As} {e : TypeId} {g off n c : Nat} {xs : List Value} (h : St w0 w (As.row e 4 (some ⟨g, off, none⟩) n c xs :: L)) (k : Nat) (hk : k < n) (u0 u1 u2 u3 : Value) (h0 : u0.oneCell' = true) (h1 : u1.oneCell' = true) (h2 : u2.oneCell' = true) (h3 : u3.oneCell' = true) :
    St w0 ((((w.setCell ⟨g, off + k * 4, none⟩ u0).setCell ⟨g, off + k * 4 + 1, none⟩ u1).setCell ⟨g, off + k * 4 + 2, none⟩ u2).setCell ⟨g, off + k * 4 + 3, none⟩ u3) (As.row e 4 (some ⟨g, off, none⟩) n c ((((xs.set (k * 4) u0).set (k * 4 + 1) u1).set (k * 4 + 2) u2).set (k * 4 + 3) u3) :: L) :=
  (((h.row_set (k * 4) (by omega) u0 h0).row_set (k * 4 + 1) (by omega) u1 h1).row_set (k * 4 + 2) (by omega) u2 h2).row_set (k * 4 + 3) (by omega) u3 h3
theorem sets_yz {cv cv' : Value} {txs : List Tx} {k : Nat} (hk : k < txs.length) {t : Tx} (ht : txs[k] = t) (h0 : k = 0) :
    (((((flat ycells (yz cv txs)).set (k * 4) (.int .i64 t.id)).set (k * 4 + 1) (.string t.ow)).set (k * 4 + 2) (.bool t.wr)).set (k * 4 + 3) cv') = flat ycells (yz cv' txs) := by
  subst h0
  cases txs with
  | nil => simp at hk
  | cons a r =>
    simp at ht
    subst ht
    simp [yz, flat, ycells]

theorem rowC_new {w W9 : World} {A0 A1 A2 A3 A4 A5 : As} {L : List As} {e : TypeId} {sz n c : Nat} {s : Option Addr} {xs : List Value} (h : St w W9 (A0 :: A1 :: A2 :: A3 :: A4 :: A5 :: As.row e sz s n c xs :: L)) (r : Nat) (hr : rowOf s = some r) : w.heap.size ≤ r := by
  have h1 := St.sh [_, _, _, _, _, _, _] [6, 0, 1, 2, 3, 4, 5] (by decide) h
  simp only [List.map_cons, List.map_nil, List.getD_cons_zero, List.getD_cons_succ, List.cons_append, List.nil_append] at h1
  obtain ⟨F, h2, h3, -⟩ := h1.head
  exact h3 r ((h2.1 r).2 hr)

theorem rowT_new {w W9 : World} {A0 A1 A2 A3 A4 A5 A6 : As} {L : List As} {e : TypeId} {sz n c : Nat} {s : Option Addr} {xs : List Value} (h : St w W9 (A0 :: A1 :: A2 :: A3 :: A4 :: A5 :: A6 :: As.row e sz s n c xs :: L)) (r : Nat) (hr : rowOf s = some r) : w.heap.size ≤ r := by
  have h1 := St.sh [_, _, _, _, _, _, _, _] [7, 0, 1, 2, 3, 4, 5, 6] (by decide) h
  simp only [List.map_cons, List.map_nil, List.getD_cons_zero, List.getD_cons_succ, List.cons_append, List.nil_append] at h1
  obtain ⟨F, h2, h3, -⟩ := h1.head
  exact h3 r ((h2.1 r).2 hr)

set_option maxRecDepth 100000 in
set_option maxHeartbeats 4000000 in
theorem d_ro (S : SS) (p : Sp) (o : Op') (id : Int) (w : World) (n : Nat) (h : Rw w S p) (ho : o.ok) (hi : Iv n S) (hn : n ≤ 60) (hk : 2 ≤ o.kd % 9 ∧ o.kd % 9 ≤ 3) (k : Nat) (hf : fnd id S.txs = some k) (htb : turnB S.txs k = true) (hwr : ∀ t, S.txs[k]? = some t → t.wr = false) :
    Calls Try.prog 20 #[rv p S, .agg #[.int .u8 o.kd, .int .u8 o.tx, .string o.key, .string o.val, .bool o.wr], .int .i64 id] w (RdPost (S) ⟨0, .empty, false, [], 7⟩ p w) := by
  have HA := Lib.hid h.rf
  have H00 := Lib.hid h
  have HIV := Lib.hid hi
  have htl : S.txs.length ≤ 60 := by have := hi.tl; omega
  have hpl : S.pairs.length ≤ 60 := by have := hi.ln; omega
  have hcl : S.cs.length ≤ 60 := by have := hi.ln; omega
  have hnx : 0 ≤ S.nx ∧ S.nx ≤ 60 := ⟨hi.nx0, by have := hi.nx1; omega⟩
  obtain ⟨ok1, ok2, ok3, ok4⟩ := ho
  have hw1 : IntKind.i64.wrap o.kd = o.kd := by rw [IntKind.wrap_i64]; omega
  obtain ⟨K, hK⟩ : ∃ K, o.kd.tmod 9 = K := ⟨_, rfl⟩
  have hK' : o.kd % 9 = K := by rw [← hK, Int.tmod_eq_emod_of_nonneg ok1]
  rw [hK'] at hk
  have hk0 : (K == 0) = false := by simp; omega
  have hk8 : (K == 8) = false := by simp; omega
  have hk6 : (K == 6) = false := by simp; omega
  have hk7 : (K == 7) = false := by simp; omega
  have hk1 : (K == 1) = false := by simp; omega
  have hk4 : (K == 4) = false := by simp; omega
  have hk5 : (K == 5) = false := by simp; omega
  clear h hi hk
  go_enter Try.func20, Try.ntmps20
  go_upto_region 1 with fail
  have h1 := St.sh [_, _, _, _] [1, 0, 2, 3] (by decide) (((((St.start w (Below.refl _ w)).new #[.slice p.sp S.pairs.length p.cp, .slice p.st S.txs.length p.ct, .int .i64 S.nx] 43).new #[.int .u8 o.kd, .int .u8 o.tx, .string o.key, .string o.val, .bool o.wr] 45).new #[.slice none 0 0, .slice none 0 0, .int .i64 0] 43).new #[.int .i64 0, .string { data := #[] }, .bool false, .slice none 0 0, .int .i64 0] 49)
  simp only [List.map_cons, List.map_nil, List.getD_cons_zero, List.getD_cons_succ, List.cons_append, List.nil_append] at h1
  obtain ⟨W, hW⟩ : ∃ W, (((w.alloc (.cells #[.slice p.sp S.pairs.length p.cp, .slice p.st S.txs.length p.ct, .int .i64 S.nx] 43)).alloc (.cells #[.int .u8 o.kd, .int .u8 o.tx, .string o.key, .string o.val, .bool o.wr] 45)).alloc (.cells #[.slice none 0 0, .slice none 0 0, .int .i64 0] 43)).alloc (.cells #[.int .i64 0, .string { data := #[] }, .bool false, .slice none 0 0, .int .i64 0] 49) = W := ⟨_, rfl⟩
  obtain ⟨m, hm⟩ : ∃ m, w.heap.size = m := ⟨_, rfl⟩
  simp only [World.size_alloc] at h1
  rw [hW, hm] at h1
  try simp only [World.size_alloc]
  try simp only [hW, hm]
  have H1 := Lib.hid h1
  have H2 := Lib.hid (HA.out.below h1.bel)
  obtain ⟨c0, c1, c2, f0, f1, f2⟩ := (h1.blkm (b := m) (.tail _ (.tail _ (.tail _ (.head _))))).three; obtain ⟨q0, q1, q2, q3, q4, -⟩ := blk5 (h1.blkm (b := m + 1) (.tail _ (.tail _ (.head _))))
  have KAT := Lib.hid (at_ref S p id W H2.out (by omega))
  clear h1 hW hm
  clear hK'
  have HTB := Lib.hid htb
  have HWR := Lib.hid hwr
  clear htb hwr
  have hkl := fnd_lt hf
  have e1 : fndI id S.txs = k := by unfold fndI; rw [hf]
  have E1 := Lib.hid e1
  have HFN := Lib.hid hf
  have hkI : (k : Int) < (S.txs.length : Int) := by omega
  have hk0I : (0 : Int) ≤ (k : Int) := by omega
  clear hf e1
  go_upto_region 20 with (go_at_call 39; refine (KAT.out).mono ?_; rintro e w3 ⟨rfl, hb3⟩; rw [E1.out]; have H3 := Lib.hid (H1.out.of_below hb3); clear c0 c1 c2 f0 f1 f2 q0 q1 q2 q3 q4; obtain ⟨c0, c1, c2, f0, f1, f2⟩ := (H3.out.blkm (b := m) (.tail _ (.tail _ (.tail _ (.head _))))).three; obtain ⟨q0, q1, q2, q3, q4, -⟩ := blk5 (H3.out.blkm (b := m + 1) (.tail _ (.tail _ (.head _)))); obtain ⟨e0, e1, e2, j0, j1, j2⟩ := (H3.out.blkm (b := m + 1 + 1) (.head _)).three; obtain ⟨s0, s1, s2, s3, s4, g0, g1, g2, g3, g4⟩ := blk5 (H3.out.blkm (b := m + 1 + 1 + 1) (.tail _ (.head _))); clear hb3)
  obtain ⟨t, ht⟩ : ∃ t, S.txs[k] = t := ⟨_, rfl⟩
  have HR3 := Lib.hid (HA.out.below H3.out.bel)
  obtain ⟨g, o2, hst, -⟩ := HR3.out.ts.addr (by omega)
  obtain ⟨sq, cq, hvq, hrq⟩ := HA.out.row k
  have hyx := yz_get (.slice p.sc S.cs.length p.cc) S.txs k hkl
  rw [hvq, ht] at hyx
  obtain ⟨d0, d1, d2, d3⟩ := y_at (hst ▸ HR3.out.ts) (by rw [yz_len]; exact hkl) _ hyx
  simp only at d0 d1 d2 d3
  rw [hst] at c1
  have HST := Lib.hid hst
  have HT := Lib.hid ht
  have HSQ := Lib.hid hrq
  clear hst hvq hyx ht hrq
  go_upto_region 21 with fail
  have h4 := St.sh [_, _, _, _, _] [1, 2, 3, 4, 0] (by decide) (H3.out.new #[.int .i64 t.id, .string t.ow, .bool t.wr, .slice sq (chs S k).length cq] 36)
  simp only [List.map_cons, List.map_nil, List.getD_cons_zero, List.getD_cons_succ, List.cons_append, List.nil_append] at h4
  obtain ⟨w4, hw4⟩ : ∃ w4, w3.alloc (.cells #[.int .i64 t.id, .string t.ow, .bool t.wr, .slice sq (chs S k).length cq] 36) = w4 := ⟨_, rfl⟩
  obtain ⟨b13, hb13⟩ : ∃ b13, w3.heap.size = b13 := ⟨_, rfl⟩
  have HB4 := Lib.hid (show Below w3.heap.size w3 w4 by rw [← hw4]; exact (Below.refl _ w3).alloc (Nat.le_refl _) _)
  rw [hw4, hb13] at h4
  try simp only [hw4, hb13]
  have H4 := Lib.hid h4
  have HSQ4 := Lib.hid (HSQ.out.below H4.out.bel)
  clear c0 c1 c2 f0 f1 f2 q0 q1 q2 q3 q4 e0 e1 e2 j0 j1 j2 s0 s1 s2 s3 s4 g0 g1 g2 g3 g4 d0 d1 d2 d3 hw4 hb13
  obtain ⟨c0, c1, c2, f0, f1, f2⟩ := (h4.blkm (b := m) (.tail _ (.tail _ (.tail _ (.head _))))).three; obtain ⟨q0, q1, q2, q3, q4, -⟩ := blk5 (h4.blkm (b := m + 1) (.tail _ (.tail _ (.head _))))
  obtain ⟨e0, e1, e2, j0, j1, j2⟩ := (h4.blkm (b := m + 1 + 1) (.head _)).three; obtain ⟨s0, s1, s2, s3, s4, g0, g1, g2, g3, g4⟩ := blk5 (h4.blkm (b := m + 1 + 1 + 1) (.tail _ (.head _)))
  obtain ⟨i0, i1, i2, i3, l0, l1, l2, l3⟩ := blk4 (h4.blkm (b := b13) (.tail _ (.tail _ (.tail _ (.tail _ (.head _))))))
  rw [HST.out] at c1
  have HR4 := Lib.hid (HA.out.below h4.bel)
  clear h4
  have KT := Lib.hid (turn_ref S p k w4 HR4.out (by omega) hkl)
  rw [HTB.out] at KT
  rw [← HST.out] at c1
  have hchl : (chs S k).length ≤ 60 := by unfold chs; split; exact hcl; simp
  obtain ⟨cl, hcl2⟩ : ∃ cl, chs S k = cl := ⟨_, rfl⟩
  have hcon := content_len cl S.pairs
  obtain ⟨C, hC⟩ : ∃ C, content S.pairs cl = C := ⟨_, rfl⟩
  have HCC := Lib.hid (show content S.pairs (chs S k) = C by rw [hcl2]; exact hC)
  have HCL := Lib.hid hcl2
  rw [hcl2] at hchl HSQ HSQ4 i3 H4 ⊢
  rw [hC] at hcon
  have HC1 := Lib.hid hC
  clear hcl2 hC
  go_upto_region 28 with (first
    | (go_at_call 40; refine (KT.out).mono ?_; rintro e w5 ⟨rfl, hb5⟩; have H5 := Lib.hid (H4.out.of_below hb5); clear c0 c1 c2 f0 f1 f2 q0 q1 q2 q3 q4; clear e0 e1 e2 j0 j1 j2 s0 s1 s2 s3 s4 g0 g1 g2 g3 g4; clear i0 i1 i2 i3 l0 l1 l2 l3; obtain ⟨c0, c1, c2, f0, f1, f2⟩ := (H5.out.blkm (b := m) (.tail _ (.tail _ (.tail _ (.head _))))).three; obtain ⟨q0, q1, q2, q3, q4, -⟩ := blk5 (H5.out.blkm (b := m + 1) (.tail _ (.tail _ (.head _)))); obtain ⟨e0, e1, e2, j0, j1, j2⟩ := (H5.out.blkm (b := m + 1 + 1) (.head _)).three; obtain ⟨s0, s1, s2, s3, s4, g0, g1, g2, g3, g4⟩ := blk5 (H5.out.blkm (b := m + 1 + 1 + 1) (.tail _ (.head _))); obtain ⟨i0, i1, i2, i3, l0, l1, l2, l3⟩ := blk4 (H5.out.blkm (b := b13) (.tail _ (.tail _ (.tail _ (.tail _ (.head _)))))); have KC := Lib.hid (content_ref p.sp p.cp S.pairs sq cq cl w5 (H00.out.pc.below H5.out.bel) (HSQ4.out.below hb5) (by omega) HIV.out.pa); have HS5 := Lib.hid hb5.size; clear hb5)
    | (go_at_call 25; refine (KC.out).mono ?_; rintro e w6 ⟨s6, c6, rfl, hr6, hn6, hb6⟩; rw [HC1.out] at hr6 ⊢; have H6 := Lib.hid (H5.out.of_below hb6); have HRC := Lib.hid hr6; have HNC := Lib.hid hn6; have HS6 := Lib.hid (Nat.le_trans HS5.out hb6.size); clear c0 c1 c2 f0 f1 f2 q0 q1 q2 q3 q4; clear e0 e1 e2 j0 j1 j2 s0 s1 s2 s3 s4 g0 g1 g2 g3 g4; clear i0 i1 i2 i3 l0 l1 l2 l3; obtain ⟨c0, c1, c2, f0, f1, f2⟩ := (H6.out.blkm (b := m) (.tail _ (.tail _ (.tail _ (.head _))))).three; obtain ⟨q0, q1, q2, q3, q4, -⟩ := blk5 (H6.out.blkm (b := m + 1) (.tail _ (.tail _ (.head _)))); obtain ⟨e0, e1, e2, j0, j1, j2⟩ := (H6.out.blkm (b := m + 1 + 1) (.head _)).three; obtain ⟨s0, s1, s2, s3, s4, g0, g1, g2, g3, g4⟩ := blk5 (H6.out.blkm (b := m + 1 + 1 + 1) (.tail _ (.head _))); obtain ⟨i0, i1, i2, i3, l0, l1, l2, l3⟩ := blk4 (H6.out.blkm (b := b13) (.tail _ (.tail _ (.tail _ (.tail _ (.head _)))))); clear hb6 hr6 hn6))
  have hwf : t.wr = false := HWR.out t (by rw [List.getElem?_eq_getElem hkl, HT.out])
  rw [hwf] at i2
  clear hwf
  obtain ⟨W9, hW9, hf, hfr⟩ := fin_st H6.out (.slice p.sp S.pairs.length p.cp) (.slice p.st S.txs.length p.ct) (.int .i64 S.nx) (.int .i64 0) (.string { data := #[] }) (.bool false) (.slice none 0 0) (.int .i64 7); have HW9 := Lib.hid hW9; have HF := Lib.hid hf; have HFR := Lib.hid hfr; clear hW9 hf hfr
  go_wp2_with fail
  rw [HW9.out]
  obtain ⟨t0, t1, t2, t3, t4, t5, t6, t7⟩ := fin_rd HF.out
  refine bodyPost_ret (v := .tuple #[.agg #[.slice p.sp S.pairs.length p.cp, .slice p.st S.txs.length p.ct, .int .i64 S.nx], .agg #[.int .i64 0, .string { data := #[] }, .bool false, .slice none 0 0, .int .i64 7]]) (by simp [results, Try.results20, go_sem, t0, t1, t2, t3, t4, t5, t6, t7]) rfl ?_
  exact rd_same H00.out HF.out.bel _ _ _ _

set_option maxRecDepth 100000 in
set_option maxHeartbeats 4000000 in
theorem d_rm (S : SS) (p : Sp) (o : Op') (id : Int) (w : World) (n : Nat) (h : Rw w S p) (ho : o.ok) (hi : Iv n S) (hn : n ≤ 60) (hk : o.kd % 9 = 3) (k : Nat) (hf : fnd id S.txs = some k) (htb : turnB S.txs k = true) (hwr : ∀ t, S.txs[k]? = some t → t.wr = true) (hk0 : k = 0) (halt : altS S id ⟨o.key, .empty, true⟩ = ({ S with cs := withC ⟨o.key, .empty, true⟩ S.cs }, 0)) :
    Calls Try.prog 20 #[rv p S, .agg #[.int .u8 o.kd, .int .u8 o.tx, .string o.key, .string o.val, .bool o.wr], .int .i64 id] w (RdPost ((altS S id ⟨o.key, .empty, true⟩).1) ⟨0, .empty, false, [], (altS S id ⟨o.key, .empty, true⟩).2⟩ p w) := by
  have HA := Lib.hid h.rf
  have H00 := Lib.hid h
  have HIV := Lib.hid hi
  have htl : S.txs.length ≤ 60 := by have := hi.tl; omega
  have hpl : S.pairs.length ≤ 60 := by have := hi.ln; omega
  have hcl : S.cs.length ≤ 60 := by have := hi.ln; omega
  have hnx : 0 ≤ S.nx ∧ S.nx ≤ 60 := ⟨hi.nx0, by have := hi.nx1; omega⟩
  obtain ⟨ok1, ok2, ok3, ok4⟩ := ho
  have hw1 : IntKind.i64.wrap o.kd = o.kd := by rw [IntKind.wrap_i64]; omega
  have ht : o.kd.tmod 9 = 3 := by rw [Int.tmod_eq_emod_of_nonneg ok1]; exact hk
  clear h hi hk
  go_enter Try.func20, Try.ntmps20
  go_upto_region 1 with fail
  have h1 := St.sh [_, _, _, _] [1, 0, 2, 3] (by decide) (((((St.start w (Below.refl _ w)).new #[.slice p.sp S.pairs.length p.cp, .slice p.st S.txs.length p.ct, .int .i64 S.nx] 43).new #[.int .u8 o.kd, .int .u8 o.tx, .string o.key, .string o.val, .bool o.wr] 45).new #[.slice none 0 0, .slice none 0 0, .int .i64 0] 43).new #[.int .i64 0, .string { data := #[] }, .bool false, .slice none 0 0, .int .i64 0] 49)
  simp only [List.map_cons, List.map_nil, List.getD_cons_zero, List.getD_cons_succ, List.cons_append, List.nil_append] at h1
  obtain ⟨W, hW⟩ : ∃ W, (((w.alloc (.cells #[.slice p.sp S.pairs.length p.cp, .slice p.st S.txs.length p.ct, .int .i64 S.nx] 43)).alloc (.cells #[.int .u8 o.kd, .int .u8 o.tx, .string o.key, .string o.val, .bool o.wr] 45)).alloc (.cells #[.slice none 0 0, .slice none 0 0, .int .i64 0] 43)).alloc (.cells #[.int .i64 0, .string { data := #[] }, .bool false, .slice none 0 0, .int .i64 0] 49) = W := ⟨_, rfl⟩
  obtain ⟨m, hm⟩ : ∃ m, w.heap.size = m := ⟨_, rfl⟩
  simp only [World.size_alloc] at h1
  rw [hW, hm] at h1
  try simp only [World.size_alloc]
  try simp only [hW, hm]
  have H1 := Lib.hid h1
  have H2 := Lib.hid (HA.out.below h1.bel)
  obtain ⟨c0, c1, c2, f0, f1, f2⟩ := (h1.blkm (b := m) (.tail _ (.tail _ (.tail _ (.head _))))).three; obtain ⟨q0, q1, q2, q3, q4, -⟩ := blk5 (h1.blkm (b := m + 1) (.tail _ (.tail _ (.head _))))
  have KAT := Lib.hid (at_ref S p id W H2.out (by omega))
  clear h1 hW hm
  have HTB := Lib.hid htb
  have HWR := Lib.hid hwr
  have HK0 := Lib.hid hk0
  have HAL := Lib.hid halt
  clear htb hwr hk0 halt
  have hkl := fnd_lt hf
  have e1 : fndI id S.txs = k := by unfold fndI; rw [hf]
  have E1 := Lib.hid e1
  have HFN := Lib.hid hf
  have hkI : (k : Int) < (S.txs.length : Int) := by omega
  have hk0I : (0 : Int) ≤ (k : Int) := by omega
  clear hf e1
  go_upto_region 20 with (go_at_call 39; refine (KAT.out).mono ?_; rintro e w3 ⟨rfl, hb3⟩; rw [E1.out]; have H3 := Lib.hid (H1.out.of_below hb3); clear c0 c1 c2 f0 f1 f2 q0 q1 q2 q3 q4; obtain ⟨c0, c1, c2, f0, f1, f2⟩ := (H3.out.blkm (b := m) (.tail _ (.tail _ (.tail _ (.head _))))).three; obtain ⟨q0, q1, q2, q3, q4, -⟩ := blk5 (H3.out.blkm (b := m + 1) (.tail _ (.tail _ (.head _)))); obtain ⟨e0, e1, e2, j0, j1, j2⟩ := (H3.out.blkm (b := m + 1 + 1) (.head _)).three; obtain ⟨s0, s1, s2, s3, s4, g0, g1, g2, g3, g4⟩ := blk5 (H3.out.blkm (b := m + 1 + 1 + 1) (.tail _ (.head _))); clear hb3)
  obtain ⟨t, ht⟩ : ∃ t, S.txs[k] = t := ⟨_, rfl⟩
  have HR3 := Lib.hid (HA.out.below H3.out.bel)
  obtain ⟨g, o2, hst, -⟩ := HR3.out.ts.addr (by omega)
  obtain ⟨sq, cq, hvq, hrq⟩ := HA.out.row k
  have hyx := yz_get (.slice p.sc S.cs.length p.cc) S.txs k hkl
  rw [hvq, ht] at hyx
  obtain ⟨d0, d1, d2, d3⟩ := y_at (hst ▸ HR3.out.ts) (by rw [yz_len]; exact hkl) _ hyx
  simp only at d0 d1 d2 d3
  rw [hst] at c1
  have HST := Lib.hid hst
  have HT := Lib.hid ht
  have HSQ := Lib.hid hrq
  clear hst hvq hyx ht hrq
  go_upto_region 21 with fail
  have h4 := St.sh [_, _, _, _, _] [1, 2, 3, 4, 0] (by decide) (H3.out.new #[.int .i64 t.id, .string t.ow, .bool t.wr, .slice sq (chs S k).length cq] 36)
  simp only [List.map_cons, List.map_nil, List.getD_cons_zero, List.getD_cons_succ, List.cons_append, List.nil_append] at h4
  obtain ⟨w4, hw4⟩ : ∃ w4, w3.alloc (.cells #[.int .i64 t.id, .string t.ow, .bool t.wr, .slice sq (chs S k).length cq] 36) = w4 := ⟨_, rfl⟩
  obtain ⟨b13, hb13⟩ : ∃ b13, w3.heap.size = b13 := ⟨_, rfl⟩
  have HB4 := Lib.hid (show Below w3.heap.size w3 w4 by rw [← hw4]; exact (Below.refl _ w3).alloc (Nat.le_refl _) _)
  rw [hw4, hb13] at h4
  try simp only [hw4, hb13]
  have H4 := Lib.hid h4
  have HSQ4 := Lib.hid (HSQ.out.below H4.out.bel)
  clear c0 c1 c2 f0 f1 f2 q0 q1 q2 q3 q4 e0 e1 e2 j0 j1 j2 s0 s1 s2 s3 s4 g0 g1 g2 g3 g4 d0 d1 d2 d3 hw4 hb13
  obtain ⟨c0, c1, c2, f0, f1, f2⟩ := (h4.blkm (b := m) (.tail _ (.tail _ (.tail _ (.head _))))).three; obtain ⟨q0, q1, q2, q3, q4, -⟩ := blk5 (h4.blkm (b := m + 1) (.tail _ (.tail _ (.head _))))
  obtain ⟨e0, e1, e2, j0, j1, j2⟩ := (h4.blkm (b := m + 1 + 1) (.head _)).three; obtain ⟨s0, s1, s2, s3, s4, g0, g1, g2, g3, g4⟩ := blk5 (h4.blkm (b := m + 1 + 1 + 1) (.tail _ (.head _)))
  obtain ⟨i0, i1, i2, i3, l0, l1, l2, l3⟩ := blk4 (h4.blkm (b := b13) (.tail _ (.tail _ (.tail _ (.tail _ (.head _))))))
  rw [HST.out] at c1
  have HR4 := Lib.hid (HA.out.below h4.bel)
  clear h4
  have KT := Lib.hid (turn_ref S p k w4 HR4.out (by omega) hkl)
  rw [HTB.out] at KT
  rw [← HST.out] at c1
  have hchl : (chs S k).length ≤ 60 := by unfold chs; split; exact hcl; simp
  obtain ⟨cl, hcl2⟩ : ∃ cl, chs S k = cl := ⟨_, rfl⟩
  have hcon := content_len cl S.pairs
  obtain ⟨C, hC⟩ : ∃ C, content S.pairs cl = C := ⟨_, rfl⟩
  have HCC := Lib.hid (show content S.pairs (chs S k) = C by rw [hcl2]; exact hC)
  have HCL := Lib.hid hcl2
  rw [hcl2] at hchl HSQ HSQ4 i3 H4 ⊢
  rw [hC] at hcon
  have HC1 := Lib.hid hC
  clear hcl2 hC
  go_upto_region 28 with (first
    | (go_at_call 40; refine (KT.out).mono ?_; rintro e w5 ⟨rfl, hb5⟩; have H5 := Lib.hid (H4.out.of_below hb5); clear c0 c1 c2 f0 f1 f2 q0 q1 q2 q3 q4; clear e0 e1 e2 j0 j1 j2 s0 s1 s2 s3 s4 g0 g1 g2 g3 g4; clear i0 i1 i2 i3 l0 l1 l2 l3; obtain ⟨c0, c1, c2, f0, f1, f2⟩ := (H5.out.blkm (b := m) (.tail _ (.tail _ (.tail _ (.head _))))).three; obtain ⟨q0, q1, q2, q3, q4, -⟩ := blk5 (H5.out.blkm (b := m + 1) (.tail _ (.tail _ (.head _)))); obtain ⟨e0, e1, e2, j0, j1, j2⟩ := (H5.out.blkm (b := m + 1 + 1) (.head _)).three; obtain ⟨s0, s1, s2, s3, s4, g0, g1, g2, g3, g4⟩ := blk5 (H5.out.blkm (b := m + 1 + 1 + 1) (.tail _ (.head _))); obtain ⟨i0, i1, i2, i3, l0, l1, l2, l3⟩ := blk4 (H5.out.blkm (b := b13) (.tail _ (.tail _ (.tail _ (.tail _ (.head _)))))); have KC := Lib.hid (content_ref p.sp p.cp S.pairs sq cq cl w5 (H00.out.pc.below H5.out.bel) (HSQ4.out.below hb5) (by omega) HIV.out.pa); have HS5 := Lib.hid hb5.size; clear hb5)
    | (go_at_call 25; refine (KC.out).mono ?_; rintro e w6 ⟨s6, c6, rfl, hr6, hn6, hb6⟩; rw [HC1.out] at hr6 ⊢; have H6 := Lib.hid (H5.out.of_below hb6); have HRC := Lib.hid hr6; have HNC := Lib.hid hn6; have HS6 := Lib.hid (Nat.le_trans HS5.out hb6.size); clear c0 c1 c2 f0 f1 f2 q0 q1 q2 q3 q4; clear e0 e1 e2 j0 j1 j2 s0 s1 s2 s3 s4 g0 g1 g2 g3 g4; clear i0 i1 i2 i3 l0 l1 l2 l3; obtain ⟨c0, c1, c2, f0, f1, f2⟩ := (H6.out.blkm (b := m) (.tail _ (.tail _ (.tail _ (.head _))))).three; obtain ⟨q0, q1, q2, q3, q4, -⟩ := blk5 (H6.out.blkm (b := m + 1) (.tail _ (.tail _ (.head _)))); obtain ⟨e0, e1, e2, j0, j1, j2⟩ := (H6.out.blkm (b := m + 1 + 1) (.head _)).three; obtain ⟨s0, s1, s2, s3, s4, g0, g1, g2, g3, g4⟩ := blk5 (H6.out.blkm (b := m + 1 + 1 + 1) (.tail _ (.head _))); obtain ⟨i0, i1, i2, i3, l0, l1, l2, l3⟩ := blk4 (H6.out.blkm (b := b13) (.tail _ (.tail _ (.tail _ (.tail _ (.head _)))))); clear hb6 hr6 hn6))
  have hwf : t.wr = true := HWR.out t (by rw [List.getElem?_eq_getElem hkl, HT.out])
  have HWT := Lib.hid hwf
  rw [hwf] at i2
  have hclS : cl = S.cs := by rw [← HCL.out, HK0.out]; rfl
  have HCS := Lib.hid hclS
  have HCA := Lib.hid (show Asc Ch.k cl by rw [hclS]; exact HIV.out.ca)
  clear hwf hclS
  have hn7 := H6.out.new #[.string o.key, .string { data := #[] }, .bool true] 59
  have h7s := St.sh [_, _, _, _, _, _] [1, 2, 3, 4, 5, 0] (by decide) hn7; simp only [List.map_cons, List.map_nil, List.getD_cons_zero, List.getD_cons_succ, List.cons_append, List.nil_append] at h7s
  obtain ⟨w7, hw7⟩ : ∃ w7, w6.alloc (.cells #[.string o.key, .string { data := #[] }, .bool true] 59) = w7 := ⟨_, rfl⟩
  obtain ⟨b18, hb18⟩ : ∃ b18, w6.heap.size = b18 := ⟨_, rfl⟩
  have hB7 : Below w6.heap.size w6 w7 := by rw [← hw7]; exact (Below.refl _ w6).alloc (Nat.le_refl _) _
  rw [hw7, hb18] at h7s
  have HX7 := Lib.hid h7s
  have HW7 := Lib.hid hw7
  have HB18 := Lib.hid hb18
  clear hn7 h7s hw7 hb18 hB7
  go_upto_region 54 with fail
  try rw [HW7.out]
  try simp only [HB18.out]
  clear c0 c1 c2 f0 f1 f2 q0 q1 q2 q3 q4 e0 e1 e2 j0 j1 j2 s0 s1 s2 s3 s4 g0 g1 g2 g3 g4 i0 i1 i2 i3 l0 l1 l2 l3
  obtain ⟨wx, hwx⟩ : ∃ wx, w7 = wx := ⟨_, rfl⟩
  rw [hwx] at HX7 ⊢
  clear hwx
  have KG := Lib.hid (show Calls Try.prog 43 #[.slice sq cl.length cq, .agg #[.string (⟨o.key, .empty, true⟩ : Ch).k, .string (⟨o.key, .empty, true⟩ : Ch).v, .bool (⟨o.key, .empty, true⟩ : Ch).r]] wx (CsPost (withC (⟨o.key, .empty, true⟩ : Ch) cl) wx) from change_ref sq cq cl (⟨o.key, .empty, true⟩ : Ch) wx (HSQ.out.below HX7.out.bel) (by omega) (by have := HCA.out; exact this))
  obtain ⟨R, hR⟩ : ∃ R, withC (⟨o.key, .empty, true⟩ : Ch) cl = R := ⟨_, rfl⟩
  rw [hR] at KG
  have HRR := Lib.hid hR
  clear hR
  obtain ⟨c0, c1, c2, f0, f1, f2⟩ := (HX7.out.blkm (b := m) (.tail _ (.tail _ (.tail _ (.head _))))).three; obtain ⟨q0, q1, q2, q3, q4, -⟩ := blk5 (HX7.out.blkm (b := m + 1) (.tail _ (.tail _ (.head _)))); obtain ⟨e0, e1, e2, j0, j1, j2⟩ := (HX7.out.blkm (b := m + 1 + 1) (.head _)).three; obtain ⟨s0, s1, s2, s3, s4, g0, g1, g2, g3, g4⟩ := blk5 (HX7.out.blkm (b := m + 1 + 1 + 1) (.tail _ (.head _))); obtain ⟨i0, i1, i2, i3, l0, l1, l2, l3⟩ := blk4 (HX7.out.blkm (b := b13) (.tail _ (.tail _ (.tail _ (.tail _ (.head _)))))); obtain ⟨n0, n1, n2, x0, x1, x2⟩ := (HX7.out.blkm (b := b18) (.tail _ (.tail _ (.tail _ (.tail _ (.tail _ (.head _))))))).three
  go_upto_region 55 with (go_at_call 43; refine (KG.out).mono ?_; rintro e w8 ⟨s8, c8, rfl, h8⟩; have hj := join_own HX7.out h8; have h8s := St.sh [_, _, _, _, _, _, _] [1, 2, 3, 4, 5, 6, 0] (by decide) hj; simp only [List.map_cons, List.map_nil, List.getD_cons_zero, List.getD_cons_succ, List.cons_append, List.nil_append] at h8s; have H8 := Lib.hid h8s; clear h8s hj h8; clear c0 c1 c2 f0 f1 f2 q0 q1 q2 q3 q4 e0 e1 e2 j0 j1 j2 s0 s1 s2 s3 s4 g0 g1 g2 g3 g4 i0 i1 i2 i3 l0 l1 l2 l3; clear n0 n1 n2 x0 x1 x2; obtain ⟨c0, c1, c2, f0, f1, f2⟩ := (H8.out.blkm (b := m) (.tail _ (.tail _ (.tail _ (.head _))))).three; obtain ⟨q0, q1, q2, q3, q4, -⟩ := blk5 (H8.out.blkm (b := m + 1) (.tail _ (.tail _ (.head _)))); obtain ⟨e0, e1, e2, j0, j1, j2⟩ := (H8.out.blkm (b := m + 1 + 1) (.head _)).three; obtain ⟨s0, s1, s2, s3, s4, g0, g1, g2, g3, g4⟩ := blk5 (H8.out.blkm (b := m + 1 + 1 + 1) (.tail _ (.head _))); obtain ⟨i0, i1, i2, i3, l0, l1, l2, l3⟩ := blk4 (H8.out.blkm (b := b13) (.tail _ (.tail _ (.tail _ (.tail _ (.head _)))))); obtain ⟨n0, n1, n2, x0, x1, x2⟩ := (H8.out.blkm (b := b18) (.tail _ (.tail _ (.tail _ (.tail _ (.tail _ (.head _))))))).three)
  have hs := St.sh [_, _, _, _, _, _, _] [4, 0, 1, 2, 3, 5, 6] (by decide) H8.out; simp only [List.map_cons, List.map_nil, List.getD_cons_zero, List.getD_cons_succ, List.cons_append, List.nil_append] at hs
  have hs1 := hs.set 3 (.slice s8 R.length c8)
  simp only [List.setIfInBounds_toArray, List.set_cons_zero, List.set_cons_succ] at hs1
  have hs2 := St.sh [_, _, _, _, _, _, _] [1, 2, 3, 4, 0, 5, 6] (by decide) hs1; simp only [List.map_cons, List.map_nil, List.getD_cons_zero, List.getD_cons_succ, List.cons_append, List.nil_append] at hs2
  obtain ⟨w9, hw9⟩ : ∃ w9, w8.setCell ⟨b13, 3, none⟩ (.slice s8 R.length c8) = w9 := ⟨_, rfl⟩
  rw [hw9] at hs2 ⊢
  have H9 := Lib.hid hs2
  clear hs hs1 hs2 hw9
  clear c0 c1 c2 f0 f1 f2 q0 q1 q2 q3 q4 e0 e1 e2 j0 j1 j2 s0 s1 s2 s3 s4 g0 g1 g2 g3 g4 i0 i1 i2 i3 l0 l1 l2 l3
  clear n0 n1 n2 x0 x1 x2
  obtain ⟨c0, c1, c2, f0, f1, f2⟩ := (H9.out.blkm (b := m) (.tail _ (.tail _ (.tail _ (.head _))))).three; obtain ⟨q0, q1, q2, q3, q4, -⟩ := blk5 (H9.out.blkm (b := m + 1) (.tail _ (.tail _ (.head _)))); obtain ⟨e0, e1, e2, j0, j1, j2⟩ := (H9.out.blkm (b := m + 1 + 1) (.head _)).three; obtain ⟨s0, s1, s2, s3, s4, g0, g1, g2, g3, g4⟩ := blk5 (H9.out.blkm (b := m + 1 + 1 + 1) (.tail _ (.head _))); obtain ⟨i0, i1, i2, i3, l0, l1, l2, l3⟩ := blk4 (H9.out.blkm (b := b13) (.tail _ (.tail _ (.tail _ (.tail _ (.head _)))))); obtain ⟨n0, n1, n2, x0, x1, x2⟩ := (H9.out.blkm (b := b18) (.tail _ (.tail _ (.tail _ (.tail _ (.tail _ (.head _))))))).three
  have HRT := Lib.hid (HA.out.below H9.out.bel).ts
  have HNO := Lib.hid (K.Own.nil (Below.refl w9.heap.size w9) 36 4)
  go_upto_region 57 with (refine wpList_append_own' rfl (.tmp 218) (.tmp 220) 26 rfl elX none 0 0 [] rfl HNO.out _ S.txs.length _ _ rfl HRT.out (by omega) (by omega) ?_; intro sT cT w10 p1 p2 p3; have HQ := Lib.hid p1; clear p1 p2 p3; try simp only [Nat.zero_add, List.nil_append])
  rw [Nat.zero_add, List.nil_append] at HQ
  have hj := join_own H9.out HQ.out
  have h10 := St.sh [_, _, _, _, _, _, _, _] [1, 2, 3, 4, 5, 6, 7, 0] (by decide) hj; simp only [List.map_cons, List.map_nil, List.getD_cons_zero, List.getD_cons_succ, List.cons_append, List.nil_append] at h10
  clear c0 c1 c2 f0 f1 f2 q0 q1 q2 q3 q4 e0 e1 e2 j0 j1 j2 s0 s1 s2 s3 s4 g0 g1 g2 g3 g4 i0 i1 i2 i3 l0 l1 l2 l3
  clear n0 n1 n2 x0 x1 x2
  obtain ⟨c0, c1, c2, f0, f1, f2⟩ := (h10.blkm (b := m) (.tail _ (.tail _ (.tail _ (.head _))))).three; obtain ⟨q0, q1, q2, q3, q4, -⟩ := blk5 (h10.blkm (b := m + 1) (.tail _ (.tail _ (.head _)))); obtain ⟨e0, e1, e2, j0, j1, j2⟩ := (h10.blkm (b := m + 1 + 1) (.head _)).three; obtain ⟨s0, s1, s2, s3, s4, g0, g1, g2, g3, g4⟩ := blk5 (h10.blkm (b := m + 1 + 1 + 1) (.tail _ (.head _))); obtain ⟨i0, i1, i2, i3, l0, l1, l2, l3⟩ := blk4 (h10.blkm (b := b13) (.tail _ (.tail _ (.tail _ (.tail _ (.head _)))))); obtain ⟨n0, n1, n2, x0, x1, x2⟩ := (h10.blkm (b := b18) (.tail _ (.tail _ (.tail _ (.tail _ (.tail _ (.head _))))))).three
  have hrow := h10.slm (e := 36) (sz := 4) (s := sT) (n := S.txs.length) (c := cT) (.tail _ (.tail _ (.tail _ (.tail _ (.tail _ (.tail _ (.tail _ (.head _))))))))
  obtain ⟨gT, oT, hsT, -⟩ := hrow.rd.addr (by omega)
  subst hsT
  have hyx := yz_get (.slice p.sc S.cs.length p.cc) S.txs k hkl
  obtain ⟨d0, d1, d2, d3⟩ := y_at hrow.rd (by rw [yz_len]; exact hkl) _ hyx
  have f30 := hrow.some_free (oT + k * 4)
  have f31 := hrow.some_free (oT + k * 4 + 1)
  have f32 := hrow.some_free (oT + k * 4 + 2)
  have f33 := hrow.some_free (oT + k * 4 + 3)
  have h10f := St.sh [_, _, _, _, _, _, _, _] [7, 0, 1, 2, 3, 4, 5, 6] (by decide) h10; simp only [List.map_cons, List.map_nil, List.getD_cons_zero, List.getD_cons_succ, List.cons_append, List.nil_append] at h10f
  have h11 := row4 h10f k hkl (.int .i64 t.id) (.string t.ow) (.bool t.wr) (.slice s8 R.length c8) rfl rfl rfl rfl
  rw [sets_yz hkl HT.out HK0.out] at h11
  have h11s := St.sh [_, _, _, _, _, _, _, _] [1, 2, 3, 4, 5, 6, 7, 0] (by decide) h11; simp only [List.map_cons, List.map_nil, List.getD_cons_zero, List.getD_cons_succ, List.cons_append, List.nil_append] at h11s
  obtain ⟨w11, hw11⟩ : ∃ w11, ((((w10.setCell ⟨gT, oT + k * 4, none⟩ (.int .i64 t.id)).setCell ⟨gT, oT + k * 4 + 1, none⟩ (.string t.ow)).setCell ⟨gT, oT + k * 4 + 2, none⟩ (.bool t.wr)).setCell ⟨gT, oT + k * 4 + 3, none⟩ (.slice s8 R.length c8)) = w11 := ⟨_, rfl⟩
  rw [hw11] at h11s
  have H11 := Lib.hid h11s
  have HW11 := Lib.hid hw11
  clear hw11 h11s h11 h10f h10 hj hrow hyx
  go_upto_region 58 with fail
  rw [HW11.out]
  clear d0 d1 d2 d3 f30 f31 f32 f33
  clear c0 c1 c2 f0 f1 f2 q0 q1 q2 q3 q4 e0 e1 e2 j0 j1 j2 s0 s1 s2 s3 s4 g0 g1 g2 g3 g4 i0 i1 i2 i3 l0 l1 l2 l3
  clear n0 n1 n2 x0 x1 x2
  obtain ⟨c0, c1, c2, f0, f1, f2⟩ := (H11.out.blkm (b := m) (.tail _ (.tail _ (.tail _ (.head _))))).three; obtain ⟨q0, q1, q2, q3, q4, -⟩ := blk5 (H11.out.blkm (b := m + 1) (.tail _ (.tail _ (.head _)))); obtain ⟨e0, e1, e2, j0, j1, j2⟩ := (H11.out.blkm (b := m + 1 + 1) (.head _)).three; obtain ⟨s0, s1, s2, s3, s4, g0, g1, g2, g3, g4⟩ := blk5 (H11.out.blkm (b := m + 1 + 1 + 1) (.tail _ (.head _))); obtain ⟨i0, i1, i2, i3, l0, l1, l2, l3⟩ := blk4 (H11.out.blkm (b := b13) (.tail _ (.tail _ (.tail _ (.tail _ (.head _))))))
  have hs := St.sh [_, _, _, _, _, _, _, _] [3, 0, 1, 2, 4, 5, 6, 7] (by decide) H11.out; simp only [List.map_cons, List.map_nil, List.getD_cons_zero, List.getD_cons_succ, List.cons_append, List.nil_append] at hs
  have hs1 := hs.set 1 (.slice (some ⟨gT, oT, none⟩) S.txs.length cT)
  simp only [List.setIfInBounds_toArray, List.set_cons_zero, List.set_cons_succ] at hs1
  have hs2 := St.sh [_, _, _, _, _, _, _, _] [1, 2, 3, 0, 4, 5, 6, 7] (by decide) hs1; simp only [List.map_cons, List.map_nil, List.getD_cons_zero, List.getD_cons_succ, List.cons_append, List.nil_append] at hs2
  obtain ⟨w12, hw12⟩ : ∃ w12, w11.setCell ⟨m, 1, none⟩ (.slice (some ⟨gT, oT, none⟩) S.txs.length cT) = w12 := ⟨_, rfl⟩
  rw [hw12] at hs2
  have H12 := Lib.hid hs2
  have HW12 := Lib.hid hw12
  clear hw12 hs hs1 hs2
  go_upto_region 59 with fail
  rw [HW12.out]
  clear c0 c1 c2 f0 f1 f2 q0 q1 q2 q3 q4 e0 e1 e2 j0 j1 j2 s0 s1 s2 s3 s4 g0 g1 g2 g3 g4 i0 i1 i2 i3 l0 l1 l2 l3
  obtain ⟨c0, c1, c2, f0, f1, f2⟩ := (H12.out.blkm (b := m) (.tail _ (.tail _ (.tail _ (.head _))))).three; obtain ⟨q0, q1, q2, q3, q4, -⟩ := blk5 (H12.out.blkm (b := m + 1) (.tail _ (.tail _ (.head _)))); obtain ⟨e0, e1, e2, j0, j1, j2⟩ := (H12.out.blkm (b := m + 1 + 1) (.head _)).three; obtain ⟨s0, s1, s2, s3, s4, g0, g1, g2, g3, g4⟩ := blk5 (H12.out.blkm (b := m + 1 + 1 + 1) (.tail _ (.head _))); obtain ⟨i0, i1, i2, i3, l0, l1, l2, l3⟩ := blk4 (H12.out.blkm (b := b13) (.tail _ (.tail _ (.tail _ (.tail _ (.head _))))))
  obtain ⟨W9, hW9, hf, hfr⟩ := fin_st H12.out (.slice p.sp S.pairs.length p.cp) (.slice (some ⟨gT, oT, none⟩) S.txs.length cT) (.int .i64 S.nx) (.int .i64 0) (.string { data := #[] }) (.bool false) (.slice none 0 0) (.int .i64 0); have HW9 := Lib.hid hW9; have HF := Lib.hid hf; have HFR := Lib.hid hfr; clear hW9 hf hfr
  go_wp2_with fail
  rw [HW9.out]
  obtain ⟨t0, t1, t2, t3, t4, t5, t6, t7⟩ := fin_rd HF.out
  refine bodyPost_ret (v := .tuple #[.agg #[.slice p.sp S.pairs.length p.cp, .slice (some ⟨gT, oT, none⟩) S.txs.length cT, .int .i64 S.nx], .agg #[.int .i64 0, .string { data := #[] }, .bool false, .slice none 0 0, .int .i64 0]]) (by simp [results, Try.results20, go_sem, t0, t1, t2, t3, t4, t5, t6, t7]) rfl ?_
  show RdPost (altS S id ⟨o.key, .empty, true⟩).1 _ p w _ _
  rw [HAL.out, ← HCS.out, HRR.out]
  have hsT := HF.out.slm (e := 36) (sz := 4) (s := some ⟨gT, oT, none⟩) (n := S.txs.length) (c := cT) (.tail _ (.tail _ (.tail _ (.tail _ (.tail _ (.tail _ (.tail _ (.head _))))))))
  have hsC := HF.out.slm (e := 59) (sz := 3) (s := s8) (n := R.length) (c := c8) (.tail _ (.tail _ (.tail _ (.tail _ (.tail _ (.tail _ (.head _)))))))
  have hw0 := H00.out.below HF.out.bel
  refine ⟨⟨p.sp, p.cp, some ⟨gT, oT, none⟩, cT, s8, c8⟩, none, 0, rfl, ⟨⟨rfl, hw0.rf.ps, hsT.rd, hsC.rd⟩, hw0.pc, fun r hr => ?_⟩, rd_nil _ _, (by intro r hr; cases hr), fun r hr => ?_, HF.out.bel⟩
  · rcases hr with q | q | q
    · exact hw0.rows r (.inl q)
    · exact hsT.lt r q
    · exact hsC.lt r q
  · rcases hr with q | q | q
    · exact .inl (.inl q)
    · exact .inr ⟨rowT_new HF.out r q, hsT.lt r q⟩
    · exact .inr ⟨rowC_new HF.out r q, hsC.lt r q⟩

end Go.Proofs.Ytcglnjklnlejmaa
