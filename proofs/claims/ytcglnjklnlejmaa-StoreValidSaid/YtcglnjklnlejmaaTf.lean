/-
  The reference: Do.
-/
import Derived.Test.YtcglnjklnlejmaaTe
import Derived.Test.YtcglnjklnlejmaaKu
set_option linter.unusedVariables false
set_option linter.unusedSimpArgs false
namespace Go.Proofs.Ytcglnjklnlejmaa
open Go.RowKit Go.K Go.K.Sr

def RdPost (S' : SS) (R : Rs) (p : Sp) (w : World) (e : Ending) (w' : World) : Prop :=
  ∃ (p' : Sp) (s : Option Addr) (c : Nat), e = .returned (.tuple #[rv p' S', .agg #[.int .i64 R.id, .string R.v, .bool R.ok, .slice s R.l.length c, .int .i64 R.err]]) ∧ Rw w' S' p' ∧ Rd w' 1 s R.l.length (strs R.l) ∧ (∀ r, rowOf s = some r → w.heap.size ≤ r ∧ r < w'.heap.size) ∧ NewS w w' p p' ∧ Below w.heap.size w w'
theorem _root_.Go.K.St.set3 {w0 w : World} {L : List As} {b : Nat} {a0 a1 a2 : Value} {t : TypeId} (h : St w0 w (As.cells b #[a0, a1, a2] t :: L)) (u0 u1 u2 : Value) : St w0 (((w.setCell ⟨b, 0, none⟩ u0).setCell ⟨b, 1, none⟩ u1).setCell ⟨b, 2, none⟩ u2) (As.cells b #[u0, u1, u2] t :: L) := by
  have h2 := ((h.set 0 u0).set 1 u1).set 2 u2
  simpa using h2
/-- the two results written, the store first -/
theorem fin_st {w X : World} {L : List As} {m6 m7 : Nat} {x0 x1 x2 y0 y1 y2 y3 y4 : Value} (h : St w X (As.cells m6 #[x0, x1, x2] 43 :: As.cells m7 #[y0, y1, y2, y3, y4] 49 :: L)) (a0 a1 a2 r0 r1 r2 r3 r4 : Value) :
    ∃ W9, (((((((( X.setCell ⟨m6, 0, none⟩ a0).setCell ⟨m6, 1, none⟩ a1).setCell ⟨m6, 2, none⟩ a2).setCell ⟨m7, 0, none⟩ r0).setCell ⟨m7, 1, none⟩ r1).setCell ⟨m7, 2, none⟩ r2).setCell ⟨m7, 3, none⟩ r3).setCell ⟨m7, 4, none⟩ r4) = W9 ∧
      St w W9 (As.cells m7 #[r0, r1, r2, r3, r4] 49 :: As.cells m6 #[a0, a1, a2] 43 :: L) ∧ Fr (fun k => k = m6 ∨ k = m7) X W9 := by
  refine ⟨_, rfl, ?_, ((((((((Fr.refl _ X).setCell (fun _ => .inl rfl) _).setCell (fun _ => .inl rfl) _).setCell (fun _ => .inl rfl) _).setCell (fun _ => .inr rfl) _).setCell (fun _ => .inr rfl) _).setCell (fun _ => .inr rfl) _).setCell (fun _ => .inr rfl) _).setCell (fun _ => .inr rfl) _⟩
  have h1 := h.set3 a0 a1 a2
  have h2 := St.sh [_, _] [1, 0] (by decide) h1
  simp only [List.map_cons, List.map_nil, List.getD_cons_zero, List.getD_cons_succ, List.cons_append, List.nil_append] at h2
  exact h2.set5 r0 r1 r2 r3 r4
theorem fin_rd {w W9 : World} {L : List As} {m6 m7 : Nat} {a0 a1 a2 r0 r1 r2 r3 r4 : Value} (h : St w W9 (As.cells m7 #[r0, r1, r2, r3, r4] 49 :: As.cells m6 #[a0, a1, a2] 43 :: L)) :
    W9.cell? ⟨m6, 0, none⟩ = some a0 ∧ W9.cell? ⟨m6, 1, none⟩ = some a1 ∧ W9.cell? ⟨m6, 2, none⟩ = some a2 ∧ W9.cell? ⟨m7, 0, none⟩ = some r0 ∧ W9.cell? ⟨m7, 1, none⟩ = some r1 ∧ W9.cell? ⟨m7, 2, none⟩ = some r2 ∧ W9.cell? ⟨m7, 3, none⟩ = some r3 ∧ W9.cell? ⟨m7, 4, none⟩ = some r4 := by
  have h6 := (h.blkm (b := m6) (.tail _ (.head _))).three
  have h7 := blk5 (h.blkm (b := m7) (.head _))
  exact ⟨h6.1, h6.2.1, h6.2.2.1, h7.1, h7.2.1, h7.2.2.1, h7.2.2.2.1, h7.2.2.2.2.1⟩
theorem mlt {w X : World} {L : List As} {m6 m7 : Nat} {c6 c7 : Array Value} {t6 t7 : TypeId} (h : St w X (As.cells m6 c6 t6 :: As.cells m7 c7 t7 :: L)) : (w.heap.size ≤ m6 ∧ m6 < X.heap.size) ∧ (w.heap.size ≤ m7 ∧ m7 < X.heap.size) := by
  have h2 := St.sh [_, _] [1, 0] (by decide) h
  simp only [List.map_cons, List.map_nil, List.getD_cons_zero, List.getD_cons_succ, List.cons_append, List.nil_append] at h2
  exact ⟨⟨h.blk.2, h.blk.1.lt⟩, ⟨h2.blk.2, h2.blk.1.lt⟩⟩
theorem rd_nil (w : World) (sz : Nat) : Rd w sz none 0 [] := ⟨by simp, by simp, fun _ => rfl, by simp⟩
/-- the results of a call that leaves the store as it is -/
theorem rd_same {S : SS} {p : Sp} {w W9 : World} (h : Rw w S p) (hb : Below w.heap.size w W9) (i : Int) (v : ByteArray) (ok : Bool) (err : Int) :
    RdPost S ⟨i, v, ok, [], err⟩ p w (.returned (.tuple #[rv p S, .agg #[.int .i64 i, .string v, .bool ok, .slice none 0 0, .int .i64 err]])) W9 :=
  ⟨p, none, 0, rfl, h.below hb, rd_nil _ _, (by intro r hr; cases hr), NewS.refl _ _ _, hb⟩
theorem rd_new {S S' : SS} {p p' : Sp} {w w4 X W9 : World} {m6 m7 : Nat} (h0 : Rw w S p) (h : Rw X S' p') (hn : NewS w4 X p p') (h4 : w.heap.size ≤ w4.heap.size) (h6 : w.heap.size ≤ m6 ∧ m6 < w4.heap.size) (h7 : w.heap.size ≤ m7 ∧ m7 < w4.heap.size)
    (hf : Fr (fun k => k = m6 ∨ k = m7) X W9) (hw : Below w.heap.size w W9) (i : Int) (v : ByteArray) (ok : Bool) (err : Int) :
    RdPost S' ⟨i, v, ok, [], err⟩ p w (.returned (.tuple #[rv p' S', .agg #[.int .i64 i, .string v, .bool ok, .slice none 0 0, .int .i64 err]])) W9 := by
  refine ⟨p', none, 0, rfl, h.kept hf (fun r hr q => ?_), rd_nil _ _, (by intro r hr; cases hr), fun r hr => ?_, hw⟩
  · rcases hn r hr with k | k
    · have := h0.rows r k
      rcases q with rfl | rfl <;> omega
    · rcases q with rfl | rfl <;> omega
  · rcases hn r hr with q | q
    · exact .inl q
    · exact .inr ⟨Nat.le_trans h4 q.1, Nat.lt_of_lt_of_le q.2 hf.size⟩

theorem blk4 {w : World} {b : Nat} {a0 a1 a2 a3 : Value} {t : TypeId} (h : Blk w b #[a0, a1, a2, a3] t) :
    w.cell? ⟨b, 0, none⟩ = some a0 ∧ w.cell? ⟨b, 1, none⟩ = some a1 ∧ w.cell? ⟨b, 2, none⟩ = some a2 ∧ w.cell? ⟨b, 3, none⟩ = some a3 ∧
    w.frozen? ⟨b, 0, none⟩ = false ∧ w.frozen? ⟨b, 1, none⟩ = false ∧ w.frozen? ⟨b, 2, none⟩ = false ∧ w.frozen? ⟨b, 3, none⟩ = false :=
  ⟨h.cell 0, h.cell 1, h.cell 2, h.cell 3, h.free 0, h.free 1, h.free 2, h.free 3⟩

theorem fr3 (X : World) (m6 : Nat) (a0 a1 a2 : Value) : Fr (fun k => k = m6) X (((X.setCell ⟨m6, 0, none⟩ a0).setCell ⟨m6, 1, none⟩ a1).setCell ⟨m6, 2, none⟩ a2) :=
  Fr.setCell (S := fun k => k = m6) (Fr.setCell (S := fun k => k = m6) (Fr.setCell (S := fun k => k = m6) (Fr.refl _ X) (fun _ => rfl) _) (fun _ => rfl) _) (fun _ => rfl) _

set_option maxRecDepth 100000 in
set_option maxHeartbeats 4000000 in
theorem d_none (S : SS) (p : Sp) (o : Op') (id : Int) (w : World) (n : Nat) (h : Rw w S p) (ho : o.ok) (hi : Iv n S) (hn : n ≤ 60) (hk : 1 ≤ o.kd % 9 ∧ o.kd % 9 ≤ 7) (hf : fnd id S.txs = none) :
    Calls Try.prog 20 #[rv p S, .agg #[.int .u8 o.kd, .int .u8 o.tx, .string o.key, .string o.val, .bool o.wr], .int .i64 id] w (RdPost (S) ⟨0, .empty, false, [], 6⟩ p w) := by
  have HA := Lib.hid h.rf
  have H00 := Lib.hid h
  have HIV := Lib.hid hi
  have htl : S.txs.length ≤ 60 := by have := hi.tl; omega
  have hpl : S.pairs.length ≤ 60 := by have := hi.ln; omega
  have hcl : S.cs.length ≤ 60 := by have := hi.ln; omega
  have hnx : 0 ≤ S.nx ∧ S.nx ≤ 60 := ⟨hi.nx0, by have := hi.nx1; omega⟩
  obtain ⟨ok1, ok2, ok3, ok4⟩ := ho
  have hw1 : IntKind.i64.wrap o.kd = o.kd := by rw [IntKind.wrap_i64]; omega
  obtain ⟨K, hK⟩ : ∃ K, o.kd.tmod 9 = K := ⟨_, rfl⟩
  have hK' : o.kd % 9 = K := by rw [← hK, Int.tmod_eq_emod_of_nonneg ok1]
  rw [hK'] at hk
  have hk0 : (K == 0) = false := by simp; omega
  have hk8 : (K == 8) = false := by simp; omega
  clear h hi hk
  go_enter Try.func20, Try.ntmps20
  go_upto_region 1 with fail
  have h1 := St.sh [_, _, _, _] [1, 0, 2, 3] (by decide) (((((St.start w (Below.refl _ w)).new #[.slice p.sp S.pairs.length p.cp, .slice p.st S.txs.length p.ct, .int .i64 S.nx] 43).new #[.int .u8 o.kd, .int .u8 o.tx, .string o.key, .string o.val, .bool o.wr] 45).new #[.slice none 0 0, .slice none 0 0, .int .i64 0] 43).new #[.int .i64 0, .string { data := #[] }, .bool false, .slice none 0 0, .int .i64 0] 49)
  simp only [List.map_cons, List.map_nil, List.getD_cons_zero, List.getD_cons_succ, List.cons_append, List.nil_append] at h1
  obtain ⟨W, hW⟩ : ∃ W, (((w.alloc (.cells #[.slice p.sp S.pairs.length p.cp, .slice p.st S.txs.length p.ct, .int .i64 S.nx] 43)).alloc (.cells #[.int .u8 o.kd, .int .u8 o.tx, .string o.key, .string o.val, .bool o.wr] 45)).alloc (.cells #[.slice none 0 0, .slice none 0 0, .int .i64 0] 43)).alloc (.cells #[.int .i64 0, .string { data := #[] }, .bool false, .slice none 0 0, .int .i64 0] 49) = W := ⟨_, rfl⟩
  obtain ⟨m, hm⟩ : ∃ m, w.heap.size = m := ⟨_, rfl⟩
  simp only [World.size_alloc] at h1
  rw [hW, hm] at h1
  try simp only [World.size_alloc]
  try simp only [hW, hm]
  have H1 := Lib.hid h1
  have H2 := Lib.hid (HA.out.below h1.bel)
  obtain ⟨c0, c1, c2, f0, f1, f2⟩ := (h1.blkm (b := m) (.tail _ (.tail _ (.tail _ (.head _))))).three; obtain ⟨q0, q1, q2, q3, q4, -⟩ := blk5 (h1.blkm (b := m + 1) (.tail _ (.tail _ (.head _))))
  have KAT := Lib.hid (at_ref S p id W H2.out (by omega))
  clear h1 hW hm
  have e1 : fndI id S.txs = -1 := by unfold fndI; rw [hf]
  have E1 := Lib.hid e1
  clear hf e1 hK'
  go_upto_region 19 with (go_at_call 39; refine (KAT.out).mono ?_; rintro e w3 ⟨rfl, hb3⟩; rw [E1.out]; have H3 := Lib.hid (H1.out.of_below hb3); clear c0 c1 c2 f0 f1 f2 q0 q1 q2 q3 q4; obtain ⟨c0, c1, c2, f0, f1, f2⟩ := (H3.out.blkm (b := m) (.tail _ (.tail _ (.tail _ (.head _))))).three; obtain ⟨q0, q1, q2, q3, q4, -⟩ := blk5 (H3.out.blkm (b := m + 1) (.tail _ (.tail _ (.head _)))); obtain ⟨e0, e1, e2, j0, j1, j2⟩ := (H3.out.blkm (b := m + 1 + 1) (.head _)).three; obtain ⟨s0, s1, s2, s3, s4, g0, g1, g2, g3, g4⟩ := blk5 (H3.out.blkm (b := m + 1 + 1 + 1) (.tail _ (.head _))); clear hb3)
  obtain ⟨W9, hW9, hf, hfr⟩ := fin_st H3.out (.slice p.sp S.pairs.length p.cp) (.slice p.st S.txs.length p.ct) (.int .i64 S.nx) (.int .i64 0) (.string { data := #[] }) (.bool false) (.slice none 0 0) (.int .i64 6); have HW9 := Lib.hid hW9; have HF := Lib.hid hf; have HFR := Lib.hid hfr; clear hW9 hf hfr
  go_wp2_with fail
  rw [HW9.out]
  obtain ⟨t0, t1, t2, t3, t4, t5, t6, t7⟩ := fin_rd HF.out
  refine bodyPost_ret (v := .tuple #[.agg #[.slice p.sp S.pairs.length p.cp, .slice p.st S.txs.length p.ct, .int .i64 S.nx], .agg #[.int .i64 0, .string { data := #[] }, .bool false, .slice none 0 0, .int .i64 6]]) (by simp [results, Try.results20, go_sem, t0, t1, t2, t3, t4, t5, t6, t7]) rfl ?_
  exact rd_same H00.out HF.out.bel _ _ _ _

set_option maxRecDepth 100000 in
set_option maxHeartbeats 4000000 in
theorem d_abort (S : SS) (p : Sp) (o : Op') (id : Int) (w : World) (n : Nat) (h : Rw w S p) (ho : o.ok) (hi : Iv n S) (hn : n ≤ 60) (hk : o.kd % 9 = 6) (k : Nat) (hf : fnd id S.txs = some k) :
    Calls Try.prog 20 #[rv p S, .agg #[.int .u8 o.kd, .int .u8 o.tx, .string o.key, .string o.val, .bool o.wr], .int .i64 id] w (RdPost (dropS S k) ⟨0, .empty, false, [], 0⟩ p w) := by
  have HA := Lib.hid h.rf
  have H00 := Lib.hid h
  have HIV := Lib.hid hi
  have htl : S.txs.length ≤ 60 := by have := hi.tl; omega
  have hpl : S.pairs.length ≤ 60 := by have := hi.ln; omega
  have hcl : S.cs.length ≤ 60 := by have := hi.ln; omega
  have hnx : 0 ≤ S.nx ∧ S.nx ≤ 60 := ⟨hi.nx0, by have := hi.nx1; omega⟩
  obtain ⟨ok1, ok2, ok3, ok4⟩ := ho
  have hw1 : IntKind.i64.wrap o.kd = o.kd := by rw [IntKind.wrap_i64]; omega
  have ht : o.kd.tmod 9 = 6 := by rw [Int.tmod_eq_emod_of_nonneg ok1]; exact hk
  clear h hi hk
  go_enter Try.func20, Try.ntmps20
  go_upto_region 1 with fail
  have h1 := St.sh [_, _, _, _] [1, 0, 2, 3] (by decide) (((((St.start w (Below.refl _ w)).new #[.slice p.sp S.pairs.length p.cp, .slice p.st S.txs.length p.ct, .int .i64 S.nx] 43).new #[.int .u8 o.kd, .int .u8 o.tx, .string o.key, .string o.val, .bool o.wr] 45).new #[.slice none 0 0, .slice none 0 0, .int .i64 0] 43).new #[.int .i64 0, .string { data := #[] }, .bool false, .slice none 0 0, .int .i64 0] 49)
  simp only [List.map_cons, List.map_nil, List.getD_cons_zero, List.getD_cons_succ, List.cons_append, List.nil_append] at h1
  obtain ⟨W, hW⟩ : ∃ W, (((w.alloc (.cells #[.slice p.sp S.pairs.length p.cp, .slice p.st S.txs.length p.ct, .int .i64 S.nx] 43)).alloc (.cells #[.int .u8 o.kd, .int .u8 o.tx, .string o.key, .string o.val, .bool o.wr] 45)).alloc (.cells #[.slice none 0 0, .slice none 0 0, .int .i64 0] 43)).alloc (.cells #[.int .i64 0, .string { data := #[] }, .bool false, .slice none 0 0, .int .i64 0] 49) = W := ⟨_, rfl⟩
  obtain ⟨m, hm⟩ : ∃ m, w.heap.size = m := ⟨_, rfl⟩
  simp only [World.size_alloc] at h1
  rw [hW, hm] at h1
  try simp only [World.size_alloc]
  try simp only [hW, hm]
  have H1 := Lib.hid h1
  have H2 := Lib.hid (HA.out.below h1.bel)
  obtain ⟨c0, c1, c2, f0, f1, f2⟩ := (h1.blkm (b := m) (.tail _ (.tail _ (.tail _ (.head _))))).three; obtain ⟨q0, q1, q2, q3, q4, -⟩ := blk5 (h1.blkm (b := m + 1) (.tail _ (.tail _ (.head _))))
  have KAT := Lib.hid (at_ref S p id W H2.out (by omega))
  clear h1 hW hm
  have hkl := fnd_lt hf
  have e1 : fndI id S.txs = k := by unfold fndI; rw [hf]
  have E1 := Lib.hid e1
  have HFN := Lib.hid hf
  have hkI : (k : Int) < (S.txs.length : Int) := by omega
  have hk0I : (0 : Int) ≤ (k : Int) := by omega
  clear hf e1
  go_upto_region 20 with (go_at_call 39; refine (KAT.out).mono ?_; rintro e w3 ⟨rfl, hb3⟩; rw [E1.out]; have H3 := Lib.hid (H1.out.of_below hb3); clear c0 c1 c2 f0 f1 f2 q0 q1 q2 q3 q4; obtain ⟨c0, c1, c2, f0, f1, f2⟩ := (H3.out.blkm (b := m) (.tail _ (.tail _ (.tail _ (.head _))))).three; obtain ⟨q0, q1, q2, q3, q4, -⟩ := blk5 (H3.out.blkm (b := m + 1) (.tail _ (.tail _ (.head _)))); obtain ⟨e0, e1, e2, j0, j1, j2⟩ := (H3.out.blkm (b := m + 1 + 1) (.head _)).three; obtain ⟨s0, s1, s2, s3, s4, g0, g1, g2, g3, g4⟩ := blk5 (H3.out.blkm (b := m + 1 + 1 + 1) (.tail _ (.head _))); clear hb3)
  obtain ⟨t, ht⟩ : ∃ t, S.txs[k] = t := ⟨_, rfl⟩
  have HR3 := Lib.hid (HA.out.below H3.out.bel)
  obtain ⟨g, o2, hst, -⟩ := HR3.out.ts.addr (by omega)
  obtain ⟨sq, cq, hvq, hrq⟩ := HR3.out.row k
  have hyx := yz_get (.slice p.sc S.cs.length p.cc) S.txs k hkl
  rw [hvq, ht] at hyx
  obtain ⟨d0, d1, d2, d3⟩ := y_at (hst ▸ HR3.out.ts) (by rw [yz_len]; exact hkl) _ hyx
  simp only at d0 d1 d2 d3
  rw [hst] at c1
  have HST := Lib.hid hst
  have HT := Lib.hid ht
  have HSQ := Lib.hid hrq
  clear hst hvq hyx ht hrq
  go_upto_region 21 with fail
  have h4 := St.sh [_, _, _, _, _] [1, 2, 3, 4, 0] (by decide) (H3.out.new #[.int .i64 t.id, .string t.ow, .bool t.wr, .slice sq (chs S k).length cq] 36)
  simp only [List.map_cons, List.map_nil, List.getD_cons_zero, List.getD_cons_succ, List.cons_append, List.nil_append] at h4
  obtain ⟨w4, hw4⟩ : ∃ w4, w3.alloc (.cells #[.int .i64 t.id, .string t.ow, .bool t.wr, .slice sq (chs S k).length cq] 36) = w4 := ⟨_, rfl⟩
  obtain ⟨b13, hb13⟩ : ∃ b13, w3.heap.size = b13 := ⟨_, rfl⟩
  have HB4 := Lib.hid (show Below w3.heap.size w3 w4 by rw [← hw4]; exact (Below.refl _ w3).alloc (Nat.le_refl _) _)
  rw [hw4, hb13] at h4
  try simp only [hw4, hb13]
  have H4 := Lib.hid h4
  have HSQ4 := Lib.hid (HSQ.out.below HB4.out)
  clear c0 c1 c2 f0 f1 f2 q0 q1 q2 q3 q4 e0 e1 e2 j0 j1 j2 s0 s1 s2 s3 s4 g0 g1 g2 g3 g4 d0 d1 d2 d3 hw4 hb13
  obtain ⟨c0, c1, c2, f0, f1, f2⟩ := (h4.blkm (b := m) (.tail _ (.tail _ (.tail _ (.head _))))).three; obtain ⟨q0, q1, q2, q3, q4, -⟩ := blk5 (h4.blkm (b := m + 1) (.tail _ (.tail _ (.head _))))
  obtain ⟨e0, e1, e2, j0, j1, j2⟩ := (h4.blkm (b := m + 1 + 1) (.head _)).three; obtain ⟨s0, s1, s2, s3, s4, g0, g1, g2, g3, g4⟩ := blk5 (h4.blkm (b := m + 1 + 1 + 1) (.tail _ (.head _)))
  obtain ⟨i0, i1, i2, i3, l0, l1, l2, l3⟩ := blk4 (h4.blkm (b := b13) (.tail _ (.tail _ (.tail _ (.tail _ (.head _))))))
  rw [HST.out] at c1
  have HR4 := Lib.hid (HA.out.below h4.bel)
  clear h4
  have KD := Lib.hid (drop_ref S p k w4 (H00.out.below H4.out.bel) (by omega) hkl)
  rw [← HST.out] at c1
  have HM := Lib.hid (mlt H4.out)
  obtain ⟨S', hS'⟩ : ∃ S', dropS S k = S' := ⟨_, rfl⟩
  have HS' := Lib.hid hS'
  rw [hS'] at KD
  clear hS'
  go_wp2_with (go_at_call 38; refine (KD.out).mono ?_; rintro e w5 ⟨p', rfl, hr5, hn5, hb5⟩; have H5 := Lib.hid (H4.out.of_below hb5); have HR5 := Lib.hid hr5; have HN5 := Lib.hid hn5; clear c0 c1 c2 f0 f1 f2 q0 q1 q2 q3 q4; clear e0 e1 e2 j0 j1 j2 s0 s1 s2 s3 s4 g0 g1 g2 g3 g4; clear i0 i1 i2 i3 l0 l1 l2 l3 hb5 hr5 hn5; obtain ⟨e0, e1, e2, j0, j1, j2⟩ := (H5.out.blkm (b := m + 1 + 1) (.head _)).three; obtain ⟨s0, s1, s2, s3, s4, g0, g1, g2, g3, g4⟩ := blk5 (H5.out.blkm (b := m + 1 + 1 + 1) (.tail _ (.head _))); obtain ⟨W9, hW9, hf, hfr⟩ := fin_st H5.out (.slice p'.sp S'.pairs.length p'.cp) (.slice p'.st S'.txs.length p'.ct) (.int .i64 S'.nx) (.int .i64 0) (.string { data := #[] }) (.bool false) (.slice none 0 0) (.int .i64 0); have HW9 := Lib.hid hW9; have HF := Lib.hid hf; have HFR := Lib.hid hfr; clear hW9 hf hfr)
  rw [HW9.out]
  obtain ⟨t0, t1, t2, t3, t4, t5, t6, t7⟩ := fin_rd HF.out
  refine bodyPost_ret (v := .tuple #[.agg #[.slice p'.sp S'.pairs.length p'.cp, .slice p'.st S'.txs.length p'.ct, .int .i64 S'.nx], .agg #[.int .i64 0, .string { data := #[] }, .bool false, .slice none 0 0, .int .i64 0]]) (by simp [results, Try.results20, go_sem, t0, t1, t2, t3, t4, t5, t6, t7]) rfl ?_
  show RdPost (dropS S k) _ p w _ _
  rw [HS'.out]
  exact rd_new H00.out HR5.out HN5.out H4.out.bel.size HM.out.1 HM.out.2 HFR.out HF.out.bel _ _ _ _

set_option maxRecDepth 100000 in
set_option maxHeartbeats 4000000 in
theorem d_lock (S : SS) (p : Sp) (o : Op') (id : Int) (w : World) (n : Nat) (h : Rw w S p) (ho : o.ok) (hi : Iv n S) (hn : n ≤ 60) (hk : 1 ≤ o.kd % 9 ∧ o.kd % 9 ≤ 5) (k : Nat) (hf : fnd id S.txs = some k) (htb : turnB S.txs k = false) :
    Calls Try.prog 20 #[rv p S, .agg #[.int .u8 o.kd, .int .u8 o.tx, .string o.key, .string o.val, .bool o.wr], .int .i64 id] w (RdPost (S) ⟨0, .empty, false, [], 19⟩ p w) := by
  have HA := Lib.hid h.rf
  have H00 := Lib.hid h
  have HIV := Lib.hid hi
  have htl : S.txs.length ≤ 60 := by have := hi.tl; omega
  have hpl : S.pairs.length ≤ 60 := by have := hi.ln; omega
  have hcl : S.cs.length ≤ 60 := by have := hi.ln; omega
  have hnx : 0 ≤ S.nx ∧ S.nx ≤ 60 := ⟨hi.nx0, by have := hi.nx1; omega⟩
  obtain ⟨ok1, ok2, ok3, ok4⟩ := ho
  have hw1 : IntKind.i64.wrap o.kd = o.kd := by rw [IntKind.wrap_i64]; omega
  obtain ⟨K, hK⟩ : ∃ K, o.kd.tmod 9 = K := ⟨_, rfl⟩
  have hK' : o.kd % 9 = K := by rw [← hK, Int.tmod_eq_emod_of_nonneg ok1]
  rw [hK'] at hk
  have hk0 : (K == 0) = false := by simp; omega
  have hk8 : (K == 8) = false := by simp; omega
  have hk6 : (K == 6) = false := by simp; omega
  have hk7 : (K == 7) = false := by simp; omega
  clear h hi hk
  go_enter Try.func20, Try.ntmps20
  go_upto_region 1 with fail
  have h1 := St.sh [_, _, _, _] [1, 0, 2, 3] (by decide) (((((St.start w (Below.refl _ w)).new #[.slice p.sp S.pairs.length p.cp, .slice p.st S.txs.length p.ct, .int .i64 S.nx] 43).new #[.int .u8 o.kd, .int .u8 o.tx, .string o.key, .string o.val, .bool o.wr] 45).new #[.slice none 0 0, .slice none 0 0, .int .i64 0] 43).new #[.int .i64 0, .string { data := #[] }, .bool false, .slice none 0 0, .int .i64 0] 49)
  simp only [List.map_cons, List.map_nil, List.getD_cons_zero, List.getD_cons_succ, List.cons_append, List.nil_append] at h1
  obtain ⟨W, hW⟩ : ∃ W, (((w.alloc (.cells #[.slice p.sp S.pairs.length p.cp, .slice p.st S.txs.length p.ct, .int .i64 S.nx] 43)).alloc (.cells #[.int .u8 o.kd, .int .u8 o.tx, .string o.key, .string o.val, .bool o.wr] 45)).alloc (.cells #[.slice none 0 0, .slice none 0 0, .int .i64 0] 43)).alloc (.cells #[.int .i64 0, .string { data := #[] }, .bool false, .slice none 0 0, .int .i64 0] 49) = W := ⟨_, rfl⟩
  obtain ⟨m, hm⟩ : ∃ m, w.heap.size = m := ⟨_, rfl⟩
  simp only [World.size_alloc] at h1
  rw [hW, hm] at h1
  try simp only [World.size_alloc]
  try simp only [hW, hm]
  have H1 := Lib.hid h1
  have H2 := Lib.hid (HA.out.below h1.bel)
  obtain ⟨c0, c1, c2, f0, f1, f2⟩ := (h1.blkm (b := m) (.tail _ (.tail _ (.tail _ (.head _))))).three; obtain ⟨q0, q1, q2, q3, q4, -⟩ := blk5 (h1.blkm (b := m + 1) (.tail _ (.tail _ (.head _))))
  have KAT := Lib.hid (at_ref S p id W H2.out (by omega))
  clear h1 hW hm
  clear hK'
  have HTB := Lib.hid htb
  clear htb
  have hkl := fnd_lt hf
  have e1 : fndI id S.txs = k := by unfold fndI; rw [hf]
  have E1 := Lib.hid e1
  have HFN := Lib.hid hf
  have hkI : (k : Int) < (S.txs.length : Int) := by omega
  have hk0I : (0 : Int) ≤ (k : Int) := by omega
  clear hf e1
  go_upto_region 20 with (go_at_call 39; refine (KAT.out).mono ?_; rintro e w3 ⟨rfl, hb3⟩; rw [E1.out]; have H3 := Lib.hid (H1.out.of_below hb3); clear c0 c1 c2 f0 f1 f2 q0 q1 q2 q3 q4; obtain ⟨c0, c1, c2, f0, f1, f2⟩ := (H3.out.blkm (b := m) (.tail _ (.tail _ (.tail _ (.head _))))).three; obtain ⟨q0, q1, q2, q3, q4, -⟩ := blk5 (H3.out.blkm (b := m + 1) (.tail _ (.tail _ (.head _)))); obtain ⟨e0, e1, e2, j0, j1, j2⟩ := (H3.out.blkm (b := m + 1 + 1) (.head _)).three; obtain ⟨s0, s1, s2, s3, s4, g0, g1, g2, g3, g4⟩ := blk5 (H3.out.blkm (b := m + 1 + 1 + 1) (.tail _ (.head _))); clear hb3)
  obtain ⟨t, ht⟩ : ∃ t, S.txs[k] = t := ⟨_, rfl⟩
  have HR3 := Lib.hid (HA.out.below H3.out.bel)
  obtain ⟨g, o2, hst, -⟩ := HR3.out.ts.addr (by omega)
  obtain ⟨sq, cq, hvq, hrq⟩ := HR3.out.row k
  have hyx := yz_get (.slice p.sc S.cs.length p.cc) S.txs k hkl
  rw [hvq, ht] at hyx
  obtain ⟨d0, d1, d2, d3⟩ := y_at (hst ▸ HR3.out.ts) (by rw [yz_len]; exact hkl) _ hyx
  simp only at d0 d1 d2 d3
  rw [hst] at c1
  have HST := Lib.hid hst
  have HT := Lib.hid ht
  have HSQ := Lib.hid hrq
  clear hst hvq hyx ht hrq
  go_upto_region 21 with fail
  have h4 := St.sh [_, _, _, _, _] [1, 2, 3, 4, 0] (by decide) (H3.out.new #[.int .i64 t.id, .string t.ow, .bool t.wr, .slice sq (chs S k).length cq] 36)
  simp only [List.map_cons, List.map_nil, List.getD_cons_zero, List.getD_cons_succ, List.cons_append, List.nil_append] at h4
  obtain ⟨w4, hw4⟩ : ∃ w4, w3.alloc (.cells #[.int .i64 t.id, .string t.ow, .bool t.wr, .slice sq (chs S k).length cq] 36) = w4 := ⟨_, rfl⟩
  obtain ⟨b13, hb13⟩ : ∃ b13, w3.heap.size = b13 := ⟨_, rfl⟩
  have HB4 := Lib.hid (show Below w3.heap.size w3 w4 by rw [← hw4]; exact (Below.refl _ w3).alloc (Nat.le_refl _) _)
  rw [hw4, hb13] at h4
  try simp only [hw4, hb13]
  have H4 := Lib.hid h4
  have HSQ4 := Lib.hid (HSQ.out.below HB4.out)
  clear c0 c1 c2 f0 f1 f2 q0 q1 q2 q3 q4 e0 e1 e2 j0 j1 j2 s0 s1 s2 s3 s4 g0 g1 g2 g3 g4 d0 d1 d2 d3 hw4 hb13
  obtain ⟨c0, c1, c2, f0, f1, f2⟩ := (h4.blkm (b := m) (.tail _ (.tail _ (.tail _ (.head _))))).three; obtain ⟨q0, q1, q2, q3, q4, -⟩ := blk5 (h4.blkm (b := m + 1) (.tail _ (.tail _ (.head _))))
  obtain ⟨e0, e1, e2, j0, j1, j2⟩ := (h4.blkm (b := m + 1 + 1) (.head _)).three; obtain ⟨s0, s1, s2, s3, s4, g0, g1, g2, g3, g4⟩ := blk5 (h4.blkm (b := m + 1 + 1 + 1) (.tail _ (.head _)))
  obtain ⟨i0, i1, i2, i3, l0, l1, l2, l3⟩ := blk4 (h4.blkm (b := b13) (.tail _ (.tail _ (.tail _ (.tail _ (.head _))))))
  rw [HST.out] at c1
  have HR4 := Lib.hid (HA.out.below h4.bel)
  clear h4
  have KT := Lib.hid (turn_ref S p k w4 HR4.out (by omega) hkl)
  rw [HTB.out] at KT
  rw [← HST.out] at c1
  go_wp2_with (go_at_call 40; refine (KT.out).mono ?_; rintro e w5 ⟨rfl, hb5⟩; have H5 := Lib.hid (H4.out.of_below hb5); clear c0 c1 c2 f0 f1 f2 q0 q1 q2 q3 q4; clear e0 e1 e2 j0 j1 j2 s0 s1 s2 s3 s4 g0 g1 g2 g3 g4; clear i0 i1 i2 i3 l0 l1 l2 l3; clear hb5; obtain ⟨c0, c1, c2, f0, f1, f2⟩ := (H5.out.blkm (b := m) (.tail _ (.tail _ (.tail _ (.head _))))).three; obtain ⟨q0, q1, q2, q3, q4, -⟩ := blk5 (H5.out.blkm (b := m + 1) (.tail _ (.tail _ (.head _)))); obtain ⟨e0, e1, e2, j0, j1, j2⟩ := (H5.out.blkm (b := m + 1 + 1) (.head _)).three; obtain ⟨s0, s1, s2, s3, s4, g0, g1, g2, g3, g4⟩ := blk5 (H5.out.blkm (b := m + 1 + 1 + 1) (.tail _ (.head _))); obtain ⟨W9, hW9, hf, hfr⟩ := fin_st H5.out (.slice p.sp S.pairs.length p.cp) (.slice p.st S.txs.length p.ct) (.int .i64 S.nx) (.int .i64 0) (.string { data := #[] }) (.bool false) (.slice none 0 0) (.int .i64 19); have HW9 := Lib.hid hW9; have HF := Lib.hid hf; have HFR := Lib.hid hfr; clear hW9 hf hfr)
  rw [HW9.out]
  obtain ⟨t0, t1, t2, t3, t4, t5, t6, t7⟩ := fin_rd HF.out
  refine bodyPost_ret (v := .tuple #[.agg #[.slice p.sp S.pairs.length p.cp, .slice p.st S.txs.length p.ct, .int .i64 S.nx], .agg #[.int .i64 0, .string { data := #[] }, .bool false, .slice none 0 0, .int .i64 19]]) (by simp [results, Try.results20, go_sem, t0, t1, t2, t3, t4, t5, t6, t7]) rfl ?_
  exact rd_same H00.out HF.out.bel _ _ _ _

set_option maxRecDepth 100000 in
set_option maxHeartbeats 4000000 in
theorem d_ready (S : SS) (p : Sp) (o : Op') (id : Int) (w : World) (n : Nat) (h : Rw w S p) (ho : o.ok) (hi : Iv n S) (hn : n ≤ 60) (hk : o.kd % 9 = 7) (k : Nat) (hf : fnd id S.txs = some k) :
    Calls Try.prog 20 #[rv p S, .agg #[.int .u8 o.kd, .int .u8 o.tx, .string o.key, .string o.val, .bool o.wr], .int .i64 id] w (RdPost (S) ⟨0, .empty, turnB S.txs k, [], 0⟩ p w) := by
  have HA := Lib.hid h.rf
  have H00 := Lib.hid h
  have HIV := Lib.hid hi
  have htl : S.txs.length ≤ 60 := by have := hi.tl; omega
  have hpl : S.pairs.length ≤ 60 := by have := hi.ln; omega
  have hcl : S.cs.length ≤ 60 := by have := hi.ln; omega
  have hnx : 0 ≤ S.nx ∧ S.nx ≤ 60 := ⟨hi.nx0, by have := hi.nx1; omega⟩
  obtain ⟨ok1, ok2, ok3, ok4⟩ := ho
  have hw1 : IntKind.i64.wrap o.kd = o.kd := by rw [IntKind.wrap_i64]; omega
  have ht : o.kd.tmod 9 = 7 := by rw [Int.tmod_eq_emod_of_nonneg ok1]; exact hk
  clear h hi hk
  go_enter Try.func20, Try.ntmps20
  go_upto_region 1 with fail
  have h1 := St.sh [_, _, _, _] [1, 0, 2, 3] (by decide) (((((St.start w (Below.refl _ w)).new #[.slice p.sp S.pairs.length p.cp, .slice p.st S.txs.length p.ct, .int .i64 S.nx] 43).new #[.int .u8 o.kd, .int .u8 o.tx, .string o.key, .string o.val, .bool o.wr] 45).new #[.slice none 0 0, .slice none 0 0, .int .i64 0] 43).new #[.int .i64 0, .string { data := #[] }, .bool false, .slice none 0 0, .int .i64 0] 49)
  simp only [List.map_cons, List.map_nil, List.getD_cons_zero, List.getD_cons_succ, List.cons_append, List.nil_append] at h1
  obtain ⟨W, hW⟩ : ∃ W, (((w.alloc (.cells #[.slice p.sp S.pairs.length p.cp, .slice p.st S.txs.length p.ct, .int .i64 S.nx] 43)).alloc (.cells #[.int .u8 o.kd, .int .u8 o.tx, .string o.key, .string o.val, .bool o.wr] 45)).alloc (.cells #[.slice none 0 0, .slice none 0 0, .int .i64 0] 43)).alloc (.cells #[.int .i64 0, .string { data := #[] }, .bool false, .slice none 0 0, .int .i64 0] 49) = W := ⟨_, rfl⟩
  obtain ⟨m, hm⟩ : ∃ m, w.heap.size = m := ⟨_, rfl⟩
  simp only [World.size_alloc] at h1
  rw [hW, hm] at h1
  try simp only [World.size_alloc]
  try simp only [hW, hm]
  have H1 := Lib.hid h1
  have H2 := Lib.hid (HA.out.below h1.bel)
  obtain ⟨c0, c1, c2, f0, f1, f2⟩ := (h1.blkm (b := m) (.tail _ (.tail _ (.tail _ (.head _))))).three; obtain ⟨q0, q1, q2, q3, q4, -⟩ := blk5 (h1.blkm (b := m + 1) (.tail _ (.tail _ (.head _))))
  have KAT := Lib.hid (at_ref S p id W H2.out (by omega))
  clear h1 hW hm
  have hkl := fnd_lt hf
  have e1 : fndI id S.txs = k := by unfold fndI; rw [hf]
  have E1 := Lib.hid e1
  have HFN := Lib.hid hf
  have hkI : (k : Int) < (S.txs.length : Int) := by omega
  have hk0I : (0 : Int) ≤ (k : Int) := by omega
  clear hf e1
  go_upto_region 20 with (go_at_call 39; refine (KAT.out).mono ?_; rintro e w3 ⟨rfl, hb3⟩; rw [E1.out]; have H3 := Lib.hid (H1.out.of_below hb3); clear c0 c1 c2 f0 f1 f2 q0 q1 q2 q3 q4; obtain ⟨c0, c1, c2, f0, f1, f2⟩ := (H3.out.blkm (b := m) (.tail _ (.tail _ (.tail _ (.head _))))).three; obtain ⟨q0, q1, q2, q3, q4, -⟩ := blk5 (H3.out.blkm (b := m + 1) (.tail _ (.tail _ (.head _)))); obtain ⟨e0, e1, e2, j0, j1, j2⟩ := (H3.out.blkm (b := m + 1 + 1) (.head _)).three; obtain ⟨s0, s1, s2, s3, s4, g0, g1, g2, g3, g4⟩ := blk5 (H3.out.blkm (b := m + 1 + 1 + 1) (.tail _ (.head _))); clear hb3)
  obtain ⟨t, ht⟩ : ∃ t, S.txs[k] = t := ⟨_, rfl⟩
  have HR3 := Lib.hid (HA.out.below H3.out.bel)
  obtain ⟨g, o2, hst, -⟩ := HR3.out.ts.addr (by omega)
  obtain ⟨sq, cq, hvq, hrq⟩ := HR3.out.row k
  have hyx := yz_get (.slice p.sc S.cs.length p.cc) S.txs k hkl
  rw [hvq, ht] at hyx
  obtain ⟨d0, d1, d2, d3⟩ := y_at (hst ▸ HR3.out.ts) (by rw [yz_len]; exact hkl) _ hyx
  simp only at d0 d1 d2 d3
  rw [hst] at c1
  have HST := Lib.hid hst
  have HT := Lib.hid ht
  have HSQ := Lib.hid hrq
  clear hst hvq hyx ht hrq
  go_upto_region 21 with fail
  have h4 := St.sh [_, _, _, _, _] [1, 2, 3, 4, 0] (by decide) (H3.out.new #[.int .i64 t.id, .string t.ow, .bool t.wr, .slice sq (chs S k).length cq] 36)
  simp only [List.map_cons, List.map_nil, List.getD_cons_zero, List.getD_cons_succ, List.cons_append, List.nil_append] at h4
  obtain ⟨w4, hw4⟩ : ∃ w4, w3.alloc (.cells #[.int .i64 t.id, .string t.ow, .bool t.wr, .slice sq (chs S k).length cq] 36) = w4 := ⟨_, rfl⟩
  obtain ⟨b13, hb13⟩ : ∃ b13, w3.heap.size = b13 := ⟨_, rfl⟩
  have HB4 := Lib.hid (show Below w3.heap.size w3 w4 by rw [← hw4]; exact (Below.refl _ w3).alloc (Nat.le_refl _) _)
  rw [hw4, hb13] at h4
  try simp only [hw4, hb13]
  have H4 := Lib.hid h4
  have HSQ4 := Lib.hid (HSQ.out.below HB4.out)
  clear c0 c1 c2 f0 f1 f2 q0 q1 q2 q3 q4 e0 e1 e2 j0 j1 j2 s0 s1 s2 s3 s4 g0 g1 g2 g3 g4 d0 d1 d2 d3 hw4 hb13
  obtain ⟨c0, c1, c2, f0, f1, f2⟩ := (h4.blkm (b := m) (.tail _ (.tail _ (.tail _ (.head _))))).three; obtain ⟨q0, q1, q2, q3, q4, -⟩ := blk5 (h4.blkm (b := m + 1) (.tail _ (.tail _ (.head _))))
  obtain ⟨e0, e1, e2, j0, j1, j2⟩ := (h4.blkm (b := m + 1 + 1) (.head _)).three; obtain ⟨s0, s1, s2, s3, s4, g0, g1, g2, g3, g4⟩ := blk5 (h4.blkm (b := m + 1 + 1 + 1) (.tail _ (.head _)))
  obtain ⟨i0, i1, i2, i3, l0, l1, l2, l3⟩ := blk4 (h4.blkm (b := b13) (.tail _ (.tail _ (.tail _ (.tail _ (.head _))))))
  rw [HST.out] at c1
  have HR4 := Lib.hid (HA.out.below h4.bel)
  clear h4
  rw [← HST.out] at c1
  go_upto_region 24 with fail
  obtain ⟨wd, hwd⟩ : ∃ wd, w4.drew = wd := ⟨_, rfl⟩
  have hd := H4.out.drew
  rw [hwd] at hd
  have HD := Lib.hid hd
  have KT := Lib.hid (turn_ref S p k wd (HA.out.below hd.bel) (by omega) hkl)
  obtain ⟨tb, htb⟩ : ∃ tb, turnB S.txs k = tb := ⟨_, rfl⟩
  have HTB := Lib.hid htb
  rw [htb] at KT
  clear c0 c1 c2 f0 f1 f2 q0 q1 q2 q3 q4
  clear e0 e1 e2 j0 j1 j2 s0 s1 s2 s3 s4 g0 g1 g2 g3 g4
  clear i0 i1 i2 i3 l0 l1 l2 l3
  obtain ⟨c0, c1, c2, f0, f1, f2⟩ := (hd.blkm (b := m) (.tail _ (.tail _ (.tail _ (.head _))))).three; obtain ⟨q0, q1, q2, q3, q4, -⟩ := blk5 (hd.blkm (b := m + 1) (.tail _ (.tail _ (.head _))))
  have hS : (fun w' : World => w'.cell? ⟨m, 0, none⟩ = some (.slice p.sp S.pairs.length p.cp) ∧ w'.cell? ⟨m, 1, none⟩ = some (.slice p.st S.txs.length p.ct) ∧ w'.cell? ⟨m, 2, none⟩ = some (.int .i64 S.nx)) wd := ⟨c0, c1, c2⟩
  clear hd htb
  refine wpLast.region (S := (fun w' : World => w'.cell? ⟨m, 0, none⟩ = some (.slice p.sp S.pairs.length p.cp) ∧ w'.cell? ⟨m, 1, none⟩ = some (.slice p.st S.txs.length p.ct) ∧ w'.cell? ⟨m, 2, none⟩ = some (.int .i64 S.nx))) (c := 6) (by kernel_rfl) ?_
  rw [hwd]
  clear hwd c0 c1 c2 f0 f1 f2 q0 q1 q2 q3 q4
  refine' wpLast.take_c (i := 0) (v := _) [5] rfl (by kernel_rfl) (fun _ _ _ h => h) (by kernel_rfl) _ _ _ _ (by kernel_rfl) (by kernel_rfl) (by kernel_rfl) (Or.inl ⟨by rfl, ?hy0⟩) hS ?rest0
  case hy0 => (intro w' hSw; obtain ⟨k0, k1, k2⟩ := hSw; go_simp; try with_reducible rfl)
  try simp only [Act.put, List.setIfInBounds_toArray, List.set_cons_zero, List.set_cons_succ]
  refine' wpLast.take_c (i := 1) (v := _) [4, 3] rfl (by kernel_rfl) (fun _ _ _ h => h) (by kernel_rfl) _ _ _ _ (by kernel_rfl) (by kernel_rfl) (by kernel_rfl) (Or.inl ⟨by rfl, ?hy1⟩) hS ?rest1
  case hy1 => (intro w' hSw; obtain ⟨k0, k1, k2⟩ := hSw; go_simp; try with_reducible rfl)
  try simp only [Act.put, List.setIfInBounds_toArray, List.set_cons_zero, List.set_cons_succ]
  refine' wpLast.take_c (i := 2) (v := _) [4, 3] rfl (by kernel_rfl) (fun _ _ _ h => h) (by kernel_rfl) _ _ _ _ (by kernel_rfl) (by kernel_rfl) (by kernel_rfl) (Or.inl ⟨by rfl, ?hy2⟩) hS ?rest2
  case hy2 => (intro w' hSw; obtain ⟨k0, k1, k2⟩ := hSw; go_simp; try with_reducible rfl)
  try simp only [Act.put, List.setIfInBounds_toArray, List.set_cons_zero, List.set_cons_succ]
  refine wpLast.one (i := 3) rfl (by kernel_rfl) ?_
  intro K' hK; have HK' := Lib.hid hK; clear hK
  go_simp
  refine (KT.out).mono ?_
  rintro e w5 ⟨rfl, hb5⟩
  have H5 := Lib.hid (HD.out.of_below hb5)
  obtain ⟨c0, c1, c2, f0, f1, f2⟩ := (H5.out.blkm (b := m) (.tail _ (.tail _ (.tail _ (.head _))))).three; obtain ⟨q0, q1, q2, q3, q4, -⟩ := blk5 (H5.out.blkm (b := m + 1) (.tail _ (.tail _ (.head _))))
  have hS5 : (fun w' : World => w'.cell? ⟨m, 0, none⟩ = some (.slice p.sp S.pairs.length p.cp) ∧ w'.cell? ⟨m, 1, none⟩ = some (.slice p.st S.txs.length p.ct) ∧ w'.cell? ⟨m, 2, none⟩ = some (.int .i64 S.nx)) w5 := ⟨c0, c1, c2⟩
  refine HK'.out _ _ ⟨fun _ => hS5, ?_⟩
  clear HK' K' hS c0 c1 c2 f0 f1 f2 q0 q1 q2 q3 q4 hb5
  try simp only [Act.put, List.setIfInBounds_toArray, List.set_cons_zero, List.set_cons_succ]
  refine' wpLast.take_c (i := 4) (v := _) [] rfl (by kernel_rfl) (fun _ _ _ h => h) (by kernel_rfl) _ _ _ _ (by kernel_rfl) (by kernel_rfl) (by kernel_rfl) (Or.inl ⟨by rfl, ?hy4⟩) hS5 ?rest4
  case hy4 => (intro w' hSw; obtain ⟨k0, k1, k2⟩ := hSw; go_simp; try with_reducible rfl)
  try simp only [Act.put, List.setIfInBounds_toArray, List.set_cons_zero, List.set_cons_succ]
  refine wpLast.one (i := 5) rfl (by kernel_rfl) ?_
  intro K' hK; have HK' := Lib.hid hK; clear hK
  obtain ⟨e0, e1, e2, j0, j1, j2⟩ := (H5.out.blkm (b := m + 1 + 1) (.head _)).three; obtain ⟨s0, s1, s2, s3, s4, g0, g1, g2, g3, g4⟩ := blk5 (H5.out.blkm (b := m + 1 + 1 + 1) (.tail _ (.head _)))
  obtain ⟨W9, hW9, hf, hfr⟩ := fin_st H5.out (.slice p.sp S.pairs.length p.cp) (.slice p.st S.txs.length p.ct) (.int .i64 S.nx) (.int .i64 0) (.string { data := #[] }) (.bool tb) (.slice none 0 0) (.int .i64 0); have HW9 := Lib.hid hW9; have HF := Lib.hid hf; have HFR := Lib.hid hfr; clear hW9 hf hfr
  go_simp
  have hS6 : (fun w' : World => w'.cell? ⟨m, 0, none⟩ = some (.slice p.sp S.pairs.length p.cp) ∧ w'.cell? ⟨m, 1, none⟩ = some (.slice p.st S.txs.length p.ct) ∧ w'.cell? ⟨m, 2, none⟩ = some (.int .i64 S.nx)) (((w5.setCell ⟨m + 1 + 1, 0, none⟩ (.slice p.sp S.pairs.length p.cp)).setCell ⟨m + 1 + 1, 1, none⟩ (.slice p.st S.txs.length p.ct)).setCell ⟨m + 1 + 1, 2, none⟩ (.int .i64 S.nx)) := by
    obtain ⟨k0, k1, k2⟩ := hS5
    have hfr := fr3 w5 (m + 1 + 1) (.slice p.sp S.pairs.length p.cp) (.slice p.st S.txs.length p.ct) (.int .i64 S.nx)
    exact ⟨hfr.cell k0 (by simp; omega), hfr.cell k1 (by simp; omega), hfr.cell k2 (by simp; omega)⟩
  refine HK'.out _ _ ⟨fun _ => hS6, ?_⟩
  clear HK' K' hS6 hS5
  try simp only [Act.put, List.setIfInBounds_toArray, List.set_cons_zero, List.set_cons_succ]
  refine wpLast.one (i := 6) rfl (by kernel_rfl) ?_
  intro K' hK; have HK' := Lib.hid hK; clear hK
  go_simp
  refine HK'.out _ _ ⟨fun h => absurd rfl h, ?_⟩
  clear HK' K'
  try simp only [Act.put, List.setIfInBounds_toArray, List.set_cons_zero, List.set_cons_succ]
  refine wpLast.done (by kernel_rfl) ?_
  go_wp2_with fail
  rw [HW9.out]
  obtain ⟨t0, t1, t2, t3, t4, t5, t6, t7⟩ := fin_rd HF.out
  refine bodyPost_ret (v := .tuple #[.agg #[.slice p.sp S.pairs.length p.cp, .slice p.st S.txs.length p.ct, .int .i64 S.nx], .agg #[.int .i64 0, .string { data := #[] }, .bool tb, .slice none 0 0, .int .i64 0]]) (by simp [results, Try.results20, go_sem, t0, t1, t2, t3, t4, t5, t6, t7]) rfl ?_
  show RdPost S ⟨0, .empty, turnB S.txs k, [], 0⟩ p w _ _
  rw [HTB.out]
  exact rd_same H00.out HF.out.bel _ _ _ _

end Go.Proofs.Ytcglnjklnlejmaa
