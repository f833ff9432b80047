/-
  The reference: Do at Keys and Commit.
-/
import Derived.Test.YtcglnjklnlejmaaTg
set_option linter.unusedVariables false
set_option linter.unusedSimpArgs false
namespace Go.Proofs.Ytcglnjklnlejmaa
open Go.RowKit Go.K Go.K.Sr

def KrRel (C : List Pr) (lo hi : ByteArray) (w : World) (g : Nat) (v16 v17 : Value) (wr : World) : Prop :=
  ∃ (j : Nat) (s : Option Addr) (c : Nat), g = C.length - j ∧ j ≤ C.length ∧ v17 = .int .i64 j ∧ v16 = .slice s (keysL (C.take j) lo hi).length c ∧ K.Own w wr 9 1 s (keysL (C.take j) lo hi).length c (strs (keysL (C.take j) lo hi))

set_option maxRecDepth 100000 in
set_option maxHeartbeats 4000000 in
theorem d_keys (S : SS) (p : Sp) (o : Op') (id : Int) (w : World) (n : Nat) (h : Rw w S p) (ho : o.ok) (hi : Iv n S) (hn : n ≤ 60) (hk : o.kd % 9 = 4) (k : Nat) (hf : fnd id S.txs = some k) (htb : turnB S.txs k = true) :
    Calls Try.prog 20 #[rv p S, .agg #[.int .u8 o.kd, .int .u8 o.tx, .string o.key, .string o.val, .bool o.wr], .int .i64 id] w (RdPost (S) ⟨0, .empty, false, keysL (content S.pairs (chs S k)) o.key o.val, 0⟩ p w) := by
  have HA := Lib.hid h.rf
  have H00 := Lib.hid h
  have HIV := Lib.hid hi
  have htl : S.txs.length ≤ 60 := by have := hi.tl; omega
  have hpl : S.pairs.length ≤ 60 := by have := hi.ln; omega
  have hcl : S.cs.length ≤ 60 := by have := hi.ln; omega
  have hnx : 0 ≤ S.nx ∧ S.nx ≤ 60 := ⟨hi.nx0, by have := hi.nx1; omega⟩
  obtain ⟨ok1, ok2, ok3, ok4⟩ := ho
  have hw1 : IntKind.i64.wrap o.kd = o.kd := by rw [IntKind.wrap_i64]; omega
  have ht : o.kd.tmod 9 = 4 := by rw [Int.tmod_eq_emod_of_nonneg ok1]; exact hk
  clear h hi hk
  go_enter Try.func20, Try.ntmps20
  go_upto_region 1 with fail
  have h1 := St.sh [_, _, _, _] [1, 0, 2, 3] (by decide) (((((St.start w (Below.refl _ w)).new #[.slice p.sp S.pairs.length p.cp, .slice p.st S.txs.length p.ct, .int .i64 S.nx] 43).new #[.int .u8 o.kd, .int .u8 o.tx, .string o.key, .string o.val, .bool o.wr] 45).new #[.slice none 0 0, .slice none 0 0, .int .i64 0] 43).new #[.int .i64 0, .string { data := #[] }, .bool false, .slice none 0 0, .int .i64 0] 49)
  simp only [List.map_cons, List.map_nil, List.getD_cons_zero, List.getD_cons_succ, List.cons_append, List.nil_append] at h1
  obtain ⟨W, hW⟩ : ∃ W, (((w.alloc (.cells #[.slice p.sp S.pairs.length p.cp, .slice p.st S.txs.length p.ct, .int .i64 S.nx] 43)).alloc (.cells #[.int .u8 o.kd, .int .u8 o.tx, .string o.key, .string o.val, .bool o.wr] 45)).alloc (.cells #[.slice none 0 0, .slice none 0 0, .int .i64 0] 43)).alloc (.cells #[.int .i64 0, .string { data := #[] }, .bool false, .slice none 0 0, .int .i64 0] 49) = W := ⟨_, rfl⟩
  obtain ⟨m, hm⟩ : ∃ m, w.heap.size = m := ⟨_, rfl⟩
  simp only [World.size_alloc] at h1
  rw [hW, hm] at h1
  try simp only [World.size_alloc]
  try simp only [hW, hm]
  have H1 := Lib.hid h1
  have H2 := Lib.hid (HA.out.below h1.bel)
  obtain ⟨c0, c1, c2, f0, f1, f2⟩ := (h1.blkm (b := m) (.tail _ (.tail _ (.tail _ (.head _))))).three; obtain ⟨q0, q1, q2, q3, q4, -⟩ := blk5 (h1.blkm (b := m + 1) (.tail _ (.tail _ (.head _))))
  have KAT := Lib.hid (at_ref S p id W H2.out (by omega))
  clear h1 hW hm
  have HTB := Lib.hid htb
  clear htb
  have hkl := fnd_lt hf
  have e1 : fndI id S.txs = k := by unfold fndI; rw [hf]
  have E1 := Lib.hid e1
  have HFN := Lib.hid hf
  have hkI : (k : Int) < (S.txs.length : Int) := by omega
  have hk0I : (0 : Int) ≤ (k : Int) := by omega
  clear hf e1
  go_upto_region 20 with (go_at_call 39; refine (KAT.out).mono ?_; rintro e w3 ⟨rfl, hb3⟩; rw [E1.out]; have H3 := Lib.hid (H1.out.of_below hb3); clear c0 c1 c2 f0 f1 f2 q0 q1 q2 q3 q4; obtain ⟨c0, c1, c2, f0, f1, f2⟩ := (H3.out.blkm (b := m) (.tail _ (.tail _ (.tail _ (.head _))))).three; obtain ⟨q0, q1, q2, q3, q4, -⟩ := blk5 (H3.out.blkm (b := m + 1) (.tail _ (.tail _ (.head _)))); obtain ⟨e0, e1, e2, j0, j1, j2⟩ := (H3.out.blkm (b := m + 1 + 1) (.head _)).three; obtain ⟨s0, s1, s2, s3, s4, g0, g1, g2, g3, g4⟩ := blk5 (H3.out.blkm (b := m + 1 + 1 + 1) (.tail _ (.head _))); clear hb3)
  obtain ⟨t, ht⟩ : ∃ t, S.txs[k] = t := ⟨_, rfl⟩
  have HR3 := Lib.hid (HA.out.below H3.out.bel)
  obtain ⟨g, o2, hst, -⟩ := HR3.out.ts.addr (by omega)
  obtain ⟨sq, cq, hvq, hrq⟩ := HR3.out.row k
  have hyx := yz_get (.slice p.sc S.cs.length p.cc) S.txs k hkl
  rw [hvq, ht] at hyx
  obtain ⟨d0, d1, d2, d3⟩ := y_at (hst ▸ HR3.out.ts) (by rw [yz_len]; exact hkl) _ hyx
  simp only at d0 d1 d2 d3
  rw [hst] at c1
  have HST := Lib.hid hst
  have HT := Lib.hid ht
  have HSQ := Lib.hid hrq
  clear hst hvq hyx ht hrq
  go_upto_region 21 with fail
  have h4 := St.sh [_, _, _, _, _] [1, 2, 3, 4, 0] (by decide) (H3.out.new #[.int .i64 t.id, .string t.ow, .bool t.wr, .slice sq (chs S k).length cq] 36)
  simp only [List.map_cons, List.map_nil, List.getD_cons_zero, List.getD_cons_succ, List.cons_append, List.nil_append] at h4
  obtain ⟨w4, hw4⟩ : ∃ w4, w3.alloc (.cells #[.int .i64 t.id, .string t.ow, .bool t.wr, .slice sq (chs S k).length cq] 36) = w4 := ⟨_, rfl⟩
  obtain ⟨b13, hb13⟩ : ∃ b13, w3.heap.size = b13 := ⟨_, rfl⟩
  have HB4 := Lib.hid (show Below w3.heap.size w3 w4 by rw [← hw4]; exact (Below.refl _ w3).alloc (Nat.le_refl _) _)
  rw [hw4, hb13] at h4
  try simp only [hw4, hb13]
  have H4 := Lib.hid h4
  have HSQ4 := Lib.hid (HSQ.out.below HB4.out)
  clear c0 c1 c2 f0 f1 f2 q0 q1 q2 q3 q4 e0 e1 e2 j0 j1 j2 s0 s1 s2 s3 s4 g0 g1 g2 g3 g4 d0 d1 d2 d3 hw4 hb13
  obtain ⟨c0, c1, c2, f0, f1, f2⟩ := (h4.blkm (b := m) (.tail _ (.tail _ (.tail _ (.head _))))).three; obtain ⟨q0, q1, q2, q3, q4, -⟩ := blk5 (h4.blkm (b := m + 1) (.tail _ (.tail _ (.head _))))
  obtain ⟨e0, e1, e2, j0, j1, j2⟩ := (h4.blkm (b := m + 1 + 1) (.head _)).three; obtain ⟨s0, s1, s2, s3, s4, g0, g1, g2, g3, g4⟩ := blk5 (h4.blkm (b := m + 1 + 1 + 1) (.tail _ (.head _)))
  obtain ⟨i0, i1, i2, i3, l0, l1, l2, l3⟩ := blk4 (h4.blkm (b := b13) (.tail _ (.tail _ (.tail _ (.tail _ (.head _))))))
  rw [HST.out] at c1
  have HR4 := Lib.hid (HA.out.below h4.bel)
  clear h4
  have KT := Lib.hid (turn_ref S p k w4 HR4.out (by omega) hkl)
  rw [HTB.out] at KT
  rw [← HST.out] at c1
  have hchl : (chs S k).length ≤ 60 := by unfold chs; split; exact hcl; simp
  obtain ⟨cl, hcl2⟩ : ∃ cl, chs S k = cl := ⟨_, rfl⟩
  have hcon := content_len cl S.pairs
  obtain ⟨C, hC⟩ : ∃ C, content S.pairs cl = C := ⟨_, rfl⟩
  have HCC := Lib.hid (show content S.pairs (chs S k) = C by rw [hcl2]; exact hC)
  have HCL := Lib.hid hcl2
  rw [hcl2] at hchl HSQ4 i3 H4 ⊢
  rw [hC] at hcon
  have HC1 := Lib.hid hC
  clear hcl2 hC
  go_upto_region 28 with (first
    | (go_at_call 40; refine (KT.out).mono ?_; rintro e w5 ⟨rfl, hb5⟩; have H5 := Lib.hid (H4.out.of_below hb5); clear c0 c1 c2 f0 f1 f2 q0 q1 q2 q3 q4; clear e0 e1 e2 j0 j1 j2 s0 s1 s2 s3 s4 g0 g1 g2 g3 g4; clear i0 i1 i2 i3 l0 l1 l2 l3; obtain ⟨c0, c1, c2, f0, f1, f2⟩ := (H5.out.blkm (b := m) (.tail _ (.tail _ (.tail _ (.head _))))).three; obtain ⟨q0, q1, q2, q3, q4, -⟩ := blk5 (H5.out.blkm (b := m + 1) (.tail _ (.tail _ (.head _)))); obtain ⟨e0, e1, e2, j0, j1, j2⟩ := (H5.out.blkm (b := m + 1 + 1) (.head _)).three; obtain ⟨s0, s1, s2, s3, s4, g0, g1, g2, g3, g4⟩ := blk5 (H5.out.blkm (b := m + 1 + 1 + 1) (.tail _ (.head _))); obtain ⟨i0, i1, i2, i3, l0, l1, l2, l3⟩ := blk4 (H5.out.blkm (b := b13) (.tail _ (.tail _ (.tail _ (.tail _ (.head _)))))); have KC := Lib.hid (content_ref p.sp p.cp S.pairs sq cq cl w5 (H00.out.pc.below H5.out.bel) (HSQ4.out.below hb5) (by omega) HIV.out.pa); have HS5 := Lib.hid hb5.size; clear hb5)
    | (go_at_call 25; refine (KC.out).mono ?_; rintro e w6 ⟨s6, c6, rfl, hr6, hn6, hb6⟩; rw [HC1.out] at hr6 ⊢; have H6 := Lib.hid (H5.out.of_below hb6); have HRC := Lib.hid hr6; have HNC := Lib.hid hn6; have HS6 := Lib.hid (Nat.le_trans HS5.out hb6.size); clear c0 c1 c2 f0 f1 f2 q0 q1 q2 q3 q4; clear e0 e1 e2 j0 j1 j2 s0 s1 s2 s3 s4 g0 g1 g2 g3 g4; clear i0 i1 i2 i3 l0 l1 l2 l3; obtain ⟨c0, c1, c2, f0, f1, f2⟩ := (H6.out.blkm (b := m) (.tail _ (.tail _ (.tail _ (.head _))))).three; obtain ⟨q0, q1, q2, q3, q4, -⟩ := blk5 (H6.out.blkm (b := m + 1) (.tail _ (.tail _ (.head _)))); obtain ⟨e0, e1, e2, j0, j1, j2⟩ := (H6.out.blkm (b := m + 1 + 1) (.head _)).three; obtain ⟨s0, s1, s2, s3, s4, g0, g1, g2, g3, g4⟩ := blk5 (H6.out.blkm (b := m + 1 + 1 + 1) (.tail _ (.head _))); obtain ⟨i0, i1, i2, i3, l0, l1, l2, l3⟩ := blk4 (H6.out.blkm (b := b13) (.tail _ (.tail _ (.tail _ (.tail _ (.head _)))))); clear hb6 hr6 hn6))
  go_wp2_with fail
  go_loopg [16, 17] C.length (KrRel C o.key o.val w6)
  case atStart => exact ⟨0, none, 0, rfl, Nat.zero_le _, rfl, rfl, K.Own.nil (Below.refl _ _) _ _⟩
  case round =>
    clear c0 c1 c2 f0 f1 f2 q0 q1 q2 q3 q4 e0 e1 e2 j0 j1 j2 s0 s1 s2 s3 s4 g0 g1 g2 g3 g4 i0 i1 i2 i3 l0 l1 l2 l3
    obtain ⟨j, so, co, hg, hj, rfl, rfl, hp⟩ := hrel
    have Hg := Lib.hid hg
    have HO := Lib.hid hp
    have H7 := Lib.hid (H6.out.of_below hp.bel)
    have hkl2 := keysL_len (C.take j) o.key o.val
    have htl2 : (C.take j).length ≤ C.length := by rw [List.length_take]; omega
    clear hg hp
    obtain ⟨c0, c1, c2, f0, f1, f2⟩ := (H7.out.blkm (b := m) (.tail _ (.tail _ (.tail _ (.head _))))).three; obtain ⟨q0, q1, q2, q3, q4, -⟩ := blk5 (H7.out.blkm (b := m + 1) (.tail _ (.tail _ (.head _)))); obtain ⟨e0, e1, e2, j0, j1, j2⟩ := (H7.out.blkm (b := m + 1 + 1) (.head _)).three; obtain ⟨s0, s1, s2, s3, s4, g0, g1, g2, g3, g4⟩ := blk5 (H7.out.blkm (b := m + 1 + 1 + 1) (.tail _ (.head _))); obtain ⟨i0, i1, i2, i3, l0, l1, l2, l3⟩ := blk4 (H7.out.blkm (b := b13) (.tail _ (.tail _ (.tail _ (.tail _ (.head _))))))
    by_cases hjn : j < C.length
    · have hrd := HRC.out.rd.below HO.out.bel
      obtain ⟨g6, o6, hs6, -⟩ := hrd.addr (by omega)
      subst hs6
      obtain ⟨x, hx⟩ : ∃ x, C[j] = x := ⟨_, rfl⟩
      obtain ⟨d0, d1⟩ := p_at hrd hjn x hx
      have HSu := Lib.hid (keysL_succ C o.key o.val j hjn x hx)
      have hjI : (j : Int) < (C.length : Int) := by omega
      have hj0I : (0 : Int) ≤ (j : Int) := by omega
      obtain ⟨O, hO⟩ : ∃ O, keysL (C.take j) o.key o.val = O := ⟨_, rfl⟩
      rw [hO] at HO HSu hkl2
      simp only [hO]
      obtain ⟨v1, hv1⟩ : ∃ v, Op.bytesLess x.k.toList o.key.toList = v := ⟨_, rfl⟩
      obtain ⟨v2, hv2⟩ : ∃ v, (o.val.toList == []) = v := ⟨_, rfl⟩
      obtain ⟨v3, hv3⟩ : ∃ v, Op.bytesLess x.k.toList o.val.toList = v := ⟨_, rfl⟩
      have hin' : inR o.key o.val x = (!v1 && (v2 || v3)) := by unfold inR klt; rw [hv1, hv2, hv3]
      rw [hin'] at HSu
      clear hrd hx hO hin'
      rcases (show v1 = true ∨ (v1 = false ∧ v2 = true) ∨ (v1 = false ∧ v2 = false ∧ v3 = true) ∨ (v1 = false ∧ v2 = false ∧ v3 = false) by cases v1 <;> cases v2 <;> cases v3 <;> decide) with rfl | ⟨rfl, rfl⟩ | ⟨rfl, rfl, rfl⟩ | ⟨rfl, rfl, rfl⟩
      all_goals
        go_upto_region 41 with fail
        go_quiet (fail)
        obtain ⟨wq, hwq⟩ : ∃ wq, wr.drewN nq = wq := ⟨_, rfl⟩
        have hoq := own_dn HO.out nq
        have d0q : (wr.drewN nq).cell? ⟨g6, o6 + j * 2, none⟩ = some (.string x.k) := d0
        rw [hwq] at hoq d0q ⊢
        have HOQ := Lib.hid hoq
        clear hwq hoq d0 d1 c0 c1 c2 f0 f1 f2 q0 q1 q2 q3 q4 e0 e1 e2 j0 j1 j2 s0 s1 s2 s3 s4 g0 g1 g2 g3 g4 i0 i1 i2 i3 l0 l1 l2 l3
        have H3a := Lib.hid (HOQ.out.alloc (.cells #[.string x.k] 9))
        have r2 := rd_built_at wq #[.string x.k] 9 1 1 wq.heap.size rfl rfl (by simp [Value.oneCell'])
        go_wp2_with (refine wpList_append_own' rfl (.tmp 169) (.tmp 175) 47 rfl elS so _ co _ rfl H3a.out _ 1 _ _ rfl r2 (by omega) (by omega) ?_; intro so' co' w8 p1 p2 p3; have H8 := Lib.hid p1; clear p1 p2 p3)
        go_roundg (C.length - (j + 1))
        case measure => have := Hg.out; omega
        case rel =>
          have he := HSu.out
          simp at he
          first
            | (refine ⟨j + 1, so', co', rfl, by omega, by simp, by rw [he]; simp, ?_⟩; rw [he]; simpa [strs] using H8.out)
            | (refine ⟨j + 1, so, co, rfl, by omega, by simp, by rw [he], ?_⟩; rw [he]; exact HOQ.out)
    · obtain rfl : j = C.length := by omega
      rw [List.take_length] at HO
      simp only [List.take_length]
      obtain ⟨O, hO⟩ : ∃ O, keysL C o.key o.val = O := ⟨_, rfl⟩
      rw [hO] at HO
      simp only [hO]
      have HOO := Lib.hid hO
      clear hO
      obtain ⟨W9, hW9, hf, hfr⟩ := fin_st H7.out (.slice p.sp S.pairs.length p.cp) (.slice p.st S.txs.length p.ct) (.int .i64 S.nx) (.int .i64 0) (.string { data := #[] }) (.bool false) (.slice so O.length co) (.int .i64 0); have HW9 := Lib.hid hW9; have HF := Lib.hid hf; have HFR := Lib.hid hfr; clear hW9 hf hfr
      go_wp2_with fail
      rw [HW9.out]
      obtain ⟨t0, t1, t2, t3, t4, t5, t6, t7⟩ := fin_rd HF.out
      refine bodyPost_ret (v := .tuple #[.agg #[.slice p.sp S.pairs.length p.cp, .slice p.st S.txs.length p.ct, .int .i64 S.nx], .agg #[.int .i64 0, .string { data := #[] }, .bool false, .slice so O.length co, .int .i64 0]]) (by simp [results, Try.results20, go_sem, t0, t1, t2, t3, t4, t5, t6, t7]) rfl ?_
      show RdPost S ⟨0, .empty, false, keysL (content S.pairs (chs S k)) o.key o.val, 0⟩ p w _ _
      rw [HCC.out, HOO.out]
      have hm := mlt H4.out
      have h5s := HS5.out
      have h6s := H6.out.bel.size
      have hlt : ∀ r, rowOf so = some r → w6.heap.size ≤ r := HO.out.row
      have h46 : w4.heap.size ≤ w6.heap.size := HS6.out
      refine ⟨p, so, co, rfl, H00.out.below HF.out.bel, HO.out.rd.kept HFR.out (fun r hr q => ?_), fun r hr => ?_, NewS.refl _ _ _, HF.out.bel⟩
      · have := hlt r hr
        rcases q with rfl | rfl <;> omega
      · exact ⟨Nat.le_trans h6s (hlt r hr), Nat.lt_of_lt_of_le (HO.out.sl.lt r hr) HFR.out.size⟩

set_option maxRecDepth 100000 in
set_option maxHeartbeats 4000000 in
theorem d_commit (S : SS) (p : Sp) (o : Op') (id : Int) (w : World) (n : Nat) (h : Rw w S p) (ho : o.ok) (hi : Iv n S) (hn : n ≤ 60) (hk : o.kd % 9 = 5) (k : Nat) (hf : fnd id S.txs = some k) (htb : turnB S.txs k = true) :
    Calls Try.prog 20 #[rv p S, .agg #[.int .u8 o.kd, .int .u8 o.tx, .string o.key, .string o.val, .bool o.wr], .int .i64 id] w (RdPost (dropS { S with pairs := content S.pairs (chs S k) } k) ⟨0, .empty, false, [], 0⟩ p w) := by
  have HA := Lib.hid h.rf
  have H00 := Lib.hid h
  have HIV := Lib.hid hi
  have htl : S.txs.length ≤ 60 := by have := hi.tl; omega
  have hpl : S.pairs.length ≤ 60 := by have := hi.ln; omega
  have hcl : S.cs.length ≤ 60 := by have := hi.ln; omega
  have hnx : 0 ≤ S.nx ∧ S.nx ≤ 60 := ⟨hi.nx0, by have := hi.nx1; omega⟩
  obtain ⟨ok1, ok2, ok3, ok4⟩ := ho
  have hw1 : IntKind.i64.wrap o.kd = o.kd := by rw [IntKind.wrap_i64]; omega
  have ht : o.kd.tmod 9 = 5 := by rw [Int.tmod_eq_emod_of_nonneg ok1]; exact hk
  clear h hi hk
  go_enter Try.func20, Try.ntmps20
  go_upto_region 1 with fail
  have h1 := St.sh [_, _, _, _] [1, 0, 2, 3] (by decide) (((((St.start w (Below.refl _ w)).new #[.slice p.sp S.pairs.length p.cp, .slice p.st S.txs.length p.ct, .int .i64 S.nx] 43).new #[.int .u8 o.kd, .int .u8 o.tx, .string o.key, .string o.val, .bool o.wr] 45).new #[.slice none 0 0, .slice none 0 0, .int .i64 0] 43).new #[.int .i64 0, .string { data := #[] }, .bool false, .slice none 0 0, .int .i64 0] 49)
  simp only [List.map_cons, List.map_nil, List.getD_cons_zero, List.getD_cons_succ, List.cons_append, List.nil_append] at h1
  obtain ⟨W, hW⟩ : ∃ W, (((w.alloc (.cells #[.slice p.sp S.pairs.length p.cp, .slice p.st S.txs.length p.ct, .int .i64 S.nx] 43)).alloc (.cells #[.int .u8 o.kd, .int .u8 o.tx, .string o.key, .string o.val, .bool o.wr] 45)).alloc (.cells #[.slice none 0 0, .slice none 0 0, .int .i64 0] 43)).alloc (.cells #[.int .i64 0, .string { data := #[] }, .bool false, .slice none 0 0, .int .i64 0] 49) = W := ⟨_, rfl⟩
  obtain ⟨m, hm⟩ : ∃ m, w.heap.size = m := ⟨_, rfl⟩
  simp only [World.size_alloc] at h1
  rw [hW, hm] at h1
  try simp only [World.size_alloc]
  try simp only [hW, hm]
  have H1 := Lib.hid h1
  have H2 := Lib.hid (HA.out.below h1.bel)
  obtain ⟨c0, c1, c2, f0, f1, f2⟩ := (h1.blkm (b := m) (.tail _ (.tail _ (.tail _ (.head _))))).three; obtain ⟨q0, q1, q2, q3, q4, -⟩ := blk5 (h1.blkm (b := m + 1) (.tail _ (.tail _ (.head _))))
  have KAT := Lib.hid (at_ref S p id W H2.out (by omega))
  clear h1 hW hm
  have HTB := Lib.hid htb
  clear htb
  have hkl := fnd_lt hf
  have e1 : fndI id S.txs = k := by unfold fndI; rw [hf]
  have E1 := Lib.hid e1
  have HFN := Lib.hid hf
  have hkI : (k : Int) < (S.txs.length : Int) := by omega
  have hk0I : (0 : Int) ≤ (k : Int) := by omega
  clear hf e1
  go_upto_region 20 with (go_at_call 39; refine (KAT.out).mono ?_; rintro e w3 ⟨rfl, hb3⟩; rw [E1.out]; have H3 := Lib.hid (H1.out.of_below hb3); clear c0 c1 c2 f0 f1 f2 q0 q1 q2 q3 q4; obtain ⟨c0, c1, c2, f0, f1, f2⟩ := (H3.out.blkm (b := m) (.tail _ (.tail _ (.tail _ (.head _))))).three; obtain ⟨q0, q1, q2, q3, q4, -⟩ := blk5 (H3.out.blkm (b := m + 1) (.tail _ (.tail _ (.head _)))); obtain ⟨e0, e1, e2, j0, j1, j2⟩ := (H3.out.blkm (b := m + 1 + 1) (.head _)).three; obtain ⟨s0, s1, s2, s3, s4, g0, g1, g2, g3, g4⟩ := blk5 (H3.out.blkm (b := m + 1 + 1 + 1) (.tail _ (.head _))); clear hb3)
  obtain ⟨t, ht⟩ : ∃ t, S.txs[k] = t := ⟨_, rfl⟩
  have HR3 := Lib.hid (HA.out.below H3.out.bel)
  obtain ⟨g, o2, hst, -⟩ := HR3.out.ts.addr (by omega)
  obtain ⟨sq, cq, hvq, hrq⟩ := HR3.out.row k
  have hyx := yz_get (.slice p.sc S.cs.length p.cc) S.txs k hkl
  rw [hvq, ht] at hyx
  obtain ⟨d0, d1, d2, d3⟩ := y_at (hst ▸ HR3.out.ts) (by rw [yz_len]; exact hkl) _ hyx
  simp only at d0 d1 d2 d3
  rw [hst] at c1
  have HST := Lib.hid hst
  have HT := Lib.hid ht
  have HSQ := Lib.hid hrq
  clear hst hvq hyx ht hrq
  go_upto_region 21 with fail
  have h4 := St.sh [_, _, _, _, _] [1, 2, 3, 4, 0] (by decide) (H3.out.new #[.int .i64 t.id, .string t.ow, .bool t.wr, .slice sq (chs S k).length cq] 36)
  simp only [List.map_cons, List.map_nil, List.getD_cons_zero, List.getD_cons_succ, List.cons_append, List.nil_append] at h4
  obtain ⟨w4, hw4⟩ : ∃ w4, w3.alloc (.cells #[.int .i64 t.id, .string t.ow, .bool t.wr, .slice sq (chs S k).length cq] 36) = w4 := ⟨_, rfl⟩
  obtain ⟨b13, hb13⟩ : ∃ b13, w3.heap.size = b13 := ⟨_, rfl⟩
  have HB4 := Lib.hid (show Below w3.heap.size w3 w4 by rw [← hw4]; exact (Below.refl _ w3).alloc (Nat.le_refl _) _)
  rw [hw4, hb13] at h4
  try simp only [hw4, hb13]
  have H4 := Lib.hid h4
  have HSQ4 := Lib.hid (HSQ.out.below HB4.out)
  clear c0 c1 c2 f0 f1 f2 q0 q1 q2 q3 q4 e0 e1 e2 j0 j1 j2 s0 s1 s2 s3 s4 g0 g1 g2 g3 g4 d0 d1 d2 d3 hw4 hb13
  obtain ⟨c0, c1, c2, f0, f1, f2⟩ := (h4.blkm (b := m) (.tail _ (.tail _ (.tail _ (.head _))))).three; obtain ⟨q0, q1, q2, q3, q4, -⟩ := blk5 (h4.blkm (b := m + 1) (.tail _ (.tail _ (.head _))))
  obtain ⟨e0, e1, e2, j0, j1, j2⟩ := (h4.blkm (b := m + 1 + 1) (.head _)).three; obtain ⟨s0, s1, s2, s3, s4, g0, g1, g2, g3, g4⟩ := blk5 (h4.blkm (b := m + 1 + 1 + 1) (.tail _ (.head _)))
  obtain ⟨i0, i1, i2, i3, l0, l1, l2, l3⟩ := blk4 (h4.blkm (b := b13) (.tail _ (.tail _ (.tail _ (.tail _ (.head _))))))
  rw [HST.out] at c1
  have HR4 := Lib.hid (HA.out.below h4.bel)
  clear h4
  have KT := Lib.hid (turn_ref S p k w4 HR4.out (by omega) hkl)
  rw [HTB.out] at KT
  rw [← HST.out] at c1
  have hchl : (chs S k).length ≤ 60 := by unfold chs; split; exact hcl; simp
  obtain ⟨cl, hcl2⟩ : ∃ cl, chs S k = cl := ⟨_, rfl⟩
  have hcon := content_len cl S.pairs
  obtain ⟨C, hC⟩ : ∃ C, content S.pairs cl = C := ⟨_, rfl⟩
  have HCC := Lib.hid (show content S.pairs (chs S k) = C by rw [hcl2]; exact hC)
  have HCL := Lib.hid hcl2
  rw [hcl2] at hchl HSQ4 i3 H4 ⊢
  rw [hC] at hcon
  have HC1 := Lib.hid hC
  clear hcl2 hC
  go_upto_region 28 with (first
    | (go_at_call 40; refine (KT.out).mono ?_; rintro e w5 ⟨rfl, hb5⟩; have H5 := Lib.hid (H4.out.of_below hb5); clear c0 c1 c2 f0 f1 f2 q0 q1 q2 q3 q4; clear e0 e1 e2 j0 j1 j2 s0 s1 s2 s3 s4 g0 g1 g2 g3 g4; clear i0 i1 i2 i3 l0 l1 l2 l3; obtain ⟨c0, c1, c2, f0, f1, f2⟩ := (H5.out.blkm (b := m) (.tail _ (.tail _ (.tail _ (.head _))))).three; obtain ⟨q0, q1, q2, q3, q4, -⟩ := blk5 (H5.out.blkm (b := m + 1) (.tail _ (.tail _ (.head _)))); obtain ⟨e0, e1, e2, j0, j1, j2⟩ := (H5.out.blkm (b := m + 1 + 1) (.head _)).three; obtain ⟨s0, s1, s2, s3, s4, g0, g1, g2, g3, g4⟩ := blk5 (H5.out.blkm (b := m + 1 + 1 + 1) (.tail _ (.head _))); obtain ⟨i0, i1, i2, i3, l0, l1, l2, l3⟩ := blk4 (H5.out.blkm (b := b13) (.tail _ (.tail _ (.tail _ (.tail _ (.head _)))))); have KC := Lib.hid (content_ref p.sp p.cp S.pairs sq cq cl w5 (H00.out.pc.below H5.out.bel) (HSQ4.out.below hb5) (by omega) HIV.out.pa); have HS5 := Lib.hid hb5.size; clear hb5)
    | (go_at_call 25; refine (KC.out).mono ?_; rintro e w6 ⟨s6, c6, rfl, hr6, hn6, hb6⟩; rw [HC1.out] at hr6 ⊢; have H6 := Lib.hid (H5.out.of_below hb6); have HRC := Lib.hid hr6; have HNC := Lib.hid hn6; have HS6 := Lib.hid (Nat.le_trans HS5.out hb6.size); clear c0 c1 c2 f0 f1 f2 q0 q1 q2 q3 q4; clear e0 e1 e2 j0 j1 j2 s0 s1 s2 s3 s4 g0 g1 g2 g3 g4; clear i0 i1 i2 i3 l0 l1 l2 l3; obtain ⟨c0, c1, c2, f0, f1, f2⟩ := (H6.out.blkm (b := m) (.tail _ (.tail _ (.tail _ (.head _))))).three; obtain ⟨q0, q1, q2, q3, q4, -⟩ := blk5 (H6.out.blkm (b := m + 1) (.tail _ (.tail _ (.head _)))); obtain ⟨e0, e1, e2, j0, j1, j2⟩ := (H6.out.blkm (b := m + 1 + 1) (.head _)).three; obtain ⟨s0, s1, s2, s3, s4, g0, g1, g2, g3, g4⟩ := blk5 (H6.out.blkm (b := m + 1 + 1 + 1) (.tail _ (.head _))); obtain ⟨i0, i1, i2, i3, l0, l1, l2, l3⟩ := blk4 (H6.out.blkm (b := b13) (.tail _ (.tail _ (.tail _ (.tail _ (.head _)))))); clear hb6 hr6 hn6))
  have hs := St.sh [_, _, _, _, _] [3, 0, 1, 2, 4] (by decide) H6.out
  simp only [List.map_cons, List.map_nil, List.getD_cons_zero, List.getD_cons_succ, List.cons_append, List.nil_append] at hs
  have hs1 := hs.set 0 (.slice s6 C.length c6)
  simp only [List.setIfInBounds_toArray, List.set_cons_zero, List.set_cons_succ] at hs1
  have hs2 := St.sh [_, _, _, _, _] [1, 2, 3, 0, 4] (by decide) hs1
  simp only [List.map_cons, List.map_nil, List.getD_cons_zero, List.getD_cons_succ, List.cons_append, List.nil_append] at hs2
  have hfr7 : Fr (fun k => k = m) w6 (w6.setCell ⟨m, 0, none⟩ (.slice s6 C.length c6)) := Fr.setCell (S := fun k => k = m) (Fr.refl _ w6) (fun _ => rfl) _
  obtain ⟨w7, hw7⟩ : ∃ w7, w6.setCell ⟨m, 0, none⟩ (.slice s6 C.length c6) = w7 := ⟨_, rfl⟩
  rw [hw7] at hs2 hfr7
  have hm3 : w.heap.size ≤ m ∧ m < w4.heap.size := by
    have h := St.sh [_, _, _, _, _] [3, 0, 1, 2, 4] (by decide) H4.out
    simp only [List.map_cons, List.map_nil, List.getD_cons_zero, List.getD_cons_succ, List.cons_append, List.nil_append] at h
    exact ⟨h.blk.2, h.blk.1.lt⟩
  have h46 : w4.heap.size ≤ w6.heap.size := HS6.out
  have hrow6 : ∀ r, rowOf s6 = some r → r ≠ m ∧ r < w6.heap.size := by
    intro r hr
    have h5s := HS5.out
    rcases HNC.out r hr with q | q
    · have := H00.out.rows r (.inl q)
      have := H6.out.bel.size
      omega
    · omega
  have hw0 := H00.out.below hs2.bel
  have HR7 := Lib.hid (show Rw w7 { S with pairs := C } { p with sp := s6, cp := c6 } from ⟨⟨rfl, HRC.out.rd.kept hfr7 (fun r hr q => (hrow6 r hr).1 q), hw0.rf.ts, hw0.rf.cs⟩, HRC.out.kept hfr7 (fun r hr q => (hrow6 r hr).1 q), fun r hr => by
    rcases hr with q | q | q
    · exact Nat.lt_of_lt_of_le (hrow6 r q).2 hfr7.size
    · exact hw0.rows r (.inr (.inl q))
    · exact hw0.rows r (.inr (.inr q))⟩)
  have HN7 := Lib.hid (show NewS w4 w7 p { p with sp := s6, cp := c6 } from fun r hr => by
    have h5s := HS5.out
    rcases hr with q | q | q
    · rcases HNC.out r q with k | k
      · exact .inl (.inl k)
      · exact .inr ⟨by omega, Nat.lt_of_lt_of_le (hrow6 r q).2 hfr7.size⟩
    · exact .inl (.inr (.inl q))
    · exact .inl (.inr (.inr q)))
  have H7 := Lib.hid hs2
  have HW7 := Lib.hid hw7
  have HS7 := Lib.hid hfr7.size
  have HM := Lib.hid (mlt H4.out)
  have KD := Lib.hid (show Calls Try.prog 38 #[.agg #[.slice s6 C.length c6, .slice p.st S.txs.length p.ct, .int .i64 S.nx], .int .i64 k] w7 (RsPost (dropS { S with pairs := C } k) { p with sp := s6, cp := c6 } w7) from drop_ref { S with pairs := C } { p with sp := s6, cp := c6 } k w7 HR7.out (by show S.txs.length ≤ 100000; omega) hkl)
  obtain ⟨S', hS'⟩ : ∃ S', dropS { S with pairs := C } k = S' := ⟨_, rfl⟩
  have HS' := Lib.hid hS'
  rw [hS'] at KD
  clear hS' hs hs1 hs2 hfr7 hw7 hm3 h46 hrow6 hw0
  go_upto_region 46 with fail
  rw [HW7.out]
  clear c0 c1 c2 f0 f1 f2 q0 q1 q2 q3 q4 e0 e1 e2 j0 j1 j2 s0 s1 s2 s3 s4 g0 g1 g2 g3 g4 i0 i1 i2 i3 l0 l1 l2 l3
  obtain ⟨c0, c1, c2, f0, f1, f2⟩ := (H7.out.blkm (b := m) (.tail _ (.tail _ (.tail _ (.head _))))).three; obtain ⟨q0, q1, q2, q3, q4, -⟩ := blk5 (H7.out.blkm (b := m + 1) (.tail _ (.tail _ (.head _)))); obtain ⟨e0, e1, e2, j0, j1, j2⟩ := (H7.out.blkm (b := m + 1 + 1) (.head _)).three; obtain ⟨s0, s1, s2, s3, s4, g0, g1, g2, g3, g4⟩ := blk5 (H7.out.blkm (b := m + 1 + 1 + 1) (.tail _ (.head _))); obtain ⟨i0, i1, i2, i3, l0, l1, l2, l3⟩ := blk4 (H7.out.blkm (b := b13) (.tail _ (.tail _ (.tail _ (.tail _ (.head _))))))
  go_wp2_with (go_at_call 38; refine (KD.out).mono ?_; rintro e w5 ⟨p', rfl, hr5, hn5, hb5⟩; have H8 := Lib.hid (H7.out.of_below hb5); have HR5 := Lib.hid hr5; have HN5 := Lib.hid (NewS.trans HN7.out hn5 (Nat.le_trans HS6.out HS7.out) hb5.size); clear c0 c1 c2 f0 f1 f2 q0 q1 q2 q3 q4 e0 e1 e2 j0 j1 j2 s0 s1 s2 s3 s4 g0 g1 g2 g3 g4 i0 i1 i2 i3 l0 l1 l2 l3; clear hb5 hr5 hn5; obtain ⟨e0, e1, e2, j0, j1, j2⟩ := (H8.out.blkm (b := m + 1 + 1) (.head _)).three; obtain ⟨s0, s1, s2, s3, s4, g0, g1, g2, g3, g4⟩ := blk5 (H8.out.blkm (b := m + 1 + 1 + 1) (.tail _ (.head _))); obtain ⟨W9, hW9, hf, hfr⟩ := fin_st H8.out (.slice p'.sp S'.pairs.length p'.cp) (.slice p'.st S'.txs.length p'.ct) (.int .i64 S'.nx) (.int .i64 0) (.string { data := #[] }) (.bool false) (.slice none 0 0) (.int .i64 0); have HW9 := Lib.hid hW9; have HF := Lib.hid hf; have HFR := Lib.hid hfr; clear hW9 hf hfr)
  rw [HW9.out]
  obtain ⟨t0, t1, t2, t3, t4, t5, t6, t7⟩ := fin_rd HF.out
  refine bodyPost_ret (v := .tuple #[.agg #[.slice p'.sp S'.pairs.length p'.cp, .slice p'.st S'.txs.length p'.ct, .int .i64 S'.nx], .agg #[.int .i64 0, .string { data := #[] }, .bool false, .slice none 0 0, .int .i64 0]]) (by simp [results, Try.results20, go_sem, t0, t1, t2, t3, t4, t5, t6, t7]) rfl ?_
  show RdPost (dropS { S with pairs := content S.pairs (chs S k) } k) _ p w _ _
  rw [HCC.out, HS'.out]
  exact rd_new H00.out HR5.out HN5.out H4.out.bel.size HM.out.1 HM.out.2 HFR.out HF.out.bel _ _ _ _

end Go.Proofs.Ytcglnjklnlejmaa
