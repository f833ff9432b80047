/-
  The reference: Do at Open and Leave.
-/
import Derived.Test.YtcglnjklnlejmaaTj
set_option linter.unusedVariables false
set_option linter.unusedSimpArgs false
namespace Go.Proofs.Ytcglnjklnlejmaa
open Go.RowKit Go.K Go.K.Sr

theorem rowO_new {w W9 : World} {A0 A1 A2 A3 : As} {L : List As} {e : TypeId} {sz n c : Nat} {s : Option Addr} {xs : List Value} (h : St w W9 (A0 :: A1 :: A2 :: A3 :: As.row e sz s n c xs :: L)) (r : Nat) (hr : rowOf s = some r) : w.heap.size ≤ r := by
  have h1 := St.sh [_, _, _, _, _] [4, 0, 1, 2, 3] (by decide) h
  simp only [List.map_cons, List.map_nil, List.getD_cons_zero, List.getD_cons_succ, List.cons_append, List.nil_append] at h1
  obtain ⟨F, h2, h3, -⟩ := h1.head
  exact h3 r ((h2.1 r).2 hr)

def LS (S : SS) (ow : ByteArray) (j : Nat) : SS := ⟨S.pairs, S.txs.take j ++ (S.txs.drop j).filter (fun t => !isOw ow t), if j = 0 then headC ow S.txs S.cs else S.cs, S.nx⟩
theorem ls_all (S : SS) (ow : ByteArray) (h : S.txs = [] → S.cs = []) : LS S ow S.txs.length = S := by
  unfold LS
  by_cases h0 : S.txs.length = 0
  · have e := List.length_eq_zero_iff.1 h0
    have e2 := h e
    rcases S with ⟨a, b, c, d⟩
    simp only at e e2
    subst e e2
    simp [headC]
  · rw [if_neg h0]; simp
theorem ls_zero (S : SS) (ow : ByteArray) : LS S ow 0 = leaveS S ow := by
  unfold LS leaveS
  simp
theorem ls_len (S : SS) (ow : ByteArray) (j : Nat) (hj : j ≤ S.txs.length) : j ≤ (LS S ow j).txs.length ∧ (LS S ow j).txs.length ≤ S.txs.length := by
  have h1 : (S.txs.take j).length = j := by rw [List.length_take]; omega
  have h2 : ((S.txs.drop j).filter (fun t => !isOw ow t)).length ≤ (S.txs.drop j).length := List.length_filter_le _ _
  rw [List.length_drop] at h2
  show j ≤ (S.txs.take j ++ _).length ∧ (S.txs.take j ++ _).length ≤ _
  rw [List.length_append, h1]
  omega
theorem ls_get (S : SS) (ow : ByteArray) (j : Nat) (hj : j < S.txs.length) (h : j < (LS S ow (j + 1)).txs.length) : (LS S ow (j + 1)).txs[j] = S.txs[j] := by
  have e : (LS S ow (j + 1)).txs[j]? = S.txs[j]? := by
    show (S.txs.take (j + 1) ++ _)[j]? = _
    rw [List.getElem?_append_left (by rw [List.length_take]; omega), List.getElem?_take, if_pos (by omega)]
  rw [List.getElem?_eq_getElem h, List.getElem?_eq_getElem hj] at e
  exact Option.some.inj e
theorem ls_stay (S : SS) (ow : ByteArray) (j : Nat) (hj : j < S.txs.length) (h : isOw ow S.txs[j] = false) : LS S ow (j + 1) = LS S ow j := by
  have e1 : S.txs.take (j + 1) ++ (S.txs.drop (j + 1)).filter (fun t => !isOw ow t) = S.txs.take j ++ (S.txs.drop j).filter (fun t => !isOw ow t) := by
    rw [List.take_succ_eq_append_getElem hj, List.drop_eq_getElem_cons hj, List.filter_cons, if_pos (by simp [h]), List.append_assoc]
    rfl
  have e2 : (if j + 1 = 0 then headC ow S.txs S.cs else S.cs) = (if j = 0 then headC ow S.txs S.cs else S.cs) := by
    rw [if_neg (by omega)]
    by_cases h0 : j = 0
    · subst h0
      rw [if_pos rfl]
      cases hl : S.txs with
      | nil => rw [hl] at hj; simp at hj
      | cons a r =>
        simp only [hl] at h
        have h' : isOw ow a = false := h
        simp [headC, h']
    · rw [if_neg h0]
  unfold LS
  rw [e1, e2]
theorem ls_drop (S : SS) (ow : ByteArray) (j : Nat) (hj : j < S.txs.length) (h : isOw ow S.txs[j] = true) : dropS (LS S ow (j + 1)) j = LS S ow j := by
  have hl : (S.txs.take j).length = j := by rw [List.length_take]; omega
  have e1 : (S.txs.take (j + 1) ++ (S.txs.drop (j + 1)).filter (fun t => !isOw ow t)).eraseIdx j = S.txs.take j ++ (S.txs.drop j).filter (fun t => !isOw ow t) := by
    rw [List.take_succ_eq_append_getElem hj, List.drop_eq_getElem_cons hj, List.filter_cons, List.append_assoc, List.eraseIdx_append_of_length_le (by omega), hl, Nat.sub_self]
    simp [h]
  have e2 : (if j = 0 then [] else (if j + 1 = 0 then headC ow S.txs S.cs else S.cs)) = (if j = 0 then headC ow S.txs S.cs else S.cs) := by
    rw [if_neg (show ¬ j + 1 = 0 by omega)]
    by_cases h0 : j = 0
    · subst h0
      simp only [if_true]
      cases hl : S.txs with
      | nil => rw [hl] at hj; simp at hj
      | cons a r =>
        simp only [hl] at h
        have h' : isOw ow a = true := h
        simp [headC, h']
    · rw [if_neg h0, if_neg h0]
  unfold LS dropS
  simp only
  rw [e1, e2]
theorem drop_len (S : SS) (k : Nat) (hk : k < S.txs.length) : (dropS S k).txs.length = S.txs.length - 1 := by
  show (S.txs.eraseIdx k).length = _
  rw [List.length_eraseIdx_of_lt hk]
def LvR (S : SS) (ow : ByteArray) (p : Sp) (o : Op') (m : Nat) (w W : World) (g : Nat) (v10 v11 : Value) (wr : World) : Prop :=
  ∃ (j : Nat) (S' : SS) (p' : Sp), g = j ∧ j ≤ S.txs.length ∧ LS S ow j = S' ∧ v11 = .int .i64 ((j : Int) - 1) ∧ v10 = .int .i64 ((S.txs.length : Int) - (S'.txs.length : Int)) ∧
    St w wr [As.cells (m + 1 + 1) #[.slice none 0 0, .slice none 0 0, .int .i64 0] 43, As.cells (m + 1 + 1 + 1) #[.int .i64 0, .string { data := #[] }, .bool false, .slice none 0 0, .int .i64 0] 49, As.cells (m + 1) #[.int .u8 o.kd, .int .u8 o.tx, .string o.key, .string o.val, .bool o.wr] 45, As.cells m #[.slice p'.sp S'.pairs.length p'.cp, .slice p'.st S'.txs.length p'.ct, .int .i64 S'.nx] 43] ∧ Rw wr S' p' ∧ NewS W wr p p' ∧ W.heap.size ≤ wr.heap.size

set_option maxRecDepth 100000 in
set_option maxHeartbeats 4000000 in
theorem d_open (S : SS) (p : Sp) (o : Op') (id : Int) (w : World) (n : Nat) (h : Rw w S p) (ho : o.ok) (hi : Iv n S) (hn : n ≤ 60) (hk : o.kd % 9 = 0)  :
    Calls Try.prog 20 #[rv p S, .agg #[.int .u8 o.kd, .int .u8 o.tx, .string o.key, .string o.val, .bool o.wr], .int .i64 id] w (RdPost (openS S o.key o.wr) ⟨S.nx + 1, .empty, false, [], 0⟩ p w) := by
  have HA := Lib.hid h.rf
  have H00 := Lib.hid h
  have HIV := Lib.hid hi
  have htl : S.txs.length ≤ 60 := by have := hi.tl; omega
  have hpl : S.pairs.length ≤ 60 := by have := hi.ln; omega
  have hcl : S.cs.length ≤ 60 := by have := hi.ln; omega
  have hnx : 0 ≤ S.nx ∧ S.nx ≤ 60 := ⟨hi.nx0, by have := hi.nx1; omega⟩
  obtain ⟨ok1, ok2, ok3, ok4⟩ := ho
  have hw1 : IntKind.i64.wrap o.kd = o.kd := by rw [IntKind.wrap_i64]; omega
  have ht : o.kd.tmod 9 = 0 := by rw [Int.tmod_eq_emod_of_nonneg ok1]; exact hk
  clear h hi hk
  go_enter Try.func20, Try.ntmps20
  go_upto_region 1 with fail
  have h1 := St.sh [_, _, _, _] [1, 0, 2, 3] (by decide) (((((St.start w (Below.refl _ w)).new #[.slice p.sp S.pairs.length p.cp, .slice p.st S.txs.length p.ct, .int .i64 S.nx] 43).new #[.int .u8 o.kd, .int .u8 o.tx, .string o.key, .string o.val, .bool o.wr] 45).new #[.slice none 0 0, .slice none 0 0, .int .i64 0] 43).new #[.int .i64 0, .string { data := #[] }, .bool false, .slice none 0 0, .int .i64 0] 49)
  simp only [List.map_cons, List.map_nil, List.getD_cons_zero, List.getD_cons_succ, List.cons_append, List.nil_append] at h1
  obtain ⟨W, hW⟩ : ∃ W, (((w.alloc (.cells #[.slice p.sp S.pairs.length p.cp, .slice p.st S.txs.length p.ct, .int .i64 S.nx] 43)).alloc (.cells #[.int .u8 o.kd, .int .u8 o.tx, .string o.key, .string o.val, .bool o.wr] 45)).alloc (.cells #[.slice none 0 0, .slice none 0 0, .int .i64 0] 43)).alloc (.cells #[.int .i64 0, .string { data := #[] }, .bool false, .slice none 0 0, .int .i64 0] 49) = W := ⟨_, rfl⟩
  obtain ⟨m, hm⟩ : ∃ m, w.heap.size = m := ⟨_, rfl⟩
  simp only [World.size_alloc] at h1
  rw [hW, hm] at h1
  try simp only [World.size_alloc]
  try simp only [hW, hm]
  have H1 := Lib.hid h1
  have H2 := Lib.hid (HA.out.below h1.bel)
  obtain ⟨c0, c1, c2, f0, f1, f2⟩ := (h1.blkm (b := m) (.tail _ (.tail _ (.tail _ (.head _))))).three; obtain ⟨q0, q1, q2, q3, q4, -⟩ := blk5 (h1.blkm (b := m + 1) (.tail _ (.tail _ (.head _))))
  have KAT := Lib.hid (at_ref S p id W H2.out (by omega))
  clear h1 hW hm
  have hwn : IntKind.i64.wrap (S.nx + 1) = S.nx + 1 := by rw [IntKind.wrap_i64]; omega
  have hs := St.sh [_, _, _, _] [3, 0, 1, 2] (by decide) H1.out; simp only [List.map_cons, List.map_nil, List.getD_cons_zero, List.getD_cons_succ, List.cons_append, List.nil_append] at hs
  have hs1 := hs.set 2 (.int .i64 (S.nx + 1))
  simp only [List.setIfInBounds_toArray, List.set_cons_zero, List.set_cons_succ] at hs1
  have hs2 := St.sh [_, _, _, _] [1, 2, 3, 0] (by decide) hs1; simp only [List.map_cons, List.map_nil, List.getD_cons_zero, List.getD_cons_succ, List.cons_append, List.nil_append] at hs2
  obtain ⟨w2, hw2⟩ : ∃ w2, W.setCell ⟨m, 2, none⟩ (.int .i64 (S.nx + 1)) = w2 := ⟨_, rfl⟩
  rw [hw2] at hs2
  have HQ2 := Lib.hid hs2
  have HW2 := Lib.hid hw2
  clear hs hs1 hs2 hw2
  go_upto_region 4 with fail
  rw [HW2.out]
  clear c0 c1 c2 f0 f1 f2 q0 q1 q2 q3 q4
  obtain ⟨c0, c1, c2, f0, f1, f2⟩ := (HQ2.out.blkm (b := m) (.tail _ (.tail _ (.tail _ (.head _))))).three; obtain ⟨q0, q1, q2, q3, q4, -⟩ := blk5 (HQ2.out.blkm (b := m + 1) (.tail _ (.tail _ (.head _))))
  have HRT := Lib.hid (HA.out.below HQ2.out.bel).ts
  have HNO := Lib.hid (K.Own.nil (Below.refl w2.heap.size w2) 36 4)
  go_upto_region 6 with (refine wpList_append_own' rfl (.tmp 30) (.tmp 32) 26 rfl elX none 0 0 [] rfl HNO.out _ S.txs.length _ _ rfl HRT.out (by omega) (by omega) ?_; intro s3 c3 w3 p1 p2 p3; have HQ := Lib.hid p1; clear p1 p2 p3; try simp only [Nat.zero_add, List.nil_append])
  rw [Nat.zero_add, List.nil_append] at HQ
  have H3 := Lib.hid (HQ2.out.of_below HQ.out.bel)
  clear c0 c1 c2 f0 f1 f2 q0 q1 q2 q3 q4
  obtain ⟨c0, c1, c2, f0, f1, f2⟩ := (H3.out.blkm (b := m) (.tail _ (.tail _ (.tail _ (.head _))))).three; obtain ⟨q0, q1, q2, q3, q4, -⟩ := blk5 (H3.out.blkm (b := m + 1) (.tail _ (.tail _ (.head _))))
  have H3a := Lib.hid (HQ.out.alloc (.cells #[.int .i64 (S.nx + 1), .string o.key, .bool o.wr, .slice none 0 0] 36))
  have r2 := rd_built_at w3 #[.int .i64 (S.nx + 1), .string o.key, .bool o.wr, .slice none 0 0] 36 4 1 w3.heap.size rfl rfl (by simp [Value.oneCell'])
  go_upto_region 7 with (refine wpList_append_own' rfl (.tmp 34) (.tmp 42) 26 rfl elX s3 _ c3 _ rfl H3a.out _ 1 _ _ rfl r2 (by omega) (by omega) ?_; intro sA cA w4 p1 p2 p3; have HQ4 := Lib.hid p1; clear p1 p2 p3; have hj := join_own HQ2.out HQ4.out; have h4 := St.sh [_, _, _, _, _] [1, 2, 3, 4, 0] (by decide) hj; simp only [List.map_cons, List.map_nil, List.getD_cons_zero, List.getD_cons_succ, List.cons_append, List.nil_append] at h4; clear c0 c1 c2 f0 f1 f2 q0 q1 q2 q3 q4; obtain ⟨c0, c1, c2, f0, f1, f2⟩ := (h4.blkm (b := m) (.tail _ (.tail _ (.tail _ (.head _))))).three; obtain ⟨q0, q1, q2, q3, q4, -⟩ := blk5 (h4.blkm (b := m + 1) (.tail _ (.tail _ (.head _)))); have H4 := Lib.hid h4; clear h4 hj)
  have hs := St.sh [_, _, _, _, _] [3, 0, 1, 2, 4] (by decide) H4.out; simp only [List.map_cons, List.map_nil, List.getD_cons_zero, List.getD_cons_succ, List.cons_append, List.nil_append] at hs
  have hs1 := hs.set 1 (.slice sA (S.txs.length + 1) cA)
  simp only [List.setIfInBounds_toArray, List.set_cons_zero, List.set_cons_succ] at hs1
  have hs2 := St.sh [_, _, _, _, _] [1, 2, 3, 0, 4] (by decide) hs1; simp only [List.map_cons, List.map_nil, List.getD_cons_zero, List.getD_cons_succ, List.cons_append, List.nil_append] at hs2
  obtain ⟨w5, hw5⟩ : ∃ w5, w4.setCell ⟨m, 1, none⟩ (.slice sA (S.txs.length + 1) cA) = w5 := ⟨_, rfl⟩
  rw [hw5] at hs2 ⊢
  have H5 := Lib.hid hs2
  clear hs hs1 hs2 hw5 c0 c1 c2 f0 f1 f2 q0 q1 q2 q3 q4
  obtain ⟨wd, hwd⟩ : ∃ wd, w5.drew = wd := ⟨_, rfl⟩
  have hd := H5.out.drew
  rw [hwd] at hd
  have HD := Lib.hid hd
  obtain ⟨c0, c1, c2, f0, f1, f2⟩ := (hd.blkm (b := m) (.tail _ (.tail _ (.tail _ (.head _))))).three; obtain ⟨q0, q1, q2, q3, q4, -⟩ := blk5 (hd.blkm (b := m + 1) (.tail _ (.tail _ (.head _))))
  have hS : (fun w' : World => w'.cell? ⟨m, 0, none⟩ = some (.slice p.sp S.pairs.length p.cp) ∧ w'.cell? ⟨m, 1, none⟩ = some (.slice sA (S.txs.length + 1) cA) ∧ w'.cell? ⟨m, 2, none⟩ = some (.int .i64 (S.nx + 1))) wd := ⟨c0, c1, c2⟩
  clear hd
  refine wpLast.region (S := (fun w' : World => w'.cell? ⟨m, 0, none⟩ = some (.slice p.sp S.pairs.length p.cp) ∧ w'.cell? ⟨m, 1, none⟩ = some (.slice sA (S.txs.length + 1) cA) ∧ w'.cell? ⟨m, 2, none⟩ = some (.int .i64 (S.nx + 1)))) (c := 5) (by kernel_rfl) ?_
  rw [hwd]
  clear hwd c0 c1 c2 f0 f1 f2 q0 q1 q2 q3 q4
  refine' wpLast.take_c (i := 0) (v := _) [4] rfl (by kernel_rfl) (fun _ _ _ h => h) (by kernel_rfl) _ _ _ _ (by kernel_rfl) (by kernel_rfl) (by kernel_rfl) (Or.inl ⟨by rfl, ?hy0⟩) hS ?rest0
  case hy0 => (intro w' hSw; obtain ⟨k0, k1, k2⟩ := hSw; go_simp; try with_reducible rfl)
  try simp only [Act.put, List.setIfInBounds_toArray, List.set_cons_zero, List.set_cons_succ]
  refine' wpLast.take_c (i := 1) (v := _) [3, 2] rfl (by kernel_rfl) (fun _ _ _ h => h) (by kernel_rfl) _ _ _ _ (by kernel_rfl) (by kernel_rfl) (by kernel_rfl) (Or.inl ⟨by rfl, ?hy1⟩) hS ?rest1
  case hy1 => (intro w' hSw; obtain ⟨k0, k1, k2⟩ := hSw; go_simp; try with_reducible rfl)
  try simp only [Act.put, List.setIfInBounds_toArray, List.set_cons_zero, List.set_cons_succ]
  refine' wpLast.take_c (i := 2) (v := _) [3] rfl (by kernel_rfl) (fun _ _ _ h => h) (by kernel_rfl) _ _ _ _ (by kernel_rfl) (by kernel_rfl) (by kernel_rfl) (Or.inl ⟨by rfl, ?hy2⟩) hS ?rest2
  case hy2 => (intro w' hSw; obtain ⟨k0, k1, k2⟩ := hSw; go_simp; try with_reducible rfl)
  try simp only [Act.put, List.setIfInBounds_toArray, List.set_cons_zero, List.set_cons_succ]
  refine' wpLast.take_c (i := 3) (v := _) [] rfl (by kernel_rfl) (fun _ _ _ h => h) (by kernel_rfl) _ _ _ _ (by kernel_rfl) (by kernel_rfl) (by kernel_rfl) (Or.inl ⟨by rfl, ?hy3⟩) hS ?rest3
  case hy3 => (intro w' hSw; obtain ⟨k0, k1, k2⟩ := hSw; go_simp; try with_reducible rfl)
  try simp only [Act.put, List.setIfInBounds_toArray, List.set_cons_zero, List.set_cons_succ]
  obtain ⟨e0, e1, e2, j0, j1, j2⟩ := (HD.out.blkm (b := m + 1 + 1) (.head _)).three; obtain ⟨s0, s1, s2, s3, s4, g0, g1, g2, g3, g4⟩ := blk5 (HD.out.blkm (b := m + 1 + 1 + 1) (.tail _ (.head _)))
  obtain ⟨W9, hW9, hf, hfr⟩ := fin_st HD.out (.slice p.sp S.pairs.length p.cp) (.slice sA (S.txs.length + 1) cA) (.int .i64 (S.nx + 1)) (.int .i64 (S.nx + 1)) (.string { data := #[] }) (.bool false) (.slice none 0 0) (.int .i64 0); have HW9 := Lib.hid hW9; have HF := Lib.hid hf; have HFR := Lib.hid hfr; clear hW9 hf hfr
  refine wpLast.one (i := 4) rfl (by kernel_rfl) ?_
  intro K' hK; have HK' := Lib.hid hK; clear hK
  go_simp
  have hS6 : (fun w' : World => w'.cell? ⟨m, 0, none⟩ = some (.slice p.sp S.pairs.length p.cp) ∧ w'.cell? ⟨m, 1, none⟩ = some (.slice sA (S.txs.length + 1) cA) ∧ w'.cell? ⟨m, 2, none⟩ = some (.int .i64 (S.nx + 1))) (((wd.setCell ⟨m + 1 + 1, 0, none⟩ (.slice p.sp S.pairs.length p.cp)).setCell ⟨m + 1 + 1, 1, none⟩ (.slice sA (S.txs.length + 1) cA)).setCell ⟨m + 1 + 1, 2, none⟩ (.int .i64 (S.nx + 1))) := by
    obtain ⟨k0, k1, k2⟩ := hS
    have hfr := fr3 wd (m + 1 + 1) (.slice p.sp S.pairs.length p.cp) (.slice sA (S.txs.length + 1) cA) (.int .i64 (S.nx + 1))
    exact ⟨hfr.cell k0 (by simp; omega), hfr.cell k1 (by simp; omega), hfr.cell k2 (by simp; omega)⟩
  refine HK'.out _ _ ⟨fun _ => hS6, ?_⟩
  clear HK' K' hS6 hS
  try simp only [Act.put, List.setIfInBounds_toArray, List.set_cons_zero, List.set_cons_succ]
  refine wpLast.one (i := 5) rfl (by kernel_rfl) ?_
  intro K' hK; have HK' := Lib.hid hK; clear hK
  go_simp
  refine HK'.out _ _ ⟨fun h => absurd rfl h, ?_⟩
  clear HK' K'
  try simp only [Act.put, List.setIfInBounds_toArray, List.set_cons_zero, List.set_cons_succ]
  refine wpLast.done (by kernel_rfl) ?_
  go_wp2_with fail
  rw [HW9.out]
  obtain ⟨t0, t1, t2, t3, t4, t5, t6, t7⟩ := fin_rd HF.out
  refine bodyPost_ret (v := .tuple #[.agg #[.slice p.sp S.pairs.length p.cp, .slice sA (S.txs.length + 1) cA, .int .i64 (S.nx + 1)], .agg #[.int .i64 (S.nx + 1), .string { data := #[] }, .bool false, .slice none 0 0, .int .i64 0]]) (by simp [results, Try.results20, go_sem, t0, t1, t2, t3, t4, t5, t6, t7]) rfl ?_
  show RdPost (openS S o.key o.wr) ⟨S.nx + 1, .empty, false, [], 0⟩ p w _ _
  have hsT := HF.out.slm (e := 36) (sz := 4) (s := sA) (n := S.txs.length + 1) (c := cA) (.tail _ (.tail _ (.tail _ (.tail _ (.head _)))))
  have hw0 := H00.out.below HF.out.bel
  have hnil := HIV.out.nil
  have hlen : (openS S o.key o.wr).txs.length = S.txs.length + 1 := by simp [openS]
  refine ⟨⟨p.sp, p.cp, sA, cA, if S.txs = [] then none else p.sc, if S.txs = [] then 0 else p.cc⟩, none, 0, by rw [← hlen]; rfl, ⟨⟨rfl, hw0.rf.ps, ?_, ?_⟩, hw0.pc, fun r hr => ?_⟩, rd_nil _ _, (by intro r hr; cases hr), fun r hr => ?_, HF.out.bel⟩
  · rw [hlen]
    have h1 := hsT.rd
    by_cases h0 : S.txs = []
    · simp only [h0, if_true, List.length_nil, Nat.zero_add] at h1 ⊢
      have e : (openS S o.key o.wr).txs = [⟨S.nx + 1, o.key, o.wr⟩] := by show S.txs ++ _ = _; rw [h0]; rfl
      have e2 : (openS S o.key o.wr).cs = [] := hnil h0
      rw [e, e2]
      exact h1
    · simp only [h0, if_false]
      have e : (openS S o.key o.wr).txs = S.txs ++ [⟨S.nx + 1, o.key, o.wr⟩] := rfl
      rw [e, yz_app _ _ _ h0, flat_append]
      exact h1
  · by_cases h0 : S.txs = []
    · simp only [h0, if_true]
      have e2 : (openS S o.key o.wr).cs = [] := hnil h0
      rw [e2]
      exact ⟨by simp [flat], by simp [flat], fun _ => by simp [flat], by simp⟩
    · simp only [h0, if_false]
      exact hw0.rf.cs
  · rcases hr with q | q | q
    · exact hw0.rows r (.inl q)
    · exact hsT.lt r q
    · by_cases h0 : S.txs = []
      · simp only [h0, if_true] at q; cases q
      · simp only [h0, if_false] at q; exact hw0.rows r (.inr (.inr q))
  · rcases hr with q | q | q
    · exact .inl (.inl q)
    · exact .inr ⟨rowO_new HF.out r q, hsT.lt r q⟩
    · by_cases h0 : S.txs = []
      · simp only [h0, if_true] at q; cases q
      · simp only [h0, if_false] at q; exact .inl (.inr (.inr q))

set_option maxRecDepth 100000 in
set_option maxHeartbeats 4000000 in
theorem d_leave (S : SS) (p : Sp) (o : Op') (id : Int) (w : World) (n : Nat) (h : Rw w S p) (ho : o.ok) (hi : Iv n S) (hn : n ≤ 60) (hk : o.kd % 9 = 8)  :
    Calls Try.prog 20 #[rv p S, .agg #[.int .u8 o.kd, .int .u8 o.tx, .string o.key, .string o.val, .bool o.wr], .int .i64 id] w (RdPost (leaveS S o.key) ⟨(S.txs.length : Int) - ((leaveS S o.key).txs.length : Int), .empty, false, [], 0⟩ p w) := by
  have HA := Lib.hid h.rf
  have H00 := Lib.hid h
  have HIV := Lib.hid hi
  have htl : S.txs.length ≤ 60 := by have := hi.tl; omega
  have hpl : S.pairs.length ≤ 60 := by have := hi.ln; omega
  have hcl : S.cs.length ≤ 60 := by have := hi.ln; omega
  have hnx : 0 ≤ S.nx ∧ S.nx ≤ 60 := ⟨hi.nx0, by have := hi.nx1; omega⟩
  obtain ⟨ok1, ok2, ok3, ok4⟩ := ho
  have hw1 : IntKind.i64.wrap o.kd = o.kd := by rw [IntKind.wrap_i64]; omega
  have ht : o.kd.tmod 9 = 8 := by rw [Int.tmod_eq_emod_of_nonneg ok1]; exact hk
  clear h hi hk
  go_enter Try.func20, Try.ntmps20
  go_upto_region 1 with fail
  have h1 := St.sh [_, _, _, _] [1, 0, 2, 3] (by decide) (((((St.start w (Below.refl _ w)).new #[.slice p.sp S.pairs.length p.cp, .slice p.st S.txs.length p.ct, .int .i64 S.nx] 43).new #[.int .u8 o.kd, .int .u8 o.tx, .string o.key, .string o.val, .bool o.wr] 45).new #[.slice none 0 0, .slice none 0 0, .int .i64 0] 43).new #[.int .i64 0, .string { data := #[] }, .bool false, .slice none 0 0, .int .i64 0] 49)
  simp only [List.map_cons, List.map_nil, List.getD_cons_zero, List.getD_cons_succ, List.cons_append, List.nil_append] at h1
  obtain ⟨W, hW⟩ : ∃ W, (((w.alloc (.cells #[.slice p.sp S.pairs.length p.cp, .slice p.st S.txs.length p.ct, .int .i64 S.nx] 43)).alloc (.cells #[.int .u8 o.kd, .int .u8 o.tx, .string o.key, .string o.val, .bool o.wr] 45)).alloc (.cells #[.slice none 0 0, .slice none 0 0, .int .i64 0] 43)).alloc (.cells #[.int .i64 0, .string { data := #[] }, .bool false, .slice none 0 0, .int .i64 0] 49) = W := ⟨_, rfl⟩
  obtain ⟨m, hm⟩ : ∃ m, w.heap.size = m := ⟨_, rfl⟩
  simp only [World.size_alloc] at h1
  rw [hW, hm] at h1
  try simp only [World.size_alloc]
  try simp only [hW, hm]
  have H1 := Lib.hid h1
  have H2 := Lib.hid (HA.out.below h1.bel)
  obtain ⟨c0, c1, c2, f0, f1, f2⟩ := (h1.blkm (b := m) (.tail _ (.tail _ (.tail _ (.head _))))).three; obtain ⟨q0, q1, q2, q3, q4, -⟩ := blk5 (h1.blkm (b := m + 1) (.tail _ (.tail _ (.head _))))
  have KAT := Lib.hid (at_ref S p id W H2.out (by omega))
  clear h1 hW hm
  have hwm : IntKind.i64.wrap ((S.txs.length : Int) - 1) = (S.txs.length : Int) - 1 := by rw [IntKind.wrap_i64]; omega
  have hm3 : w.heap.size ≤ m ∧ m < W.heap.size := by
    have h := St.sh [_, _, _, _] [3, 0, 1, 2] (by decide) H1.out
    simp only [List.map_cons, List.map_nil, List.getD_cons_zero, List.getD_cons_succ, List.cons_append, List.nil_append] at h
    exact ⟨h.blk.2, h.blk.1.lt⟩
  have HM3 := Lib.hid hm3
  clear hm3
  go_wp2_with fail
  go_loopg [10, 11] S.txs.length (LvR S o.key p o m w W)
  case atStart =>
    refine ⟨S.txs.length, S, p, rfl, Nat.le_refl _, ls_all S _ HIV.out.nil, rfl, by simp, H1.out, H00.out.below H1.out.bel, NewS.refl _ _ _, Nat.le_refl _⟩
  case round =>
    clear c0 c1 c2 f0 f1 f2 q0 q1 q2 q3 q4
    obtain ⟨j, S', p', hg, hj, hls, rfl, rfl, hst, hrw, hns, hsz⟩ := hrel
    have Hg := Lib.hid hg
    have HLS := Lib.hid hls
    have H3 := Lib.hid hst
    have HR3 := Lib.hid hrw
    have HN3 := Lib.hid hns
    have HZ3 := Lib.hid hsz
    have hll := ls_len S o.key j hj
    rw [hls] at hll
    clear hg hls hst hrw hns hsz
    obtain ⟨c0, c1, c2, f0, f1, f2⟩ := (H3.out.blkm (b := m) (.tail _ (.tail _ (.tail _ (.head _))))).three; obtain ⟨q0, q1, q2, q3, q4, -⟩ := blk5 (H3.out.blkm (b := m + 1) (.tail _ (.tail _ (.head _))))
    by_cases hj0 : j = 0
    · subst hj0
      have hneg : ¬ ((0 : Int) ≤ ((0 : Nat) : Int) - 1) := by omega
      obtain ⟨e0, e1, e2, j0, j1, j2⟩ := (H3.out.blkm (b := m + 1 + 1) (.head _)).three; obtain ⟨s0, s1, s2, s3, s4, g0, g1, g2, g3, g4⟩ := blk5 (H3.out.blkm (b := m + 1 + 1 + 1) (.tail _ (.head _)))
      obtain ⟨W9, hW9, hf, hfr⟩ := fin_st H3.out (.slice p'.sp S'.pairs.length p'.cp) (.slice p'.st S'.txs.length p'.ct) (.int .i64 S'.nx) (.int .i64 ((S.txs.length : Int) - (S'.txs.length : Int))) (.string { data := #[] }) (.bool false) (.slice none 0 0) (.int .i64 0); have HW9 := Lib.hid hW9; have HF := Lib.hid hf; have HFR := Lib.hid hfr; clear hW9 hf hfr
      go_wp2_with fail
      rw [HW9.out]
      obtain ⟨t0, t1, t2, t3, t4, t5, t6, t7⟩ := fin_rd HF.out
      refine bodyPost_ret (v := .tuple #[.agg #[.slice p'.sp S'.pairs.length p'.cp, .slice p'.st S'.txs.length p'.ct, .int .i64 S'.nx], .agg #[.int .i64 ((S.txs.length : Int) - (S'.txs.length : Int)), .string { data := #[] }, .bool false, .slice none 0 0, .int .i64 0]]) (by simp [results, Try.results20, go_sem, t0, t1, t2, t3, t4, t5, t6, t7]) rfl ?_
      have hle : leaveS S o.key = S' := by rw [← HLS.out, ls_zero]
      show RdPost (leaveS S o.key) ⟨(S.txs.length : Int) - ((leaveS S o.key).txs.length : Int), .empty, false, [], 0⟩ p w _ _
      rw [hle]
      have hm := mlt H1.out
      exact rd_new H00.out HR3.out HN3.out H1.out.bel.size hm.1 hm.2 HFR.out HF.out.bel _ _ _ _
    · obtain ⟨i, hi⟩ : ∃ i, j = i + 1 := ⟨j - 1, by omega⟩
      subst hi
      have hiS : i < S.txs.length := by omega
      have hi' : i < S'.txs.length := by omega
      have hci : ((i + 1 : Nat) : Int) - 1 = (i : Int) := by omega
      have hge : (0 : Int) ≤ (i : Int) := by omega
      have hiI : (i : Int) < (S'.txs.length : Int) := by omega
      rw [hci]
      obtain ⟨g, o2, hst, -⟩ := HR3.out.rf.ts.addr (by omega)
      obtain ⟨t, ht⟩ : ∃ t, S.txs[i] = t := ⟨_, rfl⟩
      have ht' : S'.txs[i] = t := by
        have h := HLS.out
        subst h
        rw [ls_get S o.key i hiS hi', ht]
      have hyx := yz_get (.slice p'.sc S'.cs.length p'.cc) S'.txs i hi'
      rw [ht'] at hyx
      obtain ⟨-, d1, -, -⟩ := y_at (hst ▸ HR3.out.rf.ts) (by rw [yz_len]; exact hi') _ hyx
      simp only at d1
      have HST := Lib.hid hst
      have HT := Lib.hid ht
      rw [hst] at c1
      obtain ⟨u, hu⟩ : ∃ u, (t.ow.toList == o.key.toList) = u := ⟨_, rfl⟩
      have HU := Lib.hid (show isOw o.key S.txs[i] = u by rw [ht]; exact hu)
      have hw1 : IntKind.i64.wrap ((i : Int) - 1) = (i : Int) - 1 := by rw [IntKind.wrap_i64]; omega
      have hw2 : IntKind.i64.wrap ((S.txs.length : Int) - (S'.txs.length : Int) + 1) = (S.txs.length : Int) - (S'.txs.length : Int) + 1 := by rw [IntKind.wrap_i64]; omega
      clear hyx ht' ht hst hci
      go_upto_region 13 with fail
      go_quiet (fail)
      obtain ⟨wq, hwq⟩ : ∃ wq, wr.drewN nq = wq := ⟨_, rfl⟩
      have h4 := H3.out.drewN nq
      have hbq : Below wr.heap.size wr wq := by rw [← hwq]; exact ⟨rfl, rfl, rfl, Nat.le_refl _, fun _ _ => rfl⟩
      rw [hwq] at h4 ⊢
      have H4 := Lib.hid h4
      have HR4 := Lib.hid (HR3.out.below hbq)
      have HN4 := Lib.hid (NewS.trans HN3.out (NewS.refl wr wq p') HZ3.out hbq.size)
      have HZ4 := Lib.hid (Nat.le_trans HZ3.out hbq.size)
      clear hwq h4 hbq d1 hu c0 c1 c2 f0 f1 f2 q0 q1 q2 q3 q4
      obtain ⟨c0, c1, c2, f0, f1, f2⟩ := (H4.out.blkm (b := m) (.tail _ (.tail _ (.tail _ (.head _))))).three; obtain ⟨q0, q1, q2, q3, q4, -⟩ := blk5 (H4.out.blkm (b := m + 1) (.tail _ (.tail _ (.head _))))
      cases u with
      | true =>
        have hdr := ls_drop S o.key i hiS HU.out
        rw [HLS.out] at hdr
        have hdl := drop_len S' i hi'
        have KD := Lib.hid (drop_ref S' p' i wq HR4.out (by omega) hi')
        obtain ⟨S2, hS2⟩ : ∃ S2, dropS S' i = S2 := ⟨_, rfl⟩
        rw [hS2] at KD hdr hdl
        have HDR := Lib.hid hdr
        have HDL := Lib.hid hdl
        clear hdr hS2 hdl
        go_upto_region 15 with (go_at_call 38; refine (KD.out).mono ?_; rintro e w5 ⟨q', rfl, hr5, hn5, hb5⟩; have H5 := Lib.hid (H4.out.of_below hb5); have HR5 := Lib.hid hr5; have HN5 := Lib.hid (NewS.trans HN4.out hn5 HZ4.out hb5.size); have HZ5 := Lib.hid (Nat.le_trans HZ4.out hb5.size); clear c0 c1 c2 f0 f1 f2 q0 q1 q2 q3 q4; obtain ⟨c0, c1, c2, f0, f1, f2⟩ := (H5.out.blkm (b := m) (.tail _ (.tail _ (.tail _ (.head _))))).three; obtain ⟨q0, q1, q2, q3, q4, -⟩ := blk5 (H5.out.blkm (b := m + 1) (.tail _ (.tail _ (.head _)))); clear hb5 hr5 hn5)
        have hs := St.sh [_, _, _, _] [3, 0, 1, 2] (by decide) H5.out; simp only [List.map_cons, List.map_nil, List.getD_cons_zero, List.getD_cons_succ, List.cons_append, List.nil_append] at hs
        have hs1 := hs.set3 (.slice q'.sp S2.pairs.length q'.cp) (.slice q'.st S2.txs.length q'.ct) (.int .i64 S2.nx)
        have hs2 := St.sh [_, _, _, _] [1, 2, 3, 0] (by decide) hs1; simp only [List.map_cons, List.map_nil, List.getD_cons_zero, List.getD_cons_succ, List.cons_append, List.nil_append] at hs2
        have hfr6 := fr3 w5 m (.slice q'.sp S2.pairs.length q'.cp) (.slice q'.st S2.txs.length q'.ct) (.int .i64 S2.nx)
        obtain ⟨w6, hw6⟩ : ∃ w6, (((w5.setCell ⟨m, 0, none⟩ (.slice q'.sp S2.pairs.length q'.cp)).setCell ⟨m, 1, none⟩ (.slice q'.st S2.txs.length q'.ct)).setCell ⟨m, 2, none⟩ (.int .i64 S2.nx)) = w6 := ⟨_, rfl⟩
        rw [hw6] at hs2 hfr6 ⊢
        have hrm : ∀ r, (rowOf q'.sp = some r ∨ rowOf q'.st = some r ∨ rowOf q'.sc = some r) → r ≠ m := by
          intro r hr e
          have hm := HM3.out
          rcases HN5.out r hr with k | k
          · have := H00.out.rows r k
            omega
          · omega
        have HR6 := Lib.hid (HR5.out.kept hfr6 (fun r hr e => hrm r hr e))
        have HN6 := Lib.hid (show NewS W w6 p q' from fun r hr => by
          rcases HN5.out r hr with k | k
          · exact .inl k
          · exact .inr ⟨k.1, Nat.lt_of_lt_of_le k.2 hfr6.size⟩)
        have HZ6 := Lib.hid (Nat.le_trans HZ5.out hfr6.size)
        have H6 := Lib.hid hs2
        clear hs hs1 hs2 hw6 hfr6 hrm c0 c1 c2 f0 f1 f2 q0 q1 q2 q3 q4
        obtain ⟨c0, c1, c2, f0, f1, f2⟩ := (H6.out.blkm (b := m) (.tail _ (.tail _ (.tail _ (.head _))))).three; obtain ⟨q0, q1, q2, q3, q4, -⟩ := blk5 (H6.out.blkm (b := m + 1) (.tail _ (.tail _ (.head _))))
        go_wp2_with fail
        go_roundg i
        case measure => have := Hg.out; omega
        case rel => exact ⟨i, S2, q', rfl, by omega, HDR.out.symm, rfl, by have hdl := HDL.out; have : (S.txs.length : Int) - (S'.txs.length : Int) + 1 = (S.txs.length : Int) - (S2.txs.length : Int) := (by omega); rw [this], H6.out, HR6.out, HN6.out, HZ6.out⟩
      | false =>
        have hsy := ls_stay S o.key i hiS HU.out
        rw [HLS.out] at hsy
        have HSY := Lib.hid hsy
        clear hsy
        go_wp2_with fail
        go_roundg i
        case measure => have := Hg.out; omega
        case rel => exact ⟨i, S', p', rfl, by omega, HSY.out.symm, rfl, rfl, H4.out, HR4.out, HN4.out, HZ4.out⟩

end Go.Proofs.Ytcglnjklnlejmaa
