/-
  The law's do: one operation.
-/
import Derived.Test.YtcglnjklnlejmaaSl
set_option linter.unusedVariables false
set_option linter.unusedSimpArgs false
namespace Go.Proofs.Ytcglnjklnlejmaa
open Go.RowKit Go.K Go.K.Sr

structure Op' where
  kd : Int
  tx : Int
  key : ByteArray
  val : ByteArray
  wr : Bool
def Op'.ok (o : Op') : Prop := 0 ≤ o.kd ∧ o.kd ≤ 255 ∧ 0 ≤ o.tx ∧ o.tx ≤ 255
structure Rs where
  id : Int
  v : ByteArray
  ok : Bool
  l : List ByteArray
  err : Int
/-- what every operation wants of a store -/
structure Gd (M : Nat) (S : SS) : Prop where
  pa : Asc Pr.k S.pairs
  ca : Asc Ch.k S.cs
  pl : S.pairs.length ≤ 10000
  cl : S.cs.length ≤ 10000
  tl2 : S.txs.length ≤ 9000
  nx0 : 0 ≤ S.nx
  nx1 : S.nx ≤ 100000
  nil : S.txs = [] → S.cs = []
theorem Gd.tl {M : Nat} {S : SS} (h : Gd M S) : S.txs.length ≤ 100000 := by have := h.tl2; omega
theorem Gd.sz {M : Nat} {S : SS} (h : Gd M S) (x : Ch) (hx : sizeP (content S.pairs (withC x S.cs)) ≤ 4611686018427387904) : sizeP (content S.pairs (withC x S.cs)) ≤ 4611686018427387904 := hx
theorem blk5 {w : World} {b : Nat} {a0 a1 a2 a3 a4 : Value} {t : TypeId} (h : Blk w b #[a0, a1, a2, a3, a4] t) :
    w.cell? ⟨b, 0, none⟩ = some a0 ∧ w.cell? ⟨b, 1, none⟩ = some a1 ∧ w.cell? ⟨b, 2, none⟩ = some a2 ∧ w.cell? ⟨b, 3, none⟩ = some a3 ∧ w.cell? ⟨b, 4, none⟩ = some a4 ∧
    w.frozen? ⟨b, 0, none⟩ = false ∧ w.frozen? ⟨b, 1, none⟩ = false ∧ w.frozen? ⟨b, 2, none⟩ = false ∧ w.frozen? ⟨b, 3, none⟩ = false ∧ w.frozen? ⟨b, 4, none⟩ = false :=
  ⟨h.cell 0, h.cell 1, h.cell 2, h.cell 3, h.cell 4, h.free 0, h.free 1, h.free 2, h.free 3, h.free 4⟩
def errN (o : Option Nat) : Int := if o = none then 6 else 0
def abortS (S : SS) (id : Int) : SS := match fnd id S.txs with | some k => dropS S k | none => S
theorem abort_e {w0 w : World} {L : List As} {b : Nat} {S : SS} (id : Int) (h : SAt b S w0 w L) (hn : S.txs.length ≤ 100000) :
    Calls Try.prog 24 #[.pointer (some ⟨b, 0, none⟩), .int .i64 id] w fun e w' => e = .returned (.int .i64 (errN (fnd id S.txs))) ∧ SAt b (abortS S id) w0 w' L := abort_st id h hn
theorem ready_e (b : Nat) (id : Int) (cv : Value) (txs : List Tx) (s : Option Addr) (c : Nat) (w : World) (hb : w.cell? ⟨b, 1, none⟩ = some (.slice s txs.length c)) (hr : Sl w 36 4 s txs.length c (flat ycells (yz cv txs))) (hn : txs.length ≤ 100000) :
    Calls Try.prog 26 #[.pointer (some ⟨b, 0, none⟩), .int .i64 id] w fun e w' => e = .returned (.tuple #[.bool (turnE id txs), .int .i64 (errN (fnd id txs))]) ∧ Below w.heap.size w w' := ready_any b id cv txs s c w hb hr hn
def DoPost (b : Nat) (S' : SS) (R : Rs) (w0 : World) (L : List As) (e : Ending) (w' : World) : Prop :=
  ∃ s c, e = .returned (.agg #[.int .i64 R.id, .string R.v, .bool R.ok, .slice s R.l.length c, .int .i64 R.err]) ∧ SAt b S' w0 w' (As.row 9 1 s R.l.length c (strs R.l) :: L)
theorem join_own {w0 w w' : World} {L : List As} {e : TypeId} {sz : Nat} {s : Option Addr} {n c : Nat} {xs : List Value} (h : St w0 w L) (k : K.Own w w' e sz s n c xs) : St w0 w' (As.row e sz s n c xs :: L) := by
  refine h.row_new k.sl (Fr.of_below k.bel) ?_
  cases hs : rowOf s with
  | none => exact .inl rfl
  | some g => exact .inr ⟨g, rfl, k.row g hs⟩

set_option maxRecDepth 100000 in
set_option maxHeartbeats 1000000 in
theorem do0_st {w0 w : World} {L : List As} {b : Nat} {S : SS} (o : Op') (id : Int) (M : Nat) (hk : o.kd % 9 = 0) (ho : o.ok) (h : SAt b S w0 w L) (hg : Gd M S)  :
    Calls Try.prog 22 #[.pointer (some ⟨b, 0, none⟩), .agg #[.int .u8 o.kd, .int .u8 o.tx, .string o.key, .string o.val, .bool o.wr], .int .i64 id] w (DoPost b (openS S o.key o.wr) { id := (S.nx + 1), v := { data := #[] }, ok := false, l := [], err := 0 } w0 L) := by
  obtain ⟨p, h⟩ := h
  have h1 := St.sh [_, _, _, _, _, _, _] [3, 4, 5, 6, 2, 1, 0] (by decide) (((h.new #[.int .u8 o.kd, .int .u8 o.tx, .string o.key, .string o.val, .bool o.wr] 45).new #[.int .i64 0, .string { data := #[] }, .bool false, .slice none 0 0, .int .i64 0] 49).new #[.int .i64 0, .string { data := #[] }, .bool false, .slice none 0 0, .int .i64 0] 49)
  simp only [List.map_cons, List.map_nil, List.getD_cons_zero, List.getD_cons_succ, List.cons_append, List.nil_append, World.size_alloc] at h1
  obtain ⟨W, hW⟩ : ∃ W, ((w.alloc (.cells #[.int .u8 o.kd, .int .u8 o.tx, .string o.key, .string o.val, .bool o.wr] 45)).alloc (.cells #[.int .i64 0, .string { data := #[] }, .bool false, .slice none 0 0, .int .i64 0] 49)).alloc (.cells #[.int .i64 0, .string { data := #[] }, .bool false, .slice none 0 0, .int .i64 0] 49) = W := ⟨_, rfl⟩
  rw [hW] at h1
  obtain ⟨m, hm⟩ : ∃ m, w.heap.size = m := ⟨_, rfl⟩
  rw [hm] at h1
  have H := Lib.hid (show SAt b S w0 W _ from ⟨p, h1⟩)
  have HSL := Lib.hid h1.swap.sl
  have C1 := Lib.hid h1.blk.1.three.2.1
  have hb4 := h1.blkm (b := m) (.tail _ (.tail _ (.tail _ (.tail _ (.head _)))))
  obtain ⟨k0, k1, k2, k3, k4, -⟩ := blk5 hb4
  obtain ⟨ok1, ok2, ok3, ok4⟩ := ho
  have hw1 : IntKind.i64.wrap o.kd = o.kd := by rw [IntKind.wrap_i64]; omega
  have ht : o.kd.tmod 9 = 0 := by rw [Int.tmod_eq_emod_of_nonneg ok1]; exact hk
  clear h h1 hb4 hk
  go_enter Try.func22, Try.ntmps22
  go_upto_region 2 with fail
  try rw [hW]
  clear hW
  try simp only [World.size_alloc, hm]
  go_wp2_with (go_at_call 12; refine (open_st o.key o.wr H.out hg.tl hg.nx0 (by have := hg.nx1; omega) hg.nil).mono ?_; rintro e w3 ⟨rfl, h3⟩; obtain ⟨p3, h3⟩ := h3; have h3r := h3.row_nil 9 1; have H3 := Lib.hid h3r; have hb7 := h3r.blkm (b := m + 1 + 1) (.tail _ (.tail _ (.tail _ (.tail _ (.tail _ (.tail _ (.tail _ (.head _)))))))); have hb6 := h3r.blkm (b := m + 1) (.tail _ (.tail _ (.tail _ (.tail _ (.tail _ (.tail _ (.head _))))))); obtain ⟨r0, r1, r2, r3, r4, e0, e1, e2, e3, e4⟩ := blk5 hb7; obtain ⟨s0, s1, s2, s3, s4, g0, g1, g2, g3, g4⟩ := blk5 hb6; clear h3 h3r hb7 hb6)
  have h7 := St.sh [_, _, _, _, _, _, _, _] [7, 0, 1, 2, 3, 4, 5, 6] (by decide) H3.out
  simp only [List.map_cons, List.map_nil, List.getD_cons_zero, List.getD_cons_succ, List.cons_append, List.nil_append] at h7
  have h8 := St.sh [_, _, _, _, _, _, _, _] [7, 0, 1, 2, 3, 4, 5, 6] (by decide) (h7.set 0 (.int .i64 (S.nx + 1)))
  simp only [List.map_cons, List.map_nil, List.getD_cons_zero, List.getD_cons_succ, List.cons_append, List.nil_append] at h8
  have h9 := (((((h8.set 0 (.int .i64 (S.nx + 1))).set 1 (.string { data := #[] })).set 2 (.bool false)).set 3 (.slice none 0 0)).set 4 (.int .i64 0))
  simp only [List.setIfInBounds_toArray, List.set_cons_zero, List.set_cons_succ] at h9
  obtain ⟨W9, hW9⟩ : ∃ W9, ((((((w3.setCell ⟨m + 1 + 1, 0, none⟩ (.int .i64 (S.nx + 1))).setCell ⟨m + 1, 0, none⟩ (.int .i64 (S.nx + 1))).setCell ⟨m + 1, 1, none⟩ (.string { data := #[] })).setCell ⟨m + 1, 2, none⟩ (.bool false)).setCell ⟨m + 1, 3, none⟩ (.slice none 0 0)).setCell ⟨m + 1, 4, none⟩ (.int .i64 0)) = W9 := ⟨_, rfl⟩
  rw [hW9] at h9 ⊢
  obtain ⟨t0, t1, t2, t3, t4, -⟩ := blk5 h9.blk.1
  refine bodyPost_ret (v := .agg #[.int .i64 (S.nx + 1), .string { data := #[] }, .bool false, .slice none 0 0, .int .i64 0]) (by simp [results, Try.results22, go_sem, t0, t1, t2, t3, t4]) rfl ?_
  have h10 := St.sh [_, _, _, _, _, _, _, _] [0, 1, 7, 3, 4, 5, 6, 2] (by decide) h9
  simp only [List.map_cons, List.map_nil, List.getD_cons_zero, List.getD_cons_succ, List.cons_append, List.nil_append] at h10
  exact ⟨none, 0, rfl, p3, h10.drop.drop.drop⟩

set_option maxRecDepth 100000 in
set_option maxHeartbeats 1000000 in
theorem do1_st {w0 w : World} {L : List As} {b : Nat} {S : SS} (o : Op') (id : Int) (M : Nat) (hk : o.kd % 9 = 1) (ho : o.ok) (h : SAt b S w0 w L) (hg : Gd M S)  :
    Calls Try.prog 22 #[.pointer (some ⟨b, 0, none⟩), .agg #[.int .u8 o.kd, .int .u8 o.tx, .string o.key, .string o.val, .bool o.wr], .int .i64 id] w (DoPost b (S) { id := 0, v := (getS S id o.key).1, ok := (getS S id o.key).2.1, l := [], err := (getS S id o.key).2.2 } w0 L) := by
  obtain ⟨p, h⟩ := h
  have h1 := St.sh [_, _, _, _, _, _, _] [3, 4, 5, 6, 2, 1, 0] (by decide) (((h.new #[.int .u8 o.kd, .int .u8 o.tx, .string o.key, .string o.val, .bool o.wr] 45).new #[.int .i64 0, .string { data := #[] }, .bool false, .slice none 0 0, .int .i64 0] 49).new #[.int .i64 0, .string { data := #[] }, .bool false, .slice none 0 0, .int .i64 0] 49)
  simp only [List.map_cons, List.map_nil, List.getD_cons_zero, List.getD_cons_succ, List.cons_append, List.nil_append, World.size_alloc] at h1
  obtain ⟨W, hW⟩ : ∃ W, ((w.alloc (.cells #[.int .u8 o.kd, .int .u8 o.tx, .string o.key, .string o.val, .bool o.wr] 45)).alloc (.cells #[.int .i64 0, .string { data := #[] }, .bool false, .slice none 0 0, .int .i64 0] 49)).alloc (.cells #[.int .i64 0, .string { data := #[] }, .bool false, .slice none 0 0, .int .i64 0] 49) = W := ⟨_, rfl⟩
  rw [hW] at h1
  obtain ⟨m, hm⟩ : ∃ m, w.heap.size = m := ⟨_, rfl⟩
  rw [hm] at h1
  have H := Lib.hid (show SAt b S w0 W _ from ⟨p, h1⟩)
  have HSL := Lib.hid h1.swap.sl
  have C1 := Lib.hid h1.blk.1.three.2.1
  have hb4 := h1.blkm (b := m) (.tail _ (.tail _ (.tail _ (.tail _ (.head _)))))
  obtain ⟨k0, k1, k2, k3, k4, -⟩ := blk5 hb4
  obtain ⟨ok1, ok2, ok3, ok4⟩ := ho
  have hw1 : IntKind.i64.wrap o.kd = o.kd := by rw [IntKind.wrap_i64]; omega
  have ht : o.kd.tmod 9 = 1 := by rw [Int.tmod_eq_emod_of_nonneg ok1]; exact hk
  clear h h1 hb4 hk
  go_enter Try.func22, Try.ntmps22
  go_upto_region 2 with fail
  try rw [hW]
  clear hW
  try simp only [World.size_alloc, hm]
  go_wp2_with (go_at_call 14; refine (get_st id o.key H.out hg.tl hg.pl hg.cl hg.pa hg.ca).mono ?_; rintro e w3 ⟨rfl, hb⟩; obtain ⟨p3, h3⟩ := H.out.of_below hb; have h3r := h3.row_nil 9 1; have H3 := Lib.hid h3r; have hb7 := h3r.blkm (b := m + 1 + 1) (.tail _ (.tail _ (.tail _ (.tail _ (.tail _ (.tail _ (.tail _ (.head _)))))))); have hb6 := h3r.blkm (b := m + 1) (.tail _ (.tail _ (.tail _ (.tail _ (.tail _ (.tail _ (.head _))))))); obtain ⟨r0, r1, r2, r3, r4, e0, e1, e2, e3, e4⟩ := blk5 hb7; obtain ⟨s0, s1, s2, s3, s4, g0, g1, g2, g3, g4⟩ := blk5 hb6; clear h3 h3r hb7 hb6)
  have h7 := St.sh [_, _, _, _, _, _, _, _] [7, 0, 1, 2, 3, 4, 5, 6] (by decide) H3.out
  simp only [List.map_cons, List.map_nil, List.getD_cons_zero, List.getD_cons_succ, List.cons_append, List.nil_append] at h7
  have h8 := St.sh [_, _, _, _, _, _, _, _] [7, 0, 1, 2, 3, 4, 5, 6] (by decide) (((h7.set 1 (.string (getS S id o.key).1)).set 2 (.bool (getS S id o.key).2.1)).set 4 (.int .i64 (getS S id o.key).2.2))
  simp only [List.map_cons, List.map_nil, List.getD_cons_zero, List.getD_cons_succ, List.cons_append, List.nil_append] at h8
  have h9 := (((((h8.set 0 (.int .i64 0)).set 1 (.string (getS S id o.key).1)).set 2 (.bool (getS S id o.key).2.1)).set 3 (.slice none 0 0)).set 4 (.int .i64 (getS S id o.key).2.2))
  simp only [List.setIfInBounds_toArray, List.set_cons_zero, List.set_cons_succ] at h9
  obtain ⟨W9, hW9⟩ : ∃ W9, ((((((((w3.setCell ⟨m + 1 + 1, 1, none⟩ (.string (getS S id o.key).1)).setCell ⟨m + 1 + 1, 2, none⟩ (.bool (getS S id o.key).2.1)).setCell ⟨m + 1 + 1, 4, none⟩ (.int .i64 (getS S id o.key).2.2)).setCell ⟨m + 1, 0, none⟩ (.int .i64 0)).setCell ⟨m + 1, 1, none⟩ (.string (getS S id o.key).1)).setCell ⟨m + 1, 2, none⟩ (.bool (getS S id o.key).2.1)).setCell ⟨m + 1, 3, none⟩ (.slice none 0 0)).setCell ⟨m + 1, 4, none⟩ (.int .i64 (getS S id o.key).2.2)) = W9 := ⟨_, rfl⟩
  rw [hW9] at h9 ⊢
  obtain ⟨t0, t1, t2, t3, t4, -⟩ := blk5 h9.blk.1
  refine bodyPost_ret (v := .agg #[.int .i64 0, .string (getS S id o.key).1, .bool (getS S id o.key).2.1, .slice none 0 0, .int .i64 (getS S id o.key).2.2]) (by simp [results, Try.results22, go_sem, t0, t1, t2, t3, t4]) rfl ?_
  have h10 := St.sh [_, _, _, _, _, _, _, _] [0, 1, 7, 3, 4, 5, 6, 2] (by decide) h9
  simp only [List.map_cons, List.map_nil, List.getD_cons_zero, List.getD_cons_succ, List.cons_append, List.nil_append] at h10
  exact ⟨none, 0, rfl, p3, h10.drop.drop.drop⟩

set_option maxRecDepth 100000 in
set_option maxHeartbeats 1000000 in
theorem do2_st {w0 w : World} {L : List As} {b : Nat} {S : SS} (o : Op') (id : Int) (M : Nat) (hk : o.kd % 9 = 2) (ho : o.ok) (h : SAt b S w0 w L) (hg : Gd M S) (hsz1 : sizeP (content S.pairs (withC ⟨o.key, o.val, false⟩ S.cs)) ≤ 4611686018427387904) :
    Calls Try.prog 22 #[.pointer (some ⟨b, 0, none⟩), .agg #[.int .u8 o.kd, .int .u8 o.tx, .string o.key, .string o.val, .bool o.wr], .int .i64 id] w (DoPost b ((altS S id ⟨o.key, o.val, false⟩).1) { id := 0, v := { data := #[] }, ok := false, l := [], err := (altS S id ⟨o.key, o.val, false⟩).2 } w0 L) := by
  obtain ⟨p, h⟩ := h
  have h1 := St.sh [_, _, _, _, _, _, _] [3, 4, 5, 6, 2, 1, 0] (by decide) (((h.new #[.int .u8 o.kd, .int .u8 o.tx, .string o.key, .string o.val, .bool o.wr] 45).new #[.int .i64 0, .string { data := #[] }, .bool false, .slice none 0 0, .int .i64 0] 49).new #[.int .i64 0, .string { data := #[] }, .bool false, .slice none 0 0, .int .i64 0] 49)
  simp only [List.map_cons, List.map_nil, List.getD_cons_zero, List.getD_cons_succ, List.cons_append, List.nil_append, World.size_alloc] at h1
  obtain ⟨W, hW⟩ : ∃ W, ((w.alloc (.cells #[.int .u8 o.kd, .int .u8 o.tx, .string o.key, .string o.val, .bool o.wr] 45)).alloc (.cells #[.int .i64 0, .string { data := #[] }, .bool false, .slice none 0 0, .int .i64 0] 49)).alloc (.cells #[.int .i64 0, .string { data := #[] }, .bool false, .slice none 0 0, .int .i64 0] 49) = W := ⟨_, rfl⟩
  rw [hW] at h1
  obtain ⟨m, hm⟩ : ∃ m, w.heap.size = m := ⟨_, rfl⟩
  rw [hm] at h1
  have H := Lib.hid (show SAt b S w0 W _ from ⟨p, h1⟩)
  have HSL := Lib.hid h1.swap.sl
  have C1 := Lib.hid h1.blk.1.three.2.1
  have hb4 := h1.blkm (b := m) (.tail _ (.tail _ (.tail _ (.tail _ (.head _)))))
  obtain ⟨k0, k1, k2, k3, k4, -⟩ := blk5 hb4
  obtain ⟨ok1, ok2, ok3, ok4⟩ := ho
  have hw1 : IntKind.i64.wrap o.kd = o.kd := by rw [IntKind.wrap_i64]; omega
  have ht : o.kd.tmod 9 = 2 := by rw [Int.tmod_eq_emod_of_nonneg ok1]; exact hk
  clear h h1 hb4 hk
  go_enter Try.func22, Try.ntmps22
  go_upto_region 2 with fail
  try rw [hW]
  clear hW
  try simp only [World.size_alloc, hm]
  go_wp2_with (go_at_call 13; refine (put_st id o.key o.val H.out hg.tl hg.pl hg.cl hg.pa hg.ca (hg.sz _ (by exact hsz1))).mono ?_; rintro e w3 ⟨rfl, h3⟩; obtain ⟨p3, h3⟩ := h3; have h3r := h3.row_nil 9 1; have H3 := Lib.hid h3r; have hb7 := h3r.blkm (b := m + 1 + 1) (.tail _ (.tail _ (.tail _ (.tail _ (.tail _ (.tail _ (.tail _ (.head _)))))))); have hb6 := h3r.blkm (b := m + 1) (.tail _ (.tail _ (.tail _ (.tail _ (.tail _ (.tail _ (.head _))))))); obtain ⟨r0, r1, r2, r3, r4, e0, e1, e2, e3, e4⟩ := blk5 hb7; obtain ⟨s0, s1, s2, s3, s4, g0, g1, g2, g3, g4⟩ := blk5 hb6; clear h3 h3r hb7 hb6)
  have h7 := St.sh [_, _, _, _, _, _, _, _] [7, 0, 1, 2, 3, 4, 5, 6] (by decide) H3.out
  simp only [List.map_cons, List.map_nil, List.getD_cons_zero, List.getD_cons_succ, List.cons_append, List.nil_append] at h7
  have h8 := St.sh [_, _, _, _, _, _, _, _] [7, 0, 1, 2, 3, 4, 5, 6] (by decide) (h7.set 4 (.int .i64 (altS S id ⟨o.key, o.val, false⟩).2))
  simp only [List.map_cons, List.map_nil, List.getD_cons_zero, List.getD_cons_succ, List.cons_append, List.nil_append] at h8
  have h9 := (((((h8.set 0 (.int .i64 0)).set 1 (.string { data := #[] })).set 2 (.bool false)).set 3 (.slice none 0 0)).set 4 (.int .i64 (altS S id ⟨o.key, o.val, false⟩).2))
  simp only [List.setIfInBounds_toArray, List.set_cons_zero, List.set_cons_succ] at h9
  obtain ⟨W9, hW9⟩ : ∃ W9, ((((((w3.setCell ⟨m + 1 + 1, 4, none⟩ (.int .i64 (altS S id ⟨o.key, o.val, false⟩).2)).setCell ⟨m + 1, 0, none⟩ (.int .i64 0)).setCell ⟨m + 1, 1, none⟩ (.string { data := #[] })).setCell ⟨m + 1, 2, none⟩ (.bool false)).setCell ⟨m + 1, 3, none⟩ (.slice none 0 0)).setCell ⟨m + 1, 4, none⟩ (.int .i64 (altS S id ⟨o.key, o.val, false⟩).2)) = W9 := ⟨_, rfl⟩
  rw [hW9] at h9 ⊢
  obtain ⟨t0, t1, t2, t3, t4, -⟩ := blk5 h9.blk.1
  refine bodyPost_ret (v := .agg #[.int .i64 0, .string { data := #[] }, .bool false, .slice none 0 0, .int .i64 (altS S id ⟨o.key, o.val, false⟩).2]) (by simp [results, Try.results22, go_sem, t0, t1, t2, t3, t4]) rfl ?_
  have h10 := St.sh [_, _, _, _, _, _, _, _] [0, 1, 7, 3, 4, 5, 6, 2] (by decide) h9
  simp only [List.map_cons, List.map_nil, List.getD_cons_zero, List.getD_cons_succ, List.cons_append, List.nil_append] at h10
  exact ⟨none, 0, rfl, p3, h10.drop.drop.drop⟩

set_option maxRecDepth 100000 in
set_option maxHeartbeats 1000000 in
theorem do3_st {w0 w : World} {L : List As} {b : Nat} {S : SS} (o : Op') (id : Int) (M : Nat) (hk : o.kd % 9 = 3) (ho : o.ok) (h : SAt b S w0 w L) (hg : Gd M S) (hsz2 : sizeP (content S.pairs (withC ⟨o.key, .empty, true⟩ S.cs)) ≤ 4611686018427387904) :
    Calls Try.prog 22 #[.pointer (some ⟨b, 0, none⟩), .agg #[.int .u8 o.kd, .int .u8 o.tx, .string o.key, .string o.val, .bool o.wr], .int .i64 id] w (DoPost b ((altS S id ⟨o.key, .empty, true⟩).1) { id := 0, v := { data := #[] }, ok := false, l := [], err := (altS S id ⟨o.key, .empty, true⟩).2 } w0 L) := by
  obtain ⟨p, h⟩ := h
  have h1 := St.sh [_, _, _, _, _, _, _] [3, 4, 5, 6, 2, 1, 0] (by decide) (((h.new #[.int .u8 o.kd, .int .u8 o.tx, .string o.key, .string o.val, .bool o.wr] 45).new #[.int .i64 0, .string { data := #[] }, .bool false, .slice none 0 0, .int .i64 0] 49).new #[.int .i64 0, .string { data := #[] }, .bool false, .slice none 0 0, .int .i64 0] 49)
  simp only [List.map_cons, List.map_nil, List.getD_cons_zero, List.getD_cons_succ, List.cons_append, List.nil_append, World.size_alloc] at h1
  obtain ⟨W, hW⟩ : ∃ W, ((w.alloc (.cells #[.int .u8 o.kd, .int .u8 o.tx, .string o.key, .string o.val, .bool o.wr] 45)).alloc (.cells #[.int .i64 0, .string { data := #[] }, .bool false, .slice none 0 0, .int .i64 0] 49)).alloc (.cells #[.int .i64 0, .string { data := #[] }, .bool false, .slice none 0 0, .int .i64 0] 49) = W := ⟨_, rfl⟩
  rw [hW] at h1
  obtain ⟨m, hm⟩ : ∃ m, w.heap.size = m := ⟨_, rfl⟩
  rw [hm] at h1
  have H := Lib.hid (show SAt b S w0 W _ from ⟨p, h1⟩)
  have HSL := Lib.hid h1.swap.sl
  have C1 := Lib.hid h1.blk.1.three.2.1
  have hb4 := h1.blkm (b := m) (.tail _ (.tail _ (.tail _ (.tail _ (.head _)))))
  obtain ⟨k0, k1, k2, k3, k4, -⟩ := blk5 hb4
  obtain ⟨ok1, ok2, ok3, ok4⟩ := ho
  have hw1 : IntKind.i64.wrap o.kd = o.kd := by rw [IntKind.wrap_i64]; omega
  have ht : o.kd.tmod 9 = 3 := by rw [Int.tmod_eq_emod_of_nonneg ok1]; exact hk
  clear h h1 hb4 hk
  go_enter Try.func22, Try.ntmps22
  go_upto_region 2 with fail
  try rw [hW]
  clear hW
  try simp only [World.size_alloc, hm]
  go_wp2_with (go_at_call 17; refine (remove_st id o.key H.out hg.tl hg.pl hg.cl hg.pa hg.ca (hg.sz _ (by exact hsz2))).mono ?_; rintro e w3 ⟨rfl, h3⟩; obtain ⟨p3, h3⟩ := h3; have h3r := h3.row_nil 9 1; have H3 := Lib.hid h3r; have hb7 := h3r.blkm (b := m + 1 + 1) (.tail _ (.tail _ (.tail _ (.tail _ (.tail _ (.tail _ (.tail _ (.head _)))))))); have hb6 := h3r.blkm (b := m + 1) (.tail _ (.tail _ (.tail _ (.tail _ (.tail _ (.tail _ (.head _))))))); obtain ⟨r0, r1, r2, r3, r4, e0, e1, e2, e3, e4⟩ := blk5 hb7; obtain ⟨s0, s1, s2, s3, s4, g0, g1, g2, g3, g4⟩ := blk5 hb6; clear h3 h3r hb7 hb6)
  have h7 := St.sh [_, _, _, _, _, _, _, _] [7, 0, 1, 2, 3, 4, 5, 6] (by decide) H3.out
  simp only [List.map_cons, List.map_nil, List.getD_cons_zero, List.getD_cons_succ, List.cons_append, List.nil_append] at h7
  have h8 := St.sh [_, _, _, _, _, _, _, _] [7, 0, 1, 2, 3, 4, 5, 6] (by decide) (h7.set 4 (.int .i64 (altS S id ⟨o.key, .empty, true⟩).2))
  simp only [List.map_cons, List.map_nil, List.getD_cons_zero, List.getD_cons_succ, List.cons_append, List.nil_append] at h8
  have h9 := (((((h8.set 0 (.int .i64 0)).set 1 (.string { data := #[] })).set 2 (.bool false)).set 3 (.slice none 0 0)).set 4 (.int .i64 (altS S id ⟨o.key, .empty, true⟩).2))
  simp only [List.setIfInBounds_toArray, List.set_cons_zero, List.set_cons_succ] at h9
  obtain ⟨W9, hW9⟩ : ∃ W9, ((((((w3.setCell ⟨m + 1 + 1, 4, none⟩ (.int .i64 (altS S id ⟨o.key, .empty, true⟩).2)).setCell ⟨m + 1, 0, none⟩ (.int .i64 0)).setCell ⟨m + 1, 1, none⟩ (.string { data := #[] })).setCell ⟨m + 1, 2, none⟩ (.bool false)).setCell ⟨m + 1, 3, none⟩ (.slice none 0 0)).setCell ⟨m + 1, 4, none⟩ (.int .i64 (altS S id ⟨o.key, .empty, true⟩).2)) = W9 := ⟨_, rfl⟩
  rw [hW9] at h9 ⊢
  obtain ⟨t0, t1, t2, t3, t4, -⟩ := blk5 h9.blk.1
  refine bodyPost_ret (v := .agg #[.int .i64 0, .string { data := #[] }, .bool false, .slice none 0 0, .int .i64 (altS S id ⟨o.key, .empty, true⟩).2]) (by simp [results, Try.results22, go_sem, t0, t1, t2, t3, t4]) rfl ?_
  have h10 := St.sh [_, _, _, _, _, _, _, _] [0, 1, 7, 3, 4, 5, 6, 2] (by decide) h9
  simp only [List.map_cons, List.map_nil, List.getD_cons_zero, List.getD_cons_succ, List.cons_append, List.nil_append] at h10
  exact ⟨none, 0, rfl, p3, h10.drop.drop.drop⟩

set_option maxRecDepth 100000 in
set_option maxHeartbeats 1000000 in
theorem do4_st {w0 w : World} {L : List As} {b : Nat} {S : SS} (o : Op') (id : Int) (M : Nat) (hk : o.kd % 9 = 4) (ho : o.ok) (h : SAt b S w0 w L) (hg : Gd M S)  :
    Calls Try.prog 22 #[.pointer (some ⟨b, 0, none⟩), .agg #[.int .u8 o.kd, .int .u8 o.tx, .string o.key, .string o.val, .bool o.wr], .int .i64 id] w (DoPost b (S) { id := 0, v := { data := #[] }, ok := false, l := (keysS S id o.key o.val).1, err := (keysS S id o.key o.val).2 } w0 L) := by
  obtain ⟨p, h⟩ := h
  have h1 := St.sh [_, _, _, _, _, _, _] [3, 4, 5, 6, 2, 1, 0] (by decide) (((h.new #[.int .u8 o.kd, .int .u8 o.tx, .string o.key, .string o.val, .bool o.wr] 45).new #[.int .i64 0, .string { data := #[] }, .bool false, .slice none 0 0, .int .i64 0] 49).new #[.int .i64 0, .string { data := #[] }, .bool false, .slice none 0 0, .int .i64 0] 49)
  simp only [List.map_cons, List.map_nil, List.getD_cons_zero, List.getD_cons_succ, List.cons_append, List.nil_append, World.size_alloc] at h1
  obtain ⟨W, hW⟩ : ∃ W, ((w.alloc (.cells #[.int .u8 o.kd, .int .u8 o.tx, .string o.key, .string o.val, .bool o.wr] 45)).alloc (.cells #[.int .i64 0, .string { data := #[] }, .bool false, .slice none 0 0, .int .i64 0] 49)).alloc (.cells #[.int .i64 0, .string { data := #[] }, .bool false, .slice none 0 0, .int .i64 0] 49) = W := ⟨_, rfl⟩
  rw [hW] at h1
  obtain ⟨m, hm⟩ : ∃ m, w.heap.size = m := ⟨_, rfl⟩
  rw [hm] at h1
  have H := Lib.hid (show SAt b S w0 W _ from ⟨p, h1⟩)
  have HSL := Lib.hid h1.swap.sl
  have C1 := Lib.hid h1.blk.1.three.2.1
  have hb4 := h1.blkm (b := m) (.tail _ (.tail _ (.tail _ (.tail _ (.head _)))))
  obtain ⟨k0, k1, k2, k3, k4, -⟩ := blk5 hb4
  obtain ⟨ok1, ok2, ok3, ok4⟩ := ho
  have hw1 : IntKind.i64.wrap o.kd = o.kd := by rw [IntKind.wrap_i64]; omega
  have ht : o.kd.tmod 9 = 4 := by rw [Int.tmod_eq_emod_of_nonneg ok1]; exact hk
  clear h h1 hb4 hk
  go_enter Try.func22, Try.ntmps22
  go_upto_region 2 with fail
  try rw [hW]
  clear hW
  try simp only [World.size_alloc, hm]
  go_wp2_with (go_at_call 27; refine (keys_st id o.key o.val H.out hg.tl hg.pl hg.cl hg.pa).mono ?_; rintro e w3 ⟨ls, lc, rfl, hown⟩; obtain ⟨p3, h3⟩ := H.out; have h3r := join_own h3 hown; have H3 := Lib.hid h3r; have hb7 := h3r.blkm (b := m + 1 + 1) (.tail _ (.tail _ (.tail _ (.tail _ (.tail _ (.tail _ (.tail _ (.head _)))))))); have hb6 := h3r.blkm (b := m + 1) (.tail _ (.tail _ (.tail _ (.tail _ (.tail _ (.tail _ (.head _))))))); obtain ⟨r0, r1, r2, r3, r4, e0, e1, e2, e3, e4⟩ := blk5 hb7; obtain ⟨s0, s1, s2, s3, s4, g0, g1, g2, g3, g4⟩ := blk5 hb6; clear h3 h3r hb7 hb6)
  have h7 := St.sh [_, _, _, _, _, _, _, _] [7, 0, 1, 2, 3, 4, 5, 6] (by decide) H3.out
  simp only [List.map_cons, List.map_nil, List.getD_cons_zero, List.getD_cons_succ, List.cons_append, List.nil_append] at h7
  have h8 := St.sh [_, _, _, _, _, _, _, _] [7, 0, 1, 2, 3, 4, 5, 6] (by decide) ((h7.set 3 (.slice ls (keysS S id o.key o.val).1.length lc)).set 4 (.int .i64 (keysS S id o.key o.val).2))
  simp only [List.map_cons, List.map_nil, List.getD_cons_zero, List.getD_cons_succ, List.cons_append, List.nil_append] at h8
  have h9 := (((((h8.set 0 (.int .i64 0)).set 1 (.string { data := #[] })).set 2 (.bool false)).set 3 (.slice ls (keysS S id o.key o.val).1.length lc)).set 4 (.int .i64 (keysS S id o.key o.val).2))
  simp only [List.setIfInBounds_toArray, List.set_cons_zero, List.set_cons_succ] at h9
  obtain ⟨W9, hW9⟩ : ∃ W9, (((((((w3.setCell ⟨m + 1 + 1, 3, none⟩ (.slice ls (keysS S id o.key o.val).1.length lc)).setCell ⟨m + 1 + 1, 4, none⟩ (.int .i64 (keysS S id o.key o.val).2)).setCell ⟨m + 1, 0, none⟩ (.int .i64 0)).setCell ⟨m + 1, 1, none⟩ (.string { data := #[] })).setCell ⟨m + 1, 2, none⟩ (.bool false)).setCell ⟨m + 1, 3, none⟩ (.slice ls (keysS S id o.key o.val).1.length lc)).setCell ⟨m + 1, 4, none⟩ (.int .i64 (keysS S id o.key o.val).2)) = W9 := ⟨_, rfl⟩
  rw [hW9] at h9 ⊢
  obtain ⟨t0, t1, t2, t3, t4, -⟩ := blk5 h9.blk.1
  refine bodyPost_ret (v := .agg #[.int .i64 0, .string { data := #[] }, .bool false, .slice ls (keysS S id o.key o.val).1.length lc, .int .i64 (keysS S id o.key o.val).2]) (by simp [results, Try.results22, go_sem, t0, t1, t2, t3, t4]) rfl ?_
  have h10 := St.sh [_, _, _, _, _, _, _, _] [0, 1, 7, 3, 4, 5, 6, 2] (by decide) h9
  simp only [List.map_cons, List.map_nil, List.getD_cons_zero, List.getD_cons_succ, List.cons_append, List.nil_append] at h10
  exact ⟨ls, lc, rfl, p3, h10.drop.drop.drop⟩

set_option maxRecDepth 100000 in
set_option maxHeartbeats 1000000 in
theorem do5_st {w0 w : World} {L : List As} {b : Nat} {S : SS} (o : Op') (id : Int) (M : Nat) (hk : o.kd % 9 = 5) (ho : o.ok) (h : SAt b S w0 w L) (hg : Gd M S)  :
    Calls Try.prog 22 #[.pointer (some ⟨b, 0, none⟩), .agg #[.int .u8 o.kd, .int .u8 o.tx, .string o.key, .string o.val, .bool o.wr], .int .i64 id] w (DoPost b ((commitS S id).1) { id := 0, v := { data := #[] }, ok := false, l := [], err := (commitS S id).2 } w0 L) := by
  obtain ⟨p, h⟩ := h
  have h1 := St.sh [_, _, _, _, _, _, _] [3, 4, 5, 6, 2, 1, 0] (by decide) (((h.new #[.int .u8 o.kd, .int .u8 o.tx, .string o.key, .string o.val, .bool o.wr] 45).new #[.int .i64 0, .string { data := #[] }, .bool false, .slice none 0 0, .int .i64 0] 49).new #[.int .i64 0, .string { data := #[] }, .bool false, .slice none 0 0, .int .i64 0] 49)
  simp only [List.map_cons, List.map_nil, List.getD_cons_zero, List.getD_cons_succ, List.cons_append, List.nil_append, World.size_alloc] at h1
  obtain ⟨W, hW⟩ : ∃ W, ((w.alloc (.cells #[.int .u8 o.kd, .int .u8 o.tx, .string o.key, .string o.val, .bool o.wr] 45)).alloc (.cells #[.int .i64 0, .string { data := #[] }, .bool false, .slice none 0 0, .int .i64 0] 49)).alloc (.cells #[.int .i64 0, .string { data := #[] }, .bool false, .slice none 0 0, .int .i64 0] 49) = W := ⟨_, rfl⟩
  rw [hW] at h1
  obtain ⟨m, hm⟩ : ∃ m, w.heap.size = m := ⟨_, rfl⟩
  rw [hm] at h1
  have H := Lib.hid (show SAt b S w0 W _ from ⟨p, h1⟩)
  have HSL := Lib.hid h1.swap.sl
  have C1 := Lib.hid h1.blk.1.three.2.1
  have hb4 := h1.blkm (b := m) (.tail _ (.tail _ (.tail _ (.tail _ (.head _)))))
  obtain ⟨k0, k1, k2, k3, k4, -⟩ := blk5 hb4
  obtain ⟨ok1, ok2, ok3, ok4⟩ := ho
  have hw1 : IntKind.i64.wrap o.kd = o.kd := by rw [IntKind.wrap_i64]; omega
  have ht : o.kd.tmod 9 = 5 := by rw [Int.tmod_eq_emod_of_nonneg ok1]; exact hk
  clear h h1 hb4 hk
  go_enter Try.func22, Try.ntmps22
  go_upto_region 2 with fail
  try rw [hW]
  clear hW
  try simp only [World.size_alloc, hm]
  go_wp2_with (go_at_call 15; refine (commit_st id H.out hg.tl hg.pl hg.cl hg.pa).mono ?_; rintro e w3 ⟨rfl, h3⟩; obtain ⟨p3, h3⟩ := h3; have h3r := h3.row_nil 9 1; have H3 := Lib.hid h3r; have hb7 := h3r.blkm (b := m + 1 + 1) (.tail _ (.tail _ (.tail _ (.tail _ (.tail _ (.tail _ (.tail _ (.head _)))))))); have hb6 := h3r.blkm (b := m + 1) (.tail _ (.tail _ (.tail _ (.tail _ (.tail _ (.tail _ (.head _))))))); obtain ⟨r0, r1, r2, r3, r4, e0, e1, e2, e3, e4⟩ := blk5 hb7; obtain ⟨s0, s1, s2, s3, s4, g0, g1, g2, g3, g4⟩ := blk5 hb6; clear h3 h3r hb7 hb6)
  have h7 := St.sh [_, _, _, _, _, _, _, _] [7, 0, 1, 2, 3, 4, 5, 6] (by decide) H3.out
  simp only [List.map_cons, List.map_nil, List.getD_cons_zero, List.getD_cons_succ, List.cons_append, List.nil_append] at h7
  have h8 := St.sh [_, _, _, _, _, _, _, _] [7, 0, 1, 2, 3, 4, 5, 6] (by decide) (h7.set 4 (.int .i64 (commitS S id).2))
  simp only [List.map_cons, List.map_nil, List.getD_cons_zero, List.getD_cons_succ, List.cons_append, List.nil_append] at h8
  have h9 := (((((h8.set 0 (.int .i64 0)).set 1 (.string { data := #[] })).set 2 (.bool false)).set 3 (.slice none 0 0)).set 4 (.int .i64 (commitS S id).2))
  simp only [List.setIfInBounds_toArray, List.set_cons_zero, List.set_cons_succ] at h9
  obtain ⟨W9, hW9⟩ : ∃ W9, ((((((w3.setCell ⟨m + 1 + 1, 4, none⟩ (.int .i64 (commitS S id).2)).setCell ⟨m + 1, 0, none⟩ (.int .i64 0)).setCell ⟨m + 1, 1, none⟩ (.string { data := #[] })).setCell ⟨m + 1, 2, none⟩ (.bool false)).setCell ⟨m + 1, 3, none⟩ (.slice none 0 0)).setCell ⟨m + 1, 4, none⟩ (.int .i64 (commitS S id).2)) = W9 := ⟨_, rfl⟩
  rw [hW9] at h9 ⊢
  obtain ⟨t0, t1, t2, t3, t4, -⟩ := blk5 h9.blk.1
  refine bodyPost_ret (v := .agg #[.int .i64 0, .string { data := #[] }, .bool false, .slice none 0 0, .int .i64 (commitS S id).2]) (by simp [results, Try.results22, go_sem, t0, t1, t2, t3, t4]) rfl ?_
  have h10 := St.sh [_, _, _, _, _, _, _, _] [0, 1, 7, 3, 4, 5, 6, 2] (by decide) h9
  simp only [List.map_cons, List.map_nil, List.getD_cons_zero, List.getD_cons_succ, List.cons_append, List.nil_append] at h10
  exact ⟨none, 0, rfl, p3, h10.drop.drop.drop⟩

set_option maxRecDepth 100000 in
set_option maxHeartbeats 1000000 in
theorem do6_st {w0 w : World} {L : List As} {b : Nat} {S : SS} (o : Op') (id : Int) (M : Nat) (hk : o.kd % 9 = 6) (ho : o.ok) (h : SAt b S w0 w L) (hg : Gd M S)  :
    Calls Try.prog 22 #[.pointer (some ⟨b, 0, none⟩), .agg #[.int .u8 o.kd, .int .u8 o.tx, .string o.key, .string o.val, .bool o.wr], .int .i64 id] w (DoPost b (abortS S id) { id := 0, v := { data := #[] }, ok := false, l := [], err := (errN (fnd id S.txs)) } w0 L) := by
  obtain ⟨p, h⟩ := h
  have h1 := St.sh [_, _, _, _, _, _, _] [3, 4, 5, 6, 2, 1, 0] (by decide) (((h.new #[.int .u8 o.kd, .int .u8 o.tx, .string o.key, .string o.val, .bool o.wr] 45).new #[.int .i64 0, .string { data := #[] }, .bool false, .slice none 0 0, .int .i64 0] 49).new #[.int .i64 0, .string { data := #[] }, .bool false, .slice none 0 0, .int .i64 0] 49)
  simp only [List.map_cons, List.map_nil, List.getD_cons_zero, List.getD_cons_succ, List.cons_append, List.nil_append, World.size_alloc] at h1
  obtain ⟨W, hW⟩ : ∃ W, ((w.alloc (.cells #[.int .u8 o.kd, .int .u8 o.tx, .string o.key, .string o.val, .bool o.wr] 45)).alloc (.cells #[.int .i64 0, .string { data := #[] }, .bool false, .slice none 0 0, .int .i64 0] 49)).alloc (.cells #[.int .i64 0, .string { data := #[] }, .bool false, .slice none 0 0, .int .i64 0] 49) = W := ⟨_, rfl⟩
  rw [hW] at h1
  obtain ⟨m, hm⟩ : ∃ m, w.heap.size = m := ⟨_, rfl⟩
  rw [hm] at h1
  have H := Lib.hid (show SAt b S w0 W _ from ⟨p, h1⟩)
  have HSL := Lib.hid h1.swap.sl
  have C1 := Lib.hid h1.blk.1.three.2.1
  have hb4 := h1.blkm (b := m) (.tail _ (.tail _ (.tail _ (.tail _ (.head _)))))
  obtain ⟨k0, k1, k2, k3, k4, -⟩ := blk5 hb4
  obtain ⟨ok1, ok2, ok3, ok4⟩ := ho
  have hw1 : IntKind.i64.wrap o.kd = o.kd := by rw [IntKind.wrap_i64]; omega
  have ht : o.kd.tmod 9 = 6 := by rw [Int.tmod_eq_emod_of_nonneg ok1]; exact hk
  clear h h1 hb4 hk
  go_enter Try.func22, Try.ntmps22
  go_upto_region 2 with fail
  try rw [hW]
  clear hW
  try simp only [World.size_alloc, hm]
  go_wp2_with (go_at_call 24; refine (abort_e id H.out hg.tl).mono ?_; rintro e w3 ⟨rfl, h3⟩; obtain ⟨p3, h3⟩ := h3; have h3r := h3.row_nil 9 1; have H3 := Lib.hid h3r; have hb7 := h3r.blkm (b := m + 1 + 1) (.tail _ (.tail _ (.tail _ (.tail _ (.tail _ (.tail _ (.tail _ (.head _)))))))); have hb6 := h3r.blkm (b := m + 1) (.tail _ (.tail _ (.tail _ (.tail _ (.tail _ (.tail _ (.head _))))))); obtain ⟨r0, r1, r2, r3, r4, e0, e1, e2, e3, e4⟩ := blk5 hb7; obtain ⟨s0, s1, s2, s3, s4, g0, g1, g2, g3, g4⟩ := blk5 hb6; clear h3 h3r hb7 hb6)
  have h7 := St.sh [_, _, _, _, _, _, _, _] [7, 0, 1, 2, 3, 4, 5, 6] (by decide) H3.out
  simp only [List.map_cons, List.map_nil, List.getD_cons_zero, List.getD_cons_succ, List.cons_append, List.nil_append] at h7
  have h8 := St.sh [_, _, _, _, _, _, _, _] [7, 0, 1, 2, 3, 4, 5, 6] (by decide) (h7.set 4 (.int .i64 (errN (fnd id S.txs))))
  simp only [List.map_cons, List.map_nil, List.getD_cons_zero, List.getD_cons_succ, List.cons_append, List.nil_append] at h8
  have h9 := (((((h8.set 0 (.int .i64 0)).set 1 (.string { data := #[] })).set 2 (.bool false)).set 3 (.slice none 0 0)).set 4 (.int .i64 (errN (fnd id S.txs))))
  simp only [List.setIfInBounds_toArray, List.set_cons_zero, List.set_cons_succ] at h9
  obtain ⟨W9, hW9⟩ : ∃ W9, ((((((w3.setCell ⟨m + 1 + 1, 4, none⟩ (.int .i64 (errN (fnd id S.txs)))).setCell ⟨m + 1, 0, none⟩ (.int .i64 0)).setCell ⟨m + 1, 1, none⟩ (.string { data := #[] })).setCell ⟨m + 1, 2, none⟩ (.bool false)).setCell ⟨m + 1, 3, none⟩ (.slice none 0 0)).setCell ⟨m + 1, 4, none⟩ (.int .i64 (errN (fnd id S.txs)))) = W9 := ⟨_, rfl⟩
  rw [hW9] at h9 ⊢
  obtain ⟨t0, t1, t2, t3, t4, -⟩ := blk5 h9.blk.1
  refine bodyPost_ret (v := .agg #[.int .i64 0, .string { data := #[] }, .bool false, .slice none 0 0, .int .i64 (errN (fnd id S.txs))]) (by simp [results, Try.results22, go_sem, t0, t1, t2, t3, t4]) rfl ?_
  have h10 := St.sh [_, _, _, _, _, _, _, _] [0, 1, 7, 3, 4, 5, 6, 2] (by decide) h9
  simp only [List.map_cons, List.map_nil, List.getD_cons_zero, List.getD_cons_succ, List.cons_append, List.nil_append] at h10
  exact ⟨none, 0, rfl, p3, h10.drop.drop.drop⟩

set_option maxRecDepth 100000 in
set_option maxHeartbeats 1000000 in
theorem do7_st {w0 w : World} {L : List As} {b : Nat} {S : SS} (o : Op') (id : Int) (M : Nat) (hk : o.kd % 9 = 7) (ho : o.ok) (h : SAt b S w0 w L) (hg : Gd M S)  :
    Calls Try.prog 22 #[.pointer (some ⟨b, 0, none⟩), .agg #[.int .u8 o.kd, .int .u8 o.tx, .string o.key, .string o.val, .bool o.wr], .int .i64 id] w (DoPost b (S) { id := 0, v := { data := #[] }, ok := (turnE id S.txs), l := [], err := (errN (fnd id S.txs)) } w0 L) := by
  obtain ⟨p, h⟩ := h
  have h1 := St.sh [_, _, _, _, _, _, _] [3, 4, 5, 6, 2, 1, 0] (by decide) (((h.new #[.int .u8 o.kd, .int .u8 o.tx, .string o.key, .string o.val, .bool o.wr] 45).new #[.int .i64 0, .string { data := #[] }, .bool false, .slice none 0 0, .int .i64 0] 49).new #[.int .i64 0, .string { data := #[] }, .bool false, .slice none 0 0, .int .i64 0] 49)
  simp only [List.map_cons, List.map_nil, List.getD_cons_zero, List.getD_cons_succ, List.cons_append, List.nil_append, World.size_alloc] at h1
  obtain ⟨W, hW⟩ : ∃ W, ((w.alloc (.cells #[.int .u8 o.kd, .int .u8 o.tx, .string o.key, .string o.val, .bool o.wr] 45)).alloc (.cells #[.int .i64 0, .string { data := #[] }, .bool false, .slice none 0 0, .int .i64 0] 49)).alloc (.cells #[.int .i64 0, .string { data := #[] }, .bool false, .slice none 0 0, .int .i64 0] 49) = W := ⟨_, rfl⟩
  rw [hW] at h1
  obtain ⟨m, hm⟩ : ∃ m, w.heap.size = m := ⟨_, rfl⟩
  rw [hm] at h1
  have H := Lib.hid (show SAt b S w0 W _ from ⟨p, h1⟩)
  have HSL := Lib.hid h1.swap.sl
  have C1 := Lib.hid h1.blk.1.three.2.1
  have hb4 := h1.blkm (b := m) (.tail _ (.tail _ (.tail _ (.tail _ (.head _)))))
  obtain ⟨k0, k1, k2, k3, k4, -⟩ := blk5 hb4
  obtain ⟨ok1, ok2, ok3, ok4⟩ := ho
  have hw1 : IntKind.i64.wrap o.kd = o.kd := by rw [IntKind.wrap_i64]; omega
  have ht : o.kd.tmod 9 = 7 := by rw [Int.tmod_eq_emod_of_nonneg ok1]; exact hk
  clear h h1 hb4 hk
  go_enter Try.func22, Try.ntmps22
  go_upto_region 2 with fail
  try rw [hW]
  clear hW
  try simp only [World.size_alloc, hm]
  go_wp2_with (go_at_call 26; refine (ready_e b id _ S.txs _ _ _ C1.out HSL.out hg.tl).mono ?_; rintro e w3 ⟨rfl, hb⟩; obtain ⟨p3, h3⟩ := H.out.of_below hb; have h3r := h3.row_nil 9 1; have H3 := Lib.hid h3r; have hb7 := h3r.blkm (b := m + 1 + 1) (.tail _ (.tail _ (.tail _ (.tail _ (.tail _ (.tail _ (.tail _ (.head _)))))))); have hb6 := h3r.blkm (b := m + 1) (.tail _ (.tail _ (.tail _ (.tail _ (.tail _ (.tail _ (.head _))))))); obtain ⟨r0, r1, r2, r3, r4, e0, e1, e2, e3, e4⟩ := blk5 hb7; obtain ⟨s0, s1, s2, s3, s4, g0, g1, g2, g3, g4⟩ := blk5 hb6; clear h3 h3r hb7 hb6)
  have h7 := St.sh [_, _, _, _, _, _, _, _] [7, 0, 1, 2, 3, 4, 5, 6] (by decide) H3.out
  simp only [List.map_cons, List.map_nil, List.getD_cons_zero, List.getD_cons_succ, List.cons_append, List.nil_append] at h7
  have h8 := St.sh [_, _, _, _, _, _, _, _] [7, 0, 1, 2, 3, 4, 5, 6] (by decide) ((h7.set 2 (.bool (turnE id S.txs))).set 4 (.int .i64 (errN (fnd id S.txs))))
  simp only [List.map_cons, List.map_nil, List.getD_cons_zero, List.getD_cons_succ, List.cons_append, List.nil_append] at h8
  have h9 := (((((h8.set 0 (.int .i64 0)).set 1 (.string { data := #[] })).set 2 (.bool (turnE id S.txs))).set 3 (.slice none 0 0)).set 4 (.int .i64 (errN (fnd id S.txs))))
  simp only [List.setIfInBounds_toArray, List.set_cons_zero, List.set_cons_succ] at h9
  obtain ⟨W9, hW9⟩ : ∃ W9, (((((((w3.setCell ⟨m + 1 + 1, 2, none⟩ (.bool (turnE id S.txs))).setCell ⟨m + 1 + 1, 4, none⟩ (.int .i64 (errN (fnd id S.txs)))).setCell ⟨m + 1, 0, none⟩ (.int .i64 0)).setCell ⟨m + 1, 1, none⟩ (.string { data := #[] })).setCell ⟨m + 1, 2, none⟩ (.bool (turnE id S.txs))).setCell ⟨m + 1, 3, none⟩ (.slice none 0 0)).setCell ⟨m + 1, 4, none⟩ (.int .i64 (errN (fnd id S.txs)))) = W9 := ⟨_, rfl⟩
  rw [hW9] at h9 ⊢
  obtain ⟨t0, t1, t2, t3, t4, -⟩ := blk5 h9.blk.1
  refine bodyPost_ret (v := .agg #[.int .i64 0, .string { data := #[] }, .bool (turnE id S.txs), .slice none 0 0, .int .i64 (errN (fnd id S.txs))]) (by simp [results, Try.results22, go_sem, t0, t1, t2, t3, t4]) rfl ?_
  have h10 := St.sh [_, _, _, _, _, _, _, _] [0, 1, 7, 3, 4, 5, 6, 2] (by decide) h9
  simp only [List.map_cons, List.map_nil, List.getD_cons_zero, List.getD_cons_succ, List.cons_append, List.nil_append] at h10
  exact ⟨none, 0, rfl, p3, h10.drop.drop.drop⟩

set_option maxRecDepth 100000 in
set_option maxHeartbeats 1000000 in
theorem do8_st {w0 w : World} {L : List As} {b : Nat} {S : SS} (o : Op') (id : Int) (M : Nat) (hk : o.kd % 9 = 8) (ho : o.ok) (h : SAt b S w0 w L) (hg : Gd M S)  :
    Calls Try.prog 22 #[.pointer (some ⟨b, 0, none⟩), .agg #[.int .u8 o.kd, .int .u8 o.tx, .string o.key, .string o.val, .bool o.wr], .int .i64 id] w (DoPost b (leaveS S o.key) { id := ((S.txs.length : Int) - ((leaveS S o.key).txs.length : Int)), v := { data := #[] }, ok := false, l := [], err := 0 } w0 L) := by
  obtain ⟨p, h⟩ := h
  have h1 := St.sh [_, _, _, _, _, _, _] [3, 4, 5, 6, 2, 1, 0] (by decide) (((h.new #[.int .u8 o.kd, .int .u8 o.tx, .string o.key, .string o.val, .bool o.wr] 45).new #[.int .i64 0, .string { data := #[] }, .bool false, .slice none 0 0, .int .i64 0] 49).new #[.int .i64 0, .string { data := #[] }, .bool false, .slice none 0 0, .int .i64 0] 49)
  simp only [List.map_cons, List.map_nil, List.getD_cons_zero, List.getD_cons_succ, List.cons_append, List.nil_append, World.size_alloc] at h1
  obtain ⟨W, hW⟩ : ∃ W, ((w.alloc (.cells #[.int .u8 o.kd, .int .u8 o.tx, .string o.key, .string o.val, .bool o.wr] 45)).alloc (.cells #[.int .i64 0, .string { data := #[] }, .bool false, .slice none 0 0, .int .i64 0] 49)).alloc (.cells #[.int .i64 0, .string { data := #[] }, .bool false, .slice none 0 0, .int .i64 0] 49) = W := ⟨_, rfl⟩
  rw [hW] at h1
  obtain ⟨m, hm⟩ : ∃ m, w.heap.size = m := ⟨_, rfl⟩
  rw [hm] at h1
  have H := Lib.hid (show SAt b S w0 W _ from ⟨p, h1⟩)
  have HSL := Lib.hid h1.swap.sl
  have C1 := Lib.hid h1.blk.1.three.2.1
  have hb4 := h1.blkm (b := m) (.tail _ (.tail _ (.tail _ (.tail _ (.head _)))))
  obtain ⟨k0, k1, k2, k3, k4, -⟩ := blk5 hb4
  obtain ⟨ok1, ok2, ok3, ok4⟩ := ho
  have hw1 : IntKind.i64.wrap o.kd = o.kd := by rw [IntKind.wrap_i64]; omega
  have ht : o.kd.tmod 9 = 8 := by rw [Int.tmod_eq_emod_of_nonneg ok1]; exact hk
  clear h h1 hb4 hk
  go_enter Try.func22, Try.ntmps22
  go_upto_region 2 with fail
  try rw [hW]
  clear hW
  try simp only [World.size_alloc, hm]
  go_wp2_with (go_at_call 28; refine (leave_st o.key H.out (by have := hg.tl2; omega)).mono ?_; rintro e w3 ⟨rfl, h3⟩; obtain ⟨p3, h3⟩ := h3; have h3r := h3.row_nil 9 1; have H3 := Lib.hid h3r; have hb7 := h3r.blkm (b := m + 1 + 1) (.tail _ (.tail _ (.tail _ (.tail _ (.tail _ (.tail _ (.tail _ (.head _)))))))); have hb6 := h3r.blkm (b := m + 1) (.tail _ (.tail _ (.tail _ (.tail _ (.tail _ (.tail _ (.head _))))))); obtain ⟨r0, r1, r2, r3, r4, e0, e1, e2, e3, e4⟩ := blk5 hb7; obtain ⟨s0, s1, s2, s3, s4, g0, g1, g2, g3, g4⟩ := blk5 hb6; clear h3 h3r hb7 hb6)
  have h7 := St.sh [_, _, _, _, _, _, _, _] [7, 0, 1, 2, 3, 4, 5, 6] (by decide) H3.out
  simp only [List.map_cons, List.map_nil, List.getD_cons_zero, List.getD_cons_succ, List.cons_append, List.nil_append] at h7
  have h8 := St.sh [_, _, _, _, _, _, _, _] [7, 0, 1, 2, 3, 4, 5, 6] (by decide) (h7.set 0 (.int .i64 ((S.txs.length : Int) - ((leaveS S o.key).txs.length : Int))))
  simp only [List.map_cons, List.map_nil, List.getD_cons_zero, List.getD_cons_succ, List.cons_append, List.nil_append] at h8
  have h9 := (((((h8.set 0 (.int .i64 ((S.txs.length : Int) - ((leaveS S o.key).txs.length : Int)))).set 1 (.string { data := #[] })).set 2 (.bool false)).set 3 (.slice none 0 0)).set 4 (.int .i64 0))
  simp only [List.setIfInBounds_toArray, List.set_cons_zero, List.set_cons_succ] at h9
  obtain ⟨W9, hW9⟩ : ∃ W9, ((((((w3.setCell ⟨m + 1 + 1, 0, none⟩ (.int .i64 ((S.txs.length : Int) - ((leaveS S o.key).txs.length : Int)))).setCell ⟨m + 1, 0, none⟩ (.int .i64 ((S.txs.length : Int) - ((leaveS S o.key).txs.length : Int)))).setCell ⟨m + 1, 1, none⟩ (.string { data := #[] })).setCell ⟨m + 1, 2, none⟩ (.bool false)).setCell ⟨m + 1, 3, none⟩ (.slice none 0 0)).setCell ⟨m + 1, 4, none⟩ (.int .i64 0)) = W9 := ⟨_, rfl⟩
  rw [hW9] at h9 ⊢
  obtain ⟨t0, t1, t2, t3, t4, -⟩ := blk5 h9.blk.1
  refine bodyPost_ret (v := .agg #[.int .i64 ((S.txs.length : Int) - ((leaveS S o.key).txs.length : Int)), .string { data := #[] }, .bool false, .slice none 0 0, .int .i64 0]) (by simp [results, Try.results22, go_sem, t0, t1, t2, t3, t4]) rfl ?_
  have h10 := St.sh [_, _, _, _, _, _, _, _] [0, 1, 7, 3, 4, 5, 6, 2] (by decide) h9
  simp only [List.map_cons, List.map_nil, List.getD_cons_zero, List.getD_cons_succ, List.cons_append, List.nil_append] at h10
  exact ⟨none, 0, rfl, p3, h10.drop.drop.drop⟩

end Go.Proofs.Ytcglnjklnlejmaa
