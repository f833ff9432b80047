/-
  Contracts of New and of the copy of a dispatch.
-/
import Derived.Test.YtianjcbofgdfdaaEf
set_option linter.unusedVariables false
set_option linter.unusedSimpArgs false
namespace Go.Proofs.Ytianjcbofgdfdaa
open Go.RowKit Go.K Go.K.Ev

def dNew (ty : ByteArray) (bub can : Bool) (path : List Tg) : Dp := ⟨ty, bub, can, path, 0, [], ⟨0, 0⟩, 0, false, false, false, false, false⟩

def NewPost (d : Dp) (w0 : World) (L : List As) (E : Ending) (w' : World) : Prop :=
  ∃ s c, E = .returned (.agg (dCells d s c none 0)) ∧ St w0 w' (As.row 39 2 s d.path.length c (flat gcells d.path) :: L)

set_option maxRecDepth 100000 in
set_option maxHeartbeats 1000000 in
theorem new_st {w0 w : World} {L : List As} (ty : ByteArray) (s : Option Addr) (n c : Nat) (path : List Tg) (bub can : Bool) (h : St w0 w L) (hr : Rc w 2 s n c (flat gcells path)) (hl : path.length = n) (hn : n ≤ 1000) :
    Calls Try.prog 35 #[.string ty, .slice s n c, .bool bub, .bool can] w (NewPost (dNew ty bub can path) w0 L) := by
  subst hl
  have H := Lib.hid (h.new (dCells (dNew ByteArray.empty false false []) none 0 none 0) 45)
  have C := Lib.hid (cloneG s path.length c (flat gcells path) _ ((hr.alloc (.cells (dCells (dNew ByteArray.empty false false []) none 0 none 0) 45)).rd) hr.nil (by omega))
  clear h hr
  unfold dNew at H C
  simp only [dCells] at H C
  try simp only [List.length_nil] at H C
  go_enter Try.func35, Try.ntmps35
  go_wp2_with fail
  refine C.out.mono ?_
  rintro e w1 ⟨s1, c1, rfl, q1, q2, q3⟩
  have H1 := Lib.hid (H.out.row_new q1 q2 q3).swap
  obtain ⟨c0, c1', c2, c3, c4, c5, c6, c7, c8, c9, c10, c11, c12, c13⟩ := Blk.c14 H1.out.blk.1
  obtain ⟨f0, f1, f2, f3, f4, f5, f6, f7, f8, f9, f10, f11, f12, f13⟩ := Blk.f14 H1.out.blk.1
  clear q1 q2 q3
  go_wp2_with fail
  refine bodyPost_ret (v := .agg #[.string ty, .bool bub, .bool can, .slice s1 path.length c1, .int .i64 0, .slice none 0 0, .int .i64 0, .int .i64 0, .int .i64 0, .bool false, .bool false, .bool false, .bool false, .bool false]) (by simp [results, Try.results35, go_sem, c0, c1', c2, c3, c4, c5, c6, c7, c8, c9, c10, c11, c12, c13]) rfl ⟨s1, c1, rfl, ?_⟩
  exact (H1.out.set14 (.string ty) (.bool bub) (.bool can) (.slice s1 path.length c1) (.int .i64 0) (.slice none 0 0) (.int .i64 0) (.int .i64 0) (.int .i64 0) (.bool false) (.bool false) (.bool false) (.bool false) (.bool false)).drop

def DClonePost (b : Nat) (d : Dp) (w0 : World) (L : List As) (E : Ending) (w' : World) : Prop :=
  ∃ sp cp sq cq, E = .returned (.agg (dCells d sp cp sq cq)) ∧ St w0 w' (As.row 39 2 sp d.path.length cp (flat gcells d.path) :: As.row 3 1 sq d.q.length cq (ints d.q) :: dObj b d :: L)

theorem st_p2 {w0 w : World} {Q T P R : As} {L : List As} (h : St w0 w (Q :: T :: P :: R :: L)) : St w0 w (R :: P :: Q :: T :: L) :=
  (st_rot4 h).perm (List.Perm.cons R ((List.Perm.cons Q (.swap P T _)).trans (.swap P Q _)))

theorem st_perm5 {α : Type} (a b c d e : α) (l : List α) : (a :: b :: c :: d :: e :: l).Perm (c :: d :: e :: a :: b :: l) := by
  have h : (a :: b :: c :: d :: e :: l) = [a, b] ++ ([c, d, e] ++ l) := rfl
  have h2 : (c :: d :: e :: a :: b :: l) = [c, d, e] ++ ([a, b] ++ l) := rfl
  rw [h, h2, ← List.append_assoc, ← List.append_assoc]
  exact (List.perm_append_comm).append_right l
set_option maxRecDepth 100000 in
set_option maxHeartbeats 2000000 in
theorem dclone_st {w0 w : World} {L : List As} {b : Nat} {d : Dp} (h : St w0 w (dObj b d :: L)) (hp : d.path.length ≤ 1000) (hq : d.q.length ≤ 100000) :
    Calls Try.prog 34 #[.pointer (some ⟨b, 0, none⟩)] w (DClonePost b d w0 L) := by
  obtain ⟨sp, cp, sq, cq, h1⟩ := d_open h
  have rp := h1.swap.sl.rc
  have rq := h1.front2.sl.rc
  have H := Lib.hid (((h1.new (dCells (dNew ByteArray.empty false false []) none 0 none 0) 45).new (dCells d sp cp sq cq) 45))
  have K := Lib.hid h1.blk.1
  obtain ⟨⟨c0, c1, c2, c3, c4, c5, c6⟩, c7, c8, c9, c10, c11, c12, c13⟩ := d_cells h1.blk.1
  have hbl := h1.blk.1.lt
  have C := Lib.hid (cloneG sp d.path.length cp (flat gcells d.path) _ ((rp.alloc (.cells (dCells (dNew ByteArray.empty false false []) none 0 none 0) 45)).alloc (.cells (dCells d sp cp sq cq) 45)).rd rp.nil (by omega))
  have RQ := Lib.hid ((rq.alloc (.cells (dCells (dNew ByteArray.empty false false []) none 0 none 0) 45)).alloc (.cells (dCells d sp cp sq cq) 45))
  clear h h1 rp rq
  unfold dNew at H C RQ
  simp only [dCells] at H C RQ
  try simp only [List.length_nil] at H C RQ
  go_enter Try.func34, Try.ntmps34
  go_wp2_with fail
  refine C.out.mono ?_
  rintro e w1 ⟨s1, k1, rfl, q1, q2, q3⟩
  have H1 := Lib.hid (H.out.row_new q1 q2 q3).swap
  have HR := Lib.hid (RQ.out.kept q2 (fun _ _ q => q))
  have KK := Lib.hid ((K.out.alloc (.cells #[.string ByteArray.empty, .bool false, .bool false, .slice none 0 0, .int .i64 0, .slice none 0 0, .int .i64 0, .int .i64 0, .int .i64 0, .bool false, .bool false, .bool false, .bool false, .bool false] 45)).alloc (.cells (dCells d sp cp sq cq) 45) |>.kept q2 (fun q => q))
  have e5 := KK.out.cell 5
  simp at e5
  have g3 := H1.out.free 3
  have g3c := H1.out.cell 3
  simp at g3c g3
  have hbl1 := KK.out.lt
  have hbn : b ≠ w.heap.size + 1 := by omega
  clear q1 q2 q3 c0 c1 c2 c3 c4 c5 c6 c7 c8 c9 c10 c11 c12 c13
  go_wp2_with fail
  have H2 := Lib.hid (show St w0 _ (As.cells (w.heap.size + 1) (dCells d s1 k1 sq cq) 45 :: As.row 39 2 s1 d.path.length k1 (flat gcells d.path) :: As.cells w.heap.size #[.string ByteArray.empty, .bool false, .bool false, .slice none 0 0, .int .i64 0, .slice none 0 0, .int .i64 0, .int .i64 0, .int .i64 0, .bool false, .bool false, .bool false, .bool false, .bool false] 45 :: dOpen b d sp cp sq cq L) by
    simpa [dCells] using H1.out.set 3 (.slice s1 d.path.length k1))
  have C2 := Lib.hid (cloneI sq d.q.length cq (ints d.q) _ (H2.out.slm (.tail _ (.tail _ (.tail _ (.tail _ (.tail _ (.head _))))))).rd HR.out.nil (by omega))
  clear e5 g3 g3c
  refine C2.out.mono ?_
  rintro e w2 ⟨s2, k2, rfl, q1, q2, q3⟩
  have H3 := Lib.hid (H2.out.row_new q1 q2 q3).swap
  have g5 := H3.out.free 5
  have g5c := H3.out.cell 5
  simp at g5c g5
  have H4 := Lib.hid (show St w0 _ (As.cells (w.heap.size + 1) (dCells d s1 k1 s2 k2) 45 :: As.row 3 1 s2 d.q.length k2 (ints d.q) :: As.row 39 2 s1 d.path.length k1 (flat gcells d.path) :: As.cells w.heap.size #[.string ByteArray.empty, .bool false, .bool false, .slice none 0 0, .int .i64 0, .slice none 0 0, .int .i64 0, .int .i64 0, .int .i64 0, .bool false, .bool false, .bool false, .bool false, .bool false] 45 :: dOpen b d sp cp sq cq L) by
    simpa [dCells] using H3.out.set 5 (.slice s2 d.q.length k2))
  obtain ⟨⟨c0, c1, c2, c3, c4, c5, c6⟩, c7, c8, c9, c10, c11, c12, c13⟩ := d_cells H3.out.blk.1
  obtain ⟨z0, z1, z2, z3, z4, z5, z6, z7, z8, z9, z10, z11, z12, z13⟩ := Blk.c14 (st_rot4 H4.out).blk.1
  obtain ⟨f0, f1, f2, f3, f4, f5, f6, f7, f8, f9, f10, f11, f12, f13⟩ := Blk.f14 (st_rot4 H4.out).blk.1
  clear q1 q2 q3
  go_wp2_with fail
  have H5 := Lib.hid (st_rot4 H4.out)
  clear H4 H3 C2 H2
  generalize w2.setCell ⟨w.heap.size + 1, 5, none⟩ (.slice s2 d.q.length k2) = w3 at *
  refine bodyPost_ret (v := .agg (dCells d s1 k1 s2 k2)) (by simp [results, Try.results34, go_sem, z0, z1, z2, z3, z4, z5, z6, z7, z8, z9, z10, z11, z12, z13]) rfl ⟨s1, k1, s2, k2, rfl, ?_⟩
  have h6 := (H5.out.set14 (.string d.ty) (.bool d.bub) (.bool d.can) (.slice s1 d.path.length k1) (.int .i64 d.st) (.slice s2 d.q.length k2) (.int .i64 d.cur.kind) (.int .i64 d.cur.id) (.int .i64 d.ph) (.bool d.pas) (.bool d.stop) (.bool d.halt) (.bool d.prev) (.bool d.done)).drop.drop.swap
  have h7 := d_shut (h6.perm (L' := dOpen b d sp cp sq cq (As.row 39 2 s1 d.path.length k1 (flat gcells d.path) :: As.row 3 1 s2 d.q.length k2 (ints d.q) :: L)) (st_perm5 _ _ _ _ _ _))
  exact h7.swap.perm (List.Perm.cons _ (.swap _ _ _))
end Go.Proofs.Ytianjcbofgdfdaa
