/-
  CascadeResolves: the method fonts at an empty map.
-/
import Derived.Test.YtflokpokaohikaaGreatDoorCb
set_option linter.unusedVariables false
set_option linter.unusedSimpArgs false
namespace Go.Proofs.YtflokpokaohikaaGreatDoor
open Go.RowKit Go.K Go.Maps
set_option maxRecDepth 100000 in
set_option maxHeartbeats 4000000 in
theorem fonts_c {w0 w : World} {L : List As} {bc bm bo : Nat} (h : St w0 w (cmp bc bm :: As.mp0 bm :: As.sty 53 31 bo [] :: L)) :
    Calls Tryz.prog 10 #[.pointer (some ⟨bc, 0, none⟩), .pointer (some ⟨bo, 0, none⟩), .agg pst.toArray] w fun e w' => e = .returned (.tuple #[]) ∧ St w0 w' (cmp bc bm :: As.mp0 bm :: As.sty 53 31 bo [(37, .int .i64 16)] :: L) := by
  have h1 := h.new pst.toArray 31
  have H1 := Lib.hid h1
  have HC := Lib.hid (Comp.of h1 (.tail _ (.head _)) (.tail _ (.tail _ (.head _))))
  clear h1 h
  obtain ⟨pa, hpa⟩ : ∃ pa, pst.toArray = pa := ⟨_, rfl⟩
  have P37 : pa[37]? = some (.int .i64 16) := by rw [← hpa]; rfl
  have P38 : pa[38]? = some (.int .i64 20) := by rw [← hpa]; rfl
  rw [hpa] at H1 HC ⊢
  clear hpa
  go_enter Tryz.func10, Tryz.ntmps10
  go_wp2_with (first
    | (go_at_call 16; refine (get_st _ (by decide) HC.out H1.out).mono ?_; rintro e w6 ⟨rfl, -, h6, -⟩; have H6 := Lib.hid (h6.new zval.toArray 42); clear h6)
    | (refine st_ld1 rfl (.tmp 29) rfl H6.out (.tail _ (.head _)) rfl P37 Tryz.isAgg3 ?_)
    | (refine st_put (K' := [(37, .int .i64 16)]) rfl (.tmp 32) (.tmp 30) rfl (St.sh [_, _, _, _, _] [4, 0, 1, 2, 3] (by decide) H6.out) rfl (.int .i64 16) rfl [.int .i64 16] rfl (by decide) size3 (by simp [Value.oneCell']) (fun p hp => by rw [List.mem_singleton.1 hp]; exact .inr ⟨0, rfl, rfl⟩) ?_; intro W7 HW7; have H7 := Lib.hid (show St w0 W7 (As.sty 53 31 bo [(37, .int .i64 16)] :: As.cells w6.heap.size zval.toArray 42 :: As.cells w.heap.size pa 31 :: cmp bc bm :: As.mp0 bm :: L) from HW7); clear HW7)
    | (refine st_get rfl (.tmp 70) rfl H7.out (.head _) rfl (.head _) Tryz.isAgg3 ?_)
    | (refine st_put (K' := [(0, .map (some bm))]) rfl (.tmp 73) (.tmp 71) rfl (show St w0 W7 (As.sty 2 40 bc [(0, .map (some bm))] :: As.sty 53 31 bo [(37, .int .i64 16)] :: As.cells w6.heap.size zval.toArray 42 :: As.cells w.heap.size pa 31 :: As.mp0 bm :: L) from by have q := St.sh [_, _, _, _] [3, 0, 1, 2] (by decide) H7.out; exact q) rfl (.int .i64 16) rfl [.int .i64 16] rfl (by decide) size3 (by simp [Value.oneCell']) (fun p hp => .inl ⟨hp, by rw [List.mem_singleton.1 hp]; exact .inl (by simp)⟩) ?_
       intro W8 HW8
       have H8 := Lib.hid (show St w0 W8 (cmp bc bm :: As.sty 53 31 bo [(37, .int .i64 16)] :: As.cells w6.heap.size zval.toArray 42 :: As.cells w.heap.size pa 31 :: As.mp0 bm :: L) from HW8)
       have HC8 := Lib.hid (Comp.of (bc := bc) (bm := bm) H8.out (.head _) (.tail _ (.tail _ (.tail _ (.tail _ (.head _))))))
       clear HW8)
    | (go_at_call 16; refine (get_st _ (by decide) HC8.out H8.out).mono ?_; rintro e w9 ⟨rfl, -, h9, -⟩; have H9 := Lib.hid (show St w0 w9 (As.cells w6.heap.size zval.toArray 42 :: cmp bc bm :: As.sty 53 31 bo [(37, .int .i64 16)] :: As.cells w.heap.size pa 31 :: As.mp0 bm :: L) from by have q := St.sh [_, _, _] [2, 0, 1] (by decide) h9; exact q); clear h9)
    | (refine st_store rfl (.tmp 6) (.tmp 77) rfl H9.out zval rfl rfl rfl rfl size42 (by simp [Value.oneCell', zval]) ?_; intro WA HWA; have HA := Lib.hid HWA; clear HWA)
    | (refine st_ld1 rfl (.tmp 86) rfl HA.out (.tail _ (.tail _ (.tail _ (.head _)))) rfl P38 Tryz.isAgg3 ?_)
    | (refine st_put (K' := [(37, .int .i64 16)]) rfl (.tmp 89) (.tmp 87) rfl (show St w0 WA (As.sty 53 31 bo [(37, .int .i64 16)] :: As.cells w6.heap.size zval.toArray 42 :: cmp bc bm :: As.cells w.heap.size pa 31 :: As.mp0 bm :: L) from by have q := St.sh [_, _, _] [2, 0, 1] (by decide) HA.out; exact q) rfl (.int .i64 20) rfl [.int .i64 20] rfl (by decide) size3 (by simp [Value.oneCell']) (fun p hp => .inl ⟨hp, by rw [List.mem_singleton.1 hp]; exact .inl (by simp)⟩) ?_; intro WB HWB; have HB := Lib.hid HWB; clear HWB)
    | fail)
  refine bodyPost_ret (results_none rfl _ _ _) rfl ⟨rfl, ?_⟩
  have q := St.sh [_, _, _, _, _] [1, 3, 2, 4, 0] (by decide) HB.out
  exact q.drop.drop
abbrev blk : Value := .string ⟨#[35, 48, 48, 48, 48, 48, 48]⟩
set_option maxRecDepth 100000 in
set_option maxHeartbeats 4000000 in
theorem colors_c {w0 w : World} {L : List As} {bc bm bo : Nat} (h : St w0 w (cmp bc bm :: As.mp0 bm :: As.sty 53 31 bo [(37, .int .i64 16)] :: L)) :
    Calls Tryz.prog 11 #[.pointer (some ⟨bc, 0, none⟩), .pointer (some ⟨bo, 0, none⟩), .agg pst.toArray] w fun e w' => e = .returned (.tuple #[]) ∧ St w0 w' (cmp bc bm :: As.mp0 bm :: As.sty 53 31 bo [(35, blk), (37, .int .i64 16)] :: L) := by
  have h1 := h.new pst.toArray 31
  have H1 := Lib.hid (show St w0 _ (As.sty 53 31 bo [(37, .int .i64 16)] :: As.cells w.heap.size pst.toArray 31 :: cmp bc bm :: As.mp0 bm :: L) from by have q := St.sh [_, _, _, _] [3, 0, 1, 2] (by decide) h1; exact q)
  clear h1 h
  obtain ⟨pa, hpa⟩ : ∃ pa, pst.toArray = pa := ⟨_, rfl⟩
  have P35 : pa[35]? = some blk := by rw [← hpa]; rfl
  rw [hpa] at H1 ⊢
  clear hpa
  go_enter Tryz.func11, Tryz.ntmps11
  go_wp2_with (first
    | (refine st_put (K' := [(35, blk), (37, .int .i64 16)]) rfl (.tmp 14) (.const blk) rfl H1.out rfl blk rfl [blk] rfl (by decide) size9 (by simp [Value.oneCell']) (fun p hp => by rcases List.mem_cons.1 hp with q | q; (· rw [q]; exact .inr ⟨0, rfl, rfl⟩); (· exact .inl ⟨q, by rw [List.mem_singleton.1 q]; exact .inr (by simp)⟩)) ?_
       intro W2 HW2
       have H2 := Lib.hid HW2
       have HC2 := Lib.hid (Comp.of (bc := bc) (bm := bm) HW2 (.tail _ (.tail _ (.head _))) (.tail _ (.tail _ (.tail _ (.head _)))))
       clear HW2)
    | (go_at_call 16; refine (get_st _ (by decide) HC2.out H2.out).mono ?_; rintro e w3 ⟨rfl, hc3, h3, -⟩; have H3 := Lib.hid (h3.alloc (.cells zval.toArray 42)); clear h3 hc3 H2 HC2)
    | (refine st_ld1 rfl (.tmp 25) rfl H3.out (.tail _ (.head _)) rfl P35 Tryz.isAgg9 ?_)
    | (refine st_put (K' := [(35, blk), (37, .int .i64 16)]) rfl (.tmp 28) (.tmp 26) rfl H3.out rfl blk rfl [blk] rfl (by decide) size9 (by simp [Value.oneCell']) (fun p hp => by rcases List.mem_cons.1 hp with q | q; (· rw [q]; exact .inr ⟨0, rfl, rfl⟩); (· exact .inl ⟨List.mem_cons_of_mem _ q, by rw [List.mem_singleton.1 q]; exact .inr (by simp)⟩)) ?_
       intro W4 HW4; have H4 := Lib.hid HW4; clear HW4)
    | (refine st_get rfl (.tmp 39) rfl H4.out (.head _) rfl (.head _) Tryz.isAgg9 ?_)
    | (refine st_put (K' := [(35, blk), (37, .int .i64 16)]) rfl (.tmp 42) (.tmp 40) rfl H4.out rfl blk rfl [blk] rfl (by decide) size9 (by simp [Value.oneCell']) (fun p hp => .inl ⟨hp, .inr (by rcases List.mem_cons.1 hp with q | q; (· rw [q]; simp); (· rw [List.mem_singleton.1 q]; simp))⟩) ?_
       intro W5 HW5
       have H5 := Lib.hid HW5
       have HC5 := Lib.hid (Comp.of (bc := bc) (bm := bm) HW5 (.tail _ (.tail _ (.head _))) (.tail _ (.tail _ (.tail _ (.head _)))))
       clear HW5)
    | (go_at_call 16; refine (get_st _ (by decide) HC5.out H5.out).mono ?_; rintro e w6 ⟨rfl, hc6, h6, -⟩; have H6 := Lib.hid (h6.alloc (.cells zval.toArray 42)); have HC6 := Lib.hid (hc6.alloc (.cells zval.toArray 42)); clear h6 hc6 H5 HC5)
    | (go_at_call 16; refine (get_st _ (by decide) HC6.out H6.out).mono ?_; rintro e w7 ⟨rfl, -, h7, -⟩; have H7 := Lib.hid (h7.alloc (.cells zval.toArray 42)); clear h7)
    | fail)
  refine ⟨rfl, _, results_none rfl _ _ _, rfl, ?_⟩
  have q := St.sh [_, _, _, _] [2, 3, 0, 1] (by decide) H7.out
  exact (St.sh [_, _, _, _] [3, 0, 1, 2] (by decide) q).drop
end Go.Proofs.YtflokpokaohikaaGreatDoor
