/-
  CascadeResolves: the walk of apply.
-/
import Derived.Test.YtflokpokaohikaaGreatDoorCe
set_option linter.unusedVariables false
set_option linter.unusedSimpArgs false
namespace Go.Proofs.YtflokpokaohikaaGreatDoor
open Go.RowKit Go.K Go.Maps
def z31 : List Value := (List.replicate 34 (.int .i64 0)) ++ [.string ⟨#[]⟩, .string ⟨#[]⟩, .string ⟨#[]⟩, .int .i64 0, .int .i64 0] ++ List.replicate 4 (.int .i64 0) ++ [.bool false] ++ List.replicate 6 (.int .i64 0) ++ [.bool false, .int .i64 0, .int .i64 0]
theorem z31_size : z31.toArray.size = 53 := rfl
theorem z31_one : ∀ v ∈ z31.toArray, v.oneCell' = true := by
  intro v hv
  have : v ∈ z31 := by simpa using hv
  exact List.all_eq_true.1 (show z31.all (·.oneCell') = true from rfl) v this
theorem st_ldw {P : Program} {w0 w : World} {L : List As} {ops : Array Oper} {rest : List Oper} {op : Oper} {a : Act} {Q : Exit → Act → World → Prop} {b sz : Nat} {cs : Array Value} {t : TypeId} (hgd : op.guard = none) (x : Operand) (ho : op.op = .load t x)
    (H : St w0 w L) (hm : As.cells b cs t ∈ L) (hx : a.eval x = .pointer (some ⟨b, 0, none⟩)) (hl : cs.size = sz) {d : TypeDesc} (hu : P.underlying t = some d) (hd : d.isRow = true) (hi : (P.info? t).map (·.size) = some sz)
    (h : wpList P ops Q rest (a.put op.dst (.agg cs)) w) : wpList P ops Q (op :: rest) a w :=
  st_load hgd x ho cs.toList H (by rw [Array.toArray_toList]; exact hm) hx (by simpa using hl) hu hd hi (by rw [Array.toArray_toList]; exact h)
theorem lenv {cs : Array Value} {o : Nat} {x y : Value} (h1 : cs[o]? = some x) (h2 : cs[o + 1]? = some y) : ∀ j v, [x, y][j]? = some v → cs[o + j]? = some v
  | 0, v, h => by simp at h; rw [← h]; exact h1
  | 1, v, h => by simp at h; rw [← h]; exact h2
  | j + 2, v, h => by simp at h
def ApPost (w : World) (e : Ending) (w' : World) : Prop := ∃ cs : Array Value, e = .returned (.agg cs) ∧ cs.size = 53 ∧ (∀ v ∈ cs, v.oneCell' = true) ∧ cs[37]? = some (.int .i64 16) ∧ cs[35]? = some blk ∧ Below w.heap.size w w'
set_option maxRecDepth 100000 in
set_option maxHeartbeats 8000000 in
theorem apply_c (w : World) (v : Value) : Calls Tryz.prog 8 #[.slice none 0 0, .agg pst.toArray, v] w (ApPost w) := by
  have h4 := (st_mp0 (((St.start w (Below.refl _ _)).new pst.toArray 31).new z31.toArray 31)).new #[.map (some (w.heap.size + 1 + 1)), .int .i64 0] 40
  have h5 := h4.new z31.toArray 31
  simp only [World.size_alloc] at h5
  have H5 := Lib.hid h5
  clear h4 h5
  have hmm := @run_makeMap Tryz.prog
  obtain ⟨pa, hpa⟩ : ∃ pa, pst.toArray = pa := ⟨_, rfl⟩
  rw [hpa] at H5 ⊢
  go_enter Tryz.func8, Tryz.ntmps8
  go_upto_region 3 with fail
  refine wp_loop_once ?_
  go_upto_region 9 with fail
  have hw : St w ((((w.alloc (.cells pa 31)).alloc (.cells z31.toArray 31)).alloc (.map #[] 0)).alloc (.cells #[.map (some (w.heap.size + 1 + 1)), .int .i64 0] 40) |>.alloc (.cells z31.toArray 31))
      (ApL pa (w.heap.size + 1 + 1 + 1 + 1) (w.heap.size + 1 + 1 + 1) (w.heap.size + 1 + 1) w.heap.size [] [As.cells (w.heap.size + 1) z31.toArray 31]) := by
    have q1 := sty_of (n := 53) (K := []) H5.out rfl z31_one (fun p hp => by cases hp)
    have q2 := St.sh [_, _, _, _, _] [1, 0, 2, 3, 4] (by decide) q1
    have q3 := sty_of (n := 2) (K := [(0, .map (some (w.heap.size + 1 + 1)))]) q2 rfl (by simp [Value.oneCell']) (fun p hp => by rw [List.mem_singleton.1 hp]; rfl)
    have q4 := St.sh [_, _, _, _, _] [1, 0, 2, 4, 3] (by decide) q3
    exact q4
  change Code.wp _ _ _ _ ((((w.alloc (.cells pa 31)).alloc (.cells z31.toArray 31)).alloc (.map #[] 0)).alloc (.cells #[.map (some (w.heap.size + 1 + 1)), .int .i64 0] 40) |>.alloc (.cells z31.toArray 31))
  revert hw
  generalize ((((w.alloc (.cells pa 31)).alloc (.cells z31.toArray 31)).alloc (.map #[] 0)).alloc (.cells #[.map (some (w.heap.size + 1 + 1)), .int .i64 0] 40) |>.alloc (.cells z31.toArray 31)) = W
  generalize w.heap.size + 1 + 1 + 1 + 1 = bo
  generalize w.heap.size + 1 + 1 + 1 = bc
  generalize w.heap.size + 1 + 1 = bm
  generalize w.heap.size + 1 = br
  generalize hmp : w.heap.size = mp
  intro hw
  have H := Lib.hid hw
  have HP := Lib.hid hpa
  have P0 : pa[0]? = some (.int .i64 0) := by rw [← hpa]; rfl
  have P1 : pa[1]? = some (.int .i64 0) := by rw [← hpa]; rfl
  have P39 : pa[39]? = some (.int .i64 0) := by rw [← hpa]; rfl
  have P40 : pa[40]? = some (.int .i64 0) := by rw [← hpa]; rfl
  have P41 : pa[41]? = some (.int .i64 0) := by rw [← hpa]; rfl
  have P42 : pa[42]? = some (.int .i64 0) := by rw [← hpa]; rfl
  have P44 : pa[44]? = some (.int .i64 0) := by rw [← hpa]; rfl
  have P45 : pa[45]? = some (.int .i64 0) := by rw [← hpa]; rfl
  have P48 : pa[48]? = some (.int .i64 0) := by rw [← hpa]; rfl
  have P49 : pa[49]? = some (.int .i64 0) := by rw [← hpa]; rfl
  have P51 : pa[51]? = some (.int .i64 0) := by rw [← hpa]; rfl
  have P52 : pa[52]? = some (.int .i64 0) := by rw [← hpa]; rfl
  have P2 : pa[2]? = some (.int .i64 0) := by rw [← hpa]; rfl
  have P3 : pa[3]? = some (.int .i64 0) := by rw [← hpa]; rfl
  have P4 : pa[4]? = some (.int .i64 0) := by rw [← hpa]; rfl
  have P5 : pa[5]? = some (.int .i64 0) := by rw [← hpa]; rfl
  have P6 : pa[6]? = some (.int .i64 0) := by rw [← hpa]; rfl
  have P7 : pa[7]? = some (.int .i64 0) := by rw [← hpa]; rfl
  have P8 : pa[8]? = some (.int .i64 0) := by rw [← hpa]; rfl
  have P9 : pa[9]? = some (.int .i64 0) := by rw [← hpa]; rfl
  have P10 : pa[10]? = some (.int .i64 0) := by rw [← hpa]; rfl
  have P11 : pa[11]? = some (.int .i64 0) := by rw [← hpa]; rfl
  have P12 : pa[12]? = some (.int .i64 0) := by rw [← hpa]; rfl
  have P13 : pa[13]? = some (.int .i64 0) := by rw [← hpa]; rfl
  have P46 : pa[46]? = some (.int .i64 0) := by rw [← hpa]; rfl
  have P47 : pa[47]? = some (.int .i64 0) := by rw [← hpa]; rfl
  have P43 : pa[43]? = some (.bool false) := by rw [← hpa]; rfl
  have P50 : pa[50]? = some (.bool false) := by rw [← hpa]; rfl
  have PS : pa.size = 53 := by rw [← hpa]; rfl
  clear hw H5 hmm hpa
  go_upto_region 13 with (first
    | (refine st_ldw rfl (.tmp 4) rfl H.out (.tail _ (.tail _ (.tail _ (.head _)))) rfl PS Tryz.underlying31 rfl size31 ?_)
    | (go_at_call 10; refine (fonts_st HP.out H.out).mono ?_; rintro e W' ⟨rfl, HW⟩; clear H; have H := Lib.hid HW; clear HW)
    | (go_at_call 11; refine (colors_st HP.out H.out).mono ?_; rintro e W' ⟨rfl, HW⟩; clear H; have H := Lib.hid HW; clear HW)
    | (go_at_call 12; refine (boxes_st HP.out H.out).mono ?_; rintro e W' ⟨rfl, HW⟩; clear H; have H := Lib.hid HW; clear HW)
    | fail)
  have hq := H.out.new #[.int .i64 1, .int .i64 0] 26
  have h2 := St.sh [_, _, _, _, _] [1, 2, 3, 4, 0] (by decide) hq
  revert h2
  clear hq
  generalize W'.alloc (.cells #[.int .i64 1, .int .i64 0] 26) = W2
  generalize W'.heap.size = mz
  intro h2
  clear H
  have H := Lib.hid (show St w W2 (ApL pa bo bc bm mp kk (As.cells mz #[.int .i64 1, .int .i64 0] 26 :: [As.cells br z31.toArray 31])) from h2)
  clear h2
  go_upto_region 14 with (first
    | (refine st_ld1 rfl (.tmp 47) rfl H.out (.tail _ (.tail _ (.tail _ (.head _)))) rfl P0 Tryz.isAgg3 ?_)
    | (go_at_call 13; refine (word_st ⟨#[100, 105, 115, 112, 108, 97, 121]⟩ _ _ _ _ (by decide) H.out).mono ?_; rintro e W' ⟨rfl, HW⟩; clear H; have H := Lib.hid (HW); clear HW)
    | (refine st_put (K' := kk) rfl (.tmp 50) (.tmp 49) rfl H.out rfl (.int .i64 2) rfl [.int .i64 2] rfl (by simp) size3 (by simp [Value.oneCell']) (keepK (by decide)) ?_; intro W' HW; clear H; have H := Lib.hid HW; clear HW)
    | fail)
  go_upto_region 15 with (first
    | (refine st_ld1 rfl (.tmp 52) rfl H.out (.tail _ (.tail _ (.tail _ (.head _)))) rfl P1 Tryz.isAgg3 ?_)
    | (go_at_call 13; refine (word_st ⟨#[112, 111, 115, 105, 116, 105, 111, 110]⟩ _ _ _ _ (by decide) H.out).mono ?_; rintro e W' ⟨rfl, HW⟩; clear H; have H := Lib.hid (HW); clear HW)
    | (refine st_put (K' := k2) rfl (.tmp 55) (.tmp 54) rfl H.out rfl (.int .i64 0) rfl [.int .i64 0] rfl (by simp) size3 (by simp [Value.oneCell']) (fun p hp => by rcases List.mem_cons.1 hp with q | q; (· rw [q]; exact .inr ⟨0, rfl, rfl⟩); (· exact (kk_keep (by simp) p q))) ?_; intro W' HW; clear H; have H := Lib.hid HW; clear HW)
    | fail)
  go_upto_region 16 with (first
    | (refine st_ldn rfl (.tmp 57) rfl H.out (.tail _ (.tail _ (.tail _ (.head _)))) rfl [.int .i64 0, .int .i64 0] (lenv (o := 2) P2 P3) rfl Tryz.underlying26 rfl size26 ?_)
    | (go_at_call 14; refine (long_st ⟨#[108, 101, 102, 116]⟩ _ _ _ _ (by decide) H.out).mono ?_; rintro e W' ⟨rfl, HW⟩; clear H; have H := Lib.hid (HW); clear HW)
    | (refine st_put (K' := k2) rfl (.tmp 61) (.tmp 60) rfl H.out rfl (.agg #[.int .i64 0, .int .i64 0]) rfl [.int .i64 0, .int .i64 0] rfl (by simp) size26 (by simp [Value.oneCell']) (keepK (by decide)) ?_; intro W' HW; clear H; have H := Lib.hid HW; clear HW)
    | fail)
  go_upto_region 17 with (first
    | (refine st_ldn rfl (.tmp 63) rfl H.out (.tail _ (.tail _ (.tail _ (.head _)))) rfl [.int .i64 0, .int .i64 0] (lenv (o := 4) P4 P5) rfl Tryz.underlying26 rfl size26 ?_)
    | (go_at_call 14; refine (long_st ⟨#[116, 111, 112]⟩ _ _ _ _ (by decide) H.out).mono ?_; rintro e W' ⟨rfl, HW⟩; clear H; have H := Lib.hid (HW); clear HW)
    | (refine st_put (K' := k2) rfl (.tmp 67) (.tmp 66) rfl H.out rfl (.agg #[.int .i64 0, .int .i64 0]) rfl [.int .i64 0, .int .i64 0] rfl (by simp) size26 (by simp [Value.oneCell']) (keepK (by decide)) ?_; intro W' HW; clear H; have H := Lib.hid HW; clear HW)
    | fail)
  go_upto_region 18 with (first
    | (refine st_ldn rfl (.tmp 69) rfl H.out (.tail _ (.tail _ (.tail _ (.head _)))) rfl [.int .i64 0, .int .i64 0] (lenv (o := 6) P6 P7) rfl Tryz.underlying26 rfl size26 ?_)
    | (go_at_call 14; refine (long_st ⟨#[119, 105, 100, 116, 104]⟩ _ _ _ _ (by decide) H.out).mono ?_; rintro e W' ⟨rfl, HW⟩; clear H; have H := Lib.hid (HW); clear HW)
    | (refine st_put (K' := k2) rfl (.tmp 73) (.tmp 72) rfl H.out rfl (.agg #[.int .i64 0, .int .i64 0]) rfl [.int .i64 0, .int .i64 0] rfl (by simp) size26 (by simp [Value.oneCell']) (keepK (by decide)) ?_; intro W' HW; clear H; have H := Lib.hid HW; clear HW)
    | fail)
  go_upto_region 19 with (first
    | (refine st_ldn rfl (.tmp 75) rfl H.out (.tail _ (.tail _ (.tail _ (.head _)))) rfl [.int .i64 0, .int .i64 0] (lenv (o := 8) P8 P9) rfl Tryz.underlying26 rfl size26 ?_)
    | (go_at_call 14; refine (long_st ⟨#[104, 101, 105, 103, 104, 116]⟩ _ _ _ _ (by decide) H.out).mono ?_; rintro e W' ⟨rfl, HW⟩; clear H; have H := Lib.hid (HW); clear HW)
    | (refine st_put (K' := k2) rfl (.tmp 79) (.tmp 78) rfl H.out rfl (.agg #[.int .i64 0, .int .i64 0]) rfl [.int .i64 0, .int .i64 0] rfl (by simp) size26 (by simp [Value.oneCell']) (keepK (by decide)) ?_; intro W' HW; clear H; have H := Lib.hid HW; clear HW)
    | fail)
  go_upto_region 20 with (first
    | (refine st_ldn rfl (.tmp 81) rfl H.out (.tail _ (.tail _ (.tail _ (.head _)))) rfl [.int .i64 0, .int .i64 0] (lenv (o := 10) P10 P11) rfl Tryz.underlying26 rfl size26 ?_)
    | (refine st_load rfl (.tmp 11) rfl [.int .i64 1, .int .i64 0] H.out (.tail _ (.tail _ (.tail _ (.tail _ (.head _))))) rfl rfl Tryz.underlying26 rfl size26 ?_)
    | (go_at_call 14; refine (long_st ⟨#[109, 105, 110, 45, 119, 105, 100, 116, 104]⟩ _ _ _ _ (by decide) H.out).mono ?_; rintro e W' ⟨rfl, HW⟩; clear H; have H := Lib.hid (HW); clear HW)
    | (refine st_put (K' := k2) rfl (.tmp 85) (.tmp 84) rfl H.out rfl (.agg #[.int .i64 1, .int .i64 0]) rfl [.int .i64 1, .int .i64 0] rfl (by simp) size26 (by simp [Value.oneCell']) (keepK (by decide)) ?_; intro W' HW; clear H; have H := Lib.hid HW; clear HW)
    | fail)
  go_upto_region 21 with (first
    | (refine st_ldn rfl (.tmp 87) rfl H.out (.tail _ (.tail _ (.tail _ (.head _)))) rfl [.int .i64 0, .int .i64 0] (lenv (o := 12) P12 P13) rfl Tryz.underlying26 rfl size26 ?_)
    | (go_at_call 14; refine (long_st ⟨#[109, 97, 120, 45, 119, 105, 100, 116, 104]⟩ _ _ _ _ (by decide) H.out).mono ?_; rintro e W' ⟨rfl, HW⟩; clear H; have H := Lib.hid (HW); clear HW)
    | (refine st_put (K' := k2) rfl (.tmp 91) (.tmp 90) rfl H.out rfl (.agg #[.int .i64 0, .int .i64 0]) rfl [.int .i64 0, .int .i64 0] rfl (by simp) size26 (by simp [Value.oneCell']) (keepK (by decide)) ?_; intro W' HW; clear H; have H := Lib.hid HW; clear HW)
    | fail)
  go_upto_region 22 with (first
    | (refine st_ld1 rfl (.tmp 93) rfl H.out (.tail _ (.tail _ (.tail _ (.head _)))) rfl P39 Tryz.isAgg3 ?_)
    | (go_at_call 13; refine (word_st ⟨#[116, 101, 120, 116, 45, 97, 108, 105, 103, 110]⟩ _ _ _ _ (by decide) H.out).mono ?_; rintro e W' ⟨rfl, HW⟩; clear H; have H := Lib.hid (HW); clear HW)
    | (refine st_put (K' := k2) rfl (.tmp 96) (.tmp 95) rfl H.out rfl (.int .i64 0) rfl [.int .i64 0] rfl (by simp) size3 (by simp [Value.oneCell']) (keepK (by decide)) ?_; intro W' HW; clear H; have H := Lib.hid HW; clear HW)
    | fail)
  go_upto_region 23 with (first
    | (refine st_ld1 rfl (.tmp 98) rfl H.out (.tail _ (.tail _ (.tail _ (.head _)))) rfl P40 Tryz.isAgg3 ?_)
    | (go_at_call 13; refine (word_st ⟨#[119, 104, 105, 116, 101, 45, 115, 112, 97, 99, 101]⟩ _ _ _ _ (by decide) H.out).mono ?_; rintro e W' ⟨rfl, HW⟩; clear H; have H := Lib.hid (HW); clear HW)
    | (refine st_put (K' := k2) rfl (.tmp 101) (.tmp 100) rfl H.out rfl (.int .i64 0) rfl [.int .i64 0] rfl (by simp) size3 (by simp [Value.oneCell']) (keepK (by decide)) ?_; intro W' HW; clear H; have H := Lib.hid HW; clear HW)
    | fail)
  go_upto_region 24 with (first
    | (refine st_ld1 rfl (.tmp 103) rfl H.out (.tail _ (.tail _ (.tail _ (.head _)))) rfl P41 Tryz.isAgg3 ?_)
    | (go_at_call 13; refine (word_st ⟨#[118, 101, 114, 116, 105, 99, 97, 108, 45, 97, 108, 105, 103, 110]⟩ _ _ _ _ (by decide) H.out).mono ?_; rintro e W' ⟨rfl, HW⟩; clear H; have H := Lib.hid (HW); clear HW)
    | (refine st_put (K' := k2) rfl (.tmp 106) (.tmp 105) rfl H.out rfl (.int .i64 0) rfl [.int .i64 0] rfl (by simp) size3 (by simp [Value.oneCell']) (keepK (by decide)) ?_; intro W' HW; clear H; have H := Lib.hid HW; clear HW)
    | fail)
  go_upto_region 25 with (first
    | (refine st_ld1 rfl (.tmp 108) rfl H.out (.tail _ (.tail _ (.tail _ (.head _)))) rfl P42 Tryz.isAgg3 ?_)
    | (go_at_call 13; refine (word_st ⟨#[102, 108, 101, 120, 45, 100, 105, 114, 101, 99, 116, 105, 111, 110]⟩ _ _ _ _ (by decide) H.out).mono ?_; rintro e W' ⟨rfl, HW⟩; clear H; have H := Lib.hid (HW); clear HW)
    | (refine st_put (K' := k2) rfl (.tmp 111) (.tmp 110) rfl H.out rfl (.int .i64 0) rfl [.int .i64 0] rfl (by simp) size3 (by simp [Value.oneCell']) (keepK (by decide)) ?_; intro W' HW; clear H; have H := Lib.hid HW; clear HW)
    | fail)
  go_upto_region 29 with (first
    | (refine st_ld1 rfl (.tmp 112) rfl H.out (.tail _ (.tail _ (.tail _ (.head _)))) rfl P43 Tryz.isAgg4 ?_)
    | (go_at_call 13; refine (word_st ⟨#[102, 108, 101, 120, 45, 119, 114, 97, 112]⟩ _ _ _ _ (by decide) H.out).mono ?_; rintro e W' ⟨rfl, HW⟩; clear H; have H := Lib.hid (HW); clear HW)
    | (refine st_put (K' := k2) rfl (.tmp 118) (.tmp 117) rfl H.out rfl (.bool false) rfl [.bool false] rfl (by simp) size4 (by simp [Value.oneCell']) (keepK (by decide)) ?_; intro W' HW; clear H; have H := Lib.hid HW; clear HW)
    | fail)
  go_upto_region 30 with (first
    | (refine st_ld1 rfl (.tmp 120) rfl H.out (.tail _ (.tail _ (.tail _ (.head _)))) rfl P44 Tryz.isAgg3 ?_)
    | (go_at_call 15; refine (number_st ⟨#[102, 108, 101, 120, 45, 103, 114, 111, 119]⟩ _ _ _ (by decide) H.out).mono ?_; rintro e W' ⟨rfl, HW⟩; clear H; have H := Lib.hid (HW); clear HW)
    | (refine st_put (K' := k2) rfl (.tmp 123) (.tmp 122) rfl H.out rfl (.int .i64 0) rfl [.int .i64 0] rfl (by simp) size3 (by simp [Value.oneCell']) (keepK (by decide)) ?_; intro W' HW; clear H; have H := Lib.hid HW; clear HW)
    | fail)
  go_upto_region 31 with (first
    | (refine st_ld1 rfl (.tmp 125) rfl H.out (.tail _ (.tail _ (.tail _ (.head _)))) rfl P45 Tryz.isAgg3 ?_)
    | (go_at_call 15; refine (number_st ⟨#[102, 108, 101, 120, 45, 115, 104, 114, 105, 110, 107]⟩ _ _ _ (by decide) H.out).mono ?_; rintro e W' ⟨rfl, HW⟩; clear H; have H := Lib.hid (HW); clear HW)
    | (refine st_put (K' := k2) rfl (.tmp 128) (.tmp 127) rfl H.out rfl (.int .i64 1000) rfl [.int .i64 1000] rfl (by simp) size3 (by simp [Value.oneCell']) (keepK (by decide)) ?_; intro W' HW; clear H; have H := Lib.hid HW; clear HW)
    | fail)
  go_upto_region 32 with (first
    | (refine st_ldn rfl (.tmp 130) rfl H.out (.tail _ (.tail _ (.tail _ (.head _)))) rfl [.int .i64 0, .int .i64 0] (lenv (o := 46) P46 P47) rfl Tryz.underlying26 rfl size26 ?_)
    | (go_at_call 14; refine (long_st ⟨#[102, 108, 101, 120, 45, 98, 97, 115, 105, 115]⟩ _ _ _ _ (by decide) H.out).mono ?_; rintro e W' ⟨rfl, HW⟩; clear H; have H := Lib.hid (HW); clear HW)
    | (refine st_put (K' := k2) rfl (.tmp 134) (.tmp 133) rfl H.out rfl (.agg #[.int .i64 0, .int .i64 0]) rfl [.int .i64 0, .int .i64 0] rfl (by simp) size26 (by simp [Value.oneCell']) (keepK (by decide)) ?_; intro W' HW; clear H; have H := Lib.hid HW; clear HW)
    | fail)
  go_upto_region 33 with (first
    | (refine st_ld1 rfl (.tmp 136) rfl H.out (.tail _ (.tail _ (.tail _ (.head _)))) rfl P48 Tryz.isAgg3 ?_)
    | (go_at_call 15; refine (number_st ⟨#[111, 114, 100, 101, 114]⟩ _ _ _ (by decide) H.out).mono ?_; rintro e W' ⟨rfl, HW⟩; clear H; have H := Lib.hid (HW); clear HW)
    | (refine st_put (K' := k2) rfl (.tmp 139) (.tmp 138) rfl H.out rfl (.int .i64 0) rfl [.int .i64 0] rfl (by simp) size3 (by simp [Value.oneCell']) (keepK (by decide)) ?_; intro W' HW; clear H; have H := Lib.hid HW; clear HW)
    | fail)
  go_upto_region 34 with (first
    | (refine st_ld1 rfl (.tmp 141) rfl H.out (.tail _ (.tail _ (.tail _ (.head _)))) rfl P49 Tryz.isAgg3 ?_)
    | (go_at_call 15; refine (number_st ⟨#[122, 45, 105, 110, 100, 101, 120]⟩ _ _ _ (by decide) H.out).mono ?_; rintro e W' ⟨rfl, HW⟩; clear H; have H := Lib.hid (HW); clear HW)
    | (refine st_put (K' := k2) rfl (.tmp 144) (.tmp 143) rfl H.out rfl (.int .i64 0) rfl [.int .i64 0] rfl (by simp) size3 (by simp [Value.oneCell']) (keepK (by decide)) ?_; intro W' HW; clear H; have H := Lib.hid HW; clear HW)
    | fail)
  go_upto_region 41 with (first
    | (go_at_call 16; refine (getz_st ⟨#[122, 45, 105, 110, 100, 101, 120]⟩ (by decide) H.out).mono ?_; rintro e W' ⟨rfl, HW⟩; clear H; have H := Lib.hid (HW.alloc (.cells zval.toArray 42)); clear HW)
    | (refine st_put (K' := k2) rfl (.tmp 151) (.const (.bool true)) rfl H.out rfl (.bool true) rfl [.bool true] rfl (by simp) size4 (by simp [Value.oneCell']) (keepK (by decide)) ?_; intro W' HW; clear H; have H := Lib.hid HW; clear HW)
    | (refine st_ld1 rfl (.tmp 154) rfl H.out (.tail _ (.tail _ (.tail _ (.head _)))) rfl P50 Tryz.isAgg4 ?_)
    | (refine st_put (K' := k2) rfl (.tmp 156) (.tmp 155) rfl H.out rfl (.bool false) rfl [.bool false] rfl (by simp) size4 (by simp [Value.oneCell']) (keepK (by decide)) ?_; intro W' HW; clear H; have H := Lib.hid HW; clear HW)
    | (refine st_put (K' := k2) rfl (.tmp 162) (.tmp 161) rfl H.out rfl (.bool false) rfl [.bool false] rfl (by simp) size4 (by simp [Value.oneCell']) (keepK (by decide)) ?_; intro W' HW; clear H; have H := Lib.hid HW; clear HW)
    | fail)
  go_upto_region 42 with (first
    | (refine st_ld1 rfl (.tmp 164) rfl H.out (.tail _ (.tail _ (.tail _ (.head _)))) rfl P51 Tryz.isAgg3 ?_)
    | (go_at_call 13; refine (word_st ⟨#[111, 118, 101, 114, 102, 108, 111, 119]⟩ _ _ _ _ (by decide) H.out).mono ?_; rintro e W' ⟨rfl, HW⟩; clear H; have H := Lib.hid (HW); clear HW)
    | (refine st_put (K' := k2) rfl (.tmp 167) (.tmp 166) rfl H.out rfl (.int .i64 0) rfl [.int .i64 0] rfl (by simp) size3 (by simp [Value.oneCell']) (keepK (by decide)) ?_; intro W' HW; clear H; have H := Lib.hid HW; clear HW)
    | fail)
  go_upto_region 43 with (first
    | (refine st_ld1 rfl (.tmp 169) rfl H.out (.tail _ (.tail _ (.tail _ (.head _)))) rfl P52 Tryz.isAgg3 ?_)
    | (go_at_call 13; refine (word_st ⟨#[118, 105, 115, 105, 98, 105, 108, 105, 116, 121]⟩ _ _ _ _ (by decide) H.out).mono ?_; rintro e W' ⟨rfl, HW⟩; clear H; have H := Lib.hid (HW); clear HW)
    | (refine st_put (K' := k2) rfl (.tmp 172) (.tmp 171) rfl H.out rfl (.int .i64 0) rfl [.int .i64 0] rfl (by simp) size3 (by simp [Value.oneCell']) (keepK (by decide)) ?_; intro W' HW; clear H; have H := Lib.hid HW; clear HW)
    | fail)
  go_upto_region 45 with (first
    | (refine st_get rfl (.tmp 173) rfl H.out (.head _) rfl (.head _) Tryz.isAgg3 ?_)
    | fail)
  obtain ⟨⟨cs, hs, hc1, hk⟩, h9⟩ := H.out.open_ex
  have H9 := Lib.hid h9
  clear h9 H
  go_wp2_with (first
    | (refine st_ldw rfl (.tmp 10) rfl H9.out (.head _) rfl hs Tryz.underlying31 rfl size31 ?_)
    | (refine st_store rfl (.tmp 6) (.tmp 183) rfl (St.sh [_, _, _, _, _, _] [5, 0, 1, 2, 3, 4] (by decide) H9.out) cs.toList rfl (congrArg Value.agg (Array.toArray_toList (xs := cs)).symm) z31_size (by simpa using hs) size31 (fun v hv => hc1 v (by simpa using hv)) ?_; intro W9 hW9; simp only [Array.toArray_toList] at hW9; have HA := Lib.hid hW9; clear hW9)
    | fail)
  exact bodyPost_ret (results_cell_row (P := Tryz.prog) Tryz.results8 _ _ br 31 cs _ _ rfl HA.out.blk.1 Tryz.underlying31 rfl (by rw [hs]; exact size31)) rfl ⟨cs, rfl, hs, hc1, hk (37, .int .i64 16) (by simp), hk (35, blk) (by simp), HA.out.bel⟩
end Go.Proofs.YtflokpokaohikaaGreatDoor
