/-
  Contract of the chapter's stage.
-/
import Derived.Test.YtianjcbofgdfdaaFo
set_option linter.unusedVariables false
set_option linter.unusedSimpArgs false
namespace Go.Proofs.Ytianjcbofgdfdaa
open Go.RowKit Go.K Go.K.Ev

structure Bd (acs : List Ac) (K : Ek) (r : Rn) : Prop where
  len : r.S.l.length + left acs r.calls.length ≤ 100
  nx0 : 0 ≤ r.S.nx
  nx1 : r.S.nx + left acs r.calls.length ≤ 100
  can : K.can = r.d.can
theorem bd_call {acs : List Ac} {K : Ek} {r : Rn} (h : Bd acs K r) (x : Li) (i : Nat) (t : Tg) (ph : Int) : Bd acs K (callR acs r x i t ph) ∧ (callR acs r x i t ph).calls.length = r.calls.length + 1 := by
  have hl : (callR acs r x i t ph).calls.length = r.calls.length + 1 := by unfold callR; simp
  obtain ⟨g1, g2, g3, g4⟩ := actF_fac r.calls.length acs ({ r.d with pas := x.pas }, if x.once then ⟨r.S.l.eraseIdx i, r.S.nx⟩ else r.S)
  have hs : (if x.once then (⟨r.S.l.eraseIdx i, r.S.nx⟩ : Ls) else r.S).l.length ≤ r.S.l.length ∧ (if x.once then (⟨r.S.l.eraseIdx i, r.S.nx⟩ : Ls) else r.S).nx = r.S.nx := by
    split
    · exact ⟨List.length_eraseIdx_le _ _, rfl⟩
    · exact ⟨Nat.le_refl _, rfl⟩
  have e2 : (actF r.calls.length ({ r.d with pas := x.pas }, if x.once then ⟨r.S.l.eraseIdx i, r.S.nx⟩ else r.S) acs).2 = (callR acs r x i t ph).S := rfl
  have e1 : (callR acs r x i t ph).d.can = r.d.can := g1.can
  rw [e2] at g2 g3 g4
  have hsu := left_succ acs r.calls.length
  have h1 := h.len
  have h2 := h.nx0
  have h3 := h.nx1
  simp only at g2 g3 g4
  refine ⟨⟨?_, ?_, ?_, ?_⟩, hl⟩
  · rw [hl]; push_cast; omega
  · omega
  · rw [hl]; push_cast; omega
  · rw [h.can, e1]
theorem bd_one {acs : List Ac} {K : Ek} {r : Rn} (h : Bd acs K r) (t : Tg) (ph id : Int) : Bd acs K (oneR acs t ph r id) ∧ (oneR acs t ph r id).calls.length ≤ r.calls.length + 1 := by
  unfold oneR
  split
  · exact ⟨h, by omega⟩
  · split
    · obtain ⟨h1, h2⟩ := bd_call h (r.S.l.getD _ Li.zero) _ t ph
      exact ⟨h1, by omega⟩
    · exact ⟨h, by omega⟩

/-- one listener of a stage -/
def oneL (acs : List Ac) (t : Tg) (c : Bool) (ph : Int) (r : Rn) (x : Li) : Rn := if x.cap == c then oneR acs t ph r x.id else r
def procL (acs : List Ac) (t : Tg) (c : Bool) (ph : Int) (r : Rn) (l : List Li) : Rn := l.foldl (oneL acs t c ph) r
theorem procL_eq (acs : List Ac) (t : Tg) (c : Bool) (ph : Int) : ∀ (l : List Li) (r : Rn), procL acs t c ph r l = procQ acs t ph r ((l.filter (fun x => x.cap == c)).map Li.id)
  | [], r => rfl
  | x :: l, r => by
    have e : procL acs t c ph r (x :: l) = procL acs t c ph (oneL acs t c ph r x) l := rfl
    rw [e, procL_eq acs t c ph l, List.filter_cons]
    unfold oneL
    split <;> rfl
theorem procL_succ (acs : List Ac) (t : Tg) (c : Bool) (ph : Int) (r : Rn) (l : List Li) (k : Nat) (hk : k < l.length) : procL acs t c ph r (l.take (k + 1)) = oneL acs t c ph (procL acs t c ph r (l.take k)) l[k] := by
  unfold procL
  rw [List.take_succ_eq_append_getElem hk, List.foldl_append]; rfl
theorem bd_proc {acs : List Ac} {K : Ek} {r : Rn} (h : Bd acs K r) (t : Tg) (c : Bool) (ph : Int) (l : List Li) (k : Nat) : Bd acs K (procL acs t c ph r (l.take k)) ∧ (procL acs t c ph r (l.take k)).calls.length ≤ r.calls.length + k := by
  induction k with
  | zero => exact ⟨by simpa [procL] using h, by simp [procL]⟩
  | succ k ih =>
    by_cases hk : k < l.length
    · rw [procL_succ _ _ _ _ _ _ k hk]
      unfold oneL
      split
      · obtain ⟨h1, h2⟩ := bd_one ih.1 t ph l[k].id
        exact ⟨h1, by omega⟩
      · exact ⟨ih.1, by omega⟩
    · rw [List.take_of_length_le (by omega)] at ih ⊢
      exact ⟨ih.1, by omega⟩

def StgRel (w0 : World) (br : Nat) (K : Ek) (acs : List Ac) (t : Tg) (c : Bool) (ph : Int) (r : Rn) (now : List Li) (L : List As) (g : Nat) (v : Value) (wr : World) : Prop :=
  ∃ k : Nat, g = now.length - k ∧ k ≤ now.length ∧ v = .int .i64 k ∧ RObj w0 br K (procL acs t c ph r (now.take k)).d (procL acs t c ph r (now.take k)).S (procL acs t c ph r (now.take k)).calls L wr

set_option maxRecDepth 100000 in
set_option maxHeartbeats 8000000 in
theorem rstage_st {w0 w : World} {L : List As} {br : Nat} (K : Ek) (acs : List Ac) (r : Rn) (t : Tg) (c : Bool) (ph : Int)
    (h : RObj w0 br K r.d r.S r.calls L w) (hB : Bd acs K r) (hna : K.na = acs.length) (hrA : Rd w0 10 K.s2 acs.length (flat acells acs)) (hk : ∀ a ∈ acs, 0 ≤ a.kind ∧ 0 ≤ a.at' ∧ a.at' < 256) (hac : acs.length ≤ 30) (hc : r.calls.length ≤ 900000) :
    Calls Try.prog 44 #[.pointer (some ⟨br, 0, none⟩), .agg #[.int .i64 t.kind, .int .i64 t.id], .bool c, .int .i64 ph] w (RcPost br K (stageR acs K.ty t c ph r) w0 L) := by
  obtain ⟨sl, cl, sc, cc, h⟩ := h
  have h1 := h.new #[.int .i64 t.kind, .int .i64 t.id] 29
  have h2 := St.sh [_, _, _, _] [1, 2, 3, 0] (by decide) h1
  simp only [List.map_cons, List.map_nil, List.getD_cons_zero, List.getD_cons_succ, List.cons_append, List.nil_append] at h2
  have H2 := Lib.hid h2
  have HB := Lib.hid hB
  have HNa := Lib.hid hna
  have HRA := Lib.hid hrA
  have HKK := Lib.hid hk
  obtain ⟨c0, c1, c2, -, -, -, -, -, c8, c9, -⟩ := r_cells h2.blk.1
  have hbl := h.blk.1.lt
  have hbs := h2.blk.1.lt
  obtain ⟨t0, t1, -, -⟩ := (h2.blkm (.tail _ (.tail _ (.tail _ (.head _))))).two
  have HRc := Lib.hid (h2.swap).rc
  obtain ⟨bt, hbt⟩ : ∃ bt, w.heap.size = bt := ⟨_, rfl⟩
  obtain ⟨t1', t2'⟩ := t
  simp only at t0 t1 H2 HRc c0 c1 c2 c8 c9
  clear h h1 h2 hB hna hrA hk
  go_enter Try.func44, Try.ntmps44
  go_upto_region 1 with fail
  obtain ⟨W, hW⟩ : ∃ W, w.alloc (.cells #[.int .i64 t1', .int .i64 t2'] 29) = W := ⟨_, rfl⟩
  rw [hW] at H2 HRc c0 c1 c2 c8 c9 t0 t1 hbs ⊢
  rw [hbt] at H2 t0 t1
  clear hW hbt
  by_cases hst : r.d.stop = true
  · rw [hst] at c8
    have hr : Hid (stageR acs K.ty ⟨t1', t2'⟩ c ph r = r) := Lib.hid (by unfold stageR; rw [if_pos hst])
    clear hst
    go_wp2_with fail
    go_end0
    rw [hr.out]
    refine ⟨rfl, sl, cl, sc, cc, ?_⟩
    have h3 := St.sh [_, _, _, _] [3, 0, 1, 2] (by decide) H2.out
    simp only [List.map_cons, List.map_nil, List.getD_cons_zero, List.getD_cons_succ, List.cons_append, List.nil_append] at h3
    exact h3.drop
  · have hst' : r.d.stop = false := by simpa using hst
    rw [hst'] at c8
    obtain ⟨now, hnow⟩ : ∃ now, hits r.S.l ⟨t1', t2'⟩ K.ty = now := ⟨_, rfl⟩
    have hr : Hid (stageR acs K.ty ⟨t1', t2'⟩ c ph r = procL acs ⟨t1', t2'⟩ c ph r now) := Lib.hid (by unfold stageR; rw [if_neg hst, procL_eq, ← hnow]; rfl)
    have hnl : now.length ≤ 100 := by
      rw [← hnow]
      unfold hits
      have := List.length_filter_le (fun x => Tg.same x.tg ⟨t1', t2'⟩ && (x.ty.toList == K.ty.toList)) r.S.l
      have := HB.out.len
      omega
    have CF := Lib.hid (rfor_any sl cl r.S ⟨t1', t2'⟩ K.ty W.drew HRc.out.drew (by have := HB.out.len; omega))
    unfold RForPost at CF
    rw [hnow] at CF
    have KP := Lib.hid (show ∀ w', Below W.heap.size W w' → (w'.cell? ⟨br, 0, none⟩ = some (.slice sl r.S.l.length cl) ∧ w'.cell? ⟨br, 1, none⟩ = some (.int .i64 r.S.nx) ∧ w'.cell? ⟨br, 2, none⟩ = some (.string K.ty) ∧ w'.cell? ⟨bt, 0, none⟩ = some (.int .i64 t1') ∧ w'.cell? ⟨bt, 1, none⟩ = some (.int .i64 t2')) from fun w' h => ⟨bel_cell h c0, bel_cell h c1, bel_cell h c2, bel_cell h t0, bel_cell h t1⟩)
    clear hst hst' hnow HRc
    go_upto_region 2 with fail
    go_region_held3 (fun w' => w'.cell? ⟨br, 0, none⟩ = some (.slice sl r.S.l.length cl) ∧ w'.cell? ⟨br, 1, none⟩ = some (.int .i64 r.S.nx) ∧ w'.cell? ⟨br, 2, none⟩ = some (.string K.ty) ∧ w'.cell? ⟨bt, 0, none⟩ = some (.int .i64 t1') ∧ w'.cell? ⟨bt, 1, none⟩ = some (.int .i64 t2'))
      (first | exact KP.out _ hbw | go_keep)
      ((go_at_call 33; refine CF.out.mono ?_; rintro e w2 ⟨sn, cn, rfl, hr2, hn2, hb2⟩; have hbw : Below W.heap.size W w2 := ⟨hb2.os, hb2.tape, hb2.output, hb2.size, hb2.block⟩))
    have h3 := St.sh [_, _, _, _, _] [1, 2, 3, 0, 4] (by decide) (H2.out.rdr_new hbw hr2 (fun k hk => hn2 k hk))
    simp only [List.map_cons, List.map_nil, List.getD_cons_zero, List.getD_cons_succ, List.cons_append, List.nil_append] at h3
    obtain ⟨LL, hLL⟩ : ∃ LL, As.rdr 8 sn now.length cn (flat lcells now) :: As.cells bt #[.int .i64 t1', .int .i64 t2'] 29 :: L = LL := ⟨_, rfl⟩
    have hLn : As.rdr 8 sn now.length cn (flat lcells now) ∈ LL := by rw [← hLL]; exact .head _
    have hLt : As.cells bt #[.int .i64 t1', .int .i64 t2'] 29 ∈ LL := by rw [← hLL]; exact .tail _ (.head _)
    have H3 := Lib.hid (show St w0 w2 (rOpen br K r.d r.S r.calls sl cl sc cc LL) by rw [← hLL]; exact h3)
    have HLL := Lib.hid hLL
    clear h3 hLL hr2 hn2 hb2 hbw CF KP c0 c1 c2 c8 c9 t0 t1 H2
    go_wp2_with fail
    go_loopg [28] now.length (StgRel w0 br K acs ⟨t1', t2'⟩ c ph r now LL)
    case atStart => exact ⟨0, rfl, Nat.zero_le _, rfl, sl, cl, sc, cc, H3.out⟩
    case round =>
      obtain ⟨k, hg, hk, rfl, sl4, cl4, sc4, cc4, hp⟩ := hrel
      have Hg := Lib.hid hg
      obtain ⟨hB4, hc4⟩ := bd_proc HB.out ⟨t1', t2'⟩ c ph now k
      have HSu := fun hk => Lib.hid (procL_succ acs ⟨t1', t2'⟩ c ph r now k hk)
      obtain ⟨r4, hr4⟩ : ∃ r4, procL acs ⟨t1', t2'⟩ c ph r (now.take k) = r4 := ⟨_, rfl⟩
      rw [hr4] at hp hB4 hc4
      have HR4 := Lib.hid hr4
      have HB4 := Lib.hid hB4
      have Hp := Lib.hid hp
      obtain ⟨c0, c1, -, -, -, -, -, -, -, c9, -⟩ := r_cells hp.blk.1
      obtain ⟨t0, t1, -, -⟩ := (hp.blkm (.tail _ (.tail _ (.tail _ hLt)))).two
      clear hg hp hr4 hB4 H3
      by_cases hkn : k < now.length
      · obtain ⟨G, hG⟩ := Hp.out.mem (.tail _ (.tail _ (.tail _ hLn)))
        have hrn := hG.2.rd
        obtain ⟨g1, o1, hs1, -⟩ := hrn.addr (by omega)
        rw [hs1] at hrn
        obtain ⟨x, hx⟩ : ∃ x, now[k] = x := ⟨_, rfl⟩
        obtain ⟨d0, d1, d2, d3, d4, d5, d6, d7⟩ := l_at hrn hkn x hx
        have hsu := (HSu hkn).out
        rw [HR4.out, hx] at hsu
        have HS4 := Lib.hid hsu
        have hkn' : (k : Int) < (now.length : Int) := by omega
        have hk0 : (0 : Int) ≤ (k : Int) := by omega
        obtain ⟨x0, ⟨x1, x2⟩, x3, x4, x5, x6, x7⟩ := x
        simp only at d0 d1 d2 d3 d4 d5 d6 d7
        clear hG hrn hx hsu HSu d1 d2 d3 d4 d6 d7
        subst hs1
        have hcase : (x5 == c) = false ∨ (x5 = c ∧ (r4.d.halt = true ∨ r4.d.halt = false)) := by
          cases x5 <;> cases c <;> cases r4.d.halt <;> simp
        rcases hcase with q1 | ⟨rfl, q2 | q2⟩
        · have hres := Lib.hid (show oneL acs ⟨t1', t2'⟩ c ph r4 ⟨x0, ⟨x1, x2⟩, x3, x4, x5, x6, x7⟩ = r4 by unfold oneL; simp [q1])
          have q1' : (x5 != c) = true := by simp [bne, q1]
          cases x5 <;> cases c <;> simp at q1
          all_goals
            clear q1'
            go_wp2_with fail
            go_roundg (now.length - (k + 1))
            case measure => have := Hg.out; omega
            case rel => exact ⟨k + 1, rfl, by omega, by simp, by rw [HS4.out, hres.out]; exact ⟨_, _, _, _, Hp.out⟩⟩
        · have hres := Lib.hid (show oneL acs ⟨t1', t2'⟩ x5 ph r4 ⟨x0, ⟨x1, x2⟩, x3, x4, x5, x6, x7⟩ = r4 by unfold oneL oneR; simp [q2])
          rw [q2] at c9
          clear q2
          cases x5
          all_goals
            go_wp2_with fail
            go_roundg (now.length - (k + 1))
            case measure => have := Hg.out; omega
            case rel => exact ⟨k + 1, rfl, by omega, by simp, by rw [HS4.out, hres.out]; exact ⟨_, _, _, _, Hp.out⟩⟩
        · rw [q2] at c9
          have CF := Lib.hid (rfind_any sl4 cl4 r4.S x0 wr.drew ((Hp.out.swap).rc.drew.rd) (by have := HB4.out.len; omega))
          have hlen4 := HB4.out.len
          have hon := Lib.hid (show oneL acs ⟨t1', t2'⟩ x5 ph r4 ⟨x0, ⟨x1, x2⟩, x3, x4, x5, x6, x7⟩ = (match r4.S.l.findIdx? (fun y => y.id == x0) with | some i => callR acs r4 (r4.S.l.getD i Li.zero) i ⟨t1', t2'⟩ ph | none => r4) by unfold oneL oneR; rw [if_pos (by simp), if_neg (by simp [q2])]; rfl)
          have KP := Lib.hid (show ∀ w', Below wr.heap.size wr w' → (w'.cell? ⟨br, 0, none⟩ = some (.slice sl4 r4.S.l.length cl4) ∧ w'.cell? ⟨br, 1, none⟩ = some (.int .i64 r4.S.nx) ∧ w'.cell? ⟨g1, o1 + k * 8, none⟩ = some (.int .i64 x0)) from fun w' h => ⟨bel_cell h c0, bel_cell h c1, bel_cell h d0⟩)
          clear q2
          cases hfi : r4.S.l.findIdx? (fun y => y.id == x0) with
          | none =>
            have hid : idI r4.S.l x0 = -1 := by unfold idI idx; rw [hfi]
            rw [hid] at CF
            have hon2 := hon.out
            rw [hfi] at hon2
            have HOn := Lib.hid hon2
            clear hid hon hon2 hfi
            cases x5
            all_goals
              go_upto_region 7 with fail
              go_region_held3 (fun w' => w'.cell? ⟨br, 0, none⟩ = some (.slice sl4 r4.S.l.length cl4) ∧ w'.cell? ⟨br, 1, none⟩ = some (.int .i64 r4.S.nx) ∧ w'.cell? ⟨g1, o1 + k * 8, none⟩ = some (.int .i64 x0))
                (first | exact KP.out _ hbw | go_keep)
                ((go_at_call 51; refine CF.out.mono ?_; rintro e w3 ⟨rfl, hb3⟩; have hbw : Below wr.heap.size wr w3 := ⟨hb3.os, hb3.tape, hb3.output, hb3.size, hb3.block⟩))
              go_wp2_with fail
              go_roundg (now.length - (k + 1))
              case measure => have := Hg.out; omega
              case rel => exact ⟨k + 1, rfl, by omega, by simp, by rw [HS4.out, HOn.out]; exact ⟨_, _, _, _, Hp.out.of_below hbw⟩⟩
          | some i =>
            have hid : idI r4.S.l x0 = (i : Int) := by unfold idI idx; rw [hfi]
            rw [hid] at CF
            have hon2 := hon.out
            rw [hfi] at hon2
            have HOn := Lib.hid hon2
            obtain ⟨hi, hpi, -⟩ := List.findIdx?_eq_some_iff_getElem.1 hfi
            obtain ⟨y, hy⟩ : ∃ y, r4.S.l[i] = y := ⟨_, rfl⟩
            have hyd : Hid (r4.S.l.getD i Li.zero = y) := Lib.hid (by rw [List.getD_eq_getElem?_getD, List.getElem?_eq_getElem hi, hy]; rfl)
            have hyi : y.id = x0 := by rw [← hy]; simpa using hpi
            rw [← hyi] at hfi
            have HFi := Lib.hid hfi
            have HY := Lib.hid hy
            have hi' : (i : Int) < (r4.S.l.length : Int) := by omega
            have hi0 : (0 : Int) ≤ (i : Int) := by omega
            obtain ⟨g2, o2, hsl4, -⟩ := ((Hp.out.swap).rc.rd).addr (by omega)
            obtain ⟨z0, z1, z2, z3, z4, z5, z6, z7⟩ := l_at (by have := (Hp.out.swap).rc.rd; rwa [hsl4] at this) hi y hy
            have HYI := Lib.hid hyi
            rw [hsl4] at c0
            have HSL := Lib.hid hsl4
            obtain ⟨y0, ⟨y1, y2⟩, y3, y4, y5, y6, y7⟩ := y
            simp only at z0 z1 z2 z3 z4 z5 z6 z7
            clear hid hon hon2 hfi hpi hy hyi KP hsl4
            have KP := Lib.hid (show ∀ w', Below wr.heap.size wr w' → (w'.cell? ⟨br, 0, none⟩ = some (.slice (some ⟨g2, o2, none⟩) r4.S.l.length cl4) ∧ w'.cell? ⟨br, 1, none⟩ = some (.int .i64 r4.S.nx) ∧ w'.cell? ⟨g1, o1 + k * 8, none⟩ = some (.int .i64 x0)) from fun w' h => ⟨bel_cell h c0, bel_cell h c1, bel_cell h d0⟩)
            rw [HSL.out] at CF
            cases x5
            all_goals
              go_upto_region 7 with fail
              go_region_held3 (fun w' => w'.cell? ⟨br, 0, none⟩ = some (.slice (some ⟨g2, o2, none⟩) r4.S.l.length cl4) ∧ w'.cell? ⟨br, 1, none⟩ = some (.int .i64 r4.S.nx) ∧ w'.cell? ⟨g1, o1 + k * 8, none⟩ = some (.int .i64 x0))
                (first | exact KP.out _ hbw | go_keep)
                ((go_at_call 51; refine CF.out.mono ?_; rintro e w3 ⟨rfl, hb3⟩; have hbw : Below wr.heap.size wr w3 := ⟨hb3.os, hb3.tape, hb3.output, hb3.size, hb3.block⟩))
              have c0' := bel_cell hbw c0
              have z0' := bel_cell hbw z0
              have z1' := bel_cell hbw z1
              have z2' := bel_cell hbw z2
              have z3' := bel_cell hbw z3
              have z4' := bel_cell hbw z4
              have z5' := bel_cell hbw z5
              have z6' := bel_cell hbw z6
              have z7' := bel_cell hbw z7
              have t0' := bel_cell hbw t0
              have t1'' := bel_cell hbw t1
              have HCall := Lib.hid (rcall_st K acs r4 ⟨y0, ⟨y1, y2⟩, y3, y4, y5, y6, y7⟩ i ⟨t1', t2'⟩ ph (Hp.out.of_below hbw).drew HB4.out.can HNa.out HRA.out HKK.out HFi.out (by omega) HB4.out.nx0 (by have := HB4.out.nx1; omega) (by omega))
              unfold lval at HCall
              clear hb3 hbw CF c0 c1 c9 t0 t1 d0 d5 z0 z1 z2 z3 z4 z5 z6 z7
              go_upto_region 9 with fail
              go_region_with ((go_at_call 52; refine HCall.out.mono ?_; rintro e w5 ⟨rfl, h5⟩))
              all_goals
                have H6 := Lib.hid h5
                clear h5 c0' z0' z1' z2' z3' z4' z5' z6' z7' t0' t1''
                go_wp2_with fail
                go_roundg (now.length - (k + 1))
                case measure => have := Hg.out; omega
                case rel =>
                  refine ⟨k + 1, rfl, by omega, by simp, ?_⟩
                  rw [HS4.out, HOn.out]
                  simp only [hyd.out]
                  exact H6.out
      · obtain rfl : k = now.length := by omega
        rw [List.take_length] at HR4
        go_wp2_with fail
        go_end0
        rw [hr.out, HR4.out]
        refine ⟨rfl, sl4, cl4, sc4, cc4, ?_⟩
        have h9 := Hp.out
        rw [← HLL.out] at h9
        have h10 := St.sh [_, _, _, _, _] [3, 4, 0, 1, 2] (by decide) h9
        simp only [List.map_cons, List.map_nil, List.getD_cons_zero, List.getD_cons_succ, List.cons_append, List.nil_append] at h10
        exact h10.drop.drop
end Go.Proofs.Ytianjcbofgdfdaa
