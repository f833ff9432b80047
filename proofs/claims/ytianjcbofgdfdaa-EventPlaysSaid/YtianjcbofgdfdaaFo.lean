/-
  Contract of the chapter's call.
-/
import Derived.Test.YtianjcbofgdfdaaFn
import Derived.Test.YtianjcbofgdfdaaKq
import Derived.Test.YtianjcbofgdfdaaFl
import Derived.Deep.DrawnRows
set_option linter.unusedVariables false
set_option linter.unusedSimpArgs false
namespace Go.Proofs.Ytianjcbofgdfdaa
open Go.RowKit Go.K Go.K.Ev
attribute [local go_sem ↓] Go.wp_at_zero Go.wp_at_succ

def GMid (w0 : World) (A B : As) (S' : Ls) (v2 : Value) (L : List As) (v8 v9 : Value) (wc : World) : Prop :=
  ∃ (b8 : Nat) (s' : Option Addr) (c' : Nat), v8 = .pointer (some ⟨b8, 0, none⟩) ∧ v9 = v2 ∧
    St w0 wc (As.cells b8 #[.slice s' S'.l.length c', .int .i64 S'.nx] 34 :: A :: B :: As.rdr 8 s' S'.l.length c' (flat lcells S'.l) :: L)
theorem g_mid_a {w0 wr w2 : World} {L : List As} {A B : As} {S S' : Ls} {v2 : Value} {s s' : Option Addr} {c c' : Nat} (h : St w0 wr (A :: B :: As.rdr 8 s S.l.length c (flat lcells S.l) :: L)) (hb : Below wr.heap.size wr w2)
    (hr : Rc w2 8 s' S'.l.length c' (flat lcells S'.l)) (hn : (s' = s ∧ c' = c ∧ S' = S) ∨ NewAt wr s') :
    GMid w0 A B S' v2 L (.pointer (some ⟨w2.heap.size, 0, none⟩)) v2 (w2.alloc (.cells #[.slice s' S'.l.length c', .int .i64 S'.nx] 34)) :=
  ⟨w2.heap.size, s', c', rfl, rfl, ((ls_new h hb hr hn).new _ _)⟩
theorem g_mid_b {w0 wr w2 : World} {L : List As} {A B : As} {S S' : Ls} {v2 : Value} {s s' : Option Addr} {c c' : Nat} (h : St w0 wr (A :: B :: As.rdr 8 s S.l.length c (flat lcells S.l) :: L)) (hb : Below (wr.alloc (.cells #[.slice none 0 0, .int .i64 0] 34)).heap.size (wr.alloc (.cells #[.slice none 0 0, .int .i64 0] 34)) w2)
    (hr : Rc w2 8 s' S'.l.length c' (flat lcells S'.l)) (hn : (s' = s ∧ c' = c ∧ S' = S) ∨ NewAt (wr.alloc (.cells #[.slice none 0 0, .int .i64 0] 34)) s') :
    GMid w0 A B S' v2 L (.pointer (some ⟨wr.heap.size, 0, none⟩)) v2 ((w2.setCell ⟨wr.heap.size, 0, none⟩ (.slice s' S'.l.length c')).setCell ⟨wr.heap.size, 1, none⟩ (.int .i64 S'.nx)) := by
  have h2 := St.sh [_, _, _, _] [1, 2, 3, 0] (by decide) (h.new #[.slice none 0 0, .int .i64 0] 34)
  simp only [List.map_cons, List.map_nil, List.getD_cons_zero, List.getD_cons_succ, List.cons_append, List.nil_append] at h2
  have h3 := St.sh [_, _, _, _] [3, 0, 1, 2] (by decide) (ls_new h2 hb hr hn)
  simp only [List.map_cons, List.map_nil, List.getD_cons_zero, List.getD_cons_succ, List.cons_append, List.nil_append] at h3
  exact ⟨wr.heap.size, s', c', rfl, rfl, (h3.set2 _ _)⟩

def ROnce (w0 : World) (br : Nat) (K : Ek) (d : Dp) (S : Ls) (calls : List Cl) (sc : Option Addr) (cc : Nat) (L : List As) (wc : World) : Prop :=
  ∃ sl cl, St w0 wc (rOpen br K d S calls sl cl sc cc L)
def RObj (w0 : World) (br : Nat) (K : Ek) (d : Dp) (S : Ls) (calls : List Cl) (L : List As) (wc : World) : Prop :=
  ∃ sl cl sc cc, St w0 wc (rOpen br K d S calls sl cl sc cc L)
def RcRel (w0 : World) (br : Nat) (K : Ek) (m : Int) (p : Dp × Ls) (acs : List Ac) (calls : List Cl) (L : List As) (g : Nat) (v : Value) (wr : World) : Prop :=
  ∃ k : Nat, g = acs.length - k ∧ k ≤ acs.length ∧ v = .int .i64 k ∧ RObj w0 br K (actF m p (acs.take k)).1 (actF m p (acs.take k)).2 calls L wr
def RcPost (br : Nat) (K : Ek) (r : Rn) (w0 : World) (L : List As) (E : Ending) (w' : World) : Prop := E = .returned (.tuple #[]) ∧ RObj w0 br K r.d r.S r.calls L w'
theorem r_set01 {w0 w : World} {L : List As} {br : Nat} {K : Ek} {d : Dp} {S S' : Ls} {calls : List Cl} {sl sl' : Option Addr} {cl cl' : Nat} {sc : Option Addr} {cc : Nat} (h : St w0 w (As.cells br (rCells K d S calls sl cl sc cc) 62 :: L)) :
    St w0 ((w.setCell ⟨br, 0, none⟩ (.slice sl' S'.l.length cl')).setCell ⟨br, 1, none⟩ (.int .i64 S'.nx)) (As.cells br (rCells K d S' calls sl' cl' sc cc) 62 :: L) := by
  have := (h.set 0 (.slice sl' S'.l.length cl')).set 1 (.int .i64 S'.nx)
  simpa [rCells] using this

set_option maxRecDepth 100000 in
set_option maxHeartbeats 8000000 in
theorem rcall_st {w0 w : World} {L : List As} {br : Nat} (K : Ek) (acs : List Ac) (r : Rn) (x : Li) (i : Nat) (t : Tg) (ph : Int) {sl : Option Addr} {cl : Nat} {sc : Option Addr} {cc : Nat}
    (h : St w0 w (rOpen br K r.d r.S r.calls sl cl sc cc L)) (hK : K.can = r.d.can) (hna : K.na = acs.length) (hrA : Rd w0 10 K.s2 acs.length (flat acells acs)) (hk : ∀ a ∈ acs, 0 ≤ a.kind ∧ 0 ≤ a.at' ∧ a.at' < 256)
    (hf : r.S.l.findIdx? (fun y => y.id == x.id) = some i) (hn : r.S.l.length + acs.length ≤ 10000) (hx : 0 ≤ r.S.nx) (hx2 : r.S.nx ≤ 100000) (hc : r.calls.length ≤ 1000000) :
    Calls Try.prog 52 #[.pointer (some ⟨br, 0, none⟩), lval x, .agg #[.int .i64 t.kind, .int .i64 t.id], .int .i64 ph] w (RcPost br K (callR acs r x i t ph) w0 L) := by
  obtain ⟨d, S, calls⟩ := r
  simp only at h hK hf hn hx hx2 hc
  obtain ⟨hi, -, -⟩ := List.findIdx?_eq_some_iff_getElem.1 hf
  have hidI : idI S.l x.id = (i : Int) := by unfold idI idx; rw [hf]
  have HRA := Lib.hid hrA
  have HKK := Lib.hid hk
  have HK := Lib.hid hK
  have HNa := Lib.hid hna
  obtain ⟨t1, t2⟩ := t
  obtain ⟨x0, ⟨x1, x2⟩, x3, x4, x5, x6, x7⟩ := x
  have h1 := (h.new #[.int .i64 x0, .int .i64 x1, .int .i64 x2, .string x3, .int .i64 x4, .bool x5, .bool x6, .bool x7] 55).new #[.int .i64 t1, .int .i64 t2] 29
  simp only [World.size_alloc] at h1
  have h2 := St.sh [_, _, _, _, _] [2, 3, 4, 1, 0] (by decide) h1
  simp only [List.map_cons, List.map_nil, List.getD_cons_zero, List.getD_cons_succ, List.cons_append, List.nil_append] at h2
  obtain ⟨LL, hLL⟩ : ∃ LL, As.cells w.heap.size #[.int .i64 x0, .int .i64 x1, .int .i64 x2, .string x3, .int .i64 x4, .bool x5, .bool x6, .bool x7] 55 :: As.cells (w.heap.size + 1) #[.int .i64 t1, .int .i64 t2] 29 :: L = LL := ⟨_, rfl⟩
  have hLx : As.cells w.heap.size #[.int .i64 x0, .int .i64 x1, .int .i64 x2, .string x3, .int .i64 x4, .bool x5, .bool x6, .bool x7] 55 ∈ LL := by rw [← hLL]; exact .head _
  have hLt : As.cells (w.heap.size + 1) #[.int .i64 t1, .int .i64 t2] 29 ∈ LL := by rw [← hLL]; exact .tail _ (.head _)
  have H2 := Lib.hid (show St w0 _ (rOpen br K d S calls sl cl sc cc LL) by rw [← hLL]; exact h2)
  have HLL := Lib.hid hLL
  have HIdI := Lib.hid hidI
  unfold lval
  clear h h1 h2 hK hna hrA hk hf hLL hidI
  go_enter Try.func52, Try.ntmps52
  go_upto_if 15 with fail
  obtain ⟨W, hW⟩ : ∃ W, (w.alloc (.cells #[.int .i64 x0, .int .i64 x1, .int .i64 x2, .string x3, .int .i64 x4, .bool x5, .bool x6, .bool x7] 55)).alloc (.cells #[.int .i64 t1, .int .i64 t2] 29) = W := ⟨_, rfl⟩
  try simp only at HIdI
  rw [hW] at H2 ⊢
  clear hW
  obtain ⟨bx, hbx⟩ : ∃ bx, w.heap.size = bx := ⟨_, rfl⟩
  rw [hbx] at hLx hLt HLL ⊢
  clear hbx
  obtain ⟨S1, hS1⟩ : ∃ S1, (if x6 then (⟨S.l.eraseIdx i, S.nx⟩ : Ls) else S) = S1 := ⟨_, rfl⟩
  have HS1 := Lib.hid hS1
  have hle1 : S1.l.length ≤ S.l.length ∧ S1.nx = S.nx := by
    rw [← hS1]
    split
    · exact ⟨List.length_eraseIdx_le _ _, rfl⟩
    · exact ⟨Nat.le_refl _, rfl⟩
  clear hS1
  go_cut [3] (fun v3 wc => v3 = .int .i64 ph ∧ ROnce w0 br K d S1 calls sc cc LL wc)
  case first =>
    cases x6 with
    | false =>
      have hs1 := HS1.out
      simp only [Bool.false_eq_true, if_false] at hs1
      go_wp2_with fail
      go_meet
      exact ⟨rfl, sl, cl, by rw [← hs1]; exact H2.out⟩
    | true =>
      have hs1 := HS1.out
      simp only [if_true] at hs1
      have HS2 := Lib.hid hs1
      have hp := H2.out
      obtain ⟨c0, c1, c2, c3, c4, c5, c6, c7, c8, c9, c10⟩ := r_cells hp.blk.1
      have f0 := hp.blk.1.free 0
      have f1 := hp.blk.1.free 1
      have hbr := hp.blk.1.lt
      obtain ⟨b0, -, -, -, -, -, -, -⟩ := Blk.c8 (hp.blkm (.tail _ (.tail _ (.tail _ hLx))))
      have hrc := (hp.swap).rc
      have CF := Lib.hid (rfind_any sl cl S x0 W.drew hrc.drew.rd (by omega))
      rw [HIdI.out] at CF
      have HRC := Lib.hid hrc
      clear hp hs1 hrc c2 c3 c4 c5 c6 c7 c8 c9 c10
      go_upto_region 2 with fail
      go_region_with (first
        | (go_at_call 51; refine CF.out.mono ?_; rintro e w2 ⟨rfl, hb2⟩; have hbw : Below W.heap.size W w2 := ⟨hb2.os, hb2.tape, hb2.output, hb2.size, hb2.block⟩; have c0' := bel_cell hbw c0; have c1' := bel_cell hbw c1)
        | (go_at_call 46; refine (without_any sl cl S i w2 (HRC.out.below hbw) hi (by omega)).mono ?_; rintro e w3 ⟨s', c', rfl, hr3, hn3, hb3⟩; have hbk := ((H2.out.of_below hbw).of_below hb3).blk.1; obtain ⟨q0, q1, -, -, -, -, -, -, -, -, -⟩ := r_cells hbk; have g0 := hbk.free 0; have g1 := hbk.free 1))
      all_goals
        go_wp2_with fail
        go_meet
        refine ⟨rfl, s', c', ?_⟩
        rw [← HS2.out]
        have h3 := (((H2.out.of_below hbw).swap.drop).rdr_new hb3 hr3 (fun k hk => hn3 k hk)).swap
        exact r_set01 (S' := ⟨S.l.eraseIdx i, S.nx⟩) h3
  case rest =>
    obtain ⟨rfl, sl2, cl2, h3⟩ := hcut
    obtain ⟨c0, c1, c2, c3, c4, c5, c6, c7, c8, c9, c10⟩ := r_cells h3.blk.1
    have f7 := h3.blk.1.free 7
    have hbrx := h3.ne (.tail _ (.tail _ hLx))
    have hbrt := h3.ne (.tail _ (.tail _ hLt))
    have h3b := h3.blkm (.tail _ (.tail _ (.tail _ hLx)))
    have h3t := h3.blkm (.tail _ (.tail _ (.tail _ hLt)))
    obtain ⟨b0, -, -, -, b4, -, -, b7⟩ := Blk.c8 h3b
    obtain ⟨u0, u1, -, -⟩ := (h3.blkm (.tail _ (.tail _ (.tail _ hLt)))).two
    have hlb := h3.blk.1.lt
    have h3s := St.sh [_, _, _] [2, 0, 1] (by decide) h3
    simp only [List.map_cons, List.map_nil, List.getD_cons_zero, List.getD_cons_succ, List.cons_append, List.nil_append] at h3s
    have hxs := (h3s.sl.drew).alloc (.cells #[.int .i64 x0, .int .i64 x4, .int .i64 t1, .int .i64 t2, .int .i64 ph] 66)
    have r2 := rd_built_at wc.drew #[.int .i64 x0, .int .i64 x4, .int .i64 t1, .int .i64 t2, .int .i64 ph] 66 5 1 wc.heap.size rfl rfl (by simp [Value.oneCell'])
    have H4 := Lib.hid (h3s.drew.alloc (.cells #[.int .i64 x0, .int .i64 x4, .int .i64 t1, .int .i64 t2, .int .i64 ph] 66))
    clear h3 h3s H2 c0 c1 c2 c3 c4 c5 c6 c8 c9 c10 b7
    go_upto_region 4 with fail
    go_cut [8] (fun v8 wx => v8 = .int .i64 calls.length ∧ RObj w0 br K d S1 (calls ++ [⟨x0, x4, ⟨t1, t2⟩, ph⟩]) LL wx)
    case first =>
      have ltx := (h3b).lt
      have ltt := (h3t).lt
      have hS : (fun w' : World => w'.cell? ⟨bx, 0, none⟩ = some (.int .i64 x0) ∧ w'.cell? ⟨bx, 4, none⟩ = some (.int .i64 x4) ∧ w'.cell? ⟨bx + 1, 0, none⟩ = some (.int .i64 t1) ∧ w'.cell? ⟨bx + 1, 1, none⟩ = some (.int .i64 t2) ∧ w'.cell? ⟨br, 7, none⟩ = some (.slice sc calls.length cc)) wc.drew := ⟨b0, b4, u0, u1, c7⟩
      refine wpLast.region (S := (fun w' => w'.cell? ⟨bx, 0, none⟩ = some (.int .i64 x0) ∧ w'.cell? ⟨bx, 4, none⟩ = some (.int .i64 x4) ∧ w'.cell? ⟨bx + 1, 0, none⟩ = some (.int .i64 t1) ∧ w'.cell? ⟨bx + 1, 1, none⟩ = some (.int .i64 t2) ∧ w'.cell? ⟨br, 7, none⟩ = some (.slice sc calls.length cc))) (c := 16) (by kernel_rfl) ?_
      refine' wpLast.take (i := 0) (v := _) rfl (by kernel_rfl) (fun _ _ _ h => h) (by kernel_rfl) _ _ _ _ (by kernel_rfl) (by kernel_rfl) (Or.inl ⟨by rfl, ?hy0⟩) hS ?rest0
      case hy0 => (intro w' hSw; obtain ⟨k0, k1, k2, k3, k4⟩ := hSw; go_simp; try with_reducible rfl)
      try simp only [Act.put, List.setIfInBounds_toArray, List.set_cons_zero, List.set_cons_succ]
      refine' wpLast.take (i := 1) (v := _) rfl (by kernel_rfl) (fun _ _ _ h => h) (by kernel_rfl) _ _ _ _ (by kernel_rfl) (by kernel_rfl) (Or.inl ⟨by rfl, ?hy1⟩) hS ?rest1
      case hy1 => (intro w' hSw; obtain ⟨k0, k1, k2, k3, k4⟩ := hSw; go_simp; try with_reducible rfl)
      try simp only [Act.put, List.setIfInBounds_toArray, List.set_cons_zero, List.set_cons_succ]
      refine' wpLast.take (i := 2) (v := _) rfl (by kernel_rfl) (fun _ _ _ h => h) (by kernel_rfl) _ _ _ _ (by kernel_rfl) (by kernel_rfl) (Or.inl ⟨by rfl, ?hy2⟩) hS ?rest2
      case hy2 => (intro w' hSw; obtain ⟨k0, k1, k2, k3, k4⟩ := hSw; go_simp; try with_reducible rfl)
      try simp only [Act.put, List.setIfInBounds_toArray, List.set_cons_zero, List.set_cons_succ]
      refine' wpLast.take (i := 3) (v := _) rfl (by kernel_rfl) (fun _ _ _ h => h) (by kernel_rfl) _ _ _ _ (by kernel_rfl) (by kernel_rfl) (Or.inl ⟨by rfl, ?hy3⟩) hS ?rest3
      case hy3 => (intro w' hSw; obtain ⟨k0, k1, k2, k3, k4⟩ := hSw; go_simp; try with_reducible rfl)
      try simp only [Act.put, List.setIfInBounds_toArray, List.set_cons_zero, List.set_cons_succ]
      refine' wpLast.take (i := 4) (v := _) rfl (by kernel_rfl) (fun _ _ _ h => h) (by kernel_rfl) _ _ _ _ (by kernel_rfl) (by kernel_rfl) (Or.inl ⟨by rfl, ?hy4⟩) hS ?rest4
      case hy4 => (intro w' hSw; obtain ⟨k0, k1, k2, k3, k4⟩ := hSw; go_simp; try with_reducible rfl)
      try simp only [Act.put, List.setIfInBounds_toArray, List.set_cons_zero, List.set_cons_succ]
      refine' wpLast.take (i := 5) (v := _) rfl (by kernel_rfl) (fun _ _ _ h => h) (by kernel_rfl) _ _ _ _ (by kernel_rfl) (by kernel_rfl) (Or.inl ⟨by rfl, ?hy5⟩) hS ?rest5
      case hy5 => (intro w' hSw; obtain ⟨k0, k1, k2, k3, k4⟩ := hSw; go_simp; try with_reducible rfl)
      try simp only [Act.put, List.setIfInBounds_toArray, List.set_cons_zero, List.set_cons_succ]
      refine' wpLast.take (i := 6) (v := _) rfl (by kernel_rfl) (fun _ _ _ h => h) (by kernel_rfl) _ _ _ _ (by kernel_rfl) (by kernel_rfl) (Or.inl ⟨by rfl, ?hy6⟩) hS ?rest6
      case hy6 => (intro w' hSw; obtain ⟨k0, k1, k2, k3, k4⟩ := hSw; go_simp; try with_reducible rfl)
      try simp only [Act.put, List.setIfInBounds_toArray, List.set_cons_zero, List.set_cons_succ]
      refine' wpLast.take (i := 7) (v := _) rfl (by kernel_rfl) (fun _ _ _ h => h) (by kernel_rfl) _ _ _ _ (by kernel_rfl) (by kernel_rfl) (Or.inl ⟨by rfl, ?hy7⟩) hS ?rest7
      case hy7 => (intro w' hSw; obtain ⟨k0, k1, k2, k3, k4⟩ := hSw; go_simp; try with_reducible rfl)
      try simp only [Act.put, List.setIfInBounds_toArray, List.set_cons_zero, List.set_cons_succ]
      refine' wpLast.take (i := 8) (v := _) rfl (by kernel_rfl) (fun _ _ _ h => h) (by kernel_rfl) _ _ _ _ (by kernel_rfl) (by kernel_rfl) (Or.inl ⟨by rfl, ?hy8⟩) hS ?rest8
      case hy8 => (intro w' hSw; obtain ⟨k0, k1, k2, k3, k4⟩ := hSw; go_simp; try with_reducible rfl)
      try simp only [Act.put, List.setIfInBounds_toArray, List.set_cons_zero, List.set_cons_succ]
      refine' wpLast.take (i := 9) (v := _) rfl (by kernel_rfl) (fun _ _ _ h => h) (by kernel_rfl) _ _ _ _ (by kernel_rfl) (by kernel_rfl) (Or.inl ⟨by rfl, ?hy9⟩) hS ?rest9
      case hy9 => (intro w' hSw; obtain ⟨k0, k1, k2, k3, k4⟩ := hSw; go_simp; try with_reducible rfl)
      try simp only [Act.put, List.setIfInBounds_toArray, List.set_cons_zero, List.set_cons_succ]
      refine' wpLast.take (i := 10) (v := _) rfl (by kernel_rfl) (fun _ _ _ h => h) (by kernel_rfl) _ _ _ _ (by kernel_rfl) (by kernel_rfl) (Or.inl ⟨by rfl, ?hy10⟩) hS ?rest10
      case hy10 => (intro w' hSw; obtain ⟨k0, k1, k2, k3, k4⟩ := hSw; go_simp; try with_reducible rfl)
      try simp only [Act.put, List.setIfInBounds_toArray, List.set_cons_zero, List.set_cons_succ]
      refine' wpLast.take (i := 11) (v := _) rfl (by kernel_rfl) (fun _ _ _ h => h) (by kernel_rfl) _ _ _ _ (by kernel_rfl) (by kernel_rfl) (Or.inl ⟨by rfl, ?hy11⟩) hS ?rest11
      case hy11 => (intro w' hSw; obtain ⟨k0, k1, k2, k3, k4⟩ := hSw; go_simp; try with_reducible rfl)
      try simp only [Act.put, List.setIfInBounds_toArray, List.set_cons_zero, List.set_cons_succ]
      refine wpLast.one (i := 12) rfl (by kernel_rfl) ?_
      intro K' hK; have HK' := Lib.hid hK; clear hK
      go_simp
      have hS2 : (fun w' => w'.cell? ⟨bx, 0, none⟩ = some (.int .i64 x0) ∧ w'.cell? ⟨bx, 4, none⟩ = some (.int .i64 x4) ∧ w'.cell? ⟨bx + 1, 0, none⟩ = some (.int .i64 t1) ∧ w'.cell? ⟨bx + 1, 1, none⟩ = some (.int .i64 t2) ∧ w'.cell? ⟨br, 7, none⟩ = some (.slice sc calls.length cc)) (wc.drew.alloc (.cells #[.int .i64 x0, .int .i64 x4, .int .i64 t1, .int .i64 t2, .int .i64 ph] 66)) := by
        obtain ⟨k0, k1, k2, k3, k4⟩ := hS
        exact ⟨by rw [World.cell?_alloc_some _ _ _ (by rw [k0]; rfl)]; exact k0, by rw [World.cell?_alloc_some _ _ _ (by rw [k1]; rfl)]; exact k1, by rw [World.cell?_alloc_some _ _ _ (by rw [k2]; rfl)]; exact k2, by rw [World.cell?_alloc_some _ _ _ (by rw [k3]; rfl)]; exact k3, by rw [World.cell?_alloc_some _ _ _ (by rw [k4]; rfl)]; exact k4⟩
      refine HK'.out _ _ ⟨fun _ => hS2, ?_⟩
      clear HK' K'
      try simp only [Act.put, List.setIfInBounds_toArray, List.set_cons_zero, List.set_cons_succ]
      refine wpLast.one (i := 13) rfl (by kernel_rfl) ?_
      intro K' hK; have HK' := Lib.hid hK; clear hK
      refine step_append_any (by rfl) _ _ 60 (by rfl) elCl sc _ cc _ (by rfl) hxs _ 1 _ _ (by rfl) r2 (by omega) (by omega) ?_
      intro so3 co3 w4 p1 p2 p3
      have H6 := Lib.hid ((St.sh [_, _, _] [1, 2, 0] (by decide) (H4.out.row_step p1 p2 p3)))
      have z0 := H6.out.cell 7
      have zf0 := H6.out.free 7
      simp [rCells] at z0
      obtain ⟨q0, -, -, -, q4, -, -, -⟩ := Blk.c8 (H6.out.blkm (.tail _ (.tail _ (.tail _ hLx))))
      obtain ⟨v0, v1, -, -⟩ := (H6.out.blkm (.tail _ (.tail _ (.tail _ hLt)))).two
      refine HK'.out _ _ ⟨fun _ => ⟨q0, q4, v0, v1, z0⟩, ?_⟩
      clear HK' K' hS hS2
      try simp only [Act.put, List.setIfInBounds_toArray, List.set_cons_zero, List.set_cons_succ]
      refine wpLast.one (i := 14) rfl (by kernel_rfl) ?_
      intro K' hK; have HK' := Lib.hid hK; clear hK
      go_simp
      refine HK'.out _ _ ⟨fun _ => ⟨q0, q4, v0, v1, z0⟩, ?_⟩
      clear HK' K'
      try simp only [Act.put, List.setIfInBounds_toArray, List.set_cons_zero, List.set_cons_succ]
      refine wpLast.one (i := 15) rfl (by kernel_rfl) ?_
      intro K' hK; have HK' := Lib.hid hK; clear hK
      go_simp
      refine HK'.out _ _ ⟨fun _ => ⟨q0, q4, v0, v1, z0⟩, ?_⟩
      clear HK' K'
      try simp only [Act.put, List.setIfInBounds_toArray, List.set_cons_zero, List.set_cons_succ]
      refine wpLast.one (i := 16) rfl (by kernel_rfl) ?_
      intro K' hK; have HK' := Lib.hid hK; clear hK
      go_simp
      refine HK'.out _ _ ⟨fun h => absurd rfl h, ?_⟩
      clear HK' K' q0 q4 v0 v1
      try simp only [Act.put, List.setIfInBounds_toArray, List.set_cons_zero, List.set_cons_succ]
      refine wpLast.done (by kernel_rfl) ?_
      all_goals
        have H7 := Lib.hid (H6.out.set 7 (.slice so3 (calls.length + 1) co3))
        clear p1 p2 p3 z0 zf0
        go_wp2_with fail
        go_meet
        refine ⟨rfl, sl2, cl2, so3, co3, ?_⟩
        have h8 := H7.out
        simp only [rCells, List.setIfInBounds_toArray, List.set_cons_zero, List.set_cons_succ] at h8
        simp only [rOpen, rCells, flat_append, flat_one, ccells, List.length_append, List.length_cons, List.length_nil, Nat.zero_add]
        exact h8
    case rest =>
      obtain ⟨rfl, sl3, cl3, sc3, cc3, h5⟩ := hcut
      obtain ⟨n, hnn⟩ : ∃ n, calls.length = n := ⟨_, rfl⟩
      obtain ⟨calls2, hcl2⟩ : ∃ calls2, calls ++ [⟨x0, x4, ⟨t1, t2⟩, ph⟩] = calls2 := ⟨_, rfl⟩
      rw [hcl2] at h5
      rw [hnn] at hc ⊢
      obtain ⟨d0, hd0⟩ : ∃ d0, ({ d with pas := x7 } : Dp) = d0 := ⟨_, rfl⟩
      have h5' : St w0 wc (rOpen br K d0 S1 calls2 sl3 cl3 sc3 cc3 LL) := by rw [← hd0]; exact h5
      have HC2 := Lib.hid hcl2
      have HNN := Lib.hid hnn
      have HD0 := Lib.hid hd0
      have H5 := Lib.hid h5'
      have hdp : d0.pas = x7 ∧ d0.can = K.can := by rw [← hd0]; exact ⟨rfl, HK.out.symm⟩
      have HDP := Lib.hid hdp
      obtain ⟨c0, c1, c2, c3, c4, c5, c6, c7', c8, c9, c10⟩ := r_cells h5.blk.1
      rw [HNa.out] at c6
      clear h5 h5' hd0 hcl2 hnn hdp H4 hxs r2 c7 f7 b0 b4 u0 u1 hlb
      go_wp2_with fail
      clear c0 c1 c2 c3 c4 c5 c6 c7' c8 c9 c10
      go_loopg [57] acs.length (RcRel w0 br K n (d0, S1) acs calls2 LL)
      case atStart => exact ⟨0, rfl, Nat.zero_le _, rfl, sl3, cl3, sc3, cc3, H5.out⟩
      case round =>
        obtain ⟨k, hg, hk, rfl, sl4, cl4, sc4, cc4, hp⟩ := hrel
        have Hg := Lib.hid hg
        have hle := actF_le n (d0, S1) acs k
        have HSu := fun hk => Lib.hid (actF_succ n (d0, S1) acs k hk)
        have hsame := (actF_fac n (acs.take k) (d0, S1)).1
        obtain ⟨P, hP⟩ : ∃ P, actF n (d0, S1) (acs.take k) = P := ⟨_, rfl⟩
        rw [hP] at hp hle hsame
        have HPP := Lib.hid hP
        obtain ⟨D, T⟩ := P
        simp only at hp hle hsame
        have Hp := Lib.hid hp
        obtain ⟨c0, c1, c2, c3, c4, c5, c6, c7, c8, c9, c10⟩ := r_cells hp.blk.1
        rw [HNa.out] at c6
        obtain ⟨f0, f1, f8, f9, f10⟩ : wr.frozen? ⟨br, 0, none⟩ = false ∧ wr.frozen? ⟨br, 1, none⟩ = false ∧ wr.frozen? ⟨br, 8, none⟩ = false ∧ wr.frozen? ⟨br, 9, none⟩ = false ∧ wr.frozen? ⟨br, 10, none⟩ = false := ⟨hp.blk.1.free 0, hp.blk.1.free 1, hp.blk.1.free 8, hp.blk.1.free 9, hp.blk.1.free 10⟩
        obtain ⟨-, -, -, -, -, -, -, b7⟩ := Blk.c8 (hp.blkm (.tail _ (.tail _ (.tail _ hLx))))
        have hpas : D.pas = x7 := hsame.pas.trans HDP.out.1
        have hcan : D.can = K.can := hsame.can.trans HDP.out.2
        have HSm := Lib.hid hsame
        clear hg hp hP H5 hsame
        by_cases hkn : k < acs.length
        · have hr := HRA.out.below Hp.out.bel
          obtain ⟨g1, o1, hs2, -⟩ := hr.addr (by omega)
          rw [hs2] at hr c6
          obtain ⟨y, hy⟩ : ∃ y, acs[k] = y := ⟨_, rfl⟩
          obtain ⟨e0, e1, e2, e3, e4, e5, e6, e7, e8, e9⟩ := a_at hr hkn y hy
          have hsu := (HSu hkn).out
          rw [HPP.out, hy] at hsu
          have hkk := HKK.out y (by rw [← hy]; exact List.getElem_mem hkn)
          have HS4 := Lib.hid hsu
          have hkn' : (k : Int) < (acs.length : Int) := by omega
          have hk0 : (0 : Int) ≤ (k : Int) := by omega
          have HS2 := Lib.hid hs2
          obtain ⟨ya, yk, ⟨y0, ⟨y1, y2⟩, y3, y4, y5, y6, y7⟩⟩ := y
          simp only at e0 e1 e2 e3 e4 e5 e6 e7 e8 e9 hkk
          have hwa : IntKind.i64.wrap ya = ya := by rw [IntKind.wrap_i64]; omega
          have hcase : (ya == (n : Int)) = false ∨ ((ya == (n : Int)) = true ∧ (yk % 6 = 0 ∨ yk % 6 = 1 ∨ yk % 6 = 2 ∨ yk % 6 = 3 ∨ yk % 6 = 4 ∨ yk % 6 = 5)) := by
            by_cases e : ya = (n : Int)
            · refine .inr ⟨by simpa using e, ?_⟩
              omega
            · exact .inl (by simpa using e)
          have hmod : yk.tmod 6 = yk % 6 := Int.tmod_eq_emod_of_nonneg hkk.1
          clear hr hy hsu HSu hs2
          rcases hcase with q1 | ⟨q1, q2 | q2 | q2 | q2 | q2 | q2⟩
          · have hres := Lib.hid (show act1 n (D, T) ⟨ya, yk, ⟨y0, ⟨y1, y2⟩, y3, y4, y5, y6, y7⟩⟩ = (D, T) by unfold act1; rw [if_neg (by simpa using q1)])
            clear hmod hkk
            go_wp2_with fail
            go_roundg (acs.length - (k + 1))
            case measure => have := Hg.out; omega
            case rel => exact ⟨k + 1, rfl, by omega, by simp, by rw [HS4.out, hres.out]; exact ⟨_, _, _, _, Hp.out⟩⟩
          all_goals
            rw [q2] at hmod
            have hxm : ya = (n : Int) := by simpa using q1
            have hres := Lib.hid (show act1 n (D, T) ⟨ya, yk, ⟨y0, ⟨y1, y2⟩, y3, y4, y5, y6, y7⟩⟩ = _ by unfold act1; simp only [hxm, if_true, q2]; rfl)
            clear q2 hkk
            subst hxm
          · go_wp2_with fail
            go_roundg (acs.length - (k + 1))
            case measure => have := Hg.out; omega
            case rel => exact ⟨k + 1, rfl, by omega, by simp, by rw [HS4.out, hres.out]; exact ⟨_, _, _, _, Hp.out⟩⟩
          · have hG := St.sh [_, _, _] [0, 2, 1] (by decide) Hp.out
            simp only [List.map_cons, List.map_nil, List.getD_cons_zero, List.getD_cons_succ, List.cons_append, List.nil_append] at hG
            have HG := Lib.hid hG
            have HRc := Lib.hid (Hp.out.swap).rc
            have KP := Lib.hid (show ∀ w', Below wr.heap.size wr w' → (w'.cell? ⟨br, 0, none⟩ = some (.slice sl4 T.l.length cl4) ∧ w'.cell? ⟨br, 1, none⟩ = some (.int .i64 T.nx) ∧ w'.cell? ⟨br, 6, none⟩ = some (.slice (some ⟨g1, o1, none⟩) acs.length K.c2) ∧ w'.cell? ⟨g1, o1 + k * 10 + 2, none⟩ = some (.int .i64 y0) ∧ w'.cell? ⟨g1, o1 + k * 10 + 2 + 1, none⟩ = some (.int .i64 y1) ∧ w'.cell? ⟨g1, o1 + k * 10 + 2 + 1 + 1, none⟩ = some (.int .i64 y2) ∧ w'.cell? ⟨g1, o1 + k * 10 + 2 + 3, none⟩ = some (.string y3) ∧ w'.cell? ⟨g1, o1 + k * 10 + 2 + 4, none⟩ = some (.int .i64 y4) ∧ w'.cell? ⟨g1, o1 + k * 10 + 2 + 5, none⟩ = some (.bool y5) ∧ w'.cell? ⟨g1, o1 + k * 10 + 2 + 6, none⟩ = some (.bool y6) ∧ w'.cell? ⟨g1, o1 + k * 10 + 2 + 7, none⟩ = some (.bool y7)) from fun w' h => ⟨bel_cell h c0, bel_cell h c1, bel_cell h c6, bel_cell h e2, bel_cell h e3, bel_cell h e4, bel_cell h e5, bel_cell h e6, bel_cell h e7, bel_cell h e8, bel_cell h e9⟩)
            have BA := Lib.hid ((Below.refl wr.heap.size wr).alloc (Nat.le_refl _) (.cells #[.slice none 0 0, .int .i64 0] 34))
            have CA := Lib.hid (radd_any sl4 cl4 T ⟨y0, ⟨y1, y2⟩, y3, y4, y5, y6, y7⟩ wr.drew (HRc.out.drew) (by omega) (by omega) (by omega))
            have CB := Lib.hid (radd_any sl4 cl4 T ⟨y0, ⟨y1, y2⟩, y3, y4, y5, y6, y7⟩ (wr.alloc (.cells #[.slice none 0 0, .int .i64 0] 34)).drew ((HRc.out.alloc (.cells #[.slice none 0 0, .int .i64 0] 34)).drew) (by omega) (by omega) (by omega))
            unfold lval at CA CB
            clear hG
            go_upto_region 11 with fail
            go_cut [10, 11, 82] (fun v8 v9 _ wc => GMid w0 (As.cells br (rCells K D T calls2 sl4 cl4 sc4 cc4) 62) (As.row 66 5 sc4 calls2.length cc4 (flat ccells calls2)) (T.add ⟨y0, ⟨y1, y2⟩, y3, y4, y5, y6, y7⟩) (.int .i64 (T.addId ⟨y0, ⟨y1, y2⟩, y3, y4, y5, y6, y7⟩)) LL v8 v9 wc)
            case first =>
              go_region_held3 (fun w' => w'.cell? ⟨br, 0, none⟩ = some (.slice sl4 T.l.length cl4) ∧ w'.cell? ⟨br, 1, none⟩ = some (.int .i64 T.nx) ∧ w'.cell? ⟨br, 6, none⟩ = some (.slice (some ⟨g1, o1, none⟩) acs.length K.c2) ∧ w'.cell? ⟨g1, o1 + k * 10 + 2, none⟩ = some (.int .i64 y0) ∧ w'.cell? ⟨g1, o1 + k * 10 + 2 + 1, none⟩ = some (.int .i64 y1) ∧ w'.cell? ⟨g1, o1 + k * 10 + 2 + 1 + 1, none⟩ = some (.int .i64 y2) ∧ w'.cell? ⟨g1, o1 + k * 10 + 2 + 3, none⟩ = some (.string y3) ∧ w'.cell? ⟨g1, o1 + k * 10 + 2 + 4, none⟩ = some (.int .i64 y4) ∧ w'.cell? ⟨g1, o1 + k * 10 + 2 + 5, none⟩ = some (.bool y5) ∧ w'.cell? ⟨g1, o1 + k * 10 + 2 + 6, none⟩ = some (.bool y6) ∧ w'.cell? ⟨g1, o1 + k * 10 + 2 + 7, none⟩ = some (.bool y7))
                (first | exact KP.out _ hbw | exact KP.out _ BA.out | exact KP.out _ (hbw.alloc hbw.size _) | exact KP.out _ ((hbw.setCell (p := ⟨wr.heap.size, 0, none⟩) (Nat.le_refl _) _).setCell (p := ⟨wr.heap.size, 1, none⟩) (Nat.le_refl _) _) | go_keep)
                (first
                  | (go_at_call 26; refine CA.out.mono ?_; rintro e w2 ⟨s', c', rfl, hr2, hnew, hb2⟩; have hbw : Below wr.heap.size wr w2 := ⟨hb2.os, hb2.tape, hb2.output, hb2.size, hb2.block⟩)
                  | (go_at_call 26; refine CB.out.mono ?_; rintro e w2 ⟨s', c', rfl, hr2, hnew, hb2⟩; have hbz := (Blk.new wr #[.slice none 0 0, .int .i64 0] 34).kept (S := fun _ => False) (Fr.of_below ⟨hb2.os, hb2.tape, hb2.output, hb2.size, hb2.block⟩) (fun q => q); obtain ⟨z0, z1, zf0, zf1⟩ := hbz.two; have hbw : Below wr.heap.size wr w2 := BA.out.trans (Below.mono ⟨hb2.os, hb2.tape, hb2.output, hb2.size, hb2.block⟩ BA.out.size)))
              all_goals
                go_wp2_with fail
                go_meet
                first
                  | exact g_mid_a HG.out hbw hr2 hnew
                  | exact g_mid_b HG.out ⟨hb2.os, hb2.tape, hb2.output, hb2.size, hb2.block⟩ hr2 hnew
            case rest =>
              obtain ⟨b8, s', c', rfl, rfl, h6⟩ := hcut
              obtain ⟨p0, p1, -, -⟩ := h6.two
              have hbk := (h6.swap).blk.1
              obtain ⟨z0, z1, -, -, -, -, -, -, -, -, -⟩ := r_cells hbk
              have zf0 := hbk.free 0
              have zf1 := hbk.free 1
              have n8 := h6.ne (.head _)
              have h7 := St.sh [_, _, _, _] [1, 3, 2, 0] (by decide) h6
              simp only [List.map_cons, List.map_nil, List.getD_cons_zero, List.getD_cons_succ, List.cons_append, List.nil_append] at h7
              have h8 := St.sh [_, _, _, _] [3, 0, 1, 2] (by decide) (r_set01 (S' := T.add ⟨y0, ⟨y1, y2⟩, y3, y4, y5, y6, y7⟩) (sl' := s') (cl' := c') h7)
              simp only [List.map_cons, List.map_nil, List.getD_cons_zero, List.getD_cons_succ, List.cons_append, List.nil_append] at h8
              have H8 := Lib.hid h8.drop
              clear h6 h7 h8 hbk c0 c1 c2 c3 c4 c5 c6 c7 c8 c9 c10 e0 e1 e2 e3 e4 e5 e6 e7 e8 e9 f0 f1 f8 f9 f10 b7
              go_wp2_with fail
              go_roundg (acs.length - (k + 1))
              case measure => have := Hg.out; omega
              case rel => exact ⟨k + 1, rfl, by omega, by simp, by rw [HS4.out, hres.out]; exact ⟨_, _, _, _, H8.out⟩⟩
          · have hG := St.sh [_, _, _] [0, 2, 1] (by decide) Hp.out
            simp only [List.map_cons, List.map_nil, List.getD_cons_zero, List.getD_cons_succ, List.cons_append, List.nil_append] at hG
            have HG := Lib.hid hG
            have HRc := Lib.hid (Hp.out.swap).rc
            have KP := Lib.hid (show ∀ w', Below wr.heap.size wr w' → (w'.cell? ⟨br, 0, none⟩ = some (.slice sl4 T.l.length cl4) ∧ w'.cell? ⟨br, 1, none⟩ = some (.int .i64 T.nx) ∧ w'.cell? ⟨br, 6, none⟩ = some (.slice (some ⟨g1, o1, none⟩) acs.length K.c2) ∧ w'.cell? ⟨g1, o1 + k * 10 + 2, none⟩ = some (.int .i64 y0) ∧ w'.cell? ⟨g1, o1 + k * 10 + 2 + 1, none⟩ = some (.int .i64 y1) ∧ w'.cell? ⟨g1, o1 + k * 10 + 2 + 1 + 1, none⟩ = some (.int .i64 y2) ∧ w'.cell? ⟨g1, o1 + k * 10 + 2 + 3, none⟩ = some (.string y3) ∧ w'.cell? ⟨g1, o1 + k * 10 + 2 + 4, none⟩ = some (.int .i64 y4) ∧ w'.cell? ⟨g1, o1 + k * 10 + 2 + 5, none⟩ = some (.bool y5) ∧ w'.cell? ⟨g1, o1 + k * 10 + 2 + 6, none⟩ = some (.bool y6) ∧ w'.cell? ⟨g1, o1 + k * 10 + 2 + 7, none⟩ = some (.bool y7)) from fun w' h => ⟨bel_cell h c0, bel_cell h c1, bel_cell h c6, bel_cell h e2, bel_cell h e3, bel_cell h e4, bel_cell h e5, bel_cell h e6, bel_cell h e7, bel_cell h e8, bel_cell h e9⟩)
            have BA := Lib.hid ((Below.refl wr.heap.size wr).alloc (Nat.le_refl _) (.cells #[.slice none 0 0, .int .i64 0] 34))
            have CA := Lib.hid (rrem_any sl4 cl4 T ⟨y0, ⟨y1, y2⟩, y3, y4, y5, y6, y7⟩ wr.drew (HRc.out.drew) (by omega))
            have CB := Lib.hid (rrem_any sl4 cl4 T ⟨y0, ⟨y1, y2⟩, y3, y4, y5, y6, y7⟩ (wr.alloc (.cells #[.slice none 0 0, .int .i64 0] 34)).drew ((HRc.out.alloc (.cells #[.slice none 0 0, .int .i64 0] 34)).drew) (by omega))
            unfold lval at CA CB
            clear hG
            go_upto_region 14 with fail
            go_cut [12, 13, 104] (fun v8 v9 _ wc => GMid w0 (As.cells br (rCells K D T calls2 sl4 cl4 sc4 cc4) 62) (As.row 66 5 sc4 calls2.length cc4 (flat ccells calls2)) (T.remove ⟨y0, ⟨y1, y2⟩, y3, y4, y5, y6, y7⟩) (.bool (T.has ⟨y0, ⟨y1, y2⟩, y3, y4, y5, y6, y7⟩)) LL v8 v9 wc)
            case first =>
              go_region_held3 (fun w' => w'.cell? ⟨br, 0, none⟩ = some (.slice sl4 T.l.length cl4) ∧ w'.cell? ⟨br, 1, none⟩ = some (.int .i64 T.nx) ∧ w'.cell? ⟨br, 6, none⟩ = some (.slice (some ⟨g1, o1, none⟩) acs.length K.c2) ∧ w'.cell? ⟨g1, o1 + k * 10 + 2, none⟩ = some (.int .i64 y0) ∧ w'.cell? ⟨g1, o1 + k * 10 + 2 + 1, none⟩ = some (.int .i64 y1) ∧ w'.cell? ⟨g1, o1 + k * 10 + 2 + 1 + 1, none⟩ = some (.int .i64 y2) ∧ w'.cell? ⟨g1, o1 + k * 10 + 2 + 3, none⟩ = some (.string y3) ∧ w'.cell? ⟨g1, o1 + k * 10 + 2 + 4, none⟩ = some (.int .i64 y4) ∧ w'.cell? ⟨g1, o1 + k * 10 + 2 + 5, none⟩ = some (.bool y5) ∧ w'.cell? ⟨g1, o1 + k * 10 + 2 + 6, none⟩ = some (.bool y6) ∧ w'.cell? ⟨g1, o1 + k * 10 + 2 + 7, none⟩ = some (.bool y7))
                (first | exact KP.out _ hbw | exact KP.out _ BA.out | exact KP.out _ (hbw.alloc hbw.size _) | exact KP.out _ ((hbw.setCell (p := ⟨wr.heap.size, 0, none⟩) (Nat.le_refl _) _).setCell (p := ⟨wr.heap.size, 1, none⟩) (Nat.le_refl _) _) | go_keep)
                (first
                  | (go_at_call 28; refine CA.out.mono ?_; rintro e w2 ⟨s', c', rfl, hr2, hnew, hb2⟩; have hbw : Below wr.heap.size wr w2 := ⟨hb2.os, hb2.tape, hb2.output, hb2.size, hb2.block⟩)
                  | (go_at_call 28; refine CB.out.mono ?_; rintro e w2 ⟨s', c', rfl, hr2, hnew, hb2⟩; have hbz := (Blk.new wr #[.slice none 0 0, .int .i64 0] 34).kept (S := fun _ => False) (Fr.of_below ⟨hb2.os, hb2.tape, hb2.output, hb2.size, hb2.block⟩) (fun q => q); obtain ⟨z0, z1, zf0, zf1⟩ := hbz.two; have hbw : Below wr.heap.size wr w2 := BA.out.trans (Below.mono ⟨hb2.os, hb2.tape, hb2.output, hb2.size, hb2.block⟩ BA.out.size)))
              all_goals
                go_wp2_with fail
                go_meet
                first
                  | exact g_mid_a HG.out hbw hr2 hnew
                  | exact g_mid_b HG.out ⟨hb2.os, hb2.tape, hb2.output, hb2.size, hb2.block⟩ hr2 hnew
            case rest =>
              obtain ⟨b8, s', c', rfl, rfl, h6⟩ := hcut
              obtain ⟨p0, p1, -, -⟩ := h6.two
              have hbk := (h6.swap).blk.1
              obtain ⟨z0, z1, -, -, -, -, -, -, -, -, -⟩ := r_cells hbk
              have zf0 := hbk.free 0
              have zf1 := hbk.free 1
              have n8 := h6.ne (.head _)
              have h7 := St.sh [_, _, _, _] [1, 3, 2, 0] (by decide) h6
              simp only [List.map_cons, List.map_nil, List.getD_cons_zero, List.getD_cons_succ, List.cons_append, List.nil_append] at h7
              have h8 := St.sh [_, _, _, _] [3, 0, 1, 2] (by decide) (r_set01 (S' := T.remove ⟨y0, ⟨y1, y2⟩, y3, y4, y5, y6, y7⟩) (sl' := s') (cl' := c') h7)
              simp only [List.map_cons, List.map_nil, List.getD_cons_zero, List.getD_cons_succ, List.cons_append, List.nil_append] at h8
              have H8 := Lib.hid h8.drop
              clear h6 h7 h8 hbk c0 c1 c2 c3 c4 c5 c6 c7 c8 c9 c10 e0 e1 e2 e3 e4 e5 e6 e7 e8 e9 f0 f1 f8 f9 f10 b7
              go_wp2_with fail
              go_roundg (acs.length - (k + 1))
              case measure => have := Hg.out; omega
              case rel => exact ⟨k + 1, rfl, by omega, by simp, by rw [HS4.out, hres.out]; exact ⟨_, _, _, _, H8.out⟩⟩
          · have H8 := Lib.hid (Hp.out.set 8 (.bool true))
            go_wp2_with fail
            go_roundg (acs.length - (k + 1))
            case measure => have := Hg.out; omega
            case rel => exact ⟨k + 1, rfl, by omega, by simp, by rw [HS4.out, hres.out]; exact ⟨sl4, cl4, sc4, cc4, by have h9 := H8.out; simp only [rCells, List.setIfInBounds_toArray, List.set_cons_zero, List.set_cons_succ] at h9; exact h9⟩⟩
          · have H8 := Lib.hid ((Hp.out.set 8 (.bool true)).set 9 (.bool true))
            go_wp2_with fail
            go_roundg (acs.length - (k + 1))
            case measure => have := Hg.out; omega
            case rel => exact ⟨k + 1, rfl, by omega, by simp, by rw [HS4.out, hres.out]; exact ⟨sl4, cl4, sc4, cc4, by have h9 := H8.out; simp only [rCells, List.setIfInBounds_toArray, List.set_cons_zero, List.set_cons_succ] at h9; exact h9⟩⟩
          · have H8 := Lib.hid (fun v => Hp.out.set 10 (.bool v))
            have hpb : prevB D = (D.prev || (K.can && !x7)) := by unfold prevB; rw [hpas, hcan]
            have HPB := Lib.hid hpb
            obtain ⟨pv, hpv⟩ : ∃ pv, D.prev = pv := ⟨_, rfl⟩
            obtain ⟨cn, hcn⟩ : ∃ cn, K.can = cn := ⟨_, rfl⟩
            rw [hpv] at c10 HPB
            rw [hcn] at c4 HPB
            clear hpb hpv hcn hpas hcan
            cases pv <;> cases cn <;> cases x7
            all_goals
              go_wp2_with fail
              go_roundg (acs.length - (k + 1))
              case measure => have := Hg.out; omega
              case rel =>
                refine ⟨k + 1, rfl, by omega, by simp, ?_⟩
                rw [HS4.out, hres.out]
                refine ⟨sl4, cl4, sc4, cc4, ?_⟩
                have h9 := H8.out (prevB D)
                simp only [rCells, List.setIfInBounds_toArray, List.set_cons_zero, List.set_cons_succ] at h9
                have h10 := HPB.out
                simp only [Bool.true_or, Bool.or_true, Bool.false_or, Bool.or_false, Bool.and_true, Bool.true_and, Bool.and_false, Bool.false_and, Bool.not_true, Bool.not_false] at h10
                rw [h10] at h9
                simp only [rCells, h10]
                exact h9
        · obtain rfl : k = acs.length := by omega
          rw [List.take_length] at HPP
          go_wp2_with fail
          go_end0
          have hcr : callR acs ⟨d, S, calls⟩ ⟨x0, ⟨x1, x2⟩, x3, x4, x5, x6, x7⟩ i ⟨t1, t2⟩ ph = ⟨D, T, calls2⟩ := by
            unfold callR
            simp only
            rw [HNN.out, HD0.out, HS1.out, HPP.out, HC2.out]
          rw [hcr]
          refine ⟨rfl, sl4, cl4, sc4, cc4, ?_⟩
          have h9 := Hp.out
          rw [← HLL.out] at h9
          have h10 := St.sh [_, _, _, _, _] [3, 4, 0, 1, 2] (by decide) h9
          simp only [List.map_cons, List.map_nil, List.getD_cons_zero, List.getD_cons_succ, List.cons_append, List.nil_append] at h10
          exact h10.drop.drop
end Go.Proofs.Ytianjcbofgdfdaa
