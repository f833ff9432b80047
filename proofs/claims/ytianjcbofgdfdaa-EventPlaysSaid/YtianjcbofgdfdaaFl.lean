/-
  The walk of EventListeners.
-/
import Derived.Test.YtianjcbofgdfdaaFk
import Derived.Test.YtianjcbofgdfdaaEy
set_option linter.unusedVariables false
set_option linter.unusedSimpArgs false
namespace Go.Proofs.Ytianjcbofgdfdaa
open Go.RowKit Go.K Go.K.Ev

def LsMid (w0 : World) (bl bm : Nat) (S S' : Ls) (s : Option Addr) (c : Nat) (v2 : Value) (L : List As) (v8 v9 : Value) (wc : World) : Prop :=
  ∃ (b8 : Nat) (s' : Option Addr) (c' : Nat), v8 = .pointer (some ⟨b8, 0, none⟩) ∧ v9 = v2 ∧
    St w0 wc (As.cells b8 #[.slice s' S'.l.length c', .int .i64 S'.nx] 34 :: lObj bl S :: As.cells bm #[.slice s S.l.length c, .int .i64 S.nx] 34 :: As.rdr 8 s' S'.l.length c' (flat lcells S'.l) :: L)
theorem ls_new {w0 wr w2 : World} {L : List As} {A B : As} {S S' : Ls} {s s' : Option Addr} {c c' : Nat} (h : St w0 wr (A :: B :: As.rdr 8 s S.l.length c (flat lcells S.l) :: L)) (hb : Below wr.heap.size wr w2)
    (hr : Rc w2 8 s' S'.l.length c' (flat lcells S'.l)) (hn : (s' = s ∧ c' = c ∧ S' = S) ∨ NewAt wr s') : St w0 w2 (A :: B :: As.rdr 8 s' S'.l.length c' (flat lcells S'.l) :: L) := by
  rcases hn with ⟨rfl, rfl, e⟩ | hn
  · rw [e]; exact h.of_below hb
  · have h2 := St.sh [_, _, _, _] [3, 1, 2, 0] (by decide) (h.rdr_new hb hr hn)
    simp only [List.map_cons, List.map_nil, List.getD_cons_zero, List.getD_cons_succ, List.cons_append, List.nil_append] at h2
    exact h2.drop
theorem ls_mid_a {w0 wr w2 : World} {L : List As} {bl bm : Nat} {S S' : Ls} {v2 : Value} {s s' : Option Addr} {c c' : Nat} (h : St w0 wr (lObj bl S :: As.cells bm #[.slice s S.l.length c, .int .i64 S.nx] 34 :: As.rdr 8 s S.l.length c (flat lcells S.l) :: L)) (hb : Below wr.heap.size wr w2)
    (hr : Rc w2 8 s' S'.l.length c' (flat lcells S'.l)) (hn : (s' = s ∧ c' = c ∧ S' = S) ∨ NewAt wr s') :
    LsMid w0 bl bm S S' s c v2 L (.pointer (some ⟨w2.heap.size, 0, none⟩)) v2 (w2.alloc (.cells #[.slice s' S'.l.length c', .int .i64 S'.nx] 34)) :=
  ⟨w2.heap.size, s', c', rfl, rfl, ((ls_new h hb hr hn).new _ _)⟩
theorem ls_mid_b {w0 wr w2 : World} {L : List As} {bl bm : Nat} {S S' : Ls} {v2 : Value} {s s' : Option Addr} {c c' : Nat} (h : St w0 wr (lObj bl S :: As.cells bm #[.slice s S.l.length c, .int .i64 S.nx] 34 :: As.rdr 8 s S.l.length c (flat lcells S.l) :: L)) (hb : Below (wr.alloc (.cells #[.slice none 0 0, .int .i64 0] 34)).heap.size (wr.alloc (.cells #[.slice none 0 0, .int .i64 0] 34)) w2)
    (hr : Rc w2 8 s' S'.l.length c' (flat lcells S'.l)) (hn : (s' = s ∧ c' = c ∧ S' = S) ∨ NewAt (wr.alloc (.cells #[.slice none 0 0, .int .i64 0] 34)) s') :
    LsMid w0 bl bm S S' s c v2 L (.pointer (some ⟨wr.heap.size, 0, none⟩)) v2 ((w2.setCell ⟨wr.heap.size, 0, none⟩ (.slice s' S'.l.length c')).setCell ⟨wr.heap.size, 1, none⟩ (.int .i64 S'.nx)) := by
  have h2 := St.sh [_, _, _, _] [1, 2, 3, 0] (by decide) (h.new #[.slice none 0 0, .int .i64 0] 34)
  simp only [List.map_cons, List.map_nil, List.getD_cons_zero, List.getD_cons_succ, List.cons_append, List.nil_append] at h2
  have h3 := St.sh [_, _, _, _] [3, 0, 1, 2] (by decide) (ls_new h2 hb hr hn)
  simp only [List.map_cons, List.map_nil, List.getD_cons_zero, List.getD_cons_succ, List.cons_append, List.nil_append] at h3
  exact ⟨wr.heap.size, s', c', rfl, rfl, (h3.set2 _ _)⟩

def lsStep (X : List Li) (S : Ls) (i : Nat) : Ls :=
  let S1 := S.add (X.getD i Li.zero)
  let S2 := if i % 3 = 2 then S1.remove (X.getD (i / 2) Li.zero) else S1
  if i % 7 = 6 then S2.drop (X.getD i Li.zero).tg else S2
def lsF (X : List Li) (k : Nat) : Ls := (List.range k).foldl (lsStep X) ⟨[], 0⟩
theorem lsF_succ (X : List Li) (k : Nat) : lsF X (k + 1) = lsStep X (lsF X k) k := by
  unfold lsF; rw [List.range_succ, List.foldl_append]; rfl
theorem drop_le (S : Ls) (t : Tg) : (S.drop t).l.length ≤ S.l.length ∧ (S.drop t).nx = S.nx := ⟨List.length_filter_le _ _, rfl⟩
theorem lsF_le (X : List Li) (k : Nat) : (lsF X k).l.length ≤ k ∧ 0 ≤ (lsF X k).nx ∧ (lsF X k).nx ≤ k := by
  induction k with
  | zero => simp [lsF]
  | succ k ih =>
    rw [lsF_succ]
    unfold lsStep
    have h1 := add_le (lsF X k) (X.getD k Li.zero)
    have h2 := remove_le ((lsF X k).add (X.getD k Li.zero)) (X.getD (k / 2) Li.zero)
    have h3 := drop_le (((lsF X k).add (X.getD k Li.zero)).remove (X.getD (k / 2) Li.zero)) (X.getD k Li.zero).tg
    have h4 := drop_le ((lsF X k).add (X.getD k Li.zero)) (X.getD k Li.zero).tg
    simp only
    split <;> split <;> omega

def LsRel (w : World) (X : List Li) (bl bm bt : Nat) (t : Tg) (g : Nat) (v : Value) (wr : World) : Prop :=
  ∃ (k : Nat) (s : Option Addr) (c : Nat), g = X.length - k ∧ k ≤ X.length ∧ v = .int .i64 k ∧ St w wr [lObj bl (lsF X k), As.cells bm #[.slice s (lsF X k).l.length c, .int .i64 (lsF X k).nx] 34, As.rdr 8 s (lsF X k).l.length c (flat lcells (lsF X k).l), As.cells bt #[.int .i64 t.kind, .int .i64 t.id] 29]
def LsCut (w : World) (S : Ls) (bl bm bt : Nat) (t : Tg) (wc : World) : Prop :=
  ∃ (s : Option Addr) (c : Nat), St w wc [lObj bl S, As.cells bm #[.slice s S.l.length c, .int .i64 S.nx] 34, As.rdr 8 s S.l.length c (flat lcells S.l), As.cells bt #[.int .i64 t.kind, .int .i64 t.id] 29]

set_option maxRecDepth 100000 in
set_option maxHeartbeats 16000000 in
theorem listeners_go (s0 : Option Addr) (c0 : Nat) (X : List Li) (t : Tg) (ty : ByteArray) (w : World) (hX : X.length ≤ 60) (hrX : Rd w 8 s0 X.length (flat lcells X)) :
    Calls Try.prog 9 #[.slice s0 X.length c0, .agg #[.int .i64 t.kind, .int .i64 t.id], .string ty] w fun e w' => e = .returned (.bool true) ∧ Below w.heap.size w w' := by
  have H0 := Lib.hid ((St.start w (Below.refl w.heap.size w)).new #[.int .i64 t.kind, .int .i64 t.id] 29)
  have HRX := Lib.hid hrX
  have hX' : ¬ ((60 : Int) < (X.length : Int)) := by omega
  clear hrX
  go_enter Try.func9, Try.ntmps9
  go_wp2_with fail
  (with_reducible refine (awake_any _).mono ?_)
  rintro e w1 ⟨rfl, hb1⟩
  have h1 := H0.out.of_below hb1
  have h2 := ((l_start h1).new #[.slice none 0 0, .int .i64 0] 34).rdr_nil 8
  simp only [World.size_alloc] at h2
  have h3 := St.sh [_, _, _, _] [2, 1, 0, 3] (by decide) h2
  simp only [List.map_cons, List.map_nil, List.getD_cons_zero, List.getD_cons_succ, List.cons_append, List.nil_append] at h3
  have H3 := Lib.hid h3
  clear hb1 h1 h2 h3 H0
  go_wp2_with fail
  generalize w.heap.size = bt at *
  generalize hbl : w1.heap.size = bl at *
  generalize hbm : bl + 1 = bm at *
  clear hbl hbm
  go_loopg [26] X.length (LsRel w X bl bm bt t)
  case atStart => exact ⟨0, none, 0, rfl, Nat.zero_le _, rfl, H3.out⟩
  case round =>
    obtain ⟨i, s, c, hg, hi, rfl, hp⟩ := hrel
    have Hg := Lib.hid hg
    have hle := lsF_le X i
    have HSu := Lib.hid (lsF_succ X i)
    obtain ⟨S, hS⟩ : ∃ S, lsF X i = S := ⟨_, rfl⟩
    rw [hS] at hp hle HSu
    have Hp := Lib.hid hp
    have HSS := Lib.hid hS
    obtain ⟨W, hW⟩ : ∃ W, wr = W := ⟨_, rfl⟩
    rw [hW] at Hp hp ⊢
    clear hg hS H3 hW
    by_cases hin : i < X.length
    · have hr := HRX.out.below Hp.out.bel
      obtain ⟨g1, o1, rfl, -⟩ := hr.addr (by omega)
      obtain ⟨x, hx⟩ : ∃ x, X[i] = x := ⟨_, rfl⟩
      obtain ⟨d0, d1, d2, d3, d4, d5, d6, d7⟩ := l_at hr hin x hx
      have HX := Lib.hid hx
      have hxg := Lib.hid (show X.getD i Li.zero = x by rw [List.getD_eq_getElem?_getD, List.getElem?_eq_getElem hin, hx]; rfl)
      have hin' : (i : Int) < (X.length : Int) := by omega
      have hi0 : (0 : Int) ≤ (i : Int) := by omega
      obtain ⟨m0, m1, mf0, mf1⟩ := hp.swap.two
      have HRc := Lib.hid (hp.front2).rc
      have hle1 := add_le S x
      obtain ⟨S1, hS1⟩ : ∃ S1, S.add x = S1 := ⟨_, rfl⟩
      have HS1 := Lib.hid hS1
      rw [hS1] at hle1
      obtain ⟨x0, ⟨x1, x2⟩, x3, x4, x5, x6, x7⟩ := x
      simp only at d0 d1 d2 d3 d4 d5 d6 d7
      clear hr hx hp hS1
      go_upto_region 8 with fail
      have KP := Lib.hid (show ∀ w', Below W.heap.size W w' → (w'.cell? ⟨bm, 0, none⟩ = some (.slice s S.l.length c) ∧ w'.cell? ⟨bm, 1, none⟩ = some (.int .i64 S.nx) ∧ w'.cell? ⟨g1, o1 + i * 8, none⟩ = some (.int .i64 x0) ∧ w'.cell? ⟨g1, o1 + i * 8 + 1, none⟩ = some (.int .i64 x1) ∧ w'.cell? ⟨g1, o1 + i * 8 + 1 + 1, none⟩ = some (.int .i64 x2) ∧ w'.cell? ⟨g1, o1 + i * 8 + 3, none⟩ = some (.string x3) ∧ w'.cell? ⟨g1, o1 + i * 8 + 4, none⟩ = some (.int .i64 x4) ∧ w'.cell? ⟨g1, o1 + i * 8 + 5, none⟩ = some (.bool x5) ∧ w'.cell? ⟨g1, o1 + i * 8 + 6, none⟩ = some (.bool x6) ∧ w'.cell? ⟨g1, o1 + i * 8 + 7, none⟩ = some (.bool x7)) from fun w' h => ⟨bel_cell h m0, bel_cell h m1, bel_cell h d0, bel_cell h d1, bel_cell h d2, bel_cell h d3, bel_cell h d4, bel_cell h d5, bel_cell h d6, bel_cell h d7⟩)
      have BA := Lib.hid ((Below.refl W.heap.size W).alloc (Nat.le_refl _) (.cells #[.slice none 0 0, .int .i64 0] 34))
      have CA := Lib.hid (radd_any s c S ⟨x0, ⟨x1, x2⟩, x3, x4, x5, x6, x7⟩ W.drew (HRc.out.drew) (by omega) (by omega) (by omega))
      have CB := Lib.hid (radd_any s c S ⟨x0, ⟨x1, x2⟩, x3, x4, x5, x6, x7⟩ (W.alloc (.cells #[.slice none 0 0, .int .i64 0] 34)).drew ((HRc.out.alloc (.cells #[.slice none 0 0, .int .i64 0] 34)).drew) (by omega) (by omega) (by omega))
      unfold lval at CA CB
      go_cut [10, 11, 29] (fun v8 v9 _ wc => LsMid w bl bm S (S.add ⟨x0, ⟨x1, x2⟩, x3, x4, x5, x6, x7⟩) s c (.int .i64 (S.addId ⟨x0, ⟨x1, x2⟩, x3, x4, x5, x6, x7⟩)) [As.cells bt #[.int .i64 t.kind, .int .i64 t.id] 29] v8 v9 wc)
      case first =>
        go_region_held3 (fun w' => w'.cell? ⟨bm, 0, none⟩ = some (.slice s S.l.length c) ∧ w'.cell? ⟨bm, 1, none⟩ = some (.int .i64 S.nx) ∧ w'.cell? ⟨g1, o1 + i * 8, none⟩ = some (.int .i64 x0) ∧ w'.cell? ⟨g1, o1 + i * 8 + 1, none⟩ = some (.int .i64 x1) ∧ w'.cell? ⟨g1, o1 + i * 8 + 1 + 1, none⟩ = some (.int .i64 x2) ∧ w'.cell? ⟨g1, o1 + i * 8 + 3, none⟩ = some (.string x3) ∧ w'.cell? ⟨g1, o1 + i * 8 + 4, none⟩ = some (.int .i64 x4) ∧ w'.cell? ⟨g1, o1 + i * 8 + 5, none⟩ = some (.bool x5) ∧ w'.cell? ⟨g1, o1 + i * 8 + 6, none⟩ = some (.bool x6) ∧ w'.cell? ⟨g1, o1 + i * 8 + 7, none⟩ = some (.bool x7))
          (first | exact KP.out _ hbw | exact KP.out _ BA.out | exact KP.out _ (hbw.alloc hbw.size _) | exact KP.out _ ((hbw.setCell (p := ⟨W.heap.size, 0, none⟩) (Nat.le_refl _) _).setCell (p := ⟨W.heap.size, 1, none⟩) (Nat.le_refl _) _) | go_keep)
          (first
            | (go_at_call 26; refine CA.out.mono ?_; rintro e w2 ⟨s', c', rfl, hr2, hnew, hb2⟩; have hbw : Below W.heap.size W w2 := ⟨hb2.os, hb2.tape, hb2.output, hb2.size, hb2.block⟩)
            | (go_at_call 26; refine CB.out.mono ?_; rintro e w2 ⟨s', c', rfl, hr2, hnew, hb2⟩; have hbz := (Blk.new W #[.slice none 0 0, .int .i64 0] 34).kept (S := fun _ => False) (Fr.of_below ⟨hb2.os, hb2.tape, hb2.output, hb2.size, hb2.block⟩) (fun q => q); obtain ⟨z0, z1, zf0, zf1⟩ := hbz.two; have hbw : Below W.heap.size W w2 := BA.out.trans (Below.mono ⟨hb2.os, hb2.tape, hb2.output, hb2.size, hb2.block⟩ BA.out.size)))
        all_goals
          go_wp2_with fail
          go_meet
          first
            | exact ls_mid_a Hp.out hbw hr2 hnew
            | exact ls_mid_b Hp.out ⟨hb2.os, hb2.tape, hb2.output, hb2.size, hb2.block⟩ hr2 hnew
      case rest =>
        obtain ⟨b8, s', c', rfl, rfl, h6⟩ := hcut
        have H6 := Lib.hid h6
        obtain ⟨p0, p1, pf0, pf1⟩ := h6.two
        obtain ⟨q0, q1, qf0, qf1⟩ := (h6.blkm (.tail _ (.tail _ (.head _)))).two
        have n8 := h6.ne (.tail _ (.head _))
        have h7 := St.sh [_, _, _] [2, 0, 1] (by decide) h6
        simp only [List.map_cons, List.map_nil, List.getD_cons_zero, List.getD_cons_succ, List.cons_append, List.nil_append] at h7
        have h8 := St.sh [_, _, _] [1, 2, 0] (by decide) (h7.set2 (.slice s' (S.add ⟨x0, ⟨x1, x2⟩, x3, x4, x5, x6, x7⟩).l.length c') (.int .i64 (S.add ⟨x0, ⟨x1, x2⟩, x3, x4, x5, x6, x7⟩).nx))
        simp only [List.map_cons, List.map_nil, List.getD_cons_zero, List.getD_cons_succ, List.cons_append, List.nil_append] at h8
        have H8 := Lib.hid h8.drop
        clear h6 h7 h8 m0 m1 d0 d1 d2 d3 d4 d5 d6 d7 CA CB KP BA
        go_upto_region 10 with fail
        clear p0 p1 pf0 pf1 q0 q1 qf0 qf1 n8 H6
        obtain ⟨W2, hW2⟩ : ∃ W2, (wc.setCell ⟨bm, 0, none⟩ (.slice s' (S.add ⟨x0, ⟨x1, x2⟩, x3, x4, x5, x6, x7⟩).l.length c')).setCell ⟨bm, 1, none⟩ (.int .i64 (S.add ⟨x0, ⟨x1, x2⟩, x3, x4, x5, x6, x7⟩).nx) = W2 := ⟨_, rfl⟩
        rw [hW2] at H8 ⊢
        clear hW2
        have HLi := Lib.hid (listener_any ⟨x0, ⟨x1, x2⟩, x3, x4, x5, x6, x7⟩ W2)
        unfold lval at HLi
        obtain ⟨d0, d1, d2, d3, d4, d5, d6, d7⟩ := l_at (HRX.out.below H8.out.bel) hin _ HX.out
        simp only at d0 d1 d2 d3 d4 d5 d6 d7
        go_wp2_with fail
        (with_reducible refine HLi.out.mono ?_)
        rintro e w3 ⟨rfl, hb3⟩
        have h9 := H8.out.of_below hb3
        have HAd := Lib.hid (ladd_st ⟨x0, ⟨x1, x2⟩, x3, x4, x5, x6, x7⟩ h9 (by omega) (by omega) (by omega))
        unfold lval at HAd
        clear hb3 h9 d0 d1 d2 d3 d4 d5 d6 d7 HLi H8
        go_wp2_with fail
        (with_reducible refine HAd.out.mono ?_)
        rintro e w4 ⟨rfl, h10⟩
        rw [HS1.out] at h10
        have H10 := Lib.hid h10
        clear h10 HAd
        go_upto_if 49 with fail
        go_cut [9] (fun v9 wc => v9 = .int .i64 i ∧ LsCut w (if i % 3 = 2 then S1.remove (X.getD (i / 2) Li.zero) else S1) bl bm bt t wc)
        case first =>
          by_cases h3 : i % 3 = 2
          · obtain ⟨j, hj⟩ : ∃ j, i / 2 = j := ⟨_, rfl⟩
            have hjn : j < X.length := by omega
            have q1 : (i : Int).tmod 3 = 2 := by rw [Int.tmod_eq_emod_of_nonneg (by omega)]; omega
            have q2 : (i : Int) % 3 = 2 := by omega
            have q3 : (i : Int).tdiv 2 = (j : Int) := by rw [Int.tdiv_eq_ediv_of_nonneg (by omega)]; omega
            have q4 : (i : Int) / 2 = (j : Int) := by omega
            have q5 : IntKind.i64.wrap (j : Int) = (j : Int) := by rw [IntKind.wrap_i64]; omega
            have hj0 : (0 : Int) ≤ (j : Int) := by omega
            have hjn' : (j : Int) < (X.length : Int) := by omega
            have HJ := Lib.hid hj
            have H3 := Lib.hid h3
            clear hj h3
            obtain ⟨y, hy⟩ : ∃ y, X[j] = y := ⟨_, rfl⟩
            have HY := Lib.hid hy
            have hyg := Lib.hid (show X.getD j Li.zero = y by rw [List.getD_eq_getElem?_getD, List.getElem?_eq_getElem hjn, hy]; rfl)
            obtain ⟨W, hW⟩ : ∃ W, w4 = W := ⟨_, rfl⟩
            obtain ⟨S, hS⟩ : ∃ S, S1 = S := ⟨_, rfl⟩
            obtain ⟨s, hs⟩ : ∃ s, s' = s := ⟨_, rfl⟩
            obtain ⟨c, hc⟩ : ∃ c, c' = c := ⟨_, rfl⟩
            have hp := H10.out
            subst hW hS hs hc
            obtain ⟨d0, d1, d2, d3, d4, d5, d6, d7⟩ := l_at (HRX.out.below hp.bel) hjn _ hy
            obtain ⟨m0, m1, mf0, mf1⟩ := hp.swap.two
            have HRc := Lib.hid (hp.front2).rc
            obtain ⟨x0, ⟨x1, x2⟩, x3, x4, x5, x6, x7⟩ := y
            simp only at d0 d1 d2 d3 d4 d5 d6 d7
            clear hp hy
            go_upto_region 13 with fail
            have KP := Lib.hid (show ∀ w', Below w4.heap.size w4 w' → (w'.cell? ⟨bm, 0, none⟩ = some (.slice s' S1.l.length c') ∧ w'.cell? ⟨bm, 1, none⟩ = some (.int .i64 S1.nx) ∧ w'.cell? ⟨g1, o1 + j * 8, none⟩ = some (.int .i64 x0) ∧ w'.cell? ⟨g1, o1 + j * 8 + 1, none⟩ = some (.int .i64 x1) ∧ w'.cell? ⟨g1, o1 + j * 8 + 1 + 1, none⟩ = some (.int .i64 x2) ∧ w'.cell? ⟨g1, o1 + j * 8 + 3, none⟩ = some (.string x3) ∧ w'.cell? ⟨g1, o1 + j * 8 + 4, none⟩ = some (.int .i64 x4) ∧ w'.cell? ⟨g1, o1 + j * 8 + 5, none⟩ = some (.bool x5) ∧ w'.cell? ⟨g1, o1 + j * 8 + 6, none⟩ = some (.bool x6) ∧ w'.cell? ⟨g1, o1 + j * 8 + 7, none⟩ = some (.bool x7)) from fun w' h => ⟨bel_cell h m0, bel_cell h m1, bel_cell h d0, bel_cell h d1, bel_cell h d2, bel_cell h d3, bel_cell h d4, bel_cell h d5, bel_cell h d6, bel_cell h d7⟩)
            have BA := Lib.hid ((Below.refl w4.heap.size w4).alloc (Nat.le_refl _) (.cells #[.slice none 0 0, .int .i64 0] 34))
            have CA := Lib.hid (rrem_any s' c' S1 ⟨x0, ⟨x1, x2⟩, x3, x4, x5, x6, x7⟩ w4.drew (HRc.out.drew) (by omega))
            have CB := Lib.hid (rrem_any s' c' S1 ⟨x0, ⟨x1, x2⟩, x3, x4, x5, x6, x7⟩ (w4.alloc (.cells #[.slice none 0 0, .int .i64 0] 34)).drew ((HRc.out.alloc (.cells #[.slice none 0 0, .int .i64 0] 34)).drew) (by omega))
            unfold lval at CA CB
            go_cut [12, 13, 50] (fun v8 v9 _ wc => LsMid w bl bm S1 (S1.remove ⟨x0, ⟨x1, x2⟩, x3, x4, x5, x6, x7⟩) s' c' (.bool (S1.has ⟨x0, ⟨x1, x2⟩, x3, x4, x5, x6, x7⟩)) [As.cells bt #[.int .i64 t.kind, .int .i64 t.id] 29] v8 v9 wc)
            case first =>
              go_region_held3 (fun w' => w'.cell? ⟨bm, 0, none⟩ = some (.slice s' S1.l.length c') ∧ w'.cell? ⟨bm, 1, none⟩ = some (.int .i64 S1.nx) ∧ w'.cell? ⟨g1, o1 + j * 8, none⟩ = some (.int .i64 x0) ∧ w'.cell? ⟨g1, o1 + j * 8 + 1, none⟩ = some (.int .i64 x1) ∧ w'.cell? ⟨g1, o1 + j * 8 + 1 + 1, none⟩ = some (.int .i64 x2) ∧ w'.cell? ⟨g1, o1 + j * 8 + 3, none⟩ = some (.string x3) ∧ w'.cell? ⟨g1, o1 + j * 8 + 4, none⟩ = some (.int .i64 x4) ∧ w'.cell? ⟨g1, o1 + j * 8 + 5, none⟩ = some (.bool x5) ∧ w'.cell? ⟨g1, o1 + j * 8 + 6, none⟩ = some (.bool x6) ∧ w'.cell? ⟨g1, o1 + j * 8 + 7, none⟩ = some (.bool x7))
                (first | exact KP.out _ hbw | exact KP.out _ BA.out | exact KP.out _ (hbw.alloc hbw.size _) | exact KP.out _ ((hbw.setCell (p := ⟨w4.heap.size, 0, none⟩) (Nat.le_refl _) _).setCell (p := ⟨w4.heap.size, 1, none⟩) (Nat.le_refl _) _) | go_keep)
                (first
                  | (go_at_call 28; refine CA.out.mono ?_; rintro e w2 ⟨s2, c2, rfl, hr2, hnew, hb2⟩; have hbw : Below w4.heap.size w4 w2 := ⟨hb2.os, hb2.tape, hb2.output, hb2.size, hb2.block⟩)
                  | (go_at_call 28; refine CB.out.mono ?_; rintro e w2 ⟨s2, c2, rfl, hr2, hnew, hb2⟩; have hbz := (Blk.new w4 #[.slice none 0 0, .int .i64 0] 34).kept (S := fun _ => False) (Fr.of_below ⟨hb2.os, hb2.tape, hb2.output, hb2.size, hb2.block⟩) (fun q => q); obtain ⟨z0, z1, zf0, zf1⟩ := hbz.two; have hbw : Below w4.heap.size w4 w2 := BA.out.trans (Below.mono ⟨hb2.os, hb2.tape, hb2.output, hb2.size, hb2.block⟩ BA.out.size)))
              all_goals
                go_wp2_with fail
                go_meet
                first
                  | exact ls_mid_a H10.out hbw hr2 hnew
                  | exact ls_mid_b H10.out ⟨hb2.os, hb2.tape, hb2.output, hb2.size, hb2.block⟩ hr2 hnew
            case rest =>
              obtain ⟨b8, s2, c2, rfl, rfl, h6⟩ := hcut
              have H6 := Lib.hid h6
              obtain ⟨p0, p1, pf0, pf1⟩ := h6.two
              obtain ⟨q0, q1, qf0, qf1⟩ := (h6.blkm (.tail _ (.tail _ (.head _)))).two
              have n8 := h6.ne (.tail _ (.head _))
              have h7 := St.sh [_, _, _] [2, 0, 1] (by decide) h6
              simp only [List.map_cons, List.map_nil, List.getD_cons_zero, List.getD_cons_succ, List.cons_append, List.nil_append] at h7
              have h8 := St.sh [_, _, _] [1, 2, 0] (by decide) (h7.set2 (.slice s2 (S1.remove ⟨x0, ⟨x1, x2⟩, x3, x4, x5, x6, x7⟩).l.length c2) (.int .i64 (S1.remove ⟨x0, ⟨x1, x2⟩, x3, x4, x5, x6, x7⟩).nx))
              simp only [List.map_cons, List.map_nil, List.getD_cons_zero, List.getD_cons_succ, List.cons_append, List.nil_append] at h8
              have H8 := Lib.hid h8.drop
              clear h6 h7 h8 m0 m1 d0 d1 d2 d3 d4 d5 d6 d7 CA CB KP BA
              go_upto_region 15 with fail
              clear p0 p1 pf0 pf1 q0 q1 qf0 qf1 n8 H6
              obtain ⟨W2, hW2⟩ : ∃ W2, (wc.setCell ⟨bm, 0, none⟩ (.slice s2 (S1.remove ⟨x0, ⟨x1, x2⟩, x3, x4, x5, x6, x7⟩).l.length c2)).setCell ⟨bm, 1, none⟩ (.int .i64 (S1.remove ⟨x0, ⟨x1, x2⟩, x3, x4, x5, x6, x7⟩).nx) = W2 := ⟨_, rfl⟩
              rw [hW2] at H8 ⊢
              clear hW2
              have HLi := Lib.hid (listener_any ⟨x0, ⟨x1, x2⟩, x3, x4, x5, x6, x7⟩ W2)
              unfold lval at HLi
              obtain ⟨d0, d1, d2, d3, d4, d5, d6, d7⟩ := l_at (HRX.out.below H8.out.bel) hjn _ HY.out
              simp only at d0 d1 d2 d3 d4 d5 d6 d7
              go_wp2_with fail
              (with_reducible refine HLi.out.mono ?_)
              rintro e w5 ⟨rfl, hb5⟩
              have h9 := H8.out.of_below hb5
              have HAd := Lib.hid (lrem_st ⟨x0, ⟨x1, x2⟩, x3, x4, x5, x6, x7⟩ h9 (by omega))
              unfold lval at HAd
              clear hb5 h9 d0 d1 d2 d3 d4 d5 d6 d7 HLi H8
              go_wp2_with fail
              (with_reducible refine HAd.out.mono ?_)
              rintro e w6 ⟨rfl, h11⟩
              have H11 := Lib.hid h11
              clear h11 HAd
              go_wp2_with fail
              go_meet
              exact ⟨rfl, by rw [if_pos H3.out, HJ.out, hyg.out]; exact ⟨_, _, H11.out⟩⟩
          · have q2 : ((i : Int) % 3 == 2) = false := by simp; omega
            have q3 : ¬ ((i : Int) % 3 = 2) := by omega
            have H3 := Lib.hid h3
            clear h3
            go_wp2_with fail
            go_meet
            exact ⟨rfl, by rw [if_neg H3.out]; exact ⟨_, _, H10.out⟩⟩
        case rest =>
          obtain ⟨rfl, s, c, hp⟩ := hcut
          clear H10
          obtain ⟨S, hS⟩ : ∃ S, (if i % 3 = 2 then S1.remove (X.getD (i / 2) Li.zero) else S1) = S := ⟨_, rfl⟩
          rw [hS] at hp
          have hle2 : S.l.length ≤ 100 ∧ 0 ≤ S.nx ∧ S.nx ≤ 100 := by
            have := remove_le S1 (X.getD (i / 2) Li.zero)
            rw [← hS]
            split <;> omega
          have HS2 := Lib.hid hS
          have Hp := Lib.hid hp
          clear hS hp
          obtain ⟨W, hW⟩ : ∃ W, wc = W := ⟨_, rfl⟩
          rw [hW] at Hp ⊢
          clear hW
          go_upto_if 72 with fail
          go_cut [9] (fun v9 wc => v9 = .int .i64 i ∧ LsCut w (if i % 7 = 6 then S.drop ⟨x1, x2⟩ else S) bl bm bt t wc)
          case first =>
            by_cases h3 : i % 7 = 6
            · have q1 : (i : Int).tmod 7 = 6 := by rw [Int.tmod_eq_emod_of_nonneg (by omega)]; omega
              have q2 : (i : Int) % 7 = 6 := by omega
              have H3 := Lib.hid h3
              have hp := Hp.out
              obtain ⟨d0, d1, d2, d3, d4, d5, d6, d7⟩ := l_at (HRX.out.below hp.bel) hin _ HX.out
              obtain ⟨m0, m1, mf0, mf1⟩ := hp.swap.two
              have HRc := Lib.hid (hp.front2).rc
              simp only at d0 d1 d2 d3 d4 d5 d6 d7
              clear hp h3 d0 d3 d4 d5 d6 d7
              go_upto_region 18 with fail
              have KP := Lib.hid (show ∀ w', Below W.heap.size W w' → (w'.cell? ⟨bm, 0, none⟩ = some (.slice s S.l.length c) ∧ w'.cell? ⟨bm, 1, none⟩ = some (.int .i64 S.nx) ∧ w'.cell? ⟨g1, o1 + i * 8 + 1, none⟩ = some (.int .i64 x1) ∧ w'.cell? ⟨g1, o1 + i * 8 + 1 + 1, none⟩ = some (.int .i64 x2)) from fun w' h => ⟨bel_cell h m0, bel_cell h m1, bel_cell h d1, bel_cell h d2⟩)
              have BA := Lib.hid ((Below.refl W.heap.size W).alloc (Nat.le_refl _) (.cells #[.slice none 0 0, .int .i64 0] 34))
              have CA := Lib.hid (rdrop_any s c S ⟨x1, x2⟩ W.drew (HRc.out.drew) (by omega))
              have CB := Lib.hid (rdrop_any s c S ⟨x1, x2⟩ (W.alloc (.cells #[.slice none 0 0, .int .i64 0] 34)).drew ((HRc.out.alloc (.cells #[.slice none 0 0, .int .i64 0] 34)).drew) (by omega))
              skip
              go_cut [14, 15, 73] (fun v8 v9 _ wc => LsMid w bl bm S (S.drop ⟨x1, x2⟩) s c (.int .i64 ((S.l.length : Int) - ((S.drop ⟨x1, x2⟩).l.length : Int))) [As.cells bt #[.int .i64 t.kind, .int .i64 t.id] 29] v8 v9 wc)
              case first =>
                go_region_held3 (fun w' => w'.cell? ⟨bm, 0, none⟩ = some (.slice s S.l.length c) ∧ w'.cell? ⟨bm, 1, none⟩ = some (.int .i64 S.nx) ∧ w'.cell? ⟨g1, o1 + i * 8 + 1, none⟩ = some (.int .i64 x1) ∧ w'.cell? ⟨g1, o1 + i * 8 + 1 + 1, none⟩ = some (.int .i64 x2))
                  (first | exact KP.out _ hbw | exact KP.out _ BA.out | exact KP.out _ (hbw.alloc hbw.size _) | exact KP.out _ ((hbw.setCell (p := ⟨W.heap.size, 0, none⟩) (Nat.le_refl _) _).setCell (p := ⟨W.heap.size, 1, none⟩) (Nat.le_refl _) _) | go_keep)
                  (first
                    | (go_at_call 30; refine CA.out.mono ?_; rintro e w2 ⟨s', c', rfl, hr2, hnew, hb2⟩; have hbw : Below W.heap.size W w2 := ⟨hb2.os, hb2.tape, hb2.output, hb2.size, hb2.block⟩)
                    | (go_at_call 30; refine CB.out.mono ?_; rintro e w2 ⟨s', c', rfl, hr2, hnew, hb2⟩; have hbz := (Blk.new W #[.slice none 0 0, .int .i64 0] 34).kept (S := fun _ => False) (Fr.of_below ⟨hb2.os, hb2.tape, hb2.output, hb2.size, hb2.block⟩) (fun q => q); obtain ⟨z0, z1, zf0, zf1⟩ := hbz.two; have hbw : Below W.heap.size W w2 := BA.out.trans (Below.mono ⟨hb2.os, hb2.tape, hb2.output, hb2.size, hb2.block⟩ BA.out.size)))
                all_goals
                  go_wp2_with fail
                  go_meet
                  first
                    | exact ls_mid_a Hp.out hbw hr2 (.inr hnew)
                    | exact ls_mid_b Hp.out ⟨hb2.os, hb2.tape, hb2.output, hb2.size, hb2.block⟩ hr2 (.inr hnew)
              case rest =>
                obtain ⟨b8, s', c', rfl, rfl, h6⟩ := hcut
                have H6 := Lib.hid h6
                obtain ⟨p0, p1, pf0, pf1⟩ := h6.two
                obtain ⟨q0, q1, qf0, qf1⟩ := (h6.blkm (.tail _ (.tail _ (.head _)))).two
                have n8 := h6.ne (.tail _ (.head _))
                have h7 := St.sh [_, _, _] [2, 0, 1] (by decide) h6
                simp only [List.map_cons, List.map_nil, List.getD_cons_zero, List.getD_cons_succ, List.cons_append, List.nil_append] at h7
                have h8 := St.sh [_, _, _] [1, 2, 0] (by decide) (h7.set2 (.slice s' (S.drop ⟨x1, x2⟩).l.length c') (.int .i64 (S.drop ⟨x1, x2⟩).nx))
                simp only [List.map_cons, List.map_nil, List.getD_cons_zero, List.getD_cons_succ, List.cons_append, List.nil_append] at h8
                have H8 := Lib.hid h8.drop
                clear h6 h7 h8 m0 m1 d1 d2 CA CB KP BA
                go_upto_region 20 with fail
                clear p0 p1 pf0 pf1 q0 q1 qf0 qf1 n8 H6
                obtain ⟨W2, hW2⟩ : ∃ W2, (wc.setCell ⟨bm, 0, none⟩ (.slice s' (S.drop ⟨x1, x2⟩).l.length c')).setCell ⟨bm, 1, none⟩ (.int .i64 (S.drop ⟨x1, x2⟩).nx) = W2 := ⟨_, rfl⟩
                rw [hW2] at H8 ⊢
                clear hW2
                have HAd := Lib.hid (ldrop_st ⟨x1, x2⟩ H8.out (by omega))
                obtain ⟨-, d1, d2, -, -, -, -, -⟩ := l_at (HRX.out.below H8.out.bel) hin _ HX.out
                simp only at d1 d2 HAd
                clear H8
                go_wp2_with fail
                (with_reducible refine HAd.out.mono ?_)
                rintro e w6 ⟨rfl, h11⟩
                have H11 := Lib.hid h11
                clear h11 HAd d1 d2
                go_wp2_with fail
                go_meet
                exact ⟨rfl, by rw [if_pos H3.out]; exact ⟨_, _, H11.out⟩⟩
            · have q2 : ((i : Int) % 7 == 6) = false := by simp; omega
              have q3 : ¬ ((i : Int) % 7 = 6) := by omega
              have H3 := Lib.hid h3
              clear h3
              go_wp2_with fail
              go_meet
              exact ⟨rfl, by rw [if_neg H3.out]; exact ⟨_, _, Hp.out⟩⟩
          case rest =>
            obtain ⟨rfl, s3, c3, hp3⟩ := hcut
            have hS3 : (if i % 7 = 6 then S.drop ⟨x1, x2⟩ else S) = lsF X (i + 1) := by
              rw [HSu.out]
              unfold lsStep
              rw [hxg.out, HS1.out]
              simp only [HS2.out]
            rw [hS3] at hp3
            have hle3 := lsF_le X (i + 1)
            have HP3 := Lib.hid hp3
            obtain ⟨S3, hS3'⟩ : ∃ S3, lsF X (i + 1) = S3 := ⟨_, rfl⟩
            rw [hS3'] at HP3 hle3 hp3
            have HS3 := Lib.hid hS3'
            obtain ⟨so, co, ho⟩ := l_open hp3
            obtain ⟨a0, a1, -, -⟩ := ho.two
            obtain ⟨m0, m1, -, -⟩ := hp3.swap.two
            have HSa := Lib.hid (same_any so co s3 c3 S3.l wc ho.swap.sl.rd (hp3.front2).rc.rd (by omega))
            clear hS3 hp3 hS3' ho
            go_wp2_with fail
            (with_reducible refine HSa.out.mono ?_)
            rintro e w7 ⟨rfl, hb7⟩
            have a1' := bel_cell hb7 a1
            have m1' := bel_cell hb7 m1
            have H7 := Lib.hid (HP3.out.of_below hb7)
            clear a0 a1 m0 m1 hb7 HSa
            go_wp2_with fail
            go_roundg (X.length - (i + 1))
            case measure => have := Hg.out; omega
            case rel => exact ⟨i + 1, s3, c3, rfl, by omega, by simp, by rw [HS3.out]; exact H7.out⟩
    · obtain rfl : i = X.length := by omega
      have KS := Lib.hid (show ∀ w' so co, St w w' [As.row 41 8 so (hits S.l t ty).length co (flat lcells (hits S.l t ty)), lObj bl S, As.cells bm #[.slice s S.l.length c, .int .i64 S.nx] 34, As.rdr 8 s S.l.length c (flat lcells S.l), As.cells bt #[.int .i64 t.kind, .int .i64 t.id] 29] →
          (w'.cell? ⟨bt, 0, none⟩ = some (.int .i64 t.kind) ∧ w'.cell? ⟨bt, 1, none⟩ = some (.int .i64 t.id) ∧ w'.cell? ⟨bm, 0, none⟩ = some (.slice s S.l.length c) ∧ w'.cell? ⟨bm, 1, none⟩ = some (.int .i64 S.nx)) from fun w' so co h => by
        obtain ⟨m0, m1, -, -⟩ := (h.blkm (.tail _ (.tail _ (.head _)))).two
        obtain ⟨t0, t1, -, -⟩ := (h.blkm (.tail _ (.tail _ (.tail _ (.tail _ (.head _)))))).two
        exact ⟨t0, t1, m0, m1⟩)
      have KR := Lib.hid (show ∀ w' so co, St w w' [As.row 41 8 so (hits S.l t ty).length co (flat lcells (hits S.l t ty)), lObj bl S, As.cells bm #[.slice s S.l.length c, .int .i64 S.nx] 34, As.rdr 8 s S.l.length c (flat lcells S.l), As.cells bt #[.int .i64 t.kind, .int .i64 t.id] 29] →
          Rc w' 8 s S.l.length c (flat lcells S.l) from fun w' so co h => by
        have h2 := St.sh [_, _, _, _] [3, 0, 1, 2] (by decide) h
        simp only [List.map_cons, List.map_nil, List.getD_cons_zero, List.getD_cons_succ, List.cons_append, List.nil_append] at h2
        exact h2.rc)
      have FA := Lib.hid (for_st t ty (Hp.out.drew) (by omega))
      have hhl : (hits S.l t ty).length ≤ 100 := by have := hits_le S.l t ty S.l.length; rw [List.take_length] at this; omega
      obtain ⟨m0, m1, -, -⟩ := hp.swap.two
      obtain ⟨t0, t1, -, -⟩ := (hp.blkm (.tail _ (.tail _ (.tail _ (.head _))))).two
      clear hp
      go_upto_region 25 with fail
      go_region_held3 (fun w' => w'.cell? ⟨bt, 0, none⟩ = some (.int .i64 t.kind) ∧ w'.cell? ⟨bt, 1, none⟩ = some (.int .i64 t.id) ∧ w'.cell? ⟨bm, 0, none⟩ = some (.slice s S.l.length c) ∧ w'.cell? ⟨bm, 1, none⟩ = some (.int .i64 S.nx))
        (first | exact KS.out _ _ _ ((h2.of_below hb3).of_below hb4) | exact KS.out _ _ _ (h2.of_below hb3) | exact KS.out _ _ _ h2 | go_keep)
        (first
          | (go_at_call 32; refine FA.out.mono ?_; rintro e w2 ⟨so, co, rfl, h2⟩)
          | (go_at_call 33; refine (rfor_any s c S t ty w2 (KR.out _ _ _ h2) (by omega)).mono ?_; rintro e w3 ⟨s3, c3, rfl, hr3, hn3, hb3⟩)
          | (go_at_call 24; refine (same_any so co s3 c3 (hits S.l t ty) w3 ((h2.sl.rd).below hb3) hr3.rd (by omega)).mono ?_; rintro e w4 ⟨rfl, hb4⟩))
      go_wp2_with fail
      go_ret
      exact ⟨rfl, ((h2.of_below hb3).of_below hb4).bel⟩
end Go.Proofs.Ytianjcbofgdfdaa
