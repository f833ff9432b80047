/-
  Contract of made.
-/
import Derived.Test.YtianjcbofgdfdaaEl
set_option linter.unusedVariables false
set_option linter.unusedSimpArgs false
namespace Go.Proofs.Ytianjcbofgdfdaa
open Go.RowKit Go.K Go.K.Ev

def madeS (X : List Li) : Ls := X.foldl Ls.add ⟨[], 0⟩
theorem madeS_succ (X : List Li) (k : Nat) (hk : k < X.length) : madeS (X.take (k + 1)) = (madeS (X.take k)).add X[k] := by
  unfold madeS
  rw [List.take_succ_eq_append_getElem hk, List.foldl_append]; rfl
theorem add_len (S : Ls) (x : Li) : (S.add x).l.length ≤ S.l.length + 1 ∧ S.nx ≤ (S.add x).nx ∧ (S.add x).nx ≤ S.nx + 1 := by
  unfold Ls.add
  split <;> simp <;> omega
theorem madeS_len (X : List Li) (k : Nat) : (madeS (X.take k)).l.length ≤ k ∧ 0 ≤ (madeS (X.take k)).nx ∧ (madeS (X.take k)).nx ≤ k := by
  induction k with
  | zero => simp [madeS]
  | succ k ih =>
    by_cases hk : k < X.length
    · rw [madeS_succ X k hk]
      have := add_len (madeS (X.take k)) X[k]
      omega
    · rw [List.take_of_length_le (by omega)] at ih ⊢
      omega

/-- the objects while the lists are made -/
def MdObjs (bl bm b2 b3 : Nat) (S : Ls) (s : Option Addr) (c : Nat) (L : List As) : List As :=
  lObj bl S :: As.cells bm #[.slice s S.l.length c, .int .i64 S.nx] 34 :: As.rdr 8 s S.l.length c (flat lcells S.l) :: As.cells b2 #[.slice none 0 0, .int .i64 0] 32 :: As.cells b3 #[.slice none 0 0, .int .i64 0] 34 :: L
def MdRel (w0 : World) (L : List As) (bl bm b2 b3 : Nat) (X : List Li) (g : Nat) (v : Value) (wr : World) : Prop :=
  ∃ (k : Nat) (s : Option Addr) (c : Nat), g = X.length - k ∧ k ≤ X.length ∧ v = .int .i64 k ∧ St w0 wr (MdObjs bl bm b2 b3 (madeS (X.take k)) s c L)
def MdMid (w0 : World) (L : List As) (bl bm b2 b3 : Nat) (S : Ls) (x : Li) (s : Option Addr) (c : Nat) (v8 v9 : Value) (wc : World) : Prop :=
  ∃ (b8 : Nat) (s' : Option Addr) (c' : Nat), v8 = .pointer (some ⟨b8, 0, none⟩) ∧ v9 = .int .i64 (S.addId x) ∧
    St w0 wc (As.cells b8 #[.slice s' (S.add x).l.length c', .int .i64 (S.add x).nx] 34 :: lObj bl S :: As.cells bm #[.slice s S.l.length c, .int .i64 S.nx] 34 :: As.rdr 8 s' (S.add x).l.length c' (flat lcells (S.add x).l) :: As.cells b2 #[.slice none 0 0, .int .i64 0] 32 :: As.cells b3 #[.slice none 0 0, .int .i64 0] 34 :: L)

def MadePost (S : Ls) (w0 : World) (L : List As) (E : Ending) (w' : World) : Prop :=
  ∃ sl cl sm cm, E = .returned (.tuple #[.agg #[.slice sl S.l.length cl, .int .i64 S.nx], .agg #[.slice sm S.l.length cm, .int .i64 S.nx], .bool true]) ∧
    St w0 w' (As.row 41 8 sl S.l.length cl (flat lcells S.l) :: As.rdr 8 sm S.l.length cm (flat lcells S.l) :: L)

theorem md_add {w0 wr w2 : World} {L : List As} {A B : As} {S : Ls} {x : Li} {s s' : Option Addr} {c c' : Nat} (h : St w0 wr (A :: B :: As.rdr 8 s S.l.length c (flat lcells S.l) :: L)) (hb : Below wr.heap.size wr w2)
    (hr : Rc w2 8 s' (S.add x).l.length c' (flat lcells (S.add x).l)) (hn : (s' = s ∧ c' = c ∧ S.add x = S) ∨ NewAt wr s') : St w0 w2 (A :: B :: As.rdr 8 s' (S.add x).l.length c' (flat lcells (S.add x).l) :: L) := by
  rcases hn with ⟨rfl, rfl, e⟩ | hn
  · rw [e]; exact h.of_below hb
  · have h2 := St.sh [_, _, _, _] [3, 1, 2, 0] (by decide) (h.rdr_new hb hr hn)
    simp only [List.map_cons, List.map_nil, List.getD_cons_zero, List.getD_cons_succ, List.cons_append, List.nil_append] at h2
    exact h2.drop
theorem md_mid_a {w0 wr w2 : World} {L : List As} {bl bm b2 b3 : Nat} {S : Ls} {x : Li} {s s' : Option Addr} {c c' : Nat} (h : St w0 wr (MdObjs bl bm b2 b3 S s c L)) (hb : Below wr.heap.size wr w2)
    (hr : Rc w2 8 s' (S.add x).l.length c' (flat lcells (S.add x).l)) (hn : (s' = s ∧ c' = c ∧ S.add x = S) ∨ NewAt wr s') :
    MdMid w0 L bl bm b2 b3 S x s c (.pointer (some ⟨w2.heap.size, 0, none⟩)) (.int .i64 (S.addId x)) (w2.alloc (.cells #[.slice s' (S.add x).l.length c', .int .i64 (S.add x).nx] 34)) :=
  ⟨w2.heap.size, s', c', rfl, rfl, ((md_add h hb hr hn).new _ _)⟩
theorem md_mid_b {w0 wr w2 : World} {L : List As} {bl bm b2 b3 : Nat} {S : Ls} {x : Li} {s s' : Option Addr} {c c' : Nat} (h : St w0 wr (MdObjs bl bm b2 b3 S s c L)) (hb : Below (wr.alloc (.cells #[.slice none 0 0, .int .i64 0] 34)).heap.size (wr.alloc (.cells #[.slice none 0 0, .int .i64 0] 34)) w2)
    (hr : Rc w2 8 s' (S.add x).l.length c' (flat lcells (S.add x).l)) (hn : (s' = s ∧ c' = c ∧ S.add x = S) ∨ NewAt (wr.alloc (.cells #[.slice none 0 0, .int .i64 0] 34)) s') :
    MdMid w0 L bl bm b2 b3 S x s c (.pointer (some ⟨wr.heap.size, 0, none⟩)) (.int .i64 (S.addId x)) ((w2.setCell ⟨wr.heap.size, 0, none⟩ (.slice s' (S.add x).l.length c')).setCell ⟨wr.heap.size, 1, none⟩ (.int .i64 (S.add x).nx)) := by
  unfold MdObjs at h
  have h2 := St.sh [_, _, _, _, _, _] [1, 2, 3, 4, 5, 0] (by decide) (h.new #[.slice none 0 0, .int .i64 0] 34)
  simp only [List.map_cons, List.map_nil, List.getD_cons_zero, List.getD_cons_succ, List.cons_append, List.nil_append] at h2
  have h3 := St.sh [_, _, _, _, _, _] [5, 0, 1, 2, 3, 4] (by decide) (md_add h2 hb hr hn)
  simp only [List.map_cons, List.map_nil, List.getD_cons_zero, List.getD_cons_succ, List.cons_append, List.nil_append] at h3
  exact ⟨wr.heap.size, s', c', rfl, rfl, (h3.set2 _ _)⟩
set_option maxRecDepth 100000 in
set_option maxHeartbeats 4000000 in
theorem made_st {w0 w : World} {L : List As} (s : Option Addr) (c : Nat) (X : List Li) (h : St w0 w L) (hs : Rd w0 8 s X.length (flat lcells X)) (hn : X.length ≤ 100) :
    Calls Try.prog 13 #[.slice s X.length c] w (MadePost (madeS X) w0 L) := by
  have h1 := h.new #[.slice none 0 0, .int .i64 0] 32
  have h2 := h1.new #[.slice none 0 0, .int .i64 0] 34
  have h3 := l_start h2
  have h4 := (h3.new #[.slice none 0 0, .int .i64 0] 34).rdr_nil 8
  have h5 := St.sh [_, _, _, _, _] [2, 1, 0, 4, 3] (by decide) h4
  simp only [List.map_cons, List.map_nil, List.getD_cons_zero, List.getD_cons_succ, List.cons_append, List.nil_append, World.size_alloc] at h5
  have H0 := Lib.hid h5
  have HS := Lib.hid hs
  clear h h1 h2 h3 h4 h5 hs
  go_enter Try.func13, Try.ntmps13
  go_wp2_with fail
  go_loopg [12] X.length (MdRel w0 L (w.heap.size + 1 + 1) (w.heap.size + 1 + 1 + 1) w.heap.size (w.heap.size + 1) X)
  case atStart => exact ⟨0, none, 0, rfl, Nat.zero_le _, rfl, H0.out⟩
  case round =>
    obtain ⟨k, sm, cm, hg, hk, rfl, hp⟩ := hrel
    have Hg := Lib.hid hg
    obtain ⟨hl1, hl2, hl3⟩ := madeS_len X k
    have HSu := fun hkn => Lib.hid (madeS_succ X k hkn)
    obtain ⟨S, hS⟩ : ∃ S, madeS (X.take k) = S := ⟨_, rfl⟩
    rw [hS] at hp hl1 hl2 hl3
    have HSS := Lib.hid hS
    unfold MdObjs at hp
    have Hp := Lib.hid hp
    generalize w.heap.size = b2 at *
    generalize hb3 : b2 + 1 = b3 at *
    generalize hbl : b3 + 1 = bl at *
    generalize hbm : bl + 1 = bm at *
    have n1 := hp.swap.ne (.tail _ (.tail _ (.head _)))
    have n2 := hp.swap.ne (.tail _ (.tail _ (.tail _ (.head _))))
    obtain ⟨sl0, cl0, hlo⟩ := l_open hp
    clear hg hp H0 hS hb3 hbl hbm
    by_cases hkn : k < X.length
    · have hr := HS.out.below Hp.out.bel
      obtain ⟨g1, o1, rfl, -⟩ := hr.addr (by omega)
      obtain ⟨x, hx⟩ : ∃ x, X[k] = x := ⟨_, rfl⟩
      obtain ⟨d0, d1, d2, d3, d4, d5, d6, d7⟩ := l_at hr hkn x hx
      have HX := Lib.hid hx
      have hkn' : (k : Int) < (X.length : Int) := by omega
      obtain ⟨m0, m1, mf0, mf1⟩ := Hp.out.swap.two
      have hmlt := Hp.out.swap.blk.1.lt
      have HRc := Lib.hid (Hp.out.front2).rc
      clear hx hr hlo
      obtain ⟨x0, ⟨x1, x2⟩, x3, x4, x5, x6, x7⟩ := x
      simp only at d0 d1 d2 d3 d4 d5 d6 d7
      go_upto_region 6 with fail
      go_cut [8, 9, 15] (fun v8 v9 _ wc => MdMid w0 L bl bm b2 b3 S ⟨x0, ⟨x1, x2⟩, x3, x4, x5, x6, x7⟩ sm cm v8 v9 wc)
      case first =>
        have hg1 : g1 < wr.heap.size := World.block_lt_of_cell? _ _ d0
        have hkeep : ∀ w', Below wr.heap.size wr w' → (w'.cell? ⟨bm, 0, none⟩ = some (.slice sm S.l.length cm) ∧ w'.cell? ⟨bm, 1, none⟩ = some (.int .i64 S.nx) ∧ w'.cell? ⟨g1, o1 + k * 8, none⟩ = some (.int .i64 x0) ∧ w'.cell? ⟨g1, o1 + k * 8 + 1, none⟩ = some (.int .i64 x1) ∧ w'.cell? ⟨g1, o1 + k * 8 + 1 + 1, none⟩ = some (.int .i64 x2) ∧ w'.cell? ⟨g1, o1 + k * 8 + 3, none⟩ = some (.string x3) ∧ w'.cell? ⟨g1, o1 + k * 8 + 4, none⟩ = some (.int .i64 x4) ∧ w'.cell? ⟨g1, o1 + k * 8 + 5, none⟩ = some (.bool x5) ∧ w'.cell? ⟨g1, o1 + k * 8 + 6, none⟩ = some (.bool x6) ∧ w'.cell? ⟨g1, o1 + k * 8 + 7, none⟩ = some (.bool x7)) :=
          fun w' h => ⟨(h.cell hmlt).trans m0, (h.cell hmlt).trans m1, (h.cell hg1).trans d0, (h.cell hg1).trans d1, (h.cell hg1).trans d2, (h.cell hg1).trans d3, (h.cell hg1).trans d4, (h.cell hg1).trans d5, (h.cell hg1).trans d6, (h.cell hg1).trans d7⟩
        have KP := Lib.hid hkeep
        have BA := Lib.hid ((Below.refl wr.heap.size wr).alloc (Nat.le_refl _) (.cells #[.slice none 0 0, .int .i64 0] 34))
        have CA := Lib.hid (radd_any sm cm S ⟨x0, ⟨x1, x2⟩, x3, x4, x5, x6, x7⟩ _ HRc.out.drew (by omega) hl2 (by omega))
        have CB := Lib.hid (radd_any sm cm S ⟨x0, ⟨x1, x2⟩, x3, x4, x5, x6, x7⟩ _ (HRc.out.alloc (.cells #[.slice none 0 0, .int .i64 0] 34)).drew (by omega) hl2 (by omega))
        unfold lval at CA CB
        clear hkeep
        go_region_held3 (fun w' => w'.cell? ⟨bm, 0, none⟩ = some (.slice sm S.l.length cm) ∧ w'.cell? ⟨bm, 1, none⟩ = some (.int .i64 S.nx) ∧ w'.cell? ⟨g1, o1 + k * 8, none⟩ = some (.int .i64 x0) ∧ w'.cell? ⟨g1, o1 + k * 8 + 1, none⟩ = some (.int .i64 x1) ∧ w'.cell? ⟨g1, o1 + k * 8 + 1 + 1, none⟩ = some (.int .i64 x2) ∧ w'.cell? ⟨g1, o1 + k * 8 + 3, none⟩ = some (.string x3) ∧ w'.cell? ⟨g1, o1 + k * 8 + 4, none⟩ = some (.int .i64 x4) ∧ w'.cell? ⟨g1, o1 + k * 8 + 5, none⟩ = some (.bool x5) ∧ w'.cell? ⟨g1, o1 + k * 8 + 6, none⟩ = some (.bool x6) ∧ w'.cell? ⟨g1, o1 + k * 8 + 7, none⟩ = some (.bool x7))
          (first | exact KP.out _ hbw | exact KP.out _ BA.out | exact KP.out _ (hbw.alloc hbw.size _) | exact KP.out _ ((hbw.setCell (p := ⟨wr.heap.size, 0, none⟩) (Nat.le_refl _) _).setCell (p := ⟨wr.heap.size, 1, none⟩) (Nat.le_refl _) _) | go_keep)
          (first
            | (go_at_call 26; refine CA.out.mono ?_; rintro e w2 ⟨s', c', rfl, hr2, hnew, hb2⟩; have hbw : Below wr.heap.size wr w2 := ⟨hb2.os, hb2.tape, hb2.output, hb2.size, hb2.block⟩)
            | (go_at_call 26; refine CB.out.mono ?_; rintro e w2 ⟨s', c', rfl, hr2, hnew, hb2⟩; have hbz := (Blk.new wr #[.slice none 0 0, .int .i64 0] 34).kept (S := fun _ => False) (Fr.of_below ⟨hb2.os, hb2.tape, hb2.output, hb2.size, hb2.block⟩) (fun q => q); obtain ⟨t0, t1, tf0, tf1⟩ := hbz.two; have hbw : Below wr.heap.size wr w2 := BA.out.trans (Below.mono ⟨hb2.os, hb2.tape, hb2.output, hb2.size, hb2.block⟩ BA.out.size)))
        all_goals
          go_wp2_with fail
          go_meet
          first
            | exact md_mid_a Hp.out hbw hr2 hnew
            | exact md_mid_b Hp.out ⟨hb2.os, hb2.tape, hb2.output, hb2.size, hb2.block⟩ hr2 hnew
      case rest =>
        obtain ⟨b8, s', c', rfl, rfl, h6⟩ := hcut
        have H6 := Lib.hid h6
        obtain ⟨p0, p1, pf0, pf1⟩ := h6.two
        obtain ⟨m0', m1', mf0', mf1'⟩ := (h6.blkm (.tail _ (.tail _ (.head _)))).two
        have hr6 := HS.out.below h6.bel
        obtain ⟨d0', d1', d2', d3', d4', d5', d6', d7'⟩ := l_at hr6 hkn _ HX.out
        simp only at d0' d1' d2' d3' d4' d5' d6' d7'
        have n8 := h6.ne (.tail _ (.head _))
        have n9 : g1 ≠ bm := by
          have h9 : g1 < w0.heap.size := World.block_lt_of_cell? _ _ (l_at HS.out hkn _ HX.out).1
          have := (H6.out.front2).blk.2
          omega
        clear h6 hr6 d0 d1 d2 d3 d4 d5 d6 d7 m0 m1 mf0 mf1
        go_wp2_with fail
        have h7 := (St.sh [_, _, _] [2, 0, 1] (by decide) H6.out)
        simp only [List.map_cons, List.map_nil, List.getD_cons_zero, List.getD_cons_succ, List.cons_append, List.nil_append] at h7
        have h8 := St.sh [_, _, _, _, _, _] [2, 0, 3, 4, 5, 1] (by decide) (h7.set2 (.slice s' (S.add ⟨x0, ⟨x1, x2⟩, x3, x4, x5, x6, x7⟩).l.length c') (.int .i64 (S.add ⟨x0, ⟨x1, x2⟩, x3, x4, x5, x6, x7⟩).nx))
        simp only [List.map_cons, List.map_nil, List.getD_cons_zero, List.getD_cons_succ, List.cons_append, List.nil_append] at h8
        have H8 := Lib.hid h8
        clear h7 h8 p0 p1 pf0 pf1 m0' m1' mf0' mf1'
        refine (listener_any ⟨x0, ⟨x1, x2⟩, x3, x4, x5, x6, x7⟩ _).mono ?_
        rintro e w3 ⟨rfl, hb3⟩
        have H9 := Lib.hid (H8.out.of_below hb3)
        clear hb3 d0' d1' d2' d3' d4' d5' d6' d7' H8
        unfold lval
        go_wp2_with fail
        refine (ladd_st ⟨x0, ⟨x1, x2⟩, x3, x4, x5, x6, x7⟩ H9.out (by omega) hl2 (by omega)).mono ?_
        rintro e w4 ⟨rfl, h10⟩
        have H10 := Lib.hid h10
        have hSk := HSu hkn
        clear h10
        go_wp2_with fail
        go_roundg (X.length - (k + 1))
        case measure => have := Hg.out; omega
        case rel =>
          refine ⟨k + 1, s', c', rfl, by omega, by simp, ?_⟩
          rw [hSk.out, HSS.out, HX.out]
          have h11 := St.sh [_, _, _, _, _, _] [5, 0, 1, 2, 3, 4] (by decide) H10.out
          simp only [List.map_cons, List.map_nil, List.getD_cons_zero, List.getD_cons_succ, List.cons_append, List.nil_append] at h11
          exact h11.drop
    · obtain rfl : k = X.length := by omega
      rw [List.take_length] at HSS
      have hSS := HSS.out
      subst hSS
      obtain ⟨m0, m1, mf0, mf1⟩ := Hp.out.swap.two
      have HRc := Lib.hid (Hp.out.front2).rc
      obtain ⟨l0, l1, lf0, lf1⟩ := hlo.two
      have HLO := Lib.hid hlo
      clear hlo
      have e1 := HLO.out.ne (.tail _ (.head _))
      have e2 := HLO.out.ne (.tail _ (.tail _ (.tail _ (.head _))))
      have e3 := HLO.out.ne (.tail _ (.tail _ (.tail _ (.tail _ (.head _)))))
      have e4 := (St.sh [_, _, _, _, _] [4, 0, 1, 2, 3] (by decide) HLO.out)
      simp only [List.map_cons, List.map_nil, List.getD_cons_zero, List.getD_cons_succ, List.cons_append, List.nil_append] at e4
      have e5 := e4.ne (.tail _ (.tail _ (.tail _ (.tail _ (.head _)))))
      have e1' := e1.symm
      have e2' := e2.symm
      have e3' := e3.symm
      have e5' := e5.symm
      have n1' := n1.symm
      have n2' := n2.symm
      have CS := Lib.hid (same_any sl0 cl0 sm cm (madeS X).l wr.drew HLO.out.swap.sl.drew.rd HRc.out.drew.rd (by omega))
      have hlt1 := HLO.out.blk.1.lt
      have hlt2 := Hp.out.swap.blk.1.lt
      have hkeep : ∀ w', Below wr.heap.size wr w' → (w'.cell? ⟨bl, 0, none⟩ = some (.slice sl0 (madeS X).l.length cl0) ∧ w'.cell? ⟨bl, 1, none⟩ = some (.int .i64 (madeS X).nx) ∧ w'.cell? ⟨bm, 0, none⟩ = some (.slice sm (madeS X).l.length cm) ∧ w'.cell? ⟨bm, 1, none⟩ = some (.int .i64 (madeS X).nx)) := fun w' h => ⟨(h.cell hlt1).trans l0, (h.cell hlt1).trans l1, (h.cell hlt2).trans m0, (h.cell hlt2).trans m1⟩
      have KP := Lib.hid hkeep
      clear e4 hkeep HRc
      go_wp2_with fail
      go_region_held3 (fun w' => w'.cell? ⟨bl, 0, none⟩ = some (.slice sl0 (madeS X).l.length cl0) ∧ w'.cell? ⟨bl, 1, none⟩ = some (.int .i64 (madeS X).nx) ∧ w'.cell? ⟨bm, 0, none⟩ = some (.slice sm (madeS X).l.length cm) ∧ w'.cell? ⟨bm, 1, none⟩ = some (.int .i64 (madeS X).nx))
        (first | exact KP.out _ hbw | go_keep)
        (first | (go_at_call 24; refine CS.out.mono ?_; rintro e w2 ⟨rfl, hb2⟩; have hbw : Below wr.heap.size wr w2 := ⟨hb2.os, hb2.tape, hb2.output, hb2.size, hb2.block⟩; have H5 := Lib.hid (HLO.out.of_below hbw); obtain ⟨p0, p1, pf0, pf1⟩ := (H5.out.blkm (.tail _ (.tail _ (.tail _ (.tail _ (.head _)))))).two; obtain ⟨q0, q1, qf0, qf1⟩ := (H5.out.blkm (.tail _ (.tail _ (.tail _ (.tail _ (.tail _ (.head _))))))).two))
      go_wp2_with fail
      refine bodyPost_ret (v := .tuple #[.agg #[.slice sl0 (madeS X).l.length cl0, .int .i64 (madeS X).nx], .agg #[.slice sm (madeS X).l.length cm, .int .i64 (madeS X).nx], .bool true]) (by simp [results, Try.results13, go_sem, e5, e5', p0, p1, q0, q1]) rfl ⟨sl0, cl0, sm, cm, rfl, ?_⟩
      have h6 := St.sh [_, _, _, _, _, _] [4, 5, 1, 3, 0, 2] (by decide) H5.out
      simp only [List.map_cons, List.map_nil, List.getD_cons_zero, List.getD_cons_succ, List.cons_append, List.nil_append] at h6
      have h7 := (h6.set2 (.slice sl0 (madeS X).l.length cl0) (.int .i64 (madeS X).nx)).swap.set2 (.slice sm (madeS X).l.length cm) (.int .i64 (madeS X).nx)
      have h8 := St.sh [_, _, _, _, _, _] [0, 1, 4, 5, 2, 3] (by decide) h7
      simp only [List.map_cons, List.map_nil, List.getD_cons_zero, List.getD_cons_succ, List.cons_append, List.nil_append] at h8
      exact h8.drop.drop.drop.drop
end Go.Proofs.Ytianjcbofgdfdaa
