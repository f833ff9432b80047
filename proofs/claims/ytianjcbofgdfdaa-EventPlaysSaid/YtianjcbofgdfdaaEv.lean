/-
  The walk of EventOnce.
-/
import Derived.Test.YtianjcbofgdfdaaEu
set_option linter.unusedVariables false
set_option linter.unusedSimpArgs false
namespace Go.Proofs.Ytianjcbofgdfdaa
open Go.RowKit Go.K Go.K.Ev

/-- a new dispatch stored into a block -/
theorem d_make_set {w0 w : World} {L : List As} {b : Nat} {a0 a1 a2 a3 a4 a5 a6 a7 a8 a9 a10 a11 a12 a13 : Value} {d : Dp} {s : Option Addr} {c : Nat} (h : St w0 w (As.cells b #[a0, a1, a2, a3, a4, a5, a6, a7, a8, a9, a10, a11, a12, a13] 45 :: As.row 39 2 s d.path.length c (flat gcells d.path) :: L)) (hq : d.q = []) :
    St w0 ((((((((((((((w.setCell ⟨b, 0, none⟩ (.string d.ty)).setCell ⟨b, 1, none⟩ (.bool d.bub)).setCell ⟨b, 2, none⟩ (.bool d.can)).setCell ⟨b, 3, none⟩ (.slice s d.path.length c)).setCell ⟨b, 4, none⟩ (.int .i64 d.st)).setCell ⟨b, 5, none⟩ (.slice none d.q.length 0)).setCell ⟨b, 6, none⟩ (.int .i64 d.cur.kind)).setCell ⟨b, 7, none⟩ (.int .i64 d.cur.id)).setCell ⟨b, 8, none⟩ (.int .i64 d.ph)).setCell ⟨b, 9, none⟩ (.bool d.pas)).setCell ⟨b, 10, none⟩ (.bool d.stop)).setCell ⟨b, 11, none⟩ (.bool d.halt)).setCell ⟨b, 12, none⟩ (.bool d.prev)).setCell ⟨b, 13, none⟩ (.bool d.done)) (dObj b d :: L) := by
  have h2 := (h.set14 (.string d.ty) (.bool d.bub) (.bool d.can) (.slice s d.path.length c) (.int .i64 d.st) (.slice none d.q.length 0) (.int .i64 d.cur.kind) (.int .i64 d.cur.id) (.int .i64 d.ph) (.bool d.pas) (.bool d.stop) (.bool d.halt) (.bool d.prev) (.bool d.done)).swap.row_nil 3 1
  have h3 := St.sh [_, _, _] [2, 1, 0] (by decide) h2
  simp only [List.map_cons, List.map_nil, List.getD_cons_zero, List.getD_cons_succ, List.cons_append, List.nil_append] at h3
  refine d_shut (sp := s) (cp := c) (sq := none) (cq := 0) ?_
  simp only [dOpen, hq, ints, List.length_nil, List.map_nil]
  simpa only [dCells, hq, List.length_nil] using h3
theorem d_open_new {w0 w : World} {L : List As} {b : Nat} {d0 d : Dp} {s : Option Addr} {c : Nat} (h : St w0 w (dObj b d0 :: As.row 39 2 s d.path.length c (flat gcells d.path) :: L)) :
    ∃ a0 a1 a2 a3 a4 a5 a6 a7 a8 a9 a10 a11 a12 a13 : Value, St w0 w (As.cells b #[a0, a1, a2, a3, a4, a5, a6, a7, a8, a9, a10, a11, a12, a13] 45 :: As.row 39 2 s d.path.length c (flat gcells d.path) :: L) := by
  obtain ⟨sp, cp, sq, cq, h1⟩ := d_open h
  have h2 := St.sh [_, _, _, _] [1, 2, 0, 3] (by decide) h1
  simp only [List.map_cons, List.map_nil, List.getD_cons_zero, List.getD_cons_succ, List.cons_append, List.nil_append] at h2
  exact ⟨_, _, _, _, _, _, _, _, _, _, _, _, _, _, h2.drop.drop⟩

def O1Rel (w : World) (L : List As) (b lb : Nat) (nx : Int) (CS : List Int) (F : List Li) (g : Nat) (v : Value) (wr : World) : Prop :=
  ∃ (k : Nat) (d : Dp) (l : List Li) (s : Option Addr) (c : Nat), g = CS.length - k ∧ k ≤ CS.length ∧ Go1 d l ∧ Tr d l (CS.drop k) F ∧ v = .slice s k c ∧
    St w wr (dObj b d :: lObj lb ⟨l, nx⟩ :: As.row 3 1 s k c (ints (CS.take k)) :: L)
def O2Rel (w : World) (L : List As) (b lb : Nat) (nx : Int) (S : List Li) (CS : List Int) (F : List Li) (s : Option Addr) (c : Nat) (g : Nat) (v : Value) (wr : World) : Prop :=
  ∃ (k : Nat) (d e : Dp) (l : List Li), g = CS.length - k ∧ k ≤ CS.length ∧ v = .int .i64 k ∧ Go1 d F ∧ Go1 e l ∧ Tr e l (CS.drop k) F ∧ Mt F e d ∧ l.Sublist S ∧
    St w wr (dObj b d :: lObj lb ⟨F, nx⟩ :: As.row 3 1 s CS.length c (ints CS) :: L)
theorem go1_new (ty : ByteArray) (bub can : Bool) (P : List Tg) (l : List Li) (hP : P.length ≤ 12) (hl : l.length ≤ 40) (hn : (l.map Li.id).Nodup) : Go1 (dNew ty bub can P) l :=
  ⟨⟨by simp [dNew], by simpa [dNew] using hP, by simp [dNew], by omega⟩, rfl, rfl, hn⟩
theorem tr_cons {d : Dp} {l : List Li} {CS : List Int} {k : Nat} {F : List Li} {c : Cl} (h : Tr d l (CS.drop k) F) (hc : (d.next l).call = some c) : ∃ hk : k < CS.length, CS[k] = c.id ∧ Tr (d.next l).d (d.next l).l (CS.drop (k + 1)) F := by
  generalize hD : CS.drop k = D at h
  cases h with
  | stop h hl => rw [hc] at h; cases h
  | @step _ _ c' cs _ h ht =>
    rw [hc] at h
    cases h
    have hk : k < CS.length := by
      rcases Nat.lt_or_ge k CS.length with q | q
      · exact q
      · rw [List.drop_of_length_le q] at hD; cases hD
    rw [List.drop_eq_getElem_cons hk] at hD
    obtain ⟨e1, e2⟩ := List.cons.inj hD
    exact ⟨hk, e1, e2 ▸ ht⟩
theorem tr_nil {d : Dp} {l : List Li} {CS : List Int} {k : Nat} {F : List Li} (h : Tr d l (CS.drop k) F) (hk : k ≤ CS.length) (hc : (d.next l).call = none) : k = CS.length ∧ (d.next l).l = F := by
  generalize hD : CS.drop k = D at h
  cases h with
  | stop h hl =>
    refine ⟨?_, hl⟩
    have := congrArg List.length hD
    simp at this
    omega
  | @step _ _ c' cs _ h ht => rw [hc] at h; cases h
theorem ints_snoc (CS : List Int) (k : Nat) (hk : k < CS.length) : ints (CS.take k) ++ [.int .i64 CS[k]] = ints (CS.take (k + 1)) := by
  rw [List.take_succ_eq_append_getElem hk]; unfold ints; rw [List.map_append]; rfl
theorem ints_at {w : World} {g o n : Nat} {CS : List Int} (h : Rd w 1 (some ⟨g, o, none⟩) n (ints CS)) (k : Nat) (hk : k < CS.length) (x : Int) (hx : CS[k] = x) : w.cell? ⟨g, o + k, none⟩ = some (.int .i64 x) := by
  have := h.cells _ rfl k (.int .i64 x) (by rw [ints, List.getElem?_map, List.getElem?_eq_getElem hk, hx]; rfl)
  rwa [Addr.add_lit] at this

set_option maxRecDepth 100000 in
set_option maxHeartbeats 4000000 in
theorem once_go (s0 : Option Addr) (c0 : Nat) (X : List Li) (ty : ByteArray) (bub can : Bool) (s1 : Option Addr) (c1 : Nat) (P : List Tg) (w : World)
    (hX : X.length ≤ 40) (hP : P.length ≤ 12) (hrX : Rd w 8 s0 X.length (flat lcells X)) (hrP : Rd w 2 s1 P.length (flat gcells P)) :
    Calls Try.prog 4 #[.slice s0 X.length c0, evVal ty bub can s1 P.length c1] w fun e w' => e = .returned (.bool true) ∧ Below w.heap.size w w' := by
  have h0 := (St.start w (Below.refl w.heap.size w)).new #[.string ty, .bool bub, .bool can, .slice s1 P.length c1] 25
  have H0 := Lib.hid h0
  have HRX := Lib.hid hrX
  have HRP := Lib.hid hrP
  have hd : (decide (X.length ≤ 40) && (decide (P.length ≤ 12) && decide (0 ≤ 30))) = true := by simp [hX, hP]
  have FA := fun w2 => Lib.hid (few_any s0 X.length c0 ty bub can s1 P.length c1 none 0 0 w2)
  simp only [hd] at FA
  clear h0 hrX hrP hd
  go_enter Try.func4, Try.ntmps4
  go_wp2_with fail
  refine (awake_any _).mono ?_
  rintro e w1 ⟨rfl, hb1⟩
  have H1 := Lib.hid (H0.out.of_below hb1)
  obtain ⟨k0, k1, k2, k3⟩ : w1.cell? ⟨w.heap.size, 0, none⟩ = some (.string ty) ∧ w1.cell? ⟨w.heap.size, 1, none⟩ = some (.bool bub) ∧ w1.cell? ⟨w.heap.size, 2, none⟩ = some (.bool can) ∧ w1.cell? ⟨w.heap.size, 3, none⟩ = some (.slice s1 P.length c1) := by
    have hbx := H1.out.blk.1
    have k0 := hbx.cell 0
    have k1 := hbx.cell 1
    have k2 := hbx.cell 2
    have k3 := hbx.cell 3
    simp at k0 k1 k2 k3
    exact ⟨k0, k1, k2, k3⟩
  clear hb1 H0
  go_wp2_with fail
  refine (FA w1).out.mono ?_
  rintro e w2 ⟨rfl, hb2⟩
  have hbl := H1.out.blk.1.lt
  replace k0 := (hb2.cell hbl).trans k0
  replace k1 := (hb2.cell hbl).trans k1
  replace k2 := (hb2.cell hbl).trans k2
  replace k3 := (hb2.cell hbl).trans k3
  have H2 := Lib.hid (H1.out.of_below hb2)
  clear H1 hb2 hbl FA
  go_wp2_with fail
  refine (made_st s0 c0 X H2.out HRX.out (by omega)).mono ?_
  rintro e w3 ⟨sl, cl, sm, cm, rfl, h3⟩
  have H3 := Lib.hid h3
  clear h3 k0 k1 k2 k3
  go_wp2_with fail
  obtain ⟨hml, hmx, hmx2⟩ : (madeS X).l.length ≤ 40 ∧ 0 ≤ (madeS X).nx ∧ (madeS X).nx ≤ 40 := by
    obtain ⟨q1, q2, q3⟩ := madeS_len X X.length
    rw [List.take_length] at q1 q2 q3
    exact ⟨by omega, q2, by omega⟩
  have h4 := St.sh [_, _, _, _, _] [1, 2, 0, 3, 4] (by decide) ((H3.out.new #[.slice sl (madeS X).l.length cl, .int .i64 (madeS X).nx] 32).new #[.slice sm (madeS X).l.length cm, .int .i64 (madeS X).nx] 34)
  simp only [List.map_cons, List.map_nil, List.getD_cons_zero, List.getD_cons_succ, List.cons_append, List.nil_append, World.size_alloc] at h4
  replace h4 := l_shut h4
  have H4 := Lib.hid h4
  clear h4 H3
  generalize (w3.alloc (Obj.cells #[Value.slice sl (madeS X).l.length cl, Value.int IntKind.i64 (madeS X).nx] 32)).alloc
      (Obj.cells #[Value.slice sm (madeS X).l.length cm, Value.int IntKind.i64 (madeS X).nx] 34) = w4 at *
  generalize hlb : w3.heap.size = lb at *
  have hids := Lib.hid (madeS_ids X)
  obtain ⟨S, hS⟩ : ∃ S, madeS X = S := ⟨_, rfl⟩
  rw [hS] at hml hmx hmx2 H4 hids ⊢
  clear hlb hS
  refine (lclone_st H4.out (by omega)).mono ?_
  rintro e w5 ⟨sa, ca, rfl, h5⟩
  have h6 := St.sh [_, _, _] [0, 2, 1] (by decide) (h5.new #[.slice sa S.l.length ca, .int .i64 S.nx] 32)
  simp only [List.map_cons, List.map_nil, List.getD_cons_zero, List.getD_cons_succ, List.cons_append, List.nil_append, World.size_alloc] at h6
  have H6 := Lib.hid h6
  obtain ⟨k0, k1, k2, k3⟩ : (w5.alloc (.cells #[.slice sa S.l.length ca, .int .i64 S.nx] 32)).cell? ⟨w.heap.size, 0, none⟩ = some (.string ty) ∧ (w5.alloc (.cells #[.slice sa S.l.length ca, .int .i64 S.nx] 32)).cell? ⟨w.heap.size, 1, none⟩ = some (.bool bub) ∧ (w5.alloc (.cells #[.slice sa S.l.length ca, .int .i64 S.nx] 32)).cell? ⟨w.heap.size, 2, none⟩ = some (.bool can) ∧ (w5.alloc (.cells #[.slice sa S.l.length ca, .int .i64 S.nx] 32)).cell? ⟨w.heap.size, 3, none⟩ = some (.slice s1 P.length c1) := by
    have hbx := H6.out.blkm (.tail _ (.tail _ (.tail _ (.tail _ (.tail _ (.head _))))))
    have k0 := hbx.cell 0
    have k1 := hbx.cell 1
    have k2 := hbx.cell 2
    have k3 := hbx.cell 3
    simp at k0 k1 k2 k3
    exact ⟨k0, k1, k2, k3⟩
  clear h5 h6 H4
  go_wp2_with fail
  refine (begun_st ty bub can s1 c1 P H6.out HRP.out (by omega)).mono ?_
  rintro e w7 ⟨sp, cp, rfl, h7⟩
  have h8 := St.sh [_, _, _, _] [0, 2, 1, 3] (by decide) (d_make (d := dNew ty bub can P) h7 rfl)
  simp only [List.map_cons, List.map_nil, List.getD_cons_zero, List.getD_cons_succ, List.cons_append, List.nil_append] at h8
  have H8 := Lib.hid h8
  have hbe : w7.heap.size ≠ w.heap.size := by
    obtain ⟨q1, q2, q3, q4, hd⟩ := d_open h8
    exact hd.ne (.tail _ (.tail _ (.tail _ (.tail _ (.tail _ (.tail _ (.tail _ (.head _))))))))
  clear h7 h8 H6 k0 k1 k2 k3 H2
  go_wp2_with fail
  generalize w5.heap.size = ta at *
  generalize w7.heap.size = b at *
  have hnd : Hid ((S.l.map Li.id).Nodup) := Lib.hid (hids.out.imp (fun h => Int.ne_of_lt h))
  have hg0 := go1_new ty bub can P S.l hP hml hnd.out
  obtain ⟨CS, F, htr, hcl⟩ := tr_ex _ (dNew ty bub can P) S.l (Nat.le_refl _) hg0
  have hcl2 : CS.length ≤ 300000 := by
    refine Nat.le_trans hcl ?_
    simp only [mu, dNew, List.length_nil]; omega
  have HT0 := Lib.hid htr
  have HG0 := Lib.hid hg0
  have hF := tr_sub htr hg0
  have HF := Lib.hid hF
  have hFl : F.length ≤ 40 := Nat.le_trans hF.1.length_le hml
  have hgF := Lib.hid (go1_new ty bub can P F hP hFl (hnd.out.sublist (hF.1.map _)))
  clear htr hg0 hcl hF
  go_loopg [9] CS.length (O1Rel w [As.cells ta #[.slice sa S.l.length ca, .int .i64 S.nx] 32, As.row 41 8 sa S.l.length ca (flat lcells S.l), As.cells (lb + 1) #[.slice sm S.l.length cm, .int .i64 S.nx] 34, As.rdr 8 sm S.l.length cm (flat lcells S.l), As.cells w.heap.size #[.string ty, .bool bub, .bool can, .slice s1 P.length c1] 25] b lb S.nx CS F)
  case atStart =>
    refine ⟨0, dNew ty bub can P, S.l, none, 0, rfl, Nat.zero_le _, HG0.out, HT0.out, rfl, ?_⟩
    have h9 := St.sh [_, _, _] [1, 2, 0] (by decide) (H8.out.row_nil 3 1)
    simp only [List.map_cons, List.map_nil, List.getD_cons_zero, List.getD_cons_succ, List.cons_append, List.nil_append] at h9
    exact h9
  case round =>
    obtain ⟨k, d, l, sf, cf, hg, hk, hgo, htr, rfl, hp⟩ := hrel
    have Hg := Lib.hid hg
    have HGo := Lib.hid hgo
    have HTr := Lib.hid htr
    have Hp := Lib.hid hp
    have HN := Lib.hid (next_st Hp.out (by have := HGo.out.lim.path; omega) HGo.out.lim.st (by have := HGo.out.lim.q; omega) (by have := HGo.out.lim.l; simp only; omega))
    clear hg hgo htr hp H8
    go_wp2_with fail
    refine HN.out.mono ?_
    rintro e w9 ⟨rfl, h9⟩
    cases hoc : (d.next l).call with
    | none =>
      obtain ⟨rfl, hl2⟩ := tr_nil HTr.out hk hoc
      rw [hl2, List.take_length] at h9
      have h10 := h9.new (clCells Cl.zero) 48
      have H10 := Lib.hid h10
      clear h9 h10 HN hl2 hoc HTr HGo
      generalize (d.next l).d = d1 at *
      unfold callVal clCells
      go_upto_region 10 with fail
      unfold clCells at H10
      generalize w9.alloc (Obj.cells #[Value.int IntKind.i64 Cl.zero.id, Value.int IntKind.i64 Cl.zero.cb, Value.int IntKind.i64 Cl.zero.cur.kind, Value.int IntKind.i64 Cl.zero.cur.id, Value.int IntKind.i64 Cl.zero.ph] 48) = w10 at *
      have hbx := H10.out.blkm (.tail _ (.tail _ (.tail _ (.tail _ (.tail _ (.tail _ (.tail _ (.tail _ (.head _)))))))))
      have k0 := hbx.cell 0
      have k1 := hbx.cell 1
      have k2 := hbx.cell 2
      have k3 := hbx.cell 3
      simp at k0 k1 k2 k3
      clear hbx
      go_wp2_with fail
      refine (begun_st ty bub can s1 c1 P H10.out HRP.out (by omega)).mono ?_
      rintro e w11 ⟨sp2, cp2, rfl, h11⟩
      have h12 := St.sh [_, _, _] [2, 0, 1] (by decide) h11
      simp only [List.map_cons, List.map_nil, List.getD_cons_zero, List.getD_cons_succ, List.cons_append, List.nil_append] at h12
      obtain ⟨a0, a1, a2, a3, a4, a5, a6, a7, a8, a9, a10, a11, a12, a13, h13⟩ := d_open_new (d := dNew ty bub can P) h12
      obtain ⟨c0', c1', c2', c3', c4', c5', c6', c7', c8', c9', c10', c11', c12', c13'⟩ := Blk.c14 h13.blk.1
      obtain ⟨f0, f1, f2, f3, f4, f5, f6, f7, f8, f9, f10, f11, f12, f13⟩ := Blk.f14 h13.blk.1
      have h14 := St.sh [_, _] [1, 0] (by decide) (d_make_set h13 rfl)
      simp only [List.map_cons, List.map_nil, List.getD_cons_zero, List.getD_cons_succ, List.cons_append, List.nil_append] at h14
      have H14 := Lib.hid h14.drop
      have hk' : CS.length ≤ CS.length := Nat.le_refl _
      clear h11 h12 h13 h14 H10 k0 k1 k2 k3
      go_wp2_with fail
      clear c0' c1' c2' c3' c4' c5' c6' c7' c8' c9' c10' c11' c12' c13' f0 f1 f2 f3 f4 f5 f6 f7 f8 f9 f10 f11 f12 f13
      go_loopg [51] CS.length (O2Rel w [As.cells ta #[.slice sa S.l.length ca, .int .i64 S.nx] 32, As.row 41 8 sa S.l.length ca (flat lcells S.l), As.cells (lb + 1) #[.slice sm S.l.length cm, .int .i64 S.nx] 34, As.rdr 8 sm S.l.length cm (flat lcells S.l), As.cells w.heap.size #[.string ty, .bool bub, .bool can, .slice s1 P.length c1] 25] b lb S.nx S.l CS F sf cf)
      case atStart =>
        refine ⟨0, dNew ty bub can P, dNew ty bub can P, S.l, rfl, Nat.zero_le _, rfl, hgF.out, HG0.out, HT0.out, ⟨rfl, rfl, Eqd.refl _ _⟩, List.Sublist.refl _, ?_⟩
        have h15 := St.sh [_, _, _] [2, 0, 1] (by decide) H14.out
        simp only [List.map_cons, List.map_nil, List.getD_cons_zero, List.getD_cons_succ, List.cons_append, List.nil_append] at h15
        exact H14.out
      case round =>
        obtain ⟨k, d, e, l, hg, hk, rfl, hgd, hge, htr, hmt, hsub, hp⟩ := hrel
        have Hg := Lib.hid hg
        have HGd := Lib.hid hgd
        have HGe := Lib.hid hge
        have HTr := Lib.hid htr
        have HMt := Lib.hid hmt
        have HSub := Lib.hid hsub
        have Hp := Lib.hid hp
        have HN := Lib.hid (next_st Hp.out (by have := HGd.out.lim.path; omega) HGd.out.lim.st (by have := HGd.out.lim.q; omega) (by have := HGd.out.lim.l; simp only; omega))
        clear hg hgd hge htr hmt hsub hp H14
        by_cases hkn : k < CS.length
        · have hkn' : (k : Int) < (CS.length : Int) := by omega
          obtain ⟨x0, hx0⟩ : ∃ x0, CS[k] = x0 := ⟨_, rfl⟩
          have htr := HTr.out
          rw [List.drop_eq_getElem_cons hkn, hx0] at htr
          obtain ⟨e2, l2, x, m1, m2, m3, m4, m5, m6, m7⟩ := mt_step HGe.out HGd.out HMt.out htr
          have hfd := found_of hids.out (HSub.out.subset m4)
          rw [m5] at hfd
          have hx := Lib.hid hfd
          have HX0 := Lib.hid hx0
          have HM7 := Lib.hid m7
          have HM6 := Lib.hid m6
          have HM5 := Lib.hid m5
          have HM4 := Lib.hid m4
          have HM3 := Lib.hid m3
          have HM2 := Lib.hid m2
          have HM1 := Lib.hid m1
          clear htr hfd m1 m2 m3 m4 m5 m6 m7 hx0
          obtain ⟨g1, o1, rfl, -⟩ := (Hp.out.slm (.tail _ (.tail _ (.head _)))).rd.addr (by omega)
          have hc0 := ints_at (Hp.out.slm (.tail _ (.tail _ (.head _)))).rd k hkn x0 HX0.out
          obtain ⟨y0, y1, yf0, yf1⟩ := (Hp.out.blkm (.tail _ (.tail _ (.tail _ (.head _))))).two
          have HFo := Lib.hid (fun w2 (hb : Below wr.heap.size wr w2) => found_any sa ca S.l S.nx x0 w2 (((Hp.out.of_below hb).slm (.tail _ (.tail _ (.tail _ (.tail _ (.head _)))))).rd) (by omega))
          rw [hx.out] at HFo
          unfold lval at HFo
          have hl1 := World.block_lt_of_cell? _ _ y0
          have hl3 := World.block_lt_of_cell? _ _ y1
          have hl2 := World.block_lt_of_cell? _ _ hc0
          have hkeep : ∀ w', Below wr.heap.size wr w' → (w'.cell? ⟨ta, 0, none⟩ = some (.slice sa S.l.length ca) ∧ w'.cell? ⟨ta, 1, none⟩ = some (.int .i64 S.nx) ∧ w'.cell? ⟨g1, o1 + k, none⟩ = some (.int .i64 x0)) := fun w' h => ⟨(h.cell hl1).trans y0, (h.cell hl3).trans y1, (h.cell hl2).trans hc0⟩
          have KP := Lib.hid hkeep
          have hi0 : (0 : Int) ≤ (k : Int) := by omega
          obtain ⟨xi, ⟨x1, x2⟩, x3, x4, x5, x6, x7⟩ := x
          simp only at HFo
          have HM6' := Lib.hid HM6.out
          simp only at HM6 HM7
          clear hkeep hl1 hl2 hl3
          go_upto_region 14 with fail
          have hfd : ∀ w : World, (Instr.field 41 (.agg #[.int .i64 xi, .int .i64 x1, .int .i64 x2, .string x3, .int .i64 x4, .bool x5, .bool x6, .bool x7]) 5).run Try.prog w = .ok (.bool x6) w := fun _ => by kernel_rfl
          cases x6
          all_goals
            go_region_held3 (fun w' => w'.cell? ⟨ta, 0, none⟩ = some (.slice sa S.l.length ca) ∧ w'.cell? ⟨ta, 1, none⟩ = some (.int .i64 S.nx) ∧ w'.cell? ⟨g1, o1 + k, none⟩ = some (.int .i64 x0))
              (first | exact KP.out _ hbw | go_keep)
              ((go_at_call 18; refine (HFo.out wr.drew ⟨rfl, rfl, rfl, Nat.le_refl _, fun _ _ => rfl⟩).mono ?_; rintro e w9 ⟨rfl, hb9⟩; have hbw : Below wr.heap.size wr w9 := ⟨hb9.os, hb9.tape, hb9.output, hb9.size, hb9.block⟩))
          case false =>
            have H9 := Lib.hid (Hp.out.of_below hbw)
            obtain ⟨c, n1, rfl, n3, n4, n5⟩ := HM7.out trivial
            have HN2 := Lib.hid (next_st H9.out (by have := HGd.out.lim.path; omega) HGd.out.lim.st (by have := HGd.out.lim.q; omega) (by have := HGd.out.lim.l; simp only; omega))
            have N4 := Lib.hid n4
            have N5 := Lib.hid n5
            clear HN HM7 HM6 n4 n5 hb9 hbw hc0 y0 y1 yf0 yf1 KP HFo
            go_wp2_with fail
            refine HN2.out.mono ?_
            rintro e w11 ⟨rfl, h11⟩
            simp only [n1, n3] at h11 ⊢
            have h12 := h11.new (clCells c) 48
            have hc1 := ints_at (h12.slm (.tail _ (.tail _ (.tail _ (.head _))))).rd k hkn c.id HX0.out
            obtain ⟨p0, -, -, -, -, -⟩ := Blk.c5 h12.blk.1
            have H13 := Lib.hid h12.drop
            clear h11 h12 HN2 n1 n3
            generalize (d.next F).d = d1 at *
            unfold callVal clCells
            unfold clCells at p0 hc1
            go_upto_region 16 with fail
            go_quiet (fail)
            go_wp2_with fail
            go_roundg (CS.length - (k + 1))
            case measure => have := Hg.out; omega
            case rel => exact ⟨k + 1, d1, e2, l2, rfl, by omega, by simp, N4.out, HM1.out, HM2.out, N5.out, HM3.out.trans HSub.out, H13.out.drewN _⟩
          case true =>
            have H9 := Lib.hid (Hp.out.of_below hbw)
            have HM6 := Lib.hid (HM6.out trivial)
            clear HN HM7 hb9 hbw hc0 y0 y1 yf0 yf1 KP HFo
            go_wp2_with fail
            go_roundg (CS.length - (k + 1))
            case measure => have := Hg.out; omega
            case rel => exact ⟨k + 1, d, e2, l2, rfl, by omega, by simp, HGd.out, HM1.out, HM2.out, HM6.out, HM3.out.trans HSub.out, H9.out⟩
        · obtain rfl : k = CS.length := by omega
          have htr := HTr.out
          rw [List.drop_length] at htr
          have hme := mt_end (cs := []) HGe.out HGd.out HMt.out htr
          clear htr
          go_wp2_with fail
          refine HN.out.mono ?_
          rintro e w11 ⟨rfl, h11⟩
          simp only [hme] at h11 ⊢
          have H11 := Lib.hid (h11.new (clCells Cl.zero) 48)
          clear h11 hme HN
          unfold callVal clCells
          go_wp2_with fail
          go_ret
          exact ⟨rfl, H11.out.bel⟩
    | some c =>
      obtain ⟨hkn, hck, htr2⟩ := tr_cons HTr.out hoc
      obtain ⟨q1, q2, -⟩ := go1_next HGo.out hoc
      have h10 := h9.new (clCells c) 48
      have H10 := Lib.hid h10
      have HQ1 := Lib.hid q1
      have HTr2 := Lib.hid htr2
      have HCK := Lib.hid hck
      obtain ⟨p0, -, -, -, -, -⟩ := Blk.c5 h10.blk.1
      clear h9 h10 HN q1 q2 hoc htr2 hck HTr HGo
      generalize (d.next l).d = d1 at *
      generalize (d.next l).l = l1 at *
      unfold callVal clCells
      unfold clCells at p0 H10
      go_upto_region 9 with fail
      generalize w9.alloc (Obj.cells #[Value.int IntKind.i64 c.id, Value.int IntKind.i64 c.cb, Value.int IntKind.i64 c.cur.kind, Value.int IntKind.i64 c.cur.id, Value.int IntKind.i64 c.ph] 48) = w10 at *
      have hxs := (H10.out.slm (.tail _ (.tail _ (.tail _ (.head _))))).alloc (.cells #[.int .i64 c.id] 3)
      have r2 := rd_built_at w10 #[.int .i64 c.id] 3 1 1 w10.heap.size rfl rfl (by simp [Value.oneCell'])
      have h11 := St.sh [_, _, _, _] [3, 1, 2, 0] (by decide) (H10.out.alloc (.cells #[.int .i64 c.id] 3))
      simp only [List.map_cons, List.map_nil, List.getD_cons_zero, List.getD_cons_succ, List.cons_append, List.nil_append] at h11
      have H11 := Lib.hid h11
      clear h11 H10
      go_wp2_with (refine wpList_append_any rfl (.tmp 42) (.tmp 45) 43 rfl elI sf _ cf _ rfl hxs _ 1 _ _ rfl r2 (by omega) (by omega) ?_)
      intro so' co' w2 q1 q2 q3
      have h12 := H11.out.row_step q1 q2 q3
      rw [← HCK.out, ints_snoc CS k hkn] at h12
      have h13 := St.sh [_, _, _, _] [3, 1, 2, 0] (by decide) h12
      simp only [List.map_cons, List.map_nil, List.getD_cons_zero, List.getD_cons_succ, List.cons_append, List.nil_append] at h13
      have H13 := Lib.hid h13.drop
      clear h12 h13 q1 q2 q3 hxs r2 p0 H11
      go_wp2_with fail
      go_roundg (CS.length - (k + 1))
      case measure => have := Hg.out; omega
      case rel => exact ⟨k + 1, d1, l1, so', co', rfl, by omega, HQ1.out, HTr2.out, rfl, H13.out⟩
end Go.Proofs.Ytianjcbofgdfdaa
