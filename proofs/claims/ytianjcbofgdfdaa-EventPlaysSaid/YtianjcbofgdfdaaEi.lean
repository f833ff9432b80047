/-
  The walk of Next.
-/
import Derived.Test.YtianjcbofgdfdaaEh
set_option linter.unusedVariables false
set_option linter.unusedSimpArgs false
namespace Go.Proofs.Ytianjcbofgdfdaa
open Go.RowKit Go.K Go.K.Ev

def clCells (c : Cl) : Array Value := #[.int .i64 c.id, .int .i64 c.cb, .int .i64 c.cur.kind, .int .i64 c.cur.id, .int .i64 c.ph]
def callVal (o : Option Cl) : Value := .tuple #[.agg (clCells (o.getD Cl.zero)), .bool o.isSome]

def NextPost (b lb : Nat) (o : Out) (nx : Int) (w0 : World) (L : List As) (E : Ending) (w' : World) : Prop :=
  E = .returned (callVal o.call) ∧ St w0 w' (dObj b o.d :: lObj lb ⟨o.l, nx⟩ :: L)

theorem st_perm6 {w0 w : World} {R A B C D : As} {L : List As} (h : St w0 w (R :: A :: B :: C :: D :: L)) : St w0 w (A :: B :: C :: D :: R :: L) :=
  h.perm ((List.Perm.swap _ _ _).trans (List.Perm.cons _ ((List.Perm.swap _ _ _).trans (List.Perm.cons _ ((List.Perm.swap _ _ _).trans (List.Perm.cons _ (.swap _ _ _)))))))
def NxRel (w0 : World) (L : List As) (b lb br : Nat) (O : Out) (S : Ls) (n : Nat) (g : Nat) (v6 : Value) (wr : World) : Prop :=
  ∃ D : Dp, g = (2 * n - D.st) * 10001 + D.q.length ∧ D.path.length = n ∧ D.st ≤ 2 * n ∧ D.q.length ≤ 100000 ∧ nextLoop D S.l = O ∧
    St w0 wr (dObj b D :: lObj lb S :: As.cells br (clCells Cl.zero) 48 :: L)

theorem ints_cons (x : Int) (q : List Int) : ints (x :: q) = .int .i64 x :: ints q := rfl

theorem nx_none {w0 w : World} {L : List As} {b lb br : Nat} {O : Out} {D : Dp} {S : Ls} (hO : O = ⟨none, D, S.l⟩) (h : St w0 w (dObj b D :: lObj lb S :: As.cells br (clCells Cl.zero) 48 :: L)) :
    NextPost b lb O S.nx w0 L (.returned (callVal none)) (((((w.setCell ⟨br, 0, none⟩ (.int .i64 0)).setCell ⟨br, 1, none⟩ (.int .i64 0)).setCell ⟨br, 2, none⟩ (.int .i64 0)).setCell ⟨br, 3, none⟩ (.int .i64 0)).setCell ⟨br, 4, none⟩ (.int .i64 0)) := by
  subst hO
  exact ⟨rfl, (h.front2.set5 (.int .i64 0) (.int .i64 0) (.int .i64 0) (.int .i64 0) (.int .i64 0)).drop⟩

theorem begin_any {w0 w : World} {L : List As} {b lb : Nat} {d : Dp} {S : Ls} (h : St w0 w (dObj b d :: lObj lb S :: L)) (hst : d.st < 2 * d.path.length) (hl : d.path.length ≤ 1000) (hq : d.q.length ≤ 100000) (hn : S.l.length ≤ 10000) :
    Calls Try.prog 38 #[.pointer (some ⟨b, 0, none⟩), .pointer (some ⟨lb, 0, none⟩)] w (DPost b (d.begin S.l) w0 (lObj lb S :: L)) := by
  by_cases hs : d.bub = true ∨ d.st ≤ d.path.length
  · exact begin_go h hs hst hl hq hn
  · have hb : d.bub = false := by cases hb : d.bub with | true => exact absurd (.inl hb) hs | false => rfl
    have hp : d.path.length < d.st := by omega
    have e : d.begin S.l = { d with st := d.st + 1 } := by unfold Dp.begin; rw [if_pos ⟨hp, hb⟩]
    rw [e]
    exact begin_skip h hp hb (by omega) hl
theorem begin_facts (d : Dp) (l : List Li) (hq : d.q = []) : (d.begin l).st = d.st + 1 ∧ (d.begin l).path = d.path ∧ (d.begin l).q.length ≤ l.length := by
  unfold Dp.begin
  split
  · simp [hq]
  · refine ⟨rfl, rfl, ?_⟩
    simp only [hq, List.nil_append, stI, List.length_map]
    exact Nat.le_trans (List.length_filter_le _ _) (List.length_filter_le _ _)

theorem nx_some {w0 w : World} {L : List As} {b lb br bx xb : Nat} {O : Out} {D : Dp} {S : Ls} {c : Cl} {vx vb : Array Value} {tx tb : TypeId} (hO : O = ⟨some c, D, S.l⟩)
    (h : St w0 w (dObj b D :: lObj lb S :: As.cells br (clCells Cl.zero) 48 :: As.cells bx vx tx :: As.cells xb vb tb :: L)) :
    NextPost b lb O S.nx w0 L (.returned (callVal (some c))) (((((w.setCell ⟨br, 0, none⟩ (.int .i64 c.id)).setCell ⟨br, 1, none⟩ (.int .i64 c.cb)).setCell ⟨br, 2, none⟩ (.int .i64 c.cur.kind)).setCell ⟨br, 3, none⟩ (.int .i64 c.cur.id)).setCell ⟨br, 4, none⟩ (.int .i64 c.ph)).drew := by
  subst hO
  have h2 := (h.front2.set5 (.int .i64 c.id) (.int .i64 c.cb) (.int .i64 c.cur.kind) (.int .i64 c.cur.id) (.int .i64 c.ph)).drop
  have h3 := (St.sh [_, _, _, _] [2, 3, 0, 1] (by decide) h2).drop.drop
  simp only [List.map_cons, List.map_nil, List.getD_cons_zero, List.getD_cons_succ, List.cons_append, List.nil_append] at h3
  exact ⟨rfl, h3.drew⟩

set_option maxRecDepth 100000 in
set_option maxHeartbeats 4000000 in
theorem next_st {w0 w : World} {L : List As} {b lb : Nat} {d : Dp} {S : Ls} (h : St w0 w (dObj b d :: lObj lb S :: L)) (hl : d.path.length ≤ 1000) (hst : d.st ≤ 2 * d.path.length) (hq : d.q.length ≤ 100000) (hn : S.l.length ≤ 10000) :
    Calls Try.prog 17 #[.pointer (some ⟨b, 0, none⟩), .pointer (some ⟨lb, 0, none⟩)] w (NextPost b lb (d.next S.l) S.nx w0 L) := by
  obtain ⟨sp, cp, sq, cq, h1⟩ := d_open h
  obtain ⟨⟨c0, c1, c2, c3, c4, c5, c6⟩, c7, c8, c9, c10, c11, c12, c13⟩ := d_cells h1.blk.1
  have f9 := h1.free 9
  have hbl := h1.blk.1.lt
  have hne0 : b ≠ w.heap.size := by omega
  have h2 := (h1.set 9 (.bool false)).new (clCells Cl.zero) 48
  simp only [World.size_setCell] at h2
  have H2 := Lib.hid (show St w0 _ (dObj b { d with pas := false } :: lObj lb S :: As.cells w.heap.size (clCells Cl.zero) 48 :: L) from
    d_shut (sp := sp) (cp := cp) (sq := sq) (cq := cq) ((st_perm6 (show St w0 _ (As.cells w.heap.size (clCells Cl.zero) 48 :: dOpen b { d with pas := false } sp cp sq cq (lObj lb S :: L)) by
      simpa [dOpen, dCells] using h2))))
  obtain ⟨n, hn0⟩ : ∃ n, d.path.length = n := ⟨_, rfl⟩
  rw [hn0] at hst hl
  have HN0 := Lib.hid hn0
  have HO := Lib.hid (next_loop d S.l)
  obtain ⟨O, hO⟩ : ∃ O, d.next S.l = O := ⟨_, rfl⟩
  rw [hO] at HO
  rw [hO]
  have HQ := Lib.hid hq
  clear h h1 h2 hO hn0 hq
  go_enter Try.func17, Try.ntmps17
  go_wp2_with fail
  clear c0 c1 c2 c3 c4 c5 c6 c7 c8 c9 c10 c11 c12 c13 f9
  go_loopg [6] ((2 * n - d.st) * 10001 + d.q.length) (NxRel w0 L b lb w.heap.size O S n)
  case atStart => exact ⟨{ d with pas := false }, rfl, HN0.out, hst, HQ.out, HO.out.symm, H2.out⟩
  case round =>
    obtain ⟨D, hg, hDn, hDst, hDq, hDO, hp⟩ := hrel
    have Hg := Lib.hid hg
    have Hp := Lib.hid hp
    have HDn := Lib.hid hDn
    have HDO := Lib.hid hDO
    obtain ⟨sp, cp, sq, cq, h1⟩ := d_open hp
    obtain ⟨⟨c0, c1, c2, c3, c4, c5, c6⟩, c7, c8, c9, c10, c11, c12, c13⟩ := d_cells h1.blk.1
    have H1 := Lib.hid h1
    have hbw := h1.blk.1.lt
    clear hg hp hDn hDO h1 H2 HO
    generalize w.heap.size = br at *
    obtain ⟨z0, z1, z2, z3, z4, zf0, zf1, zf2, zf3, zf4⟩ := Blk.c5 (Hp.out.blkm (.tail _ (.tail _ (.head _))))
    cases hdone : D.done with
    | true =>
      rw [hdone] at c13
      have HD := Lib.hid hdone
      clear hdone
      go_wp2_with fail
      refine bodyPost_ret (v := callVal none) (by simp [results, Try.results17, go_sem, callVal, clCells, Cl.zero, z0, z1, z2, z3, z4]) rfl ?_
      exact nx_none (by rw [← HDO.out, nl_done HD.out]) Hp.out
    | false =>
      rw [hdone] at c13
      have HD := Lib.hid hdone
      clear hdone
      cases hhalt : D.halt with
      | true =>
        rw [hhalt] at c11
        have HH := Lib.hid hhalt
        clear hhalt
        go_wp2_with fail
        go_quiet (fail)
        go_wp2_with fail
        refine (finish_st (Hp.out.drewN _)).mono ?_
        rintro e w2 ⟨rfl, h2⟩
        have H2 := Lib.hid h2
        clear z0 z1 z2 z3 z4 zf0 zf1 zf2 zf3 zf4 h2
        obtain ⟨z0, z1, z2, z3, z4, zf0, zf1, zf2, zf3, zf4⟩ := Blk.c5 (H2.out.blkm (.tail _ (.tail _ (.head _))))
        go_wp2_with fail
        refine bodyPost_ret (v := callVal none) (by simp [results, Try.results17, go_sem, callVal, clCells, Cl.zero, z0, z1, z2, z3, z4]) rfl ?_
        exact nx_none (by rw [← HDO.out, nl_halt HD.out HH.out]) H2.out
      | false =>
        rw [hhalt] at c11
        have HH := Lib.hid hhalt
        clear hhalt
        have hw1 : IntKind.i64.wrap (2 * (D.path.length : Int)) = 2 * (D.path.length : Int) := by have := HDn.out; rw [IntKind.wrap_i64]; omega
        cases hqq : D.q with
        | nil =>
          rw [hqq] at c5
          simp only [List.length_nil] at c5
          have HQQ := Lib.hid hqq
          clear hqq
          by_cases hfin : D.stop = true ∨ 2 * D.path.length ≤ D.st
          · have hor : (D.stop = true) ∨ (D.stop = false ∧ ((D.st : Int) == 2 * (D.path.length : Int)) = true) := by
              cases hs : D.stop with
              | true => exact .inl rfl
              | false =>
                right
                refine ⟨rfl, ?_⟩
                have := hfin.resolve_left (by simp [hs])
                have := HDn.out
                simp; omega
            have HFin := Lib.hid hfin
            clear hfin
            rcases hor with ho | ⟨ho, ho2⟩
            all_goals
              rw [ho] at c10
              clear ho
              go_wp2_with fail
              go_quiet (fail)
              go_wp2_with fail
              refine (finish_st (Hp.out.drewN _)).mono ?_
              rintro e w2 ⟨rfl, h2⟩
              have H2 := Lib.hid h2
              clear z0 z1 z2 z3 z4 zf0 zf1 zf2 zf3 zf4 h2
              obtain ⟨z0, z1, z2, z3, z4, zf0, zf1, zf2, zf3, zf4⟩ := Blk.c5 (H2.out.blkm (.tail _ (.tail _ (.head _))))
              go_wp2_with fail
              refine bodyPost_ret (v := callVal none) (by simp [results, Try.results17, go_sem, callVal, clCells, Cl.zero, z0, z1, z2, z3, z4]) rfl ?_
              exact nx_none (by rw [← HDO.out, nl_stop HD.out HH.out HQQ.out HFin.out]) H2.out
          · have ho : D.stop = false := by cases hs : D.stop with | true => exact absurd (.inl hs) hfin | false => rfl
            have hst2 : D.st < 2 * D.path.length := by omega
            have ho2 : ((D.st : Int) == 2 * (D.path.length : Int)) = false := by simp; omega
            rw [ho] at c10
            have HO2 := Lib.hid ho
            clear ho hfin
            go_wp2_with fail
            go_quiet (fail)
            go_wp2_with fail
            refine (begin_any (Hp.out.drewN _) hst2 (by have := HDn.out; omega) hDq hn).mono ?_
            rintro e w2 ⟨rfl, h2⟩
            have H2 := Lib.hid h2
            clear z0 z1 z2 z3 z4 zf0 zf1 zf2 zf3 zf4 h2
            go_wp2_with fail
            obtain ⟨k1, k2, k3⟩ := begin_facts D S.l HQQ.out
            go_roundg ((2 * n - (D.st + 1)) * 10001 + (D.begin S.l).q.length)
            case measure => have := Hg.out; have := HDn.out; omega
            case rel => exact ⟨D.begin S.l, by rw [k1], by rw [k2]; exact HDn.out, by have := HDn.out; omega, by omega, by rw [← HDO.out, nl_begin HD.out HH.out HQQ.out HO2.out hst2], H2.out⟩
        | cons id q =>
          rw [hqq] at c5
          simp only [List.length_cons] at c5
          have HQQ := Lib.hid hqq
          have hqs := (H1.out.slm (.tail _ (.tail _ (.head _))))
          rw [hqq] at hqs
          simp only [List.length_cons] at hqs
          obtain ⟨gq, oq, rfl, hqc, -, -⟩ := hqs.some_of (Nat.lt_of_lt_of_le (by omega) hqs.le)
          have q0 := hqc 0 (by omega)
          rw [ints_cons] at q0
          simp at q0
          have hlq : ((q.length : Int) + 1 == 0) = false := by simp; omega
          have hlp : (0 : Int) < (q.length : Int) + 1 := by omega
          have hql : q.length ≤ 100000 := by rw [hqq] at hDq; simp at hDq; omega
          clear hqq hqs hqc
          go_wp2_with fail
          go_quiet (fail)
          have HP2 := Lib.hid (Hp.out.drewN nq)
          have H12 := Lib.hid (H1.out.drewN nq)
          clear c0 c1 c2 c3 c4 c5 c6 c7 c8 c9 c10 c11 c12 c13 q0 z0 z1 z2 z3 z4 zf0 zf1 zf2 zf3 zf4 H1 Hp
          have hbw2 : b < (wr.drewN nq).heap.size := hbw
          clear hbw
          generalize wr.drewN nq = wq at *
          have hqs := (H12.out.slm (.tail _ (.tail _ (.head _))))
          rw [HQQ.out] at hqs
          simp only [List.length_cons] at hqs
          have q0 := hqs.cells rfl 0 _ rfl
          rw [Addr.add_lit, Nat.add_zero] at q0
          have hd5 := (d_cells H12.out.blk.1).1.2.2.2.2.2.1
          have hf5 := H12.out.free 5
          rw [HQQ.out] at hd5
          simp only [List.length_cons] at hd5
          have hgq := hqs.lt gq rfl
          obtain ⟨s', hsl, hs'⟩ := hqs.rc.cut_l elI 1 (by omega)
          simp [ints_cons] at hsl hs'
          have HX := Lib.hid (Blk.new wq #[.int .i64 id] 3)
          have C := Lib.hid (cloneI s' q.length (cq - 1) (ints q) _ (hs'.alloc (.cells #[.int .i64 id] 3)).rd hs'.nil (by omega))
          have hnb : b ≠ wq.heap.size := by omega
          clear hqs hs'
          go_wp2_with fail
          refine C.out.mono ?_
          rintro e w2 ⟨s2, k2, rfl, p1, p2, p3⟩
          have h3 := (St.sh [_, _, _] [2, 0, 1] (by decide) ((H12.out.new #[.int .i64 id] 3).row_new p1 p2 p3))
          simp only [List.map_cons, List.map_nil, List.getD_cons_zero, List.getD_cons_succ, List.cons_append, List.nil_append] at h3
          have H3 := Lib.hid h3
          clear h3
          have HX2 := Lib.hid (HX.out.kept p2 (fun q => q))
          have hd5' := (d_cells H3.out.blk.1).1.2.2.2.2.2.1
          have hf5' := H3.out.free 5
          have hxlt := HX2.out.lt
          have hbw3 := H3.out.blk.1.lt
          clear p1 p2 p3 hd5 hf5 q0
          have h4 := H3.out.set 5 (.slice s2 q.length k2)
          have h5 := (St.sh [_, _, _, _, _, _, _] [4, 0, 3, 1, 5, 6, 2] (by decide) h4).drop
          simp only [List.map_cons, List.map_nil, List.getD_cons_zero, List.getD_cons_succ, List.cons_append, List.nil_append] at h5
          have h6 : St w0 (w2.setCell ⟨b, 5, none⟩ (.slice s2 q.length k2)) (dOpen b { D with q := q } sp cp s2 k2 (lObj lb S :: As.cells br (clCells Cl.zero) 48 :: As.cells wq.heap.size #[.int .i64 id] 3 :: L)) := by simpa [dOpen, dCells] using h5
          have H4 := Lib.hid (d_shut h6)
          clear h4 h5 h6
          have HX3 := Lib.hid (HX2.out.other (p := ⟨b, 5, none⟩) hnb (.slice s2 q.length k2))
          go_upto_region 9 with fail
          clear hd5' hf5' H3 HX2 C HX H12 HP2
          generalize w2.setCell ⟨b, 5, none⟩ (.slice s2 q.length k2) = w3 at *
          obtain ⟨sl, cl, hlo⟩ := l_open H4.out.swap
          obtain ⟨l0, l1, lf0, lf1⟩ := hlo.two
          have hx0 := (HX3.out.one).1
          have IDX := Lib.hid (idxfunc 41 (by omega) (.pointer (some ⟨wq.heap.size, 0, none⟩)) (fun x => x.id == id) sl S.l.length cl S.l w3 hlo.swap.sl.rd rfl (by omega)
            (fun y w' hb => clo_id y id wq.heap.size w' ((hb.cell HX3.out.lt).trans hx0)))
          have HLO := Lib.hid hlo
          have hxlt3 := HX3.out.lt
          generalize wq.heap.size = bx at *
          clear hlo hx0 hgq hbw2 hxlt hbw3
          go_wp2_with fail
          refine IDX.out.mono ?_
          rintro e w4 ⟨r, rfl, hr, hb4⟩
          have H5 := Lib.hid (H4.out.of_below hb4)
          have HX4 := Lib.hid (HX3.out.kept (Fr.of_below hb4) (fun q => q))
          have HL4 := Lib.hid (HLO.out.of_below hb4)
          clear hb4 l0 l1 lf0 lf1 IDX HLO H4 HX3
          rcases hr with ⟨i, hi, rfl, hfi, hp⟩ | ⟨rfl, hfi⟩
          · have HFI := Lib.hid hfi
            clear hfi hp
            obtain ⟨l0, l1, lf0, lf1⟩ := HL4.out.two
            have hsl4 := HL4.out.swap.sl
            obtain ⟨gl, ol, rfl, -, -, -⟩ := hsl4.some_of (Nat.lt_of_lt_of_le (by omega) hsl4.le)
            obtain ⟨x, hx⟩ : ∃ x, S.l[i] = x := ⟨_, rfl⟩
            obtain ⟨d0, d1, d2, d3, d4, d5, d6, d7⟩ := l_at hsl4.rd hi x hx
            have Hx := Lib.hid hx
            have hi' : (i : Int) < (S.l.length : Int) := by omega
            have hlb4 := HL4.out.blk.1.lt
            have hd := d_lt H5.out
            have hdne : b ≠ w4.heap.size := by omega
            obtain ⟨sp2, cp2, sq2, cq2, hd2⟩ := d_open H5.out
            have HD5 := Lib.hid hd2
            have hc9 := (d_cells hd2.blk.1).2.2.2.1
            have hf9 := hd2.free 9
            simp only at hc9
            clear hsl4 hx hd2
            obtain ⟨x0, ⟨x1, x2⟩, x3, x4, x5, x6, x7⟩ := x
            simp only at d0 d1 d2 d3 d4 d5 d6 d7
            have HXB := Lib.hid (Blk.new w4 #[.int .i64 x0, .int .i64 x1, .int .i64 x2, .string x3, .int .i64 x4, .bool x5, .bool x6, .bool x7] 41)
            have h7 := HD5.out.set 9 (.bool x7)
            have h8 : St w0 (w4.setCell ⟨b, 9, none⟩ (.bool x7)) (dOpen b { D with q := q, pas := x7 } sp2 cp2 sq2 cq2 (lObj lb S :: As.cells br (clCells Cl.zero) 48 :: As.cells bx #[.int .i64 id] 3 :: L)) := by simpa [dOpen, dCells] using h7
            have h9 := St.sh [_, _, _, _, _] [1, 2, 3, 4, 0] (by decide) ((d_shut h8).new #[.int .i64 x0, .int .i64 x1, .int .i64 x2, .string x3, .int .i64 x4, .bool x5, .bool x6, .bool x7] 41)
            simp only [List.map_cons, List.map_nil, List.getD_cons_zero, List.getD_cons_succ, List.cons_append, List.nil_append, World.size_setCell] at h9
            have H9 := Lib.hid h9
            have hO : Hid (O = fire D S.l i id q) := Lib.hid (by rw [← HDO.out, nl_fire HD.out HH.out HQQ.out HFI.out])
            have hgd := Lib.hid (show S.l.getD i Li.zero = ⟨x0, ⟨x1, x2⟩, x3, x4, x5, x6, x7⟩ by rw [List.getD_eq_getElem?_getD, List.getElem?_eq_getElem hi]; exact Hx.out)
            clear h7 h8 h9 HD5 H5 HL4 HX4 HXB
            go_upto_region 13 with fail
            clear d0 d1 d2 d3 d4 d5 d6 d7 l0 l1 lf0 lf1 hc9 hf9
            generalize (w4.setCell ⟨b, 9, none⟩ (.bool x7)).alloc (.cells #[.int .i64 x0, .int .i64 x1, .int .i64 x2, .string x3, .int .i64 x4, .bool x5, .bool x6, .bool x7] 41) = w5 at *
            generalize w4.heap.size = xb at *
            obtain ⟨y0, y1, y2, y3, y4, y5, y6, y7⟩ := Blk.c8 (H9.out.blkm (.tail _ (.tail _ (.tail _ (.tail _ (.head _))))))
            cases x6 with
            | false =>
              obtain ⟨e0, e1, e2, e3, e4, ef0, ef1, ef2, ef3, ef4⟩ := Blk.c5 (H9.out.blkm (.tail _ (.tail _ (.head _))))
              have hid0 := (H9.out.blkm (.tail _ (.tail _ (.tail _ (.head _))))).one.1
              have yy4 := (Blk.c8 (H9.out.blkm (.tail _ (.tail _ (.tail _ (.tail _ (.head _))))))).2.2.2.2.1
              obtain ⟨sp3, cp3, sq3, cq3, hd3⟩ := d_open H9.out
              have hdc := d_cells hd3.blk.1
              have g6 := hdc.1.2.2.2.2.2.2
              have g7 := hdc.2.1
              have g8 := hdc.2.2.1
              simp only at g6 g7 g8
              have n1 := (hd3.ne (.tail _ (.tail _ (.tail _ (.head _))))).symm
              have hbrf := H9.out.front2
              have n2 := hbrf.ne (.tail _ (.tail _ (.head _)))
              have n3 := hbrf.ne (.tail _ (.tail _ (.tail _ (.head _))))
              clear hdc hd3 hbrf
              go_wp2_with fail
              go_region_held3 (fun w' => w'.cell? ⟨bx, 0, none⟩ = some (.int .i64 id) ∧ w'.cell? ⟨xb, 4, none⟩ = some (.int .i64 x4) ∧ w'.cell? ⟨b, 6, none⟩ = some (.int .i64 D.cur.kind) ∧ w'.cell? ⟨b, 7, none⟩ = some (.int .i64 D.cur.id) ∧ w'.cell? ⟨b, 8, none⟩ = some (.int .i64 D.ph)) (first | go_keep) (fail)
              go_wp2_with fail
              refine bodyPost_ret (v := callVal (some ⟨id, x4, D.cur, D.ph⟩)) (by simp [results, Try.results17, go_sem, callVal, clCells, e0, e1, e2, e3, e4]) rfl ?_
              exact nx_some (S := S) (by rw [hO.out, fire, hgd.out]; rfl) H9.out
            | true =>
              have hl1 := St.sh [_, _, _, _, _] [1, 0, 2, 3, 4] (by decide) H9.out
              simp only [List.map_cons, List.map_nil, List.getD_cons_zero, List.getD_cons_succ, List.cons_append, List.nil_append] at hl1
              obtain ⟨sl2, cl2, hl2⟩ := l_open hl1
              obtain ⟨l0, l1, lf0, lf1⟩ := hl2.two
              have HD2 := Lib.hid (ldel i hi (by omega) hl2)
              have hw1 : IntKind.i64.wrap ((i : Int) + 1) = (i : Int) + 1 := by rw [IntKind.wrap_i64]; omega
              clear hl1 hl2
              go_wp2_with fail
              refine HD2.out.mono ?_
              rintro e w6 ⟨s6, c6', rfl, h6⟩
              obtain ⟨l0', l1', lf0', lf1'⟩ := h6.swap.two
              have h10 := St.sh [_, _] [1, 0] (by decide) (ldel_fin hi h6)
              simp only [List.map_cons, List.map_nil, List.getD_cons_zero, List.getD_cons_succ, List.cons_append, List.nil_append] at h10
              have H10 := Lib.hid h10
              clear h6 h10 l0 l1 lf0 lf1 y0 y1 y2 y3 y4 y5 y6 y7
              go_upto_region 15 with fail
              clear l0' l1' lf0' lf1'
              generalize w6.setCell ⟨lb, 0, none⟩ (.slice s6 (S.l.length - 1) c6') = w7 at *
              obtain ⟨e0, e1, e2, e3, e4, ef0, ef1, ef2, ef3, ef4⟩ := Blk.c5 (H10.out.blkm (.tail _ (.tail _ (.head _))))
              have hid0 := (H10.out.blkm (.tail _ (.tail _ (.tail _ (.head _))))).one.1
              have yy4 := (Blk.c8 (H10.out.blkm (.tail _ (.tail _ (.tail _ (.tail _ (.head _))))))).2.2.2.2.1
              obtain ⟨sp3, cp3, sq3, cq3, hd3⟩ := d_open H10.out
              have hdc := d_cells hd3.blk.1
              have g6 := hdc.1.2.2.2.2.2.2
              have g7 := hdc.2.1
              have g8 := hdc.2.2.1
              simp only at g6 g7 g8
              have n1 := (hd3.ne (.tail _ (.tail _ (.tail _ (.head _))))).symm
              have hbrf := H10.out.front2
              have n2 := hbrf.ne (.tail _ (.tail _ (.head _)))
              have n3 := hbrf.ne (.tail _ (.tail _ (.tail _ (.head _))))
              clear hdc hd3 hbrf
              go_wp2_with fail
              go_region_held3 (fun w' => w'.cell? ⟨bx, 0, none⟩ = some (.int .i64 id) ∧ w'.cell? ⟨xb, 4, none⟩ = some (.int .i64 x4) ∧ w'.cell? ⟨b, 6, none⟩ = some (.int .i64 D.cur.kind) ∧ w'.cell? ⟨b, 7, none⟩ = some (.int .i64 D.cur.id) ∧ w'.cell? ⟨b, 8, none⟩ = some (.int .i64 D.ph)) (first | go_keep) (fail)
              go_wp2_with fail
              refine bodyPost_ret (v := callVal (some ⟨id, x4, D.cur, D.ph⟩)) (by simp [results, Try.results17, go_sem, callVal, clCells, e0, e1, e2, e3, e4]) rfl ?_
              exact nx_some (S := ⟨S.l.eraseIdx i, S.nx⟩) (by rw [hO.out, fire, hgd.out]; rfl) H10.out
          · have HFI := Lib.hid hfi
            clear hfi
            go_wp2_with fail
            go_roundg ((2 * n - D.st) * 10001 + q.length)
            case measure => have := Hg.out; rw [HQQ.out] at this; simp only [List.length_cons] at this; omega
            case rel => exact ⟨{ D with q := q }, rfl, HDn.out, hDst, hql, by rw [← HDO.out, nl_skip HD.out HH.out HQQ.out HFI.out], (St.sh [_, _, _, _] [3, 0, 1, 2] (by decide) H5.out).drop⟩
end Go.Proofs.Ytianjcbofgdfdaa
