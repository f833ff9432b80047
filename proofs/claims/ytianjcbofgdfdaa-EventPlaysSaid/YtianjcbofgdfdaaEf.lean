/-
  Contract of begin.
-/
import Derived.Test.YtianjcbofgdfdaaEe
import Derived.Deep.CutBlock
set_option linter.unusedVariables false
set_option linter.unusedSimpArgs false
namespace Go.Proofs.Ytianjcbofgdfdaa
open Go.RowKit Go.K Go.K.Ev

theorem g_at {w : World} {g off n : Nat} {ls : List Tg} (hs : Rd w 2 (some ⟨g, off, none⟩) n (flat gcells ls)) {k : Nat} (hk : k < ls.length) (x : Tg) (hx : ls[k] = x) :
    w.cell? ⟨g, off + k * 2, none⟩ = some (.int .i64 x.kind) ∧ w.cell? ⟨g, off + k * 2 + 1, none⟩ = some (.int .i64 x.id) := by
  have e := fun j hj => flat_at (f := gcells) (sz := 2) (fun _ => rfl) ls k j hk hj
  rw [hx] at e
  have c := fun j u h => hs.cells _ rfl j u h
  simp only [Addr.add_lit] at c
  refine ⟨?_, ?_⟩
  · have := c _ _ ((e 0 (by omega)).trans rfl); simpa using this
  · have := c _ _ ((e 1 (by omega)).trans rfl); rwa [← Nat.add_assoc] at this

set_option maxRecDepth 100000 in
set_option maxHeartbeats 1000000 in
theorem begin_skip {w0 w : World} {L : List As} {b lb : Nat} {d : Dp} (h : St w0 w (dObj b d :: L)) (hs : d.path.length < d.st) (hb : d.bub = false) (hst : d.st ≤ 1000000) (hl : d.path.length ≤ 1000) :
    Calls Try.prog 38 #[.pointer (some ⟨b, 0, none⟩), .pointer (some ⟨lb, 0, none⟩)] w (DPost b { d with st := d.st + 1 } w0 L) := by
  obtain ⟨sp, cp, sq, cq, h1⟩ := d_open h
  obtain ⟨⟨c0, c1, c2, c3, c4, c5, c6⟩, c7, c8, c9, c10, c11, c12, c13⟩ := d_cells h1.blk.1
  have f4 := h1.free 4
  rw [hb] at c1
  have H2 := Lib.hid (show St w0 _ (dOpen b { d with st := d.st + 1 } sp cp sq cq L) by simpa [dOpen, dCells] using h1.set 4 (.int .i64 (((d.st + 1 : Nat)) : Int)))
  push_cast at H2
  have hB := Lib.hid hb
  have e1 : ((d.st : Int) == (d.path.length : Int) - 1) = false := by simp; omega
  have e2 : ((d.st : Int) == (d.path.length : Int)) = false := by simp; omega
  have hw1 : IntKind.i64.wrap ((d.path.length : Int) - 1) = (d.path.length : Int) - 1 := by rw [IntKind.wrap_i64]; omega
  have hw2 : IntKind.i64.wrap ((d.st : Int) + 1) = (d.st : Int) + 1 := by rw [IntKind.wrap_i64]; omega
  clear h h1 hb
  go_enter Try.func38, Try.ntmps38
  go_wp2_with fail
  go_end0
  exact ⟨rfl, d_shut H2.out⟩

def pick (c : Bool) (l : List Li) : List Int := (l.filter (fun x => x.cap == c)).map Li.id
theorem pick_succ (F : List Li) (c : Bool) (k : Nat) (hk : k < F.length) : pick c (F.take (k + 1)) = pick c (F.take k) ++ (if F[k].cap == c then [F[k].id] else []) := by
  unfold pick
  rw [List.take_succ_eq_append_getElem hk, List.filter_append, List.map_append]
  congr 1
  by_cases h : (F[k].cap == c) = true <;> simp [List.filter_cons, h]
theorem pick_le (F : List Li) (c : Bool) (k : Nat) : (pick c (F.take k)).length ≤ k := by
  unfold pick
  rw [List.length_map]
  exact Nat.le_trans (List.length_filter_le _ _) (List.length_take_le _ _)
theorem st_rot5 {w0 w : World} {A B C D E : As} {L : List As} (h : St w0 w (A :: B :: C :: D :: E :: L)) : St w0 w (E :: A :: B :: C :: D :: L) :=
  h.perm ((((List.Perm.swap E D L).cons C |>.cons B |>.cons A)).trans ((((List.Perm.swap E C (D :: L)).cons B).cons A).trans (((List.Perm.swap E B (C :: D :: L)).cons A).trans (.swap _ _ _))))
theorem st_p1 {w0 w : World} {B Q F O P : As} {L : List As} (h : St w0 w (B :: Q :: F :: O :: P :: L)) : St w0 w (F :: O :: B :: P :: Q :: L) :=
  h.perm (((List.Perm.cons B (.swap F Q _)).trans (.swap F B _)).trans (List.Perm.cons F (((List.Perm.cons B (.swap O Q _)).trans (.swap O B _)).trans (List.Perm.cons O (List.Perm.cons B (.swap P Q _))))))
def BegRel (w0 : World) (L : List As) (b lb : Nat) (D : Dp) (S : Ls) (F : List Li) (c : Bool) (sp : Option Addr) (cp : Nat) (sf : Option Addr) (cf : Nat) (g : Nat) (v : Value) (wr : World) : Prop :=
  ∃ (k : Nat) (sq : Option Addr) (cq : Nat), g = F.length - k ∧ k ≤ F.length ∧ v = .int .i64 k ∧ St w0 wr (As.row 41 8 sf F.length cf (flat lcells F) :: lObj lb S :: dOpen b { D with q := D.q ++ pick c (F.take k) } sp cp sq cq L)
def BegMid (w0 : World) (L : List As) (b : Nat) (d : Dp) (sp : Option Addr) (cp : Nat) (sq : Option Addr) (cq : Nat) (wr : World) : Prop :=
  St w0 wr (dOpen b { d with st := d.st + 1, cur := stT d.path d.st, ph := stP d.path.length d.st } sp cp sq cq L)

set_option maxRecDepth 100000 in
set_option maxHeartbeats 4000000 in
theorem begin_go {w0 w : World} {L : List As} {b lb : Nat} {d : Dp} {S : Ls} (h : St w0 w (dObj b d :: lObj lb S :: L)) (hs : d.bub = true ∨ d.st ≤ d.path.length) (hst : d.st < 2 * d.path.length) (hl : d.path.length ≤ 1000) (hq : d.q.length ≤ 100000) (hn : S.l.length ≤ 10000) :
    Calls Try.prog 38 #[.pointer (some ⟨b, 0, none⟩), .pointer (some ⟨lb, 0, none⟩)] w (DPost b (d.begin S.l) w0 (lObj lb S :: L)) := by
  obtain ⟨sp, cp, sq, cq, h1⟩ := d_open h
  obtain ⟨⟨c0, c1, c2, c3, c4, c5, c6⟩, c7, c8, c9, c10, c11, c12, c13⟩ := d_cells h1.blk.1
  have f4 := h1.free 4
  have f6 := h1.free 6
  have f7 := h1.free 7
  have f8 := h1.free 8
  have hsp := h1.swap.sl
  obtain ⟨g, off, rfl, -, -, -⟩ := hsp.some_of (Nat.lt_of_lt_of_le (by omega) hsp.le)
  have HR := Lib.hid hsp.rd
  have hbl := h1.blk.1.lt
  have hgl := hsp.lt g rfl
  have hgb : g ≠ b := h1.apart
  have H1 := Lib.hid h1
  have HS := Lib.hid hs
  clear h h1 hsp hs
  go_enter Try.func38, Try.ntmps38
  go_upto_block 0 with fail
  go_cut [39] (fun _ wc => BegMid w0 (lObj lb S :: L) b d (some ⟨g, off, none⟩) cp sq cq wc)
  case first =>
    have hw1 : IntKind.i64.wrap ((d.path.length : Int) - 1) = (d.path.length : Int) - 1 := by rw [IntKind.wrap_i64]; omega
    have hw2 : IntKind.i64.wrap ((d.st : Int) + 1) = (d.st : Int) + 1 := by rw [IntKind.wrap_i64]; omega
    by_cases q1 : d.st + 1 < d.path.length
    · have e1 : decide ((d.st : Int) < (d.path.length : Int) - 1) = true := by simp; omega
      have hk : d.path.length - 1 - d.st < d.path.length := by omega
      obtain ⟨x, hx⟩ : ∃ x, d.path[d.path.length - 1 - d.st] = x := ⟨_, rfl⟩
      obtain ⟨p0, p1⟩ := g_at HR.out hk x hx
      have hT := Lib.hid (show stT d.path d.st = x by unfold stT; rw [if_pos (by omega), ← hx]; simp [List.getD_eq_getElem?_getD, hk])
      have hP := Lib.hid (show stP d.path.length d.st = 1 by unfold stP; rw [if_pos q1])
      have hi1 : (0 : Int) ≤ (d.path.length : Int) - 1 - (d.st : Int) := by omega
      have hi2 : (d.path.length : Int) - 1 - (d.st : Int) < (d.path.length : Int) := by omega
      have hi3 : ((d.path.length : Int) - 1 - (d.st : Int)).toNat = d.path.length - 1 - d.st := by omega
      have hw3 : IntKind.i64.wrap ((d.path.length : Int) - 1 - (d.st : Int)) = (d.path.length : Int) - 1 - (d.st : Int) := by rw [IntKind.wrap_i64]; omega
      have HM := Lib.hid (show BegMid w0 (lObj lb S :: L) b d (some ⟨g, off, none⟩) cp sq cq _ from by
        unfold BegMid
        rw [hT.out, hP.out]
        simpa [dOpen, dCells] using (((H1.out.set 4 (.int .i64 (((d.st + 1 : Nat)) : Int))).set 6 (.int .i64 x.kind)).set 7 (.int .i64 x.id)).set 8 (.int .i64 1))
      clear hx
      go_wp2_with fail
      go_meet
      exact HM.out
    · have e1 : decide ((d.st : Int) < (d.path.length : Int) - 1) = false := by simp; omega
      by_cases q2 : d.st ≤ d.path.length
      · have hk : 0 < d.path.length := by omega
        obtain ⟨x, hx⟩ : ∃ x, d.path[0] = x := ⟨_, rfl⟩
        obtain ⟨p0, p1⟩ := g_at HR.out hk x hx
        simp only [Nat.zero_mul, Nat.add_zero] at p0 p1
        have hT := Lib.hid (show stT d.path d.st = x by
          unfold stT
          rw [← hx]
          split
          · rw [show d.path.length - 1 - d.st = 0 by omega]; simp [List.getD_eq_getElem?_getD, hk]
          · rw [show d.st - d.path.length = 0 by omega]; simp [List.getD_eq_getElem?_getD, hk])
        have hP := Lib.hid (show stP d.path.length d.st = 2 by unfold stP; rw [if_neg q1, if_pos q2])
        have HM := Lib.hid (show BegMid w0 (lObj lb S :: L) b d (some ⟨g, off, none⟩) cp sq cq _ from by
        unfold BegMid
        rw [hT.out, hP.out]
        simpa [dOpen, dCells] using (((H1.out.set 4 (.int .i64 (((d.st + 1 : Nat)) : Int))).set 6 (.int .i64 x.kind)).set 7 (.int .i64 x.id)).set 8 (.int .i64 2))
        have hn0 : (0 : Int) < (d.path.length : Int) := by omega
        clear hx
        by_cases q3 : d.st + 1 = d.path.length
        · have e2 : ((d.st : Int) == (d.path.length : Int) - 1) = true := by simp; omega
          clear q3
          go_wp2_with fail
          go_meet
          exact HM.out
        · have e2 : ((d.st : Int) == (d.path.length : Int) - 1) = false := by simp; omega
          have e3 : ((d.st : Int) == (d.path.length : Int)) = true := by simp; omega
          clear q3
          go_wp2_with fail
          go_meet
          exact HM.out
      · have e2 : ((d.st : Int) == (d.path.length : Int) - 1) = false := by simp; omega
        have e3 : ((d.st : Int) == (d.path.length : Int)) = false := by simp; omega
        have hk : d.st - d.path.length < d.path.length := by omega
        obtain ⟨x, hx⟩ : ∃ x, d.path[d.st - d.path.length] = x := ⟨_, rfl⟩
        obtain ⟨p0, p1⟩ := g_at HR.out hk x hx
        have hT := Lib.hid (show stT d.path d.st = x by unfold stT; rw [if_neg (by omega), ← hx]; simp [List.getD_eq_getElem?_getD, hk])
        have hP := Lib.hid (show stP d.path.length d.st = 3 by unfold stP; rw [if_neg q1, if_neg q2])
        have hi1 : (0 : Int) ≤ (d.st : Int) - (d.path.length : Int) := by omega
        have hi2 : (d.st : Int) - (d.path.length : Int) < (d.path.length : Int) := by omega
        have hi3 : ((d.st : Int) - (d.path.length : Int)).toNat = d.st - d.path.length := by omega
        have hw3 : IntKind.i64.wrap ((d.st : Int) - (d.path.length : Int)) = (d.st : Int) - (d.path.length : Int) := by rw [IntKind.wrap_i64]; omega
        have HM := Lib.hid (show BegMid w0 (lObj lb S :: L) b d (some ⟨g, off, none⟩) cp sq cq _ from by
        unfold BegMid
        rw [hT.out, hP.out]
        simpa [dOpen, dCells] using (((H1.out.set 4 (.int .i64 (((d.st + 1 : Nat)) : Int))).set 6 (.int .i64 x.kind)).set 7 (.int .i64 x.id)).set 8 (.int .i64 3))
        have hbub : d.bub = true := HS.out.resolve_right (by omega)
        rw [hbub] at c1
        clear hx hbub
        go_wp2_with fail
        go_meet
        exact HM.out
  case rest =>
    unfold BegMid at hcut
    have hw1 : IntKind.i64.wrap ((d.path.length : Int) - 1) = (d.path.length : Int) - 1 := by rw [IntKind.wrap_i64]; omega
    generalize hD : ({ d with st := d.st + 1, cur := stT d.path d.st, ph := stP d.path.length d.st } : Dp) = D at hcut
    have HD := Lib.hid hD
    have H2 := Lib.hid hcut
    obtain ⟨⟨a0, a1, a2, a3, a4, a5, a6⟩, a7, a8, a9, a10, a11, a12, a13⟩ := d_cells hcut.blk.1
    have HF := Lib.hid (for_st D.cur D.ty (st_rot4 hcut) hn)
    clear hcut hD c0 c1 c2 c3 c4 c5 c6 c7 c8 c9 c10 c11 c12 c13 f4 f6 f7 f8 H1
    have HFD := Lib.hid (for_st D.cur D.ty (st_rot4 H2.out.drew) hn)
    go_wp2_with fail
    go_region_held3 (fun w' => w'.cell? ⟨b, 0, none⟩ = some (.string D.ty) ∧ w'.cell? ⟨b, 6, none⟩ = some (.int .i64 D.cur.kind) ∧ w'.cell? ⟨b, 7, none⟩ = some (.int .i64 D.cur.id))
      (first | exact keep3.out | go_keep)
      (first | (go_at_call 32; refine HFD.out.mono ?_; rintro e w2 ⟨sf, cf, rfl, h3⟩; have H3 := Lib.hid h3; have dc := d_cells h3.front2.blk.1; have keep3 := Lib.hid (And.intro dc.1.1 (And.intro dc.1.2.2.2.2.2.2 dc.2.1)); clear h3 dc))
    go_wp2_with fail
    have hFl : (hits S.l D.cur D.ty).length ≤ 10000 := Nat.le_trans (List.length_filter_le _ _) hn
    obtain ⟨F, hF⟩ : ∃ F, hits S.l D.cur D.ty = F := ⟨_, rfl⟩
    rw [hF] at H3 hFl
    simp only [hF]
    have HFq := Lib.hid hF
    have hDq := Lib.hid (show D.q.length ≤ 100000 by rw [← HD.out]; exact hq)
    clear hF HF HFD keep3 a0 a1 a2 a3 a4 a5 a6 a7 a8 a9 a10 a11 a12 a13 hw1
    go_loopg [110] F.length (BegRel w0 L b lb D S F (decide (d.st < d.path.length)) (some ⟨g, off, none⟩) cp sf cf)
    case atStart => exact ⟨0, sq, cq, rfl, Nat.zero_le _, rfl, by simpa [pick] using H3.out⟩
    case round =>
      obtain ⟨k, sq2, cq2, hg, hk, rfl, hp⟩ := hrel
      have Hg := Lib.hid hg
      have Hp := Lib.hid hp
      clear hg hp H3 H2
      by_cases hkn : k < F.length
      · have hs := Hp.out.sl
        obtain ⟨gf, of, rfl, -, -, -⟩ := hs.some_of (Nat.lt_of_lt_of_le (by omega) hs.le)
        obtain ⟨x, hx⟩ : ∃ x, F[k] = x := ⟨_, rfl⟩
        obtain ⟨d0, d1, d2, d3, d4, d5, d6, d7⟩ := l_at hs.rd hkn x hx
        have HP := Lib.hid (pick_succ F (decide (d.st < d.path.length)) k hkn)
        rw [hx] at HP
        have dc := d_cells Hp.out.front2.blk.1
        have a5 := dc.1.2.2.2.2.2.1
        have f5 := Hp.out.front2.free 5
        have hbw := Hp.out.front2.blk.1.lt
        have hne : b ≠ wr.heap.size := by omega
        have hne2 : b ≠ wr.heap.size + 1 := by omega
        have hkn' : (k : Int) < (F.length : Int) := by omega
        have hpl := pick_le F (decide (d.st < d.path.length)) k
        have hDl := hDq.out
        obtain ⟨x0, ⟨x1, x2⟩, x3, x4, x5, x6, x7⟩ := x
        simp only at d0 d1 d2 d3 d4 d5 d6 d7
        have H4 := Lib.hid (Hp.out.alloc (.cells #[.int .i64 x0, .int .i64 x1, .int .i64 x2, .string x3, .int .i64 x4, .bool x5, .bool x6, .bool x7] 41))
        have hdec : decide ((d.st : Int) < (d.path.length : Int)) = decide (d.st < d.path.length) := by simp
        generalize pick (decide (d.st < d.path.length)) (F.take k) = Q at *
        have hql : (D.q ++ Q).length ≤ 200000 := by simp; omega
        generalize hQ2 : D.q ++ Q = Q2 at *
        have HQ2 := Lib.hid hQ2
        clear hQ2
        clear hs hx dc
        obtain ⟨cb, hcb0⟩ : ∃ cb, decide (d.st < d.path.length) = cb := ⟨_, rfl⟩
        rw [hcb0] at HP
        clear hdec
        by_cases hc : x5 = cb
        · have hcb : (x5 == cb) = true := by simp [hc]
          have hxs := (((st_rot5 H4.out).sl).alloc (.cells #[.int .i64 x0] 3)).drew
          have hrd := rd_built_at (wr.alloc (.cells #[.int .i64 x0, .int .i64 x1, .int .i64 x2, .string x3, .int .i64 x4, .bool x5, .bool x6, .bool x7] 41)) #[.int .i64 x0] 3 1 1 (wr.heap.size + 1) (by simp) rfl (by simp [Value.oneCell'])
          have hrd' : Rd ((wr.alloc (.cells #[.int .i64 x0, .int .i64 x1, .int .i64 x2, .string x3, .int .i64 x4, .bool x5, .bool x6, .bool x7] 41)).alloc (.cells #[.int .i64 x0] 3)).drew 1 (some ⟨wr.heap.size + 1, 0, none⟩) 1 _ := ⟨hrd.len, hrd.one, hrd.nil, hrd.cells⟩
          have H5 := Lib.hid (st_rot5 (H4.out.alloc (.cells #[.int .i64 x0] 3)).drew)
          have hcc := Lib.hid hc
          clear hrd hc
          go_wp2_with fail
          go_region_law ((refine step_append_any (by rfl) _ _ 43 (by rfl) elI sq2 _ cq2 _ (by rfl) hxs _ 1 _ _ (by rfl) hrd' (by omega) (by omega) ?_; intro sq3 cq3 w4 p1 p2 p3; have H6 := Lib.hid (st_rot4 (H5.out.row_step p1 p2 p3)); have z5 := H6.out.cell 5; have zf5 := H6.out.free 5; simp at z5))
          all_goals
            have H7 := Lib.hid (H6.out.set 5 (.slice sq3 (Q2.length + 1) cq3))
            clear p1 p2 p3 hxs hrd' a5 f5 d0 d1 d2 d3 d4 d5 d6 d7 z5 zf5
            go_wp2_with fail
            go_roundg (F.length - (k + 1))
            case measure => have := Hg.out; omega
            case rel =>
              have he := HP.out
              have h2 := HQ2.out
              simp only [hcc.out, beq_self_eq_true, if_true] at he
              refine ⟨k + 1, sq3, cq3, rfl, by omega, by simp, ?_⟩
              rw [hcb0, he, ← List.append_assoc, h2]
              have h8 := st_p1 H7.out
              simpa [dOpen, dCells, ints] using h8
        · have hcb : (x5 == cb) = false := by simp [hc]
          have hcc := Lib.hid hc
          clear hc
          go_wp2_with fail
          go_roundg (F.length - (k + 1))
          case measure => have := Hg.out; omega
          case rel =>
            have he := HP.out
            have h2 := HQ2.out
            rw [if_neg (by simpa using hcc.out), List.append_nil] at he
            refine ⟨k + 1, sq2, cq2, rfl, by omega, by simp, ?_⟩
            rw [hcb0, he, h2]
            exact H4.out
      · obtain rfl : k = F.length := by omega
        go_wp2_with fail
        go_end0
        refine ⟨rfl, ?_⟩
        have hD := HD.out
        have hF := HFq.out
        have h1 := Hp.out.drop
        rw [List.take_length] at h1
        have hbeg : d.begin S.l = { D with q := D.q ++ pick (decide (d.st < d.path.length)) F } := by
          unfold Dp.begin
          rw [if_neg (by rintro ⟨q1, q2⟩; rcases HS.out with q | q <;> simp_all <;> omega)]
          subst hD
          simp only at hF
          simp only [stI, hF, pick]
        rw [hbeg]
        have h2 := h1.perm (L' := dOpen b { D with q := D.q ++ pick (decide (d.st < d.path.length)) F } (some ⟨g, off, none⟩) cp sq2 cq2 (lObj lb S :: L)) ?_
        · exact d_shut h2
        · exact ((List.Perm.swap _ _ _).trans (List.Perm.cons _ ((List.Perm.swap _ _ _).trans (List.Perm.cons _ (.swap _ _ _)))))
end Go.Proofs.Ytianjcbofgdfdaa
