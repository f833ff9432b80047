/-
  The walk of EventPrevents.
-/
import Derived.Test.YtianjcbofgdfdaaEo
set_option linter.unusedVariables false
set_option linter.unusedSimpArgs false
namespace Go.Proofs.Ytianjcbofgdfdaa
open Go.RowKit Go.K Go.K.Ev

/-- a dispatch under way over listeners that were all in A -/
structure Pv (d0 : Dp) (A : List Li) (d : Dp) (l : List Li) : Prop where
  stays : Stays d0 d
  st : d.st ≤ 2 * d.path.length
  q : d.q.length ≤ 10000
  done : d.done = false
  sub : l.Sublist A

theorem pv_next {d0 d : Dp} {A l : List Li} (h : Pv d0 A d l) (hA : A.length ≤ 10000) (hids : (A.map Li.id).Pairwise (· < ·)) :
    ((d.next l).call = none ∧ (d.next l).d.pas = false ∧ Stays d0 (d.next l).d) ∨
    ∃ c, (d.next l).call = some c ∧ Pv d0 A (d.next l).d (d.next l).l ∧ (foundL A c.id).id = c.id ∧ (d.next l).d.pas = (foundL A c.id).pas ∧ mu (d.next l).d < mu d := by
  obtain ⟨h1, h2, h2b, h3⟩ := next_step d l (Nat.le_trans h.sub.length_le hA) h.st h.done
  have hl := Nat.le_trans h.sub.length_le hA
  have hs : Stays d0 (d.next l).d := h.stays.trans ⟨h1.ty, h1.bub, h1.can, h1.path, h1.prev, h1.stop, h1.halt⟩
  rcases h3 with ⟨a1, a2, a3, a4, a5⟩ | ⟨c, i, hi, a1, a2, a3, a4, a5, a6, a7, a8, a9, a10⟩
  · exact .inl ⟨a1, a3, hs⟩
  · have hm : l[i] ∈ A := h.sub.subset (List.getElem_mem hi)
    have hf := found_of hids hm
    rw [a3] at hf
    refine .inr ⟨c, a1, ⟨hs, ?_, ?_, by rw [a8]; exact h.done, ?_⟩, by rw [hf, a3], by rw [hf, a5], a10⟩
    · rw [h1.path]; exact h2
    · have := h2b
      have e : ({ d with pas := false } : Dp).q = d.q := rfl
      rw [e] at this
      have := h.q
      omega
    · rw [a9]
      split
      · exact (List.eraseIdx_sublist l i).trans h.sub
      · exact h.sub

def PvRel (w : World) (L : List As) (b lb : Nat) (d0 : Dp) (S0 : Ls) (g : Nat) (v : Value) (wr : World) : Prop :=
  ∃ (k : Nat) (d : Dp) (l : List Li), g = mu d ∧ k ≤ 20 ∧ v = .int .i64 k ∧ Pv d0 S0.l d l ∧ St w wr (dObj b d :: lObj lb ⟨l, S0.nx⟩ :: L)

set_option maxRecDepth 100000 in
set_option maxHeartbeats 800000 in
theorem prevents_go (s0 : Option Addr) (c0 : Nat) (X : List Li) (ty : ByteArray) (bub can : Bool) (s1 : Option Addr) (c1 : Nat) (P : List Tg) (at' : Int) (w : World)
    (hX : X.length ≤ 40) (hP : P.length ≤ 12) (hrX : Rd w 8 s0 X.length (flat lcells X)) (hrP : Rd w 2 s1 P.length (flat gcells P)) (ha : 0 ≤ at') (ha2 : at' < 256) :
    Calls Try.prog 7 #[.slice s0 X.length c0, evVal ty bub can s1 P.length c1, .int .u8 at'] w fun e w' => e = .returned (.bool true) ∧ Below w.heap.size w w' := by
  have h0 := (St.start w (Below.refl w.heap.size w)).new #[.string ty, .bool bub, .bool can, .slice s1 P.length c1] 25
  have H0 := Lib.hid h0
  have HRX := Lib.hid hrX
  have HRP := Lib.hid hrP
  have hrem : at'.tmod 20 = at' % 20 := Int.tmod_eq_emod_of_nonneg ha
  have hw1 : IntKind.u8.wrap (at' % 20) = at' % 20 := by rw [IntKind.wrap_u8]; omega
  have hw2 : IntKind.i64.wrap (at' % 20) = at' % 20 := by rw [IntKind.wrap_i64]; omega
  have hd : (decide (X.length ≤ 40) && (decide (P.length ≤ 12) && decide (0 ≤ 30))) = true := by simp [hX, hP]
  have FA := fun w2 => Lib.hid (few_any s0 X.length c0 ty bub can s1 P.length c1 none 0 0 w2)
  simp only [hd] at FA
  clear h0 hrX hrP hd
  go_enter Try.func7, Try.ntmps7
  go_wp2_with fail
  refine (awake_any _).mono ?_
  rintro e w1 ⟨rfl, hb1⟩
  have H1 := Lib.hid (H0.out.of_below hb1)
  obtain ⟨k0, k1, k2, k3⟩ : w1.cell? ⟨w.heap.size, 0, none⟩ = some (.string ty) ∧ w1.cell? ⟨w.heap.size, 1, none⟩ = some (.bool bub) ∧ w1.cell? ⟨w.heap.size, 2, none⟩ = some (.bool can) ∧ w1.cell? ⟨w.heap.size, 3, none⟩ = some (.slice s1 P.length c1) := by
    have hbx := H1.out.blk.1
    have k0 := hbx.cell 0
    have k1 := hbx.cell 1
    have k2 := hbx.cell 2
    have k3 := hbx.cell 3
    simp at k0 k1 k2 k3
    exact ⟨k0, k1, k2, k3⟩
  clear hb1 H0
  go_wp2_with fail
  refine (FA w1).out.mono ?_
  rintro e w2 ⟨rfl, hb2⟩
  have hbl := H1.out.blk.1.lt
  replace k0 := (hb2.cell hbl).trans k0
  replace k1 := (hb2.cell hbl).trans k1
  replace k2 := (hb2.cell hbl).trans k2
  replace k3 := (hb2.cell hbl).trans k3
  have H2 := Lib.hid (H1.out.of_below hb2)
  clear H1 hb2 hbl FA
  go_wp2_with fail
  refine (made_st s0 c0 X H2.out HRX.out (by omega)).mono ?_
  rintro e w3 ⟨sl, cl, sm, cm, rfl, h3⟩
  have H3 := Lib.hid h3
  clear h3 k0 k1 k2 k3
  go_wp2_with fail
  obtain ⟨hml, hmx, hmx2⟩ : (madeS X).l.length ≤ 40 ∧ 0 ≤ (madeS X).nx ∧ (madeS X).nx ≤ 40 := by
    obtain ⟨q1, q2, q3⟩ := madeS_len X X.length
    rw [List.take_length] at q1 q2 q3
    exact ⟨by omega, q2, by omega⟩
  have h4 := St.sh [_, _, _, _, _] [1, 2, 0, 3, 4] (by decide) ((H3.out.new #[.slice sl (madeS X).l.length cl, .int .i64 (madeS X).nx] 32).new #[.slice sm (madeS X).l.length cm, .int .i64 (madeS X).nx] 34)
  simp only [List.map_cons, List.map_nil, List.getD_cons_zero, List.getD_cons_succ, List.cons_append, List.nil_append, World.size_alloc] at h4
  replace h4 := l_shut h4
  have H4 := Lib.hid h4
  clear h4 H3
  generalize (w3.alloc (Obj.cells #[Value.slice sl (madeS X).l.length cl, Value.int IntKind.i64 (madeS X).nx] 32)).alloc
      (Obj.cells #[Value.slice sm (madeS X).l.length cm, Value.int IntKind.i64 (madeS X).nx] 34) = w4 at *
  generalize hlb : w3.heap.size = lb at *
  have hids := Lib.hid (madeS_ids X)
  obtain ⟨S, hS⟩ : ∃ S, madeS X = S := ⟨_, rfl⟩
  rw [hS] at hml hmx hmx2 H4 hids ⊢
  clear hlb hS
  refine (lclone_st H4.out (by omega)).mono ?_
  rintro e w5 ⟨sa, ca, rfl, h5⟩
  have h6 := St.sh [_, _, _] [0, 2, 1] (by decide) (h5.new #[.slice sa S.l.length ca, .int .i64 S.nx] 32)
  simp only [List.map_cons, List.map_nil, List.getD_cons_zero, List.getD_cons_succ, List.cons_append, List.nil_append, World.size_alloc] at h6
  have H6 := Lib.hid h6
  obtain ⟨k0, k1, k2, k3⟩ : (w5.alloc (.cells #[.slice sa S.l.length ca, .int .i64 S.nx] 32)).cell? ⟨w.heap.size, 0, none⟩ = some (.string ty) ∧ (w5.alloc (.cells #[.slice sa S.l.length ca, .int .i64 S.nx] 32)).cell? ⟨w.heap.size, 1, none⟩ = some (.bool bub) ∧ (w5.alloc (.cells #[.slice sa S.l.length ca, .int .i64 S.nx] 32)).cell? ⟨w.heap.size, 2, none⟩ = some (.bool can) ∧ (w5.alloc (.cells #[.slice sa S.l.length ca, .int .i64 S.nx] 32)).cell? ⟨w.heap.size, 3, none⟩ = some (.slice s1 P.length c1) := by
    have hbx := H6.out.blkm (.tail _ (.tail _ (.tail _ (.tail _ (.tail _ (.head _))))))
    have k0 := hbx.cell 0
    have k1 := hbx.cell 1
    have k2 := hbx.cell 2
    have k3 := hbx.cell 3
    simp at k0 k1 k2 k3
    exact ⟨k0, k1, k2, k3⟩
  clear h5 h6 H4
  go_wp2_with fail
  refine (begun_st ty bub can s1 c1 P H6.out HRP.out (by omega)).mono ?_
  rintro e w7 ⟨sp, cp, rfl, h7⟩
  have h8 := St.sh [_, _, _, _] [0, 2, 1, 3] (by decide) (d_make (d := dNew ty bub can P) h7 rfl)
  simp only [List.map_cons, List.map_nil, List.getD_cons_zero, List.getD_cons_succ, List.cons_append, List.nil_append] at h8
  have H8 := Lib.hid h8
  have hbe : w7.heap.size ≠ w.heap.size := by
    obtain ⟨q1, q2, q3, q4, hd⟩ := d_open h8
    exact hd.ne (.tail _ (.tail _ (.tail _ (.tail _ (.tail _ (.tail _ (.tail _ (.head _))))))))
  clear h7 h8 H6 k0 k1 k2 k3 H2
  go_wp2_with fail
  generalize w5.heap.size = ta at *
  generalize w7.heap.size = b at *
  go_loopg [12] (mu (dNew ty bub can P)) (PvRel w [As.cells ta #[.slice sa S.l.length ca, .int .i64 S.nx] 32, As.row 41 8 sa S.l.length ca (flat lcells S.l), As.cells (lb + 1) #[.slice sm S.l.length cm, .int .i64 S.nx] 34, As.rdr 8 sm S.l.length cm (flat lcells S.l), As.cells w.heap.size #[.string ty, .bool bub, .bool can, .slice s1 P.length c1] 25] b lb (dNew ty bub can P) S)
  case atStart => exact ⟨0, dNew ty bub can P, S.l, rfl, by omega, rfl, ⟨Stays.refl _, by simp [dNew], by simp [dNew], rfl, List.Sublist.refl _⟩, H8.out⟩
  case round =>
    obtain ⟨k, d, l, hg, hk, rfl, hv, hp⟩ := hrel
    have Hg := Lib.hid hg
    have HV := Lib.hid hv
    have Hp := Lib.hid hp
    clear hg hp hv H8
    have hdl : d.path.length ≤ 12 := by rw [HV.out.stays.path]; exact hP
    have hll : l.length ≤ 40 := Nat.le_trans HV.out.sub.length_le hml
    have HN := Lib.hid (next_st Hp.out (by omega) HV.out.st (by have := HV.out.q; omega) (by simp only; omega))
    have HC := Lib.hid (pv_next HV.out (by omega) hids.out)
    clear hdl
    go_wp2_with fail
    refine HN.out.mono ?_
    rintro e w9 ⟨rfl, h9⟩
    obtain ⟨o, ho⟩ : ∃ o, d.next l = o := ⟨_, rfl⟩
    rw [ho] at h9 ⊢
    have HC2 := HC.out
    rw [ho] at HC2
    clear ho HC HN
    obtain ⟨oc, od, ol⟩ := o
    simp only at h9 HC2
    rcases HC2 with ⟨rfl, e2, e3⟩ | ⟨c, rfl, e2, e3, e4, e5⟩
    · have H9 := Lib.hid (h9.new (clCells Cl.zero) 48).swap
      have hpr : od.prev = false := e3.prev
      obtain ⟨q1, q2, q3, q4, hd3⟩ := d_open H9.out
      obtain ⟨-, c7, c8, c9, c10, c11, c12, c13⟩ := d_cells hd3.blk.1
      rw [e2] at c9
      rw [hpr] at c12
      clear h9 hd3 e3 c7 c8 c10 c11 c13 e2 hpr
      unfold callVal
      unfold clCells at c9 c12 ⊢
      go_wp2_with fail
      go_ret
      exact ⟨rfl, H9.out.bel⟩
    · have h10 := h9.new (clCells c) 48
      have hs := St.sh [_, _, _] [1, 2, 0] (by decide) h10
      simp only [List.map_cons, List.map_nil, List.getD_cons_zero, List.getD_cons_succ, List.cons_append, List.nil_append] at hs
      have H10 := Lib.hid hs
      obtain ⟨p0, -, -, -, -, -⟩ := Blk.c5 h10.blk.1
      obtain ⟨y0, y1, yf0, yf1⟩ := (H10.out.blkm (.tail _ (.tail _ (.tail _ (.head _))))).two
      have hpr : od.prev = false := e2.stays.prev
      have hcan : od.can = can := e2.stays.can
      have HE2 := Lib.hid e2
      have HE5 := Lib.hid e5
      have HE4 := Lib.hid e4
      have HF := Lib.hid (found_any sa ca S.l S.nx c.id (w9.alloc (.cells (clCells c) 48)) ((St.sh [_, _, _, _, _] [4, 0, 1, 2, 3] (by decide) H10.out).sl.rd) (by omega))
      clear h9 h10 hs e2 e5 e4
      unfold callVal
      unfold clCells at p0 y0 y1 yf0 yf1 HF ⊢
      by_cases hkm : (k : Int) < at' % 20
      · go_wp2_with fail
        go_roundg (mu od)
        case measure => have := HE5.out; have := Hg.out; omega
        case rel =>
          refine ⟨k + 1, od, ol, rfl, by omega, by simp, HE2.out, ?_⟩
          have h11 := St.sh [_, _, _] [2, 0, 1] (by decide) H10.out
          simp only [List.map_cons, List.map_nil, List.getD_cons_zero, List.getD_cons_succ, List.cons_append, List.nil_append] at h11
          exact h11.drop
      · go_wp2_with fail
        refine HF.out.mono ?_
        rintro e w11 ⟨rfl, hb11⟩
        have H11 := Lib.hid (H10.out.of_below hb11)
        obtain ⟨x, hx⟩ : ∃ x, foundL S.l c.id = x := ⟨_, rfl⟩
        have e3' := e3
        have e4' := HE4.out
        rw [hx] at e3' e4' ⊢
        clear hx e3 HE4 y0 y1 yf0 yf1 p0 HF hb11 H10
        obtain ⟨x0, ⟨x1, x2⟩, x3, x4, x5, x6, x7⟩ := x
        simp only at e3' e4'
        subst e3'
        have hnew := Lib.hid (St.sh [_, _] [1, 0] (by decide) (H11.out.new #[.int .i64 c.id, .int .i64 x1, .int .i64 x2, .string x3, .int .i64 x4, .bool x5, .bool x6, .bool x7] 41))
        simp only [List.map_cons, List.map_nil, List.getD_cons_zero, List.getD_cons_succ, List.cons_append, List.nil_append] at hnew
        obtain ⟨p0, -, -, -, -, -⟩ := Blk.c5 (H11.out.blkm (.tail _ (.tail _ (.head _))))
        have pl := (H11.out.blkm (.tail _ (.tail _ (.head _)))).lt
        have hbx := H11.out.blkm (.tail _ (.tail _ (.tail _ (.tail _ (.tail _ (.tail _ (.tail _ (.head _))))))))
        have hbxl := hbx.lt
        have k2 := hbx.cell 2
        simp at k2
        obtain ⟨q1, q2, q3, q4, hd3⟩ := d_open H11.out
        obtain ⟨-, c7, c8, c9, c10, c11, c12, c13⟩ := d_cells hd3.blk.1
        have hdl := hd3.blk.1.lt
        rw [e4'] at c9
        rw [hpr] at c12
        have HPv := Lib.hid (prevent_st hnew.out)
        have hpb : prevB od = (can && !x7) := by simp [prevB, hpr, hcan, e4']
        unfold PrevPost at HPv
        rw [hpb] at HPv
        clear hd3 hbx c7 c8 c10 c11 c13 e4' hpr hcan hpb
        unfold lval
        cases can <;> cases x7
        all_goals
          go_wp2_with fail
          refine HPv.out.mono ?_
          rintro e w12 ⟨rfl, h12⟩
          obtain ⟨r1, r2, r3, r4, hd4⟩ := d_open h12
          have c12' := (d_cells hd4.blk.1).2.2.2.2.2.2.1
          have H12 := Lib.hid h12
          simp only [Bool.not_true, Bool.not_false, Bool.and_true, Bool.and_false, Bool.true_and, Bool.false_and] at c12'
          clear hd4 h12 p0 k2 c9 c12
          go_wp2_with fail
          go_ret
          exact ⟨rfl, H12.out.bel⟩
end Go.Proofs.Ytianjcbofgdfdaa
