/-
  The walk of EventPlays.
-/
import Derived.Test.YtianjcbofgdfdaaFq
import Derived.Test.YtianjcbofgdfdaaFf
set_option linter.unusedVariables false
set_option linter.unusedSimpArgs false
namespace Go.Proofs.Ytianjcbofgdfdaa
open Go.RowKit Go.K Go.K.Ev

structure Pv (acs : List Ac) (R : Rn) (n : Nat) (d : Dp) (S : Ls) (calls : List Cl) : Prop where
  fz : Fz acs n d S
  todo : Eqr R (Todo acs d S calls)
  len : calls.length = n
  hs : d.halt = true → d.stop = true
theorem pv_next {acs : List Ac} {R : Rn} {n : Nat} {d : Dp} {S : Ls} {calls : List Cl} (h : Pv acs R n d S calls) :
    ((d.next S.l).call = none ∧ (d.next S.l).d.done = true ∧ (d.next S.l).d.ph = 0 ∧ (d.next S.l).l = S.l ∧ R.S = S ∧ R.calls.length = n ∧ R.d.stop = (d.next S.l).d.stop ∧ R.d.halt = (d.next S.l).d.halt ∧ R.d.prev = (d.next S.l).d.prev) ∨
    ∃ c, (d.next S.l).call = some c ∧ R.calls[n]? = some c ∧ (d.next S.l).d.cur = c.cur ∧ (d.next S.l).d.ph = c.ph ∧
      Pv acs R (n + 1) (actF n ((d.next S.l).d, ⟨(d.next S.l).l, S.nx⟩) acs).1 (actF n ((d.next S.l).d, ⟨(d.next S.l).l, S.nx⟩) acs).2 (calls ++ [c]) ∧
      mu (actF n ((d.next S.l).d, ⟨(d.next S.l).l, S.nx⟩) acs).1 < mu d ∧ (d.next S.l).l.length ≤ 100 := by
  obtain ⟨h1, h2, h2b, h3⟩ := next_step d S.l (by have := h.fz.len; omega) h.fz.st h.fz.done
  have hx := nx_next (acs := acs) (S := S) (calls := calls) h.fz.done h.fz.st h.hs
  rcases h3 with ⟨a1, a2, a3, a4, a5⟩ | ⟨c, i, hi, a1, a2, a3, a4, a5, a6, a7, a8, a9, a10⟩
  · obtain ⟨e, -⟩ := hx.none a1
    have e := h.todo.trans e
    exact .inl ⟨a1, a2, a5, a4, e.S, by rw [e.calls]; exact h.len, e.stop, e.halt, e.prev⟩
  · have e := h.todo.trans (hx.some c a1)
    rw [h.len] at e
    rcases fz_next h.fz with ⟨b1, -⟩ | ⟨c2, b1, b2, b3, b4, b5⟩
    · rw [a1] at b1; cases b1
    · have hp := todo_pre acs (actF n ((d.next S.l).d, ⟨(d.next S.l).l, S.nx⟩) acs).1 (actF n ((d.next S.l).d, ⟨(d.next S.l).l, S.nx⟩) acs).2 (calls ++ [c])
      rw [← e.calls] at hp
      obtain ⟨t, ht⟩ := hp
      refine .inr ⟨c, a1, ?_, a6, a7, ⟨b3, e, by simp [h.len], actF_hs _ _ _ _ (by rw [h1.halt, h1.stop]; exact h.hs)⟩, b4, b5⟩
      rw [← ht, List.append_assoc, List.getElem?_append_right (by rw [h.len]; exact Nat.le_refl _), h.len]
      simp
theorem cl_at {w : World} {g off n : Nat} {ls : List Cl} (hs : Rd w 5 (some ⟨g, off, none⟩) n (flat ccells ls)) {k : Nat} (hk : k < ls.length) (x : Cl) (hx : ls[k] = x) :
    w.cell? ⟨g, off + k * 5, none⟩ = some (.int .i64 x.id) ∧ w.cell? ⟨g, off + k * 5 + 1, none⟩ = some (.int .i64 x.cb) ∧ w.cell? ⟨g, off + k * 5 + 2, none⟩ = some (.int .i64 x.cur.kind) ∧ w.cell? ⟨g, off + k * 5 + 2 + 1, none⟩ = some (.int .i64 x.cur.id) ∧ w.cell? ⟨g, off + k * 5 + 4, none⟩ = some (.int .i64 x.ph) := by
  have e := fun j hj => flat_at (f := ccells) (sz := 5) (fun _ => rfl) ls k j hk hj
  rw [hx] at e
  have c := fun j u h => hs.cells _ rfl j u h
  simp only [Addr.add_lit] at c
  refine ⟨?_, ?_, ?_, ?_, ?_⟩
  · have := c _ _ ((e 0 (by omega)).trans rfl); simpa using this
  · have := c _ _ ((e 1 (by omega)).trans rfl); rwa [← Nat.add_assoc] at this
  · have := c _ _ ((e 2 (by omega)).trans rfl); rwa [← Nat.add_assoc] at this
  · have := c _ _ ((e 3 (by omega)).trans rfl); rwa [← Nat.add_assoc] at this
  · have := c _ _ ((e 4 (by omega)).trans rfl); rwa [← Nat.add_assoc] at this

def PlaysRel (w : World) (L : List As) (b lb br : Nat) (K : Ek) (R : Rn) (sl : Option Addr) (cl : Nat) (sc : Option Addr) (cc : Nat) (acs : List Ac) (g : Nat) (v12 : Value) (wr : World) : Prop :=
  ∃ (n : Nat) (d : Dp) (S : Ls) (calls : List Cl), g = mu d ∧ v12 = .int .i64 n ∧ n + mu d ≤ 1000000 ∧ Pv acs R n d S calls ∧ St w wr (dObj b d :: lObj lb S :: rOpen br K R.d R.S R.calls sl cl sc cc L)

set_option maxRecDepth 100000 in
set_option maxHeartbeats 8000000 in
theorem plays_go (s0 : Option Addr) (c0 : Nat) (X : List Li) (ty : ByteArray) (bub can : Bool) (s1 : Option Addr) (c1 : Nat) (P : List Tg) (s2 : Option Addr) (c2 : Nat) (acs : List Ac) (w : World)
    (hX : X.length ≤ 40) (hP : P.length ≤ 12) (hrX : Rd w 8 s0 X.length (flat lcells X)) (hrP : Rd w 2 s1 P.length (flat gcells P)) (hA : acs.length ≤ 30) (hrA : Rd w 10 s2 acs.length (flat acells acs)) (hk : ∀ a ∈ acs, 0 ≤ a.kind ∧ 0 ≤ a.at' ∧ a.at' < 256) :
    Calls Try.prog 8 #[.slice s0 X.length c0, evVal ty bub can s1 P.length c1, .slice s2 acs.length c2] w fun e w' => e = .returned (.bool true) ∧ Below w.heap.size w w' := by
  have HRA := Lib.hid hrA
  have HK := Lib.hid hk
  clear hrA hk
  have h0 := (St.start w (Below.refl w.heap.size w)).new #[.string ty, .bool bub, .bool can, .slice s1 P.length c1] 25
  have H0 := Lib.hid h0
  have HRX := Lib.hid hrX
  have HRP := Lib.hid hrP
  have hd : (decide (X.length ≤ 40) && (decide (P.length ≤ 12) && decide (acs.length ≤ 30))) = true := by simp [hX, hP, hA]
  have FA := fun w2 => Lib.hid (few_any s0 X.length c0 ty bub can s1 P.length c1 s2 acs.length c2 w2)
  simp only [hd] at FA
  clear h0 hrX hrP hd
  go_enter Try.func8, Try.ntmps8
  go_wp2_with fail
  refine (awake_any _).mono ?_
  rintro e w1 ⟨rfl, hb1⟩
  have H1 := Lib.hid (H0.out.of_below hb1)
  obtain ⟨k0, k1, k2, k3⟩ : w1.cell? ⟨w.heap.size, 0, none⟩ = some (.string ty) ∧ w1.cell? ⟨w.heap.size, 1, none⟩ = some (.bool bub) ∧ w1.cell? ⟨w.heap.size, 2, none⟩ = some (.bool can) ∧ w1.cell? ⟨w.heap.size, 3, none⟩ = some (.slice s1 P.length c1) := by
    have hbx := H1.out.blk.1
    have k0 := hbx.cell 0
    have k1 := hbx.cell 1
    have k2 := hbx.cell 2
    have k3 := hbx.cell 3
    simp at k0 k1 k2 k3
    exact ⟨k0, k1, k2, k3⟩
  clear hb1 H0
  go_wp2_with fail
  refine (FA w1).out.mono ?_
  rintro e w2 ⟨rfl, hb2⟩
  have hbl := H1.out.blk.1.lt
  replace k0 := (hb2.cell hbl).trans k0
  replace k1 := (hb2.cell hbl).trans k1
  replace k2 := (hb2.cell hbl).trans k2
  replace k3 := (hb2.cell hbl).trans k3
  have H2 := Lib.hid (H1.out.of_below hb2)
  clear H1 hb2 hbl FA
  go_wp2_with fail
  refine (made_st s0 c0 X H2.out HRX.out (by omega)).mono ?_
  rintro e w3 ⟨sl, cl, sm, cm, rfl, h3⟩
  have H3 := Lib.hid h3
  clear h3 k0 k1 k2 k3
  obtain ⟨k0, k1, k2, k3⟩ := ev_cells (H3.out.blkm (.tail _ (.tail _ (.head _))))
  go_upto_region 6 with fail
  obtain ⟨hml, hmx, hmx2⟩ : (madeS X).l.length ≤ 40 ∧ 0 ≤ (madeS X).nx ∧ (madeS X).nx ≤ 40 := by
    obtain ⟨q1, q2, q3⟩ := madeS_len X X.length
    rw [List.take_length] at q1 q2 q3
    exact ⟨by omega, q2, by omega⟩
  have h4 := St.sh [_, _, _, _, _] [1, 2, 0, 3, 4] (by decide) ((H3.out.new #[.slice sl (madeS X).l.length cl, .int .i64 (madeS X).nx] 32).new #[.slice sm (madeS X).l.length cm, .int .i64 (madeS X).nx] 34)
  simp only [List.map_cons, List.map_nil, List.getD_cons_zero, List.getD_cons_succ, List.cons_append, List.nil_append, World.size_alloc] at h4
  replace h4 := l_shut h4
  have H4 := Lib.hid h4
  obtain ⟨j0, j1, j2, j3⟩ := ev_cells (h4.blkm (.tail _ (.tail _ (.tail _ (.head _)))))
  obtain ⟨n0, n1, -, -⟩ := (h4.blkm (.tail _ (.head _))).two
  clear k0 k1 k2 k3
  clear h4 H3
  generalize (w3.alloc (Obj.cells #[Value.slice sl (madeS X).l.length cl, Value.int IntKind.i64 (madeS X).nx] 32)).alloc
      (Obj.cells #[Value.slice sm (madeS X).l.length cm, Value.int IntKind.i64 (madeS X).nx] 34) = w4 at *
  generalize hlb : w3.heap.size = lb at *
  have hids := Lib.hid (madeS_ids X)
  obtain ⟨S, hS⟩ : ∃ S, madeS X = S := ⟨_, rfl⟩
  rw [hS] at hml hmx hmx2 H4 hids n0 n1 ⊢
  clear hlb hS
  have h5 := St.sh [_, _, _, _] [2, 0, 1, 3] (by decide) H4.out
  simp only [List.map_cons, List.map_nil, List.getD_cons_zero, List.getD_cons_succ, List.cons_append, List.nil_append] at h5
  have HRD := Lib.hid (rdispatch_st acs S ty bub can s1 c1 P s2 c2 sm cm h5 hP HRP.out hA HRA.out HK.out hml hmx hmx2)
  obtain ⟨R, hR⟩ : ∃ R, restR acs P ty bub ⟨dNew ty bub can P, S, []⟩ 0 = R := ⟨_, rfl⟩
  obtain ⟨K, hKe⟩ : ∃ K : Ek, (⟨ty, bub, can, s1, P.length, c1, s2, acs.length, c2⟩ : Ek) = K := ⟨_, rfl⟩
  rw [hR, hKe] at HRD
  have HR := Lib.hid hR
  unfold mVal evVal at HRD
  clear hR hKe h5 H2
  go_wp2_with fail
  (with_reducible refine HRD.out.mono ?_)
  rintro e w5 ⟨sR, cR, sc, cc, rfl, h5⟩
  have h6 := h5.new (rCells K R.d R.S R.calls sR cR sc cc) 62
  obtain ⟨i0, i1, i2, i3⟩ := ev_cells (h6.blkm (.tail _ (.tail _ (.tail _ (.tail _ (.tail _ (.head _)))))))
  have H6 := Lib.hid h6
  clear h5 h6 HRD j0 j1 j2 j3 n0 n1 H4
  unfold rCells at i0 i1 i2 i3 H6 ⊢
  go_wp2_with fail
  refine (begun_st ty bub can s1 c1 P H6.out HRP.out (by omega)).mono ?_
  rintro e w7 ⟨sp, cp, rfl, h7⟩
  have h8 := St.sh [_, _, _, _, _] [0, 4, 1, 2, 3] (by decide) (d_make (d := dNew ty bub can P) h7 rfl)
  simp only [List.map_cons, List.map_nil, List.getD_cons_zero, List.getD_cons_succ, List.cons_append, List.nil_append] at h8
  have H8 := Lib.hid h8
  clear h7 h8 H6 i0 i1 i2 i3
  go_wp2_with fail
  generalize w5.heap.size = br at *
  generalize w7.heap.size = b at *
  have hmu0 : mu (dNew ty bub can P) ≤ 300000 := by simp only [mu, dNew, List.length_nil]; omega
  go_loopg [12] (mu (dNew ty bub can P)) (PlaysRel w [As.cells (lb + 1) #[.slice sm S.l.length cm, .int .i64 S.nx] 34, As.cells w.heap.size #[.string ty, .bool bub, .bool can, .slice s1 P.length c1] 25] b lb br K R sR cR sc cc acs)
  case atStart => exact ⟨0, dNew ty bub can P, S, [], rfl, rfl, by omega, ⟨fz_new hA ty bub can P S hP hml hmx hmx2, by rw [← HR.out]; exact Eqr.refl _, rfl, by intro h; cases h⟩, H8.out⟩
  case round =>
    obtain ⟨n, d, S, calls, hg, rfl, hn, hpv, hp⟩ := hrel
    have Hg := Lib.hid hg
    have HN := Lib.hid hn
    have HPv := Lib.hid hpv
    have hnb : n ≤ 1000000 := by omega
    have HN1 := Lib.hid (next_st hp (by have := hpv.fz.path; omega) hpv.fz.st (by have := hpv.fz.q; omega) (by have := hpv.fz.len; omega))
    have HO := Lib.hid (pv_next hpv)
    clear hg hn hpv hp H8
    go_wp2_with fail
    (with_reducible refine HN1.out.mono ?_)
    rintro e w15 ⟨rfl, h23⟩
    obtain ⟨o, ho⟩ : ∃ o, d.next S.l = o := ⟨_, rfl⟩
    rw [ho] at h23 HO ⊢
    clear ho HN1
    rcases HO.out with ⟨e1, e2, e3, e4, e5, e6, e7, e8, e9⟩ | ⟨c, e1, e2, e3, e4, e5, e6, e7⟩
    · rw [e1]
      unfold callVal
      simp only [Option.getD_none, Option.isSome_none]
      rw [e4, e5] at h23
      have h24 := h23.new (clCells Cl.zero) 48
      obtain ⟨p0, p1, p2, p3, p4, -⟩ := Blk.c5 h24.blk.1
      have h25 := St.sh [_, _, _] [1, 2, 0] (by decide) h24
      simp only [List.map_cons, List.map_nil, List.getD_cons_zero, List.getD_cons_succ, List.cons_append, List.nil_append] at h25
      obtain ⟨_, _, _, _, hd⟩ := d_open h25
      obtain ⟨-, a7, a8, a9, a10, a11, a12, a13⟩ := d_cells hd.blk.1
      obtain ⟨so, co, hl⟩ := l_open h25.swap
      obtain ⟨y0, -, -, -⟩ := hl.two
      obtain ⟨r0, -, -, -, -, -, -, r7, r8, r9, r10⟩ := r_cells (h24.blkm (.tail _ (.tail _ (.tail _ (.head _)))))
      have hrr := St.sh [_, _, _, _, _] [4, 0, 1, 2, 3] (by decide) h24
      simp only [List.map_cons, List.map_nil, List.getD_cons_zero, List.getD_cons_succ, List.cons_append, List.nil_append] at hrr
      have HS := Lib.hid (fun w2 (hb : Below (w15.alloc (.cells (clCells Cl.zero) 48)).heap.size (w15.alloc (.cells (clCells Cl.zero) 48)) w2) => same_any so co sR cR S.l w2 (hl.swap.sl.rd.below hb) (hrr.rc.rd.below hb) (by have := HPv.out.fz.len; omega))
      rw [e2] at a13
      rw [e3] at a8
      rw [e6] at r7
      rw [e7] at r8
      rw [e8] at r9
      rw [e9] at r10
      have H24 := Lib.hid h24
      clear e1 e2 e3 e4 e5 e6 e7 e8 e9 HO h23 h24 h25 hd hl hrr a7 a9
      unfold clCells Cl.zero at p0 p1 p2 p3 p4 a8 a10 a11 a12 a13 y0 r0 r7 r8 r9 r10 HS H24 ⊢
      simp only at p0 p1 p2 p3 p4
      go_wp2_with fail
      (with_reducible refine (HS.out _ (Below.refl _ _)).mono ?_)
      rintro e w16 ⟨rfl, hb16⟩
      clear p0 p1 p2 p3 p4 a8 a10 a11 a12 a13 y0 r0 r7 r8 r9 r10 HS
      go_wp2_with fail
      go_ret
      exact ⟨rfl, (H24.out.of_below hb16).bel⟩
    · rw [e1]
      unfold callVal
      simp only [Option.getD_some, Option.isSome_some]
      obtain ⟨hnl, hnc⟩ := List.getElem?_eq_some_iff.1 e2
      have h24 := h23.new (clCells c) 48
      obtain ⟨p0, p1, p2, p3, p4, -⟩ := Blk.c5 h24.blk.1
      have h25 := St.sh [_, _, _] [1, 2, 0] (by decide) h24
      simp only [List.map_cons, List.map_nil, List.getD_cons_zero, List.getD_cons_succ, List.cons_append, List.nil_append] at h25
      obtain ⟨_, _, _, _, hd⟩ := d_open h25
      obtain ⟨⟨-, -, -, -, -, -, a6⟩, a7, a8, -, -, -, -, -⟩ := d_cells hd.blk.1
      obtain ⟨-, -, -, -, -, -, -, r7, -, -, -⟩ := r_cells (h24.blkm (.tail _ (.tail _ (.tail _ (.head _)))))
      have hrd := (h24.slm (.tail _ (.tail _ (.tail _ (.tail _ (.tail _ (.head _))))))).rd
      obtain ⟨g1, o1, rfl, -⟩ := hrd.addr (by omega)
      obtain ⟨q0, q1, q2, q3, q4⟩ := cl_at hrd hnl c hnc
      have hn0 : (0 : Int) ≤ (n : Int) := by omega
      have hnl' : (n : Int) < (R.calls.length : Int) := by omega
      have hge : decide ((n : Int) ≥ (R.calls.length : Int)) = false := by simp; omega
      have hx0 := HPv.out.fz.nx0
      have hx1 := HPv.out.fz.nx1
      have HAc := Lib.hid (fun k => act_st s2 c2 acs (n : Int) (h25.drewN k) HRA.out HK.out (by simp only; omega) hx0 (by simp only; omega))
      rw [e3] at a6 a7
      rw [e4] at a8
      have E5 := Lib.hid e5
      have E6 := Lib.hid e6
      obtain ⟨x0, x1, ⟨x2, x3⟩, x4⟩ := c
      unfold clCells at p0 p1 p2 p3 p4 a6 a7 a8 r7 q0 q1 q2 q3 q4 HAc ⊢
      simp only at p0 p1 p2 p3 p4 a6 a7 a8 q0 q1 q2 q3 q4
      clear e1 e2 e3 e4 e5 e6 e7 HO h23 h24 h25 hd hrd hx0 hx1 hnc
      go_upto_region 13 with fail
      go_quiet (fail)
      go_wp2_with fail
      (with_reducible refine (HAc.out _).mono ?_)
      rintro e w17 ⟨rfl, h30⟩
      have h31 := St.sh [_, _, _] [2, 0, 1] (by decide) h30
      simp only [List.map_cons, List.map_nil, List.getD_cons_zero, List.getD_cons_succ, List.cons_append, List.nil_append] at h31
      have H31 := Lib.hid h31.drop
      clear h30 h31 HAc
      clear p0 p1 p2 p3 p4 a6 a7 a8 r7 q0 q1 q2 q3 q4
      go_wp2_with fail
      go_roundg (mu (actF n (o.d, ⟨o.l, S.nx⟩) acs).1)
      case measure => have := Hg.out; have := E6.out; omega
      case rel =>
        exact ⟨n + 1, (actF n (o.d, ⟨o.l, S.nx⟩) acs).1, (actF n (o.d, ⟨o.l, S.nx⟩) acs).2, _, rfl, by simp, by have := HN.out; have := E6.out; omega, E5.out, H31.out⟩
end Go.Proofs.Ytianjcbofgdfdaa
