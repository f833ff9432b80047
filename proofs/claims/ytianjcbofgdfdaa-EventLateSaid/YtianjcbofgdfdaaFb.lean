/-
  The walk of EventLate.
-/
import Derived.Test.YtianjcbofgdfdaaEy
import Derived.Test.YtianjcbofgdfdaaFa
set_option linter.unusedVariables false
set_option linter.unusedSimpArgs false
namespace Go.Proofs.Ytianjcbofgdfdaa
open Go.RowKit Go.K Go.K.Ev

def CbRel (X : List Li) (W : World) (g : Nat) (v : Value) (wr : World) : Prop :=
  ∃ k : Nat, g = X.length - k ∧ k ≤ X.length ∧ v = .int .i64 k ∧ wr = W ∧ ∀ j (hj : j < X.length), j < k → X[j].cb ≠ 987654321
def LtMid (P : List Tg) (ty : ByteArray) (bub : Bool) (d : Dp) (w : World) (b18 : Nat) (L : List As) (v19 : Value) (wc : World) : Prop :=
  ∃ (tt : Tg) (cc : Bool) (wv : Nat), v19 = .int .i64 wv ∧ (if (actv P ty bub (lateL tt ty cc) && decide ((d.st : Int) ≤ sgOf P (lateL tt ty cc))) = true then 1 else 0) = wv ∧ wv ≤ 1 ∧
    St w wc (As.cells b18 #[.int .i64 0, .int .i64 tt.kind, .int .i64 tt.id, .string ty, .int .i64 987654321, .bool cc, .bool false, .bool false] 41 :: L)
def LtRel (P : List Tg) (ty : ByteArray) (bub : Bool) (w : World) (L : List As) (b lb m want : Nat) (g : Nat) (v20 : Value) (wr : World) : Prop :=
  ∃ (n : Nat) (d : Dp) (l : List Li), g = mu d ∧ v20 = .int .i64 n ∧ n ≤ want ∧ Lt P ty bub m want n d l ∧ St w wr (dObj b d :: lObj lb ⟨l, (m : Int)⟩ :: L)

set_option maxRecDepth 100000 in
set_option maxHeartbeats 8000000 in
theorem late_go (s0 : Option Addr) (c0 : Nat) (X : List Li) (ty : ByteArray) (bub can : Bool) (s1 : Option Addr) (c1 : Nat) (P : List Tg) (outer : Bool) (w : World)
    (hX : X.length ≤ 40) (hP : P.length ≤ 12) (hrX : Rd w 8 s0 X.length (flat lcells X)) (hrP : Rd w 2 s1 P.length (flat gcells P)) (h2 : 2 ≤ P.length) (hbub : bub = true) :
    Calls Try.prog 5 #[.slice s0 X.length c0, evVal ty bub can s1 P.length c1, .bool outer] w fun e w' => e = .returned (.bool true) ∧ Below w.heap.size w w' := by
  have h2' : ¬ ((P.length : Int) < 2) := by omega
  have HBub := Lib.hid hbub
  clear hbub
  have h0 := (St.start w (Below.refl w.heap.size w)).new #[.string ty, .bool bub, .bool can, .slice s1 P.length c1] 25
  have H0 := Lib.hid h0
  have HRX := Lib.hid hrX
  have HRP := Lib.hid hrP
  have hd : (decide (X.length ≤ 40) && (decide (P.length ≤ 12) && decide (0 ≤ 30))) = true := by simp [hX, hP]
  have FA := fun w2 => Lib.hid (few_any s0 X.length c0 ty bub can s1 P.length c1 none 0 0 w2)
  simp only [hd] at FA
  clear h0 hrX hrP hd
  go_enter Try.func5, Try.ntmps5
  go_wp2_with fail
  refine (awake_any _).mono ?_
  rintro e w1 ⟨rfl, hb1⟩
  have H1 := Lib.hid (H0.out.of_below hb1)
  obtain ⟨k0, k1, k2, k3⟩ : w1.cell? ⟨w.heap.size, 0, none⟩ = some (.string ty) ∧ w1.cell? ⟨w.heap.size, 1, none⟩ = some (.bool bub) ∧ w1.cell? ⟨w.heap.size, 2, none⟩ = some (.bool can) ∧ w1.cell? ⟨w.heap.size, 3, none⟩ = some (.slice s1 P.length c1) := by
    have hbx := H1.out.blk.1
    have k0 := hbx.cell 0
    have k1 := hbx.cell 1
    have k2 := hbx.cell 2
    have k3 := hbx.cell 3
    simp at k0 k1 k2 k3
    exact ⟨k0, k1, k2, k3⟩
  clear hb1 H0
  go_wp2_with fail
  refine (FA w1).out.mono ?_
  rintro e w2 ⟨rfl, hb2⟩
  have hbl := H1.out.blk.1.lt
  replace k0 := (hb2.cell hbl).trans k0
  replace k1 := (hb2.cell hbl).trans k1
  replace k2 := (hb2.cell hbl).trans k2
  replace k3 := (hb2.cell hbl).trans k3
  have H2 := Lib.hid (H1.out.of_below hb2)
  clear H1 hb2 hbl FA
  rw [HBub.out] at k1
  go_wp2_with fail
  go_loopg [46] P.length (DfRel P w2)
  case atStart => exact ⟨0, rfl, Nat.zero_le _, rfl, Below.refl _ _, by simp⟩
  case round =>
    obtain ⟨i, hg, hi, rfl, hbw, hnd⟩ := hrel
    have Hg := Lib.hid hg
    have HNd := Lib.hid hnd
    have HW := Lib.hid (H2.out.of_below hbw)
    have HBW := Lib.hid hbw
    clear k0 k1 k2 k3 hg hnd hbw
    obtain ⟨k0, k1, k2, k3⟩ : wr.cell? ⟨w.heap.size, 0, none⟩ = some (.string ty) ∧ wr.cell? ⟨w.heap.size, 1, none⟩ = some (.bool bub) ∧ wr.cell? ⟨w.heap.size, 2, none⟩ = some (.bool can) ∧ wr.cell? ⟨w.heap.size, 3, none⟩ = some (.slice s1 P.length c1) := ev_cells (HW.out.blkm (.head _))
    obtain ⟨wo, rfl⟩ : ∃ wo : World, wo = wr := ⟨_, rfl⟩
    by_cases hin : i < P.length
    · obtain ⟨x, hx⟩ : ∃ x, P[i] = x := ⟨_, rfl⟩
      have HX := Lib.hid hx
      have hin' : (i : Int) < (P.length : Int) := by omega
      have hi0 : (0 : Int) ≤ (i : Int) := by omega
      clear hx
      go_wp2_with fail
      go_loopg [50] i (Df2Rel P x i wo)
      case atStart => exact ⟨0, rfl, Nat.zero_le _, rfl, Below.refl _ _, by intro j hj h; omega⟩
      case round =>
        obtain ⟨k, hg, hk, rfl, hbw, hall⟩ := hrel
        have Hg2 := Lib.hid hg
        have HA := Lib.hid hall
        have HB := Lib.hid hbw
        have HV := Lib.hid (HW.out.of_below hbw)
        clear k0 k1 k2 k3 hg hall hbw
        obtain ⟨k0, k1, k2, k3⟩ : wr.cell? ⟨w.heap.size, 0, none⟩ = some (.string ty) ∧ wr.cell? ⟨w.heap.size, 1, none⟩ = some (.bool bub) ∧ wr.cell? ⟨w.heap.size, 2, none⟩ = some (.bool can) ∧ wr.cell? ⟨w.heap.size, 3, none⟩ = some (.slice s1 P.length c1) := ev_cells (HV.out.blkm (.head _))
        by_cases hki : k < i
        · have hr := HRP.out.below HV.out.bel
          obtain ⟨g1, o1, rfl, -⟩ := hr.addr (by omega)
          obtain ⟨d0, d1⟩ := g_at hr hin x HX.out
          obtain ⟨y, hy⟩ : ∃ y, P[k]'(by omega) = y := ⟨_, rfl⟩
          obtain ⟨e0, e1⟩ := g_at hr (by omega) y hy
          have HY := Lib.hid hy
          have hki' : (k : Int) < (i : Int) := by omega
          have hkn' : (k : Int) < (P.length : Int) := by omega
          have hk0 : (0 : Int) ≤ (k : Int) := by omega
          obtain ⟨x1, x2⟩ := x
          obtain ⟨y1, y2⟩ := y
          simp only at d0 d1 e0 e1
          clear hy hr
          by_cases hs : Tg.same ⟨x1, x2⟩ ⟨y1, y2⟩ = true
          · have hs' := Tg.same_iff.1 hs
            cases hs'
            clear hs
            go_upto_region 9 with fail
            go_quiet (fail)
            go_wp2_with fail
            go_ret
            exact ⟨rfl, bel_drewN HV.out.bel _⟩
          · have hres := Lib.hid (show ¬ (Tg.same ⟨x1, x2⟩ ⟨y1, y2⟩ = true) from hs)
            have hor : (x1 == y1) = false ∨ ((x1 == y1) = true ∧ (x2 == y2) = false) := by
              by_cases q : x1 = y1
              · right; simp [Tg.same, q] at hs ⊢; exact hs
              · left; simp [q]
            clear hs
            rcases hor with o1 | ⟨o1, o2⟩
            all_goals
              go_upto_region 9 with fail
              go_quiet (fail)
              go_wp2_with fail
              go_roundg (i - (k + 1))
              case measure => have := Hg2.out; omega
              case rel =>
                refine ⟨k + 1, rfl, by omega, by simp, bel_drewN HB.out _, fun j hj hjk => ?_⟩
                by_cases e : j = k
                · subst e; rw [HY.out]; intro q; exact hres.out (by rw [q]; exact Tg.same_refl _)
                · exact HA.out j hj (by omega)
        · obtain rfl : k = i := by omega
          go_wp2_with fail
          go_roundg (P.length - (k + 1))
          case measure => have := Hg.out; omega
          case rel => exact ⟨k + 1, rfl, by omega, by simp, HBW.out.trans (HB.out.mono HBW.out.size), nodup_take hin HNd.out (fun j hj hjk => by rw [HX.out]; exact HA.out j hj hjk)⟩
    · obtain rfl : i = P.length := by omega
      have hPn := HNd.out
      rw [List.take_length] at hPn
      have HPn := Lib.hid hPn
      clear hPn HNd H2
      have H2 := Lib.hid HW.out
      clear HW
      rw [HBub.out] at k1
      go_wp2_with fail
      go_loopg [68] X.length (CbRel X wo)
      case atStart => exact ⟨0, rfl, Nat.zero_le _, rfl, rfl, by intro j hj h; omega⟩
      case round =>
        obtain ⟨i, hg, hi, rfl, rfl, hall⟩ := hrel
        have Hg := Lib.hid hg
        have HA := Lib.hid hall
        clear hg hall
        by_cases hin : i < X.length
        · have hr := HRX.out.below H2.out.bel
          obtain ⟨g1, o1, rfl, -⟩ := hr.addr (by omega)
          obtain ⟨x, hx⟩ : ∃ x, X[i] = x := ⟨_, rfl⟩
          obtain ⟨d0, d1, d2, d3, d4, d5, d6, d7⟩ := l_at hr hin x hx
          have HX := Lib.hid hx
          have hin' : (i : Int) < (X.length : Int) := by omega
          have hi0 : (0 : Int) ≤ (i : Int) := by omega
          clear hr hx d0 d1 d2 d3 d5 d6 d7
          by_cases hc : x.cb = 987654321
          · rw [hc] at d4
            clear hc
            go_wp2_with fail
            go_ret
            exact ⟨rfl, H2.out.bel⟩
          · have hcb : (x.cb == 987654321) = false := by simpa using hc
            have HCb := Lib.hid hc
            clear hc
            go_wp2_with fail
            go_roundg (X.length - (i + 1))
            case measure => have := Hg.out; omega
            case rel =>
              refine ⟨i + 1, rfl, by omega, by simp, rfl, fun j hj hjk => ?_⟩
              by_cases e : j = i
              · subst e; rw [HX.out]; exact HCb.out
              · exact HA.out j hj (by omega)
        · obtain rfl : i = X.length := by omega
          have HCB := Lib.hid (made_cb X (fun x hx => by
            obtain ⟨j, hj, rfl⟩ := List.getElem_of_mem hx
            exact HA.out j hj hj))
          have HNX := Lib.hid (made_nx X)
          clear HA
          go_wp2_with fail
          refine (made_st s0 c0 X H2.out HRX.out (by omega)).mono ?_
          rintro e w3 ⟨sl, cl, sm, cm, rfl, h3⟩
          have H3 := Lib.hid h3
          clear h3 k0 k1 k2 k3
          go_wp2_with fail
          obtain ⟨hml, hmx, hmx2⟩ : (madeS X).l.length ≤ 40 ∧ 0 ≤ (madeS X).nx ∧ (madeS X).nx ≤ 40 := by
            obtain ⟨q1, q2, q3⟩ := madeS_len X X.length
            rw [List.take_length] at q1 q2 q3
            exact ⟨by omega, q2, by omega⟩
          have h4 := St.sh [_, _, _, _, _] [1, 2, 0, 3, 4] (by decide) ((H3.out.new #[.slice sl (madeS X).l.length cl, .int .i64 (madeS X).nx] 32).new #[.slice sm (madeS X).l.length cm, .int .i64 (madeS X).nx] 34)
          simp only [List.map_cons, List.map_nil, List.getD_cons_zero, List.getD_cons_succ, List.cons_append, List.nil_append, World.size_alloc] at h4
          replace h4 := l_shut h4
          have H4 := Lib.hid h4
          clear h4 H3
          generalize (w3.alloc (Obj.cells #[Value.slice sl (madeS X).l.length cl, Value.int IntKind.i64 (madeS X).nx] 32)).alloc
              (Obj.cells #[Value.slice sm (madeS X).l.length cm, Value.int IntKind.i64 (madeS X).nx] 34) = w4 at *
          generalize hlb : w3.heap.size = lb at *
          have hids := Lib.hid (madeS_ids X)
          obtain ⟨S, hS⟩ : ∃ S, madeS X = S := ⟨_, rfl⟩
          rw [hS] at hml hmx hmx2 H4 hids HCB HNX ⊢
          clear hlb hS
          refine (lclone_st H4.out (by omega)).mono ?_
          rintro e w5 ⟨sa, ca, rfl, h5⟩
          have h6 := St.sh [_, _, _] [0, 2, 1] (by decide) (h5.new #[.slice sa S.l.length ca, .int .i64 S.nx] 32)
          simp only [List.map_cons, List.map_nil, List.getD_cons_zero, List.getD_cons_succ, List.cons_append, List.nil_append, World.size_alloc] at h6
          have H6 := Lib.hid h6
          obtain ⟨k0, k1, k2, k3⟩ : (w5.alloc (.cells #[.slice sa S.l.length ca, .int .i64 S.nx] 32)).cell? ⟨w.heap.size, 0, none⟩ = some (.string ty) ∧ (w5.alloc (.cells #[.slice sa S.l.length ca, .int .i64 S.nx] 32)).cell? ⟨w.heap.size, 1, none⟩ = some (.bool bub) ∧ (w5.alloc (.cells #[.slice sa S.l.length ca, .int .i64 S.nx] 32)).cell? ⟨w.heap.size, 2, none⟩ = some (.bool can) ∧ (w5.alloc (.cells #[.slice sa S.l.length ca, .int .i64 S.nx] 32)).cell? ⟨w.heap.size, 3, none⟩ = some (.slice s1 P.length c1) := by
            have hbx := H6.out.blkm (.tail _ (.tail _ (.tail _ (.tail _ (.tail _ (.head _))))))
            have k0 := hbx.cell 0
            have k1 := hbx.cell 1
            have k2 := hbx.cell 2
            have k3 := hbx.cell 3
            simp at k0 k1 k2 k3
            exact ⟨k0, k1, k2, k3⟩
          clear h5 h6 H4
          go_wp2_with fail
          refine (begun_st ty bub can s1 c1 P H6.out HRP.out (by omega)).mono ?_
          rintro e w7 ⟨sp, cp, rfl, h7⟩
          have h8 := St.sh [_, _, _, _] [0, 2, 1, 3] (by decide) (d_make (d := dNew ty bub can P) h7 rfl)
          simp only [List.map_cons, List.map_nil, List.getD_cons_zero, List.getD_cons_succ, List.cons_append, List.nil_append] at h8
          have H8 := Lib.hid h8
          have hbe : w7.heap.size ≠ w.heap.size := by
            obtain ⟨q1, q2, q3, q4, hd⟩ := d_open h8
            exact hd.ne (.tail _ (.tail _ (.tail _ (.tail _ (.tail _ (.tail _ (.tail _ (.head _))))))))
          clear h7 h8 H6 k0 k1 k2 k3 H2
          go_wp2_with fail
          generalize w5.heap.size = ta at *
          generalize w7.heap.size = b at *
          obtain ⟨nx, hnx⟩ : ∃ nx : Nat, (nx : Int) = S.nx := ⟨S.nx.toNat, by omega⟩
          have HNq := Lib.hid hnx
          clear hnx
          have HN := Lib.hid (next_st H8.out (by simp only [dNew]; omega) (by simp [dNew]) (by simp [dNew]) (by first | omega | (simp only; omega)))
          have hin0 : In P ty bub (dNew ty bub can P) S.l := in_new hP (by omega) hids.out
          have HC := Lib.hid (next_in' HPn.out (fun _ => true) hin0)
          clear hin0 H8
          refine HN.out.mono ?_
          rintro e w9 ⟨rfl, h9⟩
          obtain ⟨d0, hd0⟩ : ∃ d0, dNew ty bub can P = d0 := ⟨_, rfl⟩
          rw [hd0] at h9 HC ⊢
          clear hd0
          rcases HC.out with ⟨e1, e2⟩ | ⟨c, x, e1, hx⟩
          · simp only [e1] at h9 ⊢
            have H9 := Lib.hid (h9.new (clCells Cl.zero) 48)
            clear h9 HC HN e1 e2
            unfold callVal clCells
            go_wp2_with fail
            go_ret
            exact ⟨rfl, H9.out.bel⟩
          · have HX := Lib.hid hx
            simp only [e1] at h9 ⊢
            have h10 := h9.new (clCells c) 48
            have h11 := St.sh [_, _, _] [1, 2, 0] (by decide) h10
            simp only [List.map_cons, List.map_nil, List.getD_cons_zero, List.getD_cons_succ, List.cons_append, List.nil_append] at h11
            have H11 := Lib.hid h11
            obtain ⟨p0, -, -, -, -, -⟩ := Blk.c5 h10.blk.1
            obtain ⟨k0, k1, k2, k3⟩ : (w9.alloc (.cells (clCells c) 48)).cell? ⟨w.heap.size, 0, none⟩ = some (.string ty) ∧ (w9.alloc (.cells (clCells c) 48)).cell? ⟨w.heap.size, 1, none⟩ = some (.bool bub) ∧ (w9.alloc (.cells (clCells c) 48)).cell? ⟨w.heap.size, 2, none⟩ = some (.bool can) ∧ (w9.alloc (.cells (clCells c) 48)).cell? ⟨w.heap.size, 3, none⟩ = some (.slice s1 P.length c1) := ev_cells (h10.blkm (.tail _ (.tail _ (.tail _ (.tail _ (.tail _ (.tail _ (.tail _ (.head _)))))))))
            have HF1 := Lib.hid (found_any sa ca S.l S.nx x.id (w9.alloc (.cells (clCells c) 48)) ((H11.out.slm (.tail _ (.tail _ (.tail _ (.tail _ (.head _)))))).rd) (by omega))
            rw [found_of hids.out hx.mem] at HF1
            obtain ⟨y0, y1, -, -⟩ := (H11.out.blkm (.tail _ (.tail _ (.tail _ (.head _))))).two
            rw [hx.id] at p0
            obtain ⟨o, ho⟩ : ∃ o, d0.next S.l = o := ⟨_, rfl⟩
            rw [ho] at HX H11
            clear h9 h10 h11 hx e1 HC HN ho
            unfold callVal clCells
            unfold clCells at p0 k0 k1 k2 k3 y0 y1 H11 HF1
            go_upto_region 25 with fail
            generalize w9.alloc (.cells #[.int .i64 c.id, .int .i64 c.cb, .int .i64 c.cur.kind, .int .i64 c.cur.id, .int .i64 c.ph] 48) = w10 at *
            obtain ⟨x0, ⟨x1, x2⟩, x3, x4, x5, x6, x7⟩ := x
            simp only at p0 HF1
            unfold lval at HF1
            go_wp2_with fail
            refine HF1.out.mono ?_
            rintro e w12 ⟨rfl, hb12⟩
            replace k0 := bel_cell hb12 k0
            replace k3 := bel_cell hb12 k3
            have hk0l := World.block_lt_of_cell? _ _ k0
            have H12 := Lib.hid (H11.out.of_below hb12)
            clear k1 k2 p0 y0 y1 HF1 H11 hb12
            have hxi := HX.out
            have hst := hxi.st
            have hac := hxi.act
            have HIv := Lib.hid hxi.inv
            have HSb := Lib.hid hxi.sub
            have HST := Lib.hid hst
            have HAC := Lib.hid hac
            clear hxi hst hac
            have hal : ∀ (t1 t2 : Int) (cc : Bool), St w ((w12.alloc (.cells #[.int .i64 x0, .int .i64 x1, .int .i64 x2, .string x3, .int .i64 x4, .bool x5, .bool x6, .bool x7] 41)).alloc (.cells #[.int .i64 0, .int .i64 t1, .int .i64 t2, .string ty, .int .i64 987654321, .bool cc, .bool false, .bool false] 41)) (As.cells (w12.heap.size + 1) #[.int .i64 0, .int .i64 t1, .int .i64 t2, .string ty, .int .i64 987654321, .bool cc, .bool false, .bool false] 41 :: [As.cells w12.heap.size #[.int .i64 x0, .int .i64 x1, .int .i64 x2, .string x3, .int .i64 x4, .bool x5, .bool x6, .bool x7] 41, dObj b o.d, lObj lb ⟨o.l, S.nx⟩, As.cells w9.heap.size #[.int .i64 c.id, .int .i64 c.cb, .int .i64 c.cur.kind, .int .i64 c.cur.id, .int .i64 c.ph] 48, As.cells ta #[.slice sa S.l.length ca, .int .i64 S.nx] 32, As.row 41 8 sa S.l.length ca (flat lcells S.l), As.cells (lb + 1) #[.slice sm S.l.length cm, .int .i64 S.nx] 34, As.rdr 8 sm S.l.length cm (flat lcells S.l), As.cells w.heap.size #[.string ty, .bool bub, .bool can, .slice s1 P.length c1] 25]) := fun t1 t2 cc => by
              have h := (H12.out.new #[.int .i64 x0, .int .i64 x1, .int .i64 x2, .string x3, .int .i64 x4, .bool x5, .bool x6, .bool x7] 41).new #[.int .i64 0, .int .i64 t1, .int .i64 t2, .string ty, .int .i64 987654321, .bool cc, .bool false, .bool false] 41
              rw [World.size_alloc] at h
              exact h
            have HAl := Lib.hid hal
            clear hal
            go_upto_if 104 with fail
            go_cut [19] (fun v19 wc => LtMid P ty bub o.d w (w12.heap.size + 1) [As.cells w12.heap.size #[.int .i64 x0, .int .i64 x1, .int .i64 x2, .string x3, .int .i64 x4, .bool x5, .bool x6, .bool x7] 41, dObj b o.d, lObj lb ⟨o.l, S.nx⟩, As.cells w9.heap.size #[.int .i64 c.id, .int .i64 c.cb, .int .i64 c.cur.kind, .int .i64 c.cur.id, .int .i64 c.ph] 48, As.cells ta #[.slice sa S.l.length ca, .int .i64 S.nx] 32, As.row 41 8 sa S.l.length ca (flat lcells S.l), As.cells (lb + 1) #[.slice sm S.l.length cm, .int .i64 S.nx] 34, As.rdr 8 sm S.l.length cm (flat lcells S.l), As.cells w.heap.size #[.string ty, .bool bub, .bool can, .slice s1 P.length c1] 25] v19 wc)
            case first =>
              cases outer with
              | false =>
                go_wp2_with fail
                go_meet
                exact ⟨⟨x1, x2⟩, x5, 0, rfl, late_same (x := ⟨x0, ⟨x1, x2⟩, x3, x4, x5, x6, x7⟩) HST.out, by omega, HAl.out x1 x2 x5⟩
              | true =>
                have hr := HRP.out.below (H12.out.bel)
                obtain ⟨g1, o1, rfl, -⟩ := hr.addr (by omega)
                obtain ⟨q, hq⟩ : ∃ q, P.length = q + 1 := ⟨P.length - 1, by omega⟩
                have hqn : q < P.length := by omega
                obtain ⟨t, ht⟩ : ∃ t, P[q] = t := ⟨_, rfl⟩
                obtain ⟨d0', d1'⟩ := g_at hr hqn t ht
                have hwv := late_outer (ty := ty) (d := o.d) (x := ⟨x0, ⟨x1, x2⟩, x3, x4, x5, x6, x7⟩) HPn.out HST.out (by have := HAC.out; rwa [HBub.out] at this) h2 t (by rw [← ht]; congr 1; omega)
                have hg1 := World.block_lt_of_cell? _ _ d0'
                have hqi : (P.length : Int) - 1 = (q : Int) := by omega
                have hq0 : (0 : Int) ≤ (q : Int) := by omega
                have hqn' : (q : Int) < (P.length : Int) := by omega
                have HWv := Lib.hid hwv
                obtain ⟨t1, t2⟩ := t
                simp only at d0' d1'
                clear hr hq ht hwv
                have HAl2 := Lib.hid (HAl.out t1 t2 false)
                have hcs : x5 = true ∨ (x5 = false ∧ (Tg.same ⟨x1, x2⟩ ⟨t1, t2⟩ = true ∨ (Tg.same ⟨x1, x2⟩ ⟨t1, t2⟩ = false ∧ ((x1 == t1) = false ∨ ((x1 == t1) = true ∧ (x2 == t2) = false))))) := by
                  cases x5
                  · refine .inr ⟨rfl, ?_⟩
                    by_cases e : Tg.same ⟨x1, x2⟩ ⟨t1, t2⟩ = true
                    · exact .inl e
                    · refine .inr ⟨by simpa using e, ?_⟩
                      by_cases q : x1 = t1
                      · right; simp [Tg.same, q] at e ⊢; exact e
                      · left; simp [q]
                  · exact .inl rfl
                rcases hcs with rfl | ⟨rfl, hs | ⟨hs, o2 | ⟨o2, o3⟩⟩⟩
                · have hw1 := HWv.out
                  simp only [Bool.true_or, if_true] at hw1
                  have HW1 := Lib.hid hw1
                  clear hw1
                  go_wp2_with fail
                  go_meet
                  exact ⟨⟨t1, t2⟩, false, 1, rfl, by rw [HBub.out]; exact HW1.out, by omega, HAl2.out⟩
                · have hw1 := HWv.out
                  simp only [hs, Bool.false_or, Bool.not_true, Bool.false_eq_true, if_false] at hw1
                  have HW1 := Lib.hid hw1
                  have hs' := Tg.same_iff.1 hs
                  clear hw1 hs
                  cases hs'
                  go_wp2_with fail
                  go_meet
                  exact ⟨⟨x1, x2⟩, false, 0, rfl, by rw [HBub.out]; exact HW1.out, by omega, HAl2.out⟩
                all_goals
                  have hw1 := HWv.out
                  simp only [hs, Bool.false_or, Bool.not_false, if_true] at hw1
                  have HW1 := Lib.hid hw1
                  clear hw1 hs
                  go_wp2_with fail
                  go_meet
                  exact ⟨⟨t1, t2⟩, false, 1, rfl, by rw [HBub.out]; exact HW1.out, by omega, HAl2.out⟩
            case rest =>
              obtain ⟨tt, cc, wv, rfl, hwv, hwv1, h14⟩ := hcut
              obtain ⟨m, hm⟩ : ∃ m, nx + 1 = m := ⟨_, rfl⟩
              have hcb : ∀ x ∈ o.l, x.cb ≠ 987654321 := fun x hx => HCB.out x (HSb.out.subset hx)
              obtain ⟨hla, hli⟩ := late_add (l := o.l) (nx := S.nx) tt ty cc hcb m (by have := HNq.out; omega)
              have hlt := lt_start (m := m) (bub := bub) HIv.out (fun x hx => by have := HNX.out x (HSb.out.subset hx); have := HNq.out; omega) hcb (by have := HSb.out.length_le; omega) tt cc wv hwv
              have HLt := Lib.hid hlt
              have HLA := Lib.hid hla
              have HLI := Lib.hid hli
              obtain ⟨k0', k1', k2', k3', k4', k5', k6', k7'⟩ := Blk.c8 h14.blk.1
              have h15 := St.sh [_, _, _, _] [3, 0, 1, 2] (by decide) h14
              simp only [List.map_cons, List.map_nil, List.getD_cons_zero, List.getD_cons_succ, List.cons_append, List.nil_append] at h15
              have HAdd := Lib.hid (ladd_st (lateL tt ty cc) h15 (by have := HSb.out.length_le; simp only; omega) (by simp only; omega) (by simp only; omega))
              have hm0 : ((m : Int) == 0) = false := by simp; omega
              clear k0 k3 hwv hla hli hlt hcb h14 h15 H12 HAl hm HIv
              unfold lateL lval at HAdd
              go_wp2_with fail
              (with_reducible refine HAdd.out.mono ?_)
              rintro e w14 ⟨rfl, h16⟩
              have hli' := HLI.out
              have hla' := HLA.out
              unfold lateL at hli' hla'
              rw [hli']
              rw [hla'] at h16
              have h17 := St.sh [_, _, _, _] [3, 0, 1, 2] (by decide) h16
              simp only [List.map_cons, List.map_nil, List.getD_cons_zero, List.getD_cons_succ, List.cons_append, List.nil_append] at h17
              have H17 := Lib.hid h17
              clear k0' k1' k2' k3' k4' k5' k6' k7' hli' hla' h16 h17 HAdd HLI HLA
              go_wp2_with fail
              go_loopg [20] (mu o.d) (LtRel P ty bub w (As.cells (w12.heap.size + 1) #[.int .i64 0, .int .i64 tt.kind, .int .i64 tt.id, .string ty, .int .i64 987654321, .bool cc, .bool false, .bool false] 41 :: [As.cells w12.heap.size #[.int .i64 x0, .int .i64 x1, .int .i64 x2, .string x3, .int .i64 x4, .bool x5, .bool x6, .bool x7] 41, As.cells w9.heap.size #[.int .i64 c.id, .int .i64 c.cb, .int .i64 c.cur.kind, .int .i64 c.cur.id, .int .i64 c.ph] 48, As.cells ta #[.slice sa S.l.length ca, .int .i64 S.nx] 32, As.row 41 8 sa S.l.length ca (flat lcells S.l), As.cells (lb + 1) #[.slice sm S.l.length cm, .int .i64 S.nx] 34, As.rdr 8 sm S.l.length cm (flat lcells S.l), As.cells w.heap.size #[.string ty, .bool bub, .bool can, .slice s1 P.length c1] 25]) b lb m wv)
              case atStart => exact ⟨0, o.d, _, rfl, rfl, Nat.zero_le _, HLt.out, H17.out⟩
              case round =>
                obtain ⟨n, d, l, hg, rfl, hn, hlt, hp⟩ := hrel
                have Hg := Lib.hid hg
                have HLt' := Lib.hid hlt
                have Hp := Lib.hid hp
                have HN := Lib.hid (next_st Hp.out (by have := HLt'.out.inv.lim.path; omega) HLt'.out.inv.lim.st (by have := HLt'.out.inv.lim.q; omega) (by have := HLt'.out.len; simp only; omega))
                have HC := Lib.hid (lt_next HPn.out HLt'.out)
                clear hg hlt hp H17 HLt
                go_wp2_with fail
                (with_reducible refine HN.out.mono ?_)
                rintro e w15 ⟨rfl, h18⟩
                rcases HC.out with ⟨e1, e2⟩ | ⟨c', e1, e2, e3, e4⟩
                · subst e2
                  simp only [e1] at h18 ⊢
                  have H19 := Lib.hid (h18.new (clCells Cl.zero) 48)
                  clear h18 HC HN e1
                  unfold callVal clCells
                  go_wp2_with fail
                  go_ret
                  exact ⟨rfl, H19.out.bel⟩
                · simp only [e1] at h18 ⊢
                  have h19 := h18.new (clCells c') 48
                  have H20 := Lib.hid h19.drop
                  obtain ⟨-, p1, -, -, -, -⟩ := Blk.c5 h19.blk.1
                  obtain ⟨-, -, -, -, l4, -, -, -⟩ := Blk.c8 (h19.blkm (.tail _ (.tail _ (.tail _ (.head _)))))
                  have E2 := Lib.hid e2
                  have E3 := Lib.hid e3
                  have E4 := Lib.hid e4
                  obtain ⟨o', ho'⟩ : ∃ o', d.next l = o' := ⟨_, rfl⟩
                  rw [ho'] at E2 E3 E4 H20
                  clear h18 h19 HC HN e1 e2 e3 e4 ho'
                  unfold callVal clCells
                  unfold clCells at p1 l4
                  by_cases hk : c'.cb = 987654321
                  · have hl2 := E3.out hk
                    have hn2 : n + 1 ≤ wv := by have := hl2.rem; omega
                    have HL2 := Lib.hid hl2
                    have hkb : (c'.cb == 987654321) = true := by simpa using hk
                    clear hl2 hk
                    go_wp2_with fail
                    go_roundg (mu o'.d)
                    case measure => have := Hg.out; have := E2.out; omega
                    case rel => exact ⟨n + 1, o'.d, o'.l, rfl, by simp, hn2, HL2.out, H20.out⟩
                  · have HL2 := Lib.hid (E4.out hk)
                    have hkb : (c'.cb == 987654321) = false := by simpa using hk
                    clear hk
                    go_wp2_with fail
                    go_roundg (mu o'.d)
                    case measure => have := Hg.out; have := E2.out; omega
                    case rel => exact ⟨n, o'.d, o'.l, rfl, rfl, hn, HL2.out, H20.out⟩
end Go.Proofs.Ytianjcbofgdfdaa
