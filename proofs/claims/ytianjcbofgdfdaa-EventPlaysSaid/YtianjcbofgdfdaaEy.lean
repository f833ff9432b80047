/-
  The walk of EventOrder.
-/
import Derived.Test.YtianjcbofgdfdaaEx
set_option linter.unusedVariables false
set_option linter.unusedSimpArgs false
namespace Go.Proofs.Ytianjcbofgdfdaa
open Go.RowKit Go.K Go.K.Ev

theorem ev_cells {w' : World} {b : Nat} {ty : ByteArray} {bub can : Bool} {s1 : Option Addr} {n c1 : Nat} (hbx : Blk w' b #[.string ty, .bool bub, .bool can, .slice s1 n c1] 25) :
    w'.cell? ⟨b, 0, none⟩ = some (.string ty) ∧ w'.cell? ⟨b, 1, none⟩ = some (.bool bub) ∧ w'.cell? ⟨b, 2, none⟩ = some (.bool can) ∧ w'.cell? ⟨b, 3, none⟩ = some (.slice s1 n c1) := by
  have k0 := hbx.cell 0
  have k1 := hbx.cell 1
  have k2 := hbx.cell 2
  have k3 := hbx.cell 3
  simp at k0 k1 k2 k3
  exact ⟨k0, k1, k2, k3⟩

theorem bel_cell {w w' : World} {p : Addr} {v : Value} (h : Below w.heap.size w w') (hc : w.cell? p = some v) : w'.cell? p = some v := (h.cell (World.block_lt_of_cell? _ _ hc)).trans hc
def DfRel (P : List Tg) (W : World) (g : Nat) (v : Value) (wr : World) : Prop :=
  ∃ k : Nat, g = P.length - k ∧ k ≤ P.length ∧ v = .int .i64 k ∧ Below W.heap.size W wr ∧ (P.take k).Nodup
def Df2Rel (P : List Tg) (t : Tg) (i : Nat) (W : World) (g : Nat) (v : Value) (wr : World) : Prop :=
  ∃ k : Nat, g = i - k ∧ k ≤ i ∧ v = .int .i64 k ∧ Below W.heap.size W wr ∧ ∀ j (hj : j < P.length), j < k → P[j] ≠ t
theorem nodup_take {P : List Tg} {i : Nat} (hi : i < P.length) (h : (P.take i).Nodup) (ha : ∀ j (hj : j < P.length), j < i → P[j] ≠ P[i]) : (P.take (i + 1)).Nodup := by
  rw [List.take_succ_eq_append_getElem hi, List.nodup_append]
  refine ⟨h, by simp, fun a hm b hb => ?_⟩
  simp at hb
  subst hb
  obtain ⟨j, hj, rfl⟩ := List.getElem_of_mem hm
  simp at hj
  rw [List.getElem_take]
  exact ha j (by omega) (by omega)

def CtRel (P : List Tg) (ty : ByteArray) (bub : Bool) (l : List Li) (W : World) (g : Nat) (v11 v67 : Value) (wr : World) : Prop :=
  ∃ k : Nat, g = l.length - k ∧ k ≤ l.length ∧ v67 = .int .i64 k ∧ v11 = .int .i64 ((l.take k).countP (actv P ty bub) : Nat) ∧ Below W.heap.size W wr
theorem countP_succ {l : List Li} (f : Li → Bool) {k : Nat} (hk : k < l.length) : (l.take (k + 1)).countP f = (l.take k).countP f + if f l[k] then 1 else 0 := by
  rw [List.take_succ_eq_append_getElem hk, List.countP_append, List.countP_singleton]
theorem countP_le' {l : List Li} (f : Li → Bool) (k : Nat) : (l.take k).countP f ≤ k := Nat.le_trans List.countP_le_length (List.length_take_le _ _)

def OrRel (P : List Tg) (ty : ByteArray) (bub : Bool) (w : World) (L : List As) (b lb : Nat) (nx : Int) (S : List Li) (want : Nat) (g : Nat) (v15 v16 v17 : Value) (wr : World) : Prop :=
  ∃ (n : Nat) (d : Dp) (l : List Li) (last lid : Int), g = want - n ∧ v15 = .int .i64 last ∧ v16 = .int .i64 lid ∧ v17 = .int .i64 n ∧ In P ty bub d l ∧ n + rem P ty bub (fun _ => true) d l = want ∧ l.Sublist S ∧
    -1 ≤ last ∧ last + 1 ≤ d.st ∧ (last + 1 = d.st → ∀ id ∈ d.q, lid < id) ∧ St w wr (dObj b d :: lObj lb ⟨l, nx⟩ :: L)

set_option maxRecDepth 100000 in
set_option maxHeartbeats 8000000 in
theorem order_go (s0 : Option Addr) (c0 : Nat) (X : List Li) (ty : ByteArray) (bub can : Bool) (s1 : Option Addr) (c1 : Nat) (P : List Tg) (w : World)
    (hX : X.length ≤ 40) (hP : P.length ≤ 12) (hrX : Rd w 8 s0 X.length (flat lcells X)) (hrP : Rd w 2 s1 P.length (flat gcells P)) :
    Calls Try.prog 3 #[.slice s0 X.length c0, evVal ty bub can s1 P.length c1] w fun e w' => e = .returned (.bool true) ∧ Below w.heap.size w w' := by
  have h0 := (St.start w (Below.refl w.heap.size w)).new #[.string ty, .bool bub, .bool can, .slice s1 P.length c1] 25
  have H0 := Lib.hid h0
  have HRX := Lib.hid hrX
  have HRP := Lib.hid hrP
  have hd : (decide (X.length ≤ 40) && (decide (P.length ≤ 12) && decide (0 ≤ 30))) = true := by simp [hX, hP]
  have FA := fun w2 => Lib.hid (few_any s0 X.length c0 ty bub can s1 P.length c1 none 0 0 w2)
  simp only [hd] at FA
  clear h0 hrX hrP hd
  go_enter Try.func3, Try.ntmps3
  go_wp2_with fail
  refine (awake_any _).mono ?_
  rintro e w1 ⟨rfl, hb1⟩
  have H1 := Lib.hid (H0.out.of_below hb1)
  obtain ⟨k0, k1, k2, k3⟩ : w1.cell? ⟨w.heap.size, 0, none⟩ = some (.string ty) ∧ w1.cell? ⟨w.heap.size, 1, none⟩ = some (.bool bub) ∧ w1.cell? ⟨w.heap.size, 2, none⟩ = some (.bool can) ∧ w1.cell? ⟨w.heap.size, 3, none⟩ = some (.slice s1 P.length c1) := by
    have hbx := H1.out.blk.1
    have k0 := hbx.cell 0
    have k1 := hbx.cell 1
    have k2 := hbx.cell 2
    have k3 := hbx.cell 3
    simp at k0 k1 k2 k3
    exact ⟨k0, k1, k2, k3⟩
  clear hb1 H0
  go_wp2_with fail
  refine (FA w1).out.mono ?_
  rintro e w2 ⟨rfl, hb2⟩
  have hbl := H1.out.blk.1.lt
  replace k0 := (hb2.cell hbl).trans k0
  replace k1 := (hb2.cell hbl).trans k1
  replace k2 := (hb2.cell hbl).trans k2
  replace k3 := (hb2.cell hbl).trans k3
  have H2 := Lib.hid (H1.out.of_below hb2)
  clear H1 hb2 hbl FA
  go_wp2_with fail
  go_loopg [35] P.length (DfRel P w2)
  case atStart => exact ⟨0, rfl, Nat.zero_le _, rfl, Below.refl _ _, by simp⟩
  case round =>
    obtain ⟨i, hg, hi, rfl, hbw, hnd⟩ := hrel
    have Hg := Lib.hid hg
    have HNd := Lib.hid hnd
    have HW := Lib.hid (H2.out.of_below hbw)
    have HBW := Lib.hid hbw
    clear k0 k1 k2 k3 hg hnd hbw
    obtain ⟨k0, k1, k2, k3⟩ : wr.cell? ⟨w.heap.size, 0, none⟩ = some (.string ty) ∧ wr.cell? ⟨w.heap.size, 1, none⟩ = some (.bool bub) ∧ wr.cell? ⟨w.heap.size, 2, none⟩ = some (.bool can) ∧ wr.cell? ⟨w.heap.size, 3, none⟩ = some (.slice s1 P.length c1) := ev_cells (HW.out.blkm (.head _))
    obtain ⟨wo, rfl⟩ : ∃ wo : World, wo = wr := ⟨_, rfl⟩
    by_cases hin : i < P.length
    · obtain ⟨x, hx⟩ : ∃ x, P[i] = x := ⟨_, rfl⟩
      have HX := Lib.hid hx
      have hin' : (i : Int) < (P.length : Int) := by omega
      have hi0 : (0 : Int) ≤ (i : Int) := by omega
      clear hx
      go_wp2_with fail
      go_loopg [39] i (Df2Rel P x i wo)
      case atStart => exact ⟨0, rfl, Nat.zero_le _, rfl, Below.refl _ _, by intro j hj h; omega⟩
      case round =>
        obtain ⟨k, hg, hk, rfl, hbw, hall⟩ := hrel
        have Hg2 := Lib.hid hg
        have HA := Lib.hid hall
        have HB := Lib.hid hbw
        have HV := Lib.hid (HW.out.of_below hbw)
        clear k0 k1 k2 k3 hg hall hbw
        obtain ⟨k0, k1, k2, k3⟩ : wr.cell? ⟨w.heap.size, 0, none⟩ = some (.string ty) ∧ wr.cell? ⟨w.heap.size, 1, none⟩ = some (.bool bub) ∧ wr.cell? ⟨w.heap.size, 2, none⟩ = some (.bool can) ∧ wr.cell? ⟨w.heap.size, 3, none⟩ = some (.slice s1 P.length c1) := ev_cells (HV.out.blkm (.head _))
        by_cases hki : k < i
        · have hr := HRP.out.below HV.out.bel
          obtain ⟨g1, o1, rfl, -⟩ := hr.addr (by omega)
          obtain ⟨d0, d1⟩ := g_at hr hin x HX.out
          obtain ⟨y, hy⟩ : ∃ y, P[k]'(by omega) = y := ⟨_, rfl⟩
          obtain ⟨e0, e1⟩ := g_at hr (by omega) y hy
          have HY := Lib.hid hy
          have hki' : (k : Int) < (i : Int) := by omega
          have hkn' : (k : Int) < (P.length : Int) := by omega
          have hk0 : (0 : Int) ≤ (k : Int) := by omega
          obtain ⟨x1, x2⟩ := x
          obtain ⟨y1, y2⟩ := y
          simp only at d0 d1 e0 e1
          clear hy hr
          by_cases hs : Tg.same ⟨x1, x2⟩ ⟨y1, y2⟩ = true
          · have hs' := Tg.same_iff.1 hs
            cases hs'
            clear hs
            go_upto_region 9 with fail
            go_quiet (fail)
            go_wp2_with fail
            go_ret
            exact ⟨rfl, bel_drewN HV.out.bel _⟩
          · have hres := Lib.hid (show ¬ (Tg.same ⟨x1, x2⟩ ⟨y1, y2⟩ = true) from hs)
            have hor : (x1 == y1) = false ∨ ((x1 == y1) = true ∧ (x2 == y2) = false) := by
              by_cases q : x1 = y1
              · right; simp [Tg.same, q] at hs ⊢; exact hs
              · left; simp [q]
            clear hs
            rcases hor with o1 | ⟨o1, o2⟩
            all_goals
              go_upto_region 9 with fail
              go_quiet (fail)
              go_wp2_with fail
              go_roundg (i - (k + 1))
              case measure => have := Hg2.out; omega
              case rel =>
                refine ⟨k + 1, rfl, by omega, by simp, bel_drewN HB.out _, fun j hj hjk => ?_⟩
                by_cases e : j = k
                · subst e; rw [HY.out]; intro q; exact hres.out (by rw [q]; exact Tg.same_refl _)
                · exact HA.out j hj (by omega)
        · obtain rfl : k = i := by omega
          go_wp2_with fail
          go_roundg (P.length - (k + 1))
          case measure => have := Hg.out; omega
          case rel => exact ⟨k + 1, rfl, by omega, by simp, HBW.out.trans (HB.out.mono HBW.out.size), nodup_take hin HNd.out (fun j hj hjk => by rw [HX.out]; exact HA.out j hj hjk)⟩
    · obtain rfl : i = P.length := by omega
      have hPn := HNd.out
      rw [List.take_length] at hPn
      have HPn := Lib.hid hPn
      clear hPn HNd H2
      have H2 := Lib.hid HW.out
      clear HW
      go_wp2_with fail
      refine (made_st s0 c0 X H2.out HRX.out (by omega)).mono ?_
      rintro e w3 ⟨sl, cl, sm, cm, rfl, h3⟩
      have H3 := Lib.hid h3
      clear h3 k0 k1 k2 k3
      go_wp2_with fail
      obtain ⟨hml, hmx, hmx2⟩ : (madeS X).l.length ≤ 40 ∧ 0 ≤ (madeS X).nx ∧ (madeS X).nx ≤ 40 := by
        obtain ⟨q1, q2, q3⟩ := madeS_len X X.length
        rw [List.take_length] at q1 q2 q3
        exact ⟨by omega, q2, by omega⟩
      have h4 := St.sh [_, _, _, _, _] [1, 2, 0, 3, 4] (by decide) ((H3.out.new #[.slice sl (madeS X).l.length cl, .int .i64 (madeS X).nx] 32).new #[.slice sm (madeS X).l.length cm, .int .i64 (madeS X).nx] 34)
      simp only [List.map_cons, List.map_nil, List.getD_cons_zero, List.getD_cons_succ, List.cons_append, List.nil_append, World.size_alloc] at h4
      replace h4 := l_shut h4
      have H4 := Lib.hid h4
      clear h4 H3
      generalize (w3.alloc (Obj.cells #[Value.slice sl (madeS X).l.length cl, Value.int IntKind.i64 (madeS X).nx] 32)).alloc
          (Obj.cells #[Value.slice sm (madeS X).l.length cm, Value.int IntKind.i64 (madeS X).nx] 34) = w4 at *
      generalize hlb : w3.heap.size = lb at *
      have hids := Lib.hid (madeS_ids X)
      obtain ⟨S, hS⟩ : ∃ S, madeS X = S := ⟨_, rfl⟩
      rw [hS] at hml hmx hmx2 H4 hids ⊢
      clear hlb hS
      refine (lclone_st H4.out (by omega)).mono ?_
      rintro e w5 ⟨sa, ca, rfl, h5⟩
      have h6 := St.sh [_, _, _] [0, 2, 1] (by decide) (h5.new #[.slice sa S.l.length ca, .int .i64 S.nx] 32)
      simp only [List.map_cons, List.map_nil, List.getD_cons_zero, List.getD_cons_succ, List.cons_append, List.nil_append, World.size_alloc] at h6
      have H6 := Lib.hid h6
      obtain ⟨k0, k1, k2, k3⟩ : (w5.alloc (.cells #[.slice sa S.l.length ca, .int .i64 S.nx] 32)).cell? ⟨w.heap.size, 0, none⟩ = some (.string ty) ∧ (w5.alloc (.cells #[.slice sa S.l.length ca, .int .i64 S.nx] 32)).cell? ⟨w.heap.size, 1, none⟩ = some (.bool bub) ∧ (w5.alloc (.cells #[.slice sa S.l.length ca, .int .i64 S.nx] 32)).cell? ⟨w.heap.size, 2, none⟩ = some (.bool can) ∧ (w5.alloc (.cells #[.slice sa S.l.length ca, .int .i64 S.nx] 32)).cell? ⟨w.heap.size, 3, none⟩ = some (.slice s1 P.length c1) := by
        have hbx := H6.out.blkm (.tail _ (.tail _ (.tail _ (.tail _ (.tail _ (.head _))))))
        have k0 := hbx.cell 0
        have k1 := hbx.cell 1
        have k2 := hbx.cell 2
        have k3 := hbx.cell 3
        simp at k0 k1 k2 k3
        exact ⟨k0, k1, k2, k3⟩
      clear h5 h6 H4
      go_upto_region 18 with fail
      have h7 := H6.out.swap
      obtain ⟨sl', cl', h8⟩ := l_open h7
      have H8 := Lib.hid h8
      generalize w5.alloc (Obj.cells #[Value.slice sa S.l.length ca, Value.int IntKind.i64 S.nx] 32) = w6 at *
      obtain ⟨y0, y1, yf0, yf1⟩ := h8.two
      clear h7 h8 H6 H2
      go_wp2_with fail
      go_loopg [11, 67] S.l.length (CtRel P ty bub S.l w6)
      case atStart => exact ⟨0, rfl, Nat.zero_le _, rfl, by simp, Below.refl _ _⟩
      case round =>
        obtain ⟨i, hg, hi, rfl, rfl, hbw⟩ := hrel
        have Hg := Lib.hid hg
        have HW := Lib.hid (H8.out.of_below hbw)
        have HBW := Lib.hid hbw
        clear k0 k1 k2 k3 y0 y1 yf0 yf1 hg hbw
        obtain ⟨y0, y1, yf0, yf1⟩ := HW.out.two
        obtain ⟨k0, k1, k2, k3⟩ : wr.cell? ⟨w.heap.size, 0, none⟩ = some (.string ty) ∧ wr.cell? ⟨w.heap.size, 1, none⟩ = some (.bool bub) ∧ wr.cell? ⟨w.heap.size, 2, none⟩ = some (.bool can) ∧ wr.cell? ⟨w.heap.size, 3, none⟩ = some (.slice s1 P.length c1) := ev_cells (HW.out.blkm (.tail _ (.tail _ (.tail _ (.tail _ (.tail _ (.tail _ (.head _))))))))
        have hcw := countP_le' (l := S.l) (actv P ty bub) i
        by_cases hin : i < S.l.length
        · have hr := HW.out.swap.sl.rd
          obtain ⟨g1, o1, rfl, -⟩ := hr.addr (by omega)
          obtain ⟨x, hx⟩ : ∃ x, S.l[i] = x := ⟨_, rfl⟩
          obtain ⟨d0, d1, d2, d3, d4, d5, d6, d7⟩ := l_at hr hin x hx
          have hcs := countP_succ (actv P ty bub) hin
          rw [hx] at hcs
          have HCS := Lib.hid hcs
          generalize (S.l.take i).countP (actv P ty bub) = cw at *
          have hin' : (i : Int) < (S.l.length : Int) := by omega
          have hi0 : (0 : Int) ≤ (i : Int) := by omega
          have HPL := Lib.hid (fun w2 (hb : Below wr.heap.size wr w2) => place_any ty bub can s1 c1 P x.tg w2 (HRP.out.below (HW.out.of_below hb).bel) (by omega))
          have hk1 := World.block_lt_of_cell? _ _ k0
          have hk2 := World.block_lt_of_cell? _ _ y0
          have hk3 := World.block_lt_of_cell? _ _ d1
          obtain ⟨x0, ⟨x1, x2⟩, x3, x4, x5, x6, x7⟩ := x
          simp only at d0 d1 d2 d3 d4 d5 d6 d7 HPL
          have hkeep : ∀ w', Below wr.heap.size wr w' → (w'.cell? ⟨w.heap.size, 0, none⟩ = some (.string ty) ∧ w'.cell? ⟨w.heap.size, 1, none⟩ = some (.bool bub) ∧ w'.cell? ⟨w.heap.size, 2, none⟩ = some (.bool can) ∧ w'.cell? ⟨w.heap.size, 3, none⟩ = some (.slice s1 P.length c1) ∧ w'.cell? ⟨lb, 0, none⟩ = some (.slice (some ⟨g1, o1, none⟩) S.l.length cl') ∧ w'.cell? ⟨g1, o1 + i * 8 + 1, none⟩ = some (.int .i64 x1) ∧ w'.cell? ⟨g1, o1 + i * 8 + 1 + 1, none⟩ = some (.int .i64 x2)) :=
            fun w' h => ⟨(h.cell hk1).trans k0, (h.cell (p := ⟨_, 1, none⟩) hk1).trans k1, (h.cell (p := ⟨_, 2, none⟩) hk1).trans k2, (h.cell (p := ⟨_, 3, none⟩) hk1).trans k3, (h.cell hk2).trans y0, (h.cell hk3).trans d1, (h.cell (p := ⟨_, o1 + i * 8 + 1 + 1, none⟩) hk3).trans d2⟩
          have KP := Lib.hid hkeep
          unfold evVal at HPL
          obtain ⟨p, hp⟩ : ∃ p, plc P ⟨x1, x2⟩ = p := ⟨_, rfl⟩
          have hact : Hid (actv P ty bub ⟨x0, ⟨x1, x2⟩, x3, x4, x5, x6, x7⟩ = ((x3.toList == ty.toList) && (decide (0 ≤ p) && ((p == 0) || x5 || bub)))) := Lib.hid (by rw [← hp]; rfl)
          rw [hp] at HPL
          clear hr hx hcs hkeep hp
          go_upto_region 21 with fail
          go_region_held3 (fun w' => w'.cell? ⟨w.heap.size, 0, none⟩ = some (.string ty) ∧ w'.cell? ⟨w.heap.size, 1, none⟩ = some (.bool bub) ∧ w'.cell? ⟨w.heap.size, 2, none⟩ = some (.bool can) ∧ w'.cell? ⟨w.heap.size, 3, none⟩ = some (.slice s1 P.length c1) ∧ w'.cell? ⟨lb, 0, none⟩ = some (.slice (some ⟨g1, o1, none⟩) S.l.length cl') ∧ w'.cell? ⟨g1, o1 + i * 8 + 1, none⟩ = some (.int .i64 x1) ∧ w'.cell? ⟨g1, o1 + i * 8 + 1 + 1, none⟩ = some (.int .i64 x2))
            (first | exact KP.out _ hb10 | go_keep)
            ((go_at_call 15; refine (HPL.out wr.drew ⟨rfl, rfl, rfl, Nat.le_refl _, fun _ _ => rfl⟩).mono ?_; rintro e w9 ⟨rfl, hb9⟩; have hb10 : Below wr.heap.size wr w9 := ⟨hb9.os, hb9.tape, hb9.output, hb9.size, hb9.block⟩))
          have hy0 := bel_cell hb10 y0
          have hd3 := bel_cell hb10 d3
          have hd5 := bel_cell hb10 d5
          have hk0' := bel_cell hb10 k0
          have hk1' := bel_cell hb10 k1
          clear d0 d1 d2 d3 d4 d5 d6 d7 k0 k1 k2 k3 y0 y1 yf0 yf1 hb9 hk1 hk2 hk3 HPL KP
          have hcases : (x3.toList == ty.toList) = false ∨ ((x3.toList == ty.toList) = true ∧ (¬ (0 ≤ p) ∨ (0 ≤ p ∧ (p = 0 ∨ ((p == 0) = false ∧ (x5 = true ∨ (x5 = false ∧ bub = true) ∨ (x5 = false ∧ bub = false))))))) := by
            cases (x3.toList == ty.toList)
            · exact .inl rfl
            · refine .inr ⟨rfl, ?_⟩
              by_cases h0 : 0 ≤ p
              · refine .inr ⟨h0, ?_⟩
                by_cases h1 : p = 0
                · exact .inl h1
                · refine .inr ⟨by simpa using h1, ?_⟩
                  cases x5 <;> cases bub <;> simp
              · exact .inl h0
          rcases hcases with c1 | ⟨c1, c2 | ⟨c2, rfl | ⟨c3, rfl | ⟨rfl, rfl⟩ | ⟨rfl, rfl⟩⟩⟩⟩
          all_goals
            have hval := hact.out
            simp only [c1, Bool.false_and, Bool.true_and, Bool.or_true, Bool.true_or, Bool.or_false, Bool.and_true, beq_self_eq_true] at hval
            try simp only [c3, Bool.false_or] at hval
            try simp only [c2, decide_true, decide_false, Bool.false_and, Bool.true_and, Bool.and_true, Bool.or_false, Bool.or_true] at hval
            have HVal := Lib.hid hval
            clear hval
            go_upto_region 22 with fail
            go_quiet (fail)
            go_wp2_with fail
            go_roundg (S.l.length - (i + 1))
            case measure => have := Hg.out; omega
            case rel => exact ⟨i + 1, rfl, by omega, by simp, by rw [HCS.out, HVal.out]; simp, bel_drewN (HBW.out.trans (hb10.mono HBW.out.size)) _⟩
        · obtain rfl : i = S.l.length := by omega
          have hcn : (S.l.take S.l.length).countP (actv P ty bub) = S.l.countP (actv P ty bub) := by rw [List.take_length]
          rw [hcn] at hcw ⊢
          have hrn := rem_new P ty bub can S.l
          obtain ⟨want, hwant⟩ : ∃ want, S.l.countP (actv P ty bub) = want := ⟨_, rfl⟩
          rw [hwant] at hrn hcw ⊢
          have HRN := Lib.hid hrn
          have H6 := Lib.hid (l_shut HW.out).swap
          clear hcn hrn hwant HW H8 y0 y1 yf0 yf1
          go_wp2_with fail
          refine (begun_st ty bub can s1 c1 P H6.out HRP.out (by omega)).mono ?_
          rintro e w7 ⟨sp, cp, rfl, h7⟩
          have h8 := St.sh [_, _, _, _] [0, 2, 1, 3] (by decide) (d_make (d := dNew ty bub can P) h7 rfl)
          simp only [List.map_cons, List.map_nil, List.getD_cons_zero, List.getD_cons_succ, List.cons_append, List.nil_append] at h8
          have H8 := Lib.hid h8
          have hbe : w7.heap.size ≠ w.heap.size := by
            obtain ⟨q1, q2, q3, q4, hd⟩ := d_open h8
            exact hd.ne (.tail _ (.tail _ (.tail _ (.tail _ (.tail _ (.tail _ (.tail _ (.head _))))))))
          clear h7 h8 H6 k0 k1 k2 k3
          go_wp2_with fail
          generalize w5.heap.size = ta at *
          generalize w7.heap.size = b at *
          have hmu : want ≤ 40 := by omega
          go_loopg [15, 16, 17] want (OrRel P ty bub w [As.cells ta #[.slice sa S.l.length ca, .int .i64 S.nx] 32, As.row 41 8 sa S.l.length ca (flat lcells S.l), As.cells (lb + 1) #[.slice sm S.l.length cm, .int .i64 S.nx] 34, As.rdr 8 sm S.l.length cm (flat lcells S.l), As.cells w.heap.size #[.string ty, .bool bub, .bool can, .slice s1 P.length c1] 25] b lb S.nx S.l want)
          case atStart =>
            exact ⟨0, dNew ty bub can P, S.l, -1, 0, rfl, rfl, rfl, rfl, in_new hP (by omega) hids.out, by rw [HRN.out]; omega, List.Sublist.refl _, by omega, by simp [dNew], by intro _ id hid; simp [dNew] at hid, H8.out⟩
          case round =>
            obtain ⟨n, d, l, last, lid, hg, rfl, rfl, rfl, hin, hrw, hsub, hl1, hl2, hl3, hp⟩ := hrel
            have Hg := Lib.hid hg
            have HIn := Lib.hid hin
            have HRw := Lib.hid hrw
            have HSub := Lib.hid hsub
            have HL3 := Lib.hid hl3
            have Hp := Lib.hid hp
            have HN := Lib.hid (next_st Hp.out (by have := HIn.out.lim.path; omega) HIn.out.lim.st (by have := HIn.out.lim.q; omega) (by have := HIn.out.lim.l; simp only; omega))
            have HC := Lib.hid (next_in' HPn.out (fun _ => true) HIn.out)
            clear hg hin hrw hsub hl3 hp H8
            go_wp2_with fail
            refine HN.out.mono ?_
            rintro e w9 ⟨rfl, h9⟩
            rcases HC.out with ⟨e1, e2⟩ | ⟨c, x, e1, hx⟩
            · have hnw : Hid (n = want) := Lib.hid (by have := HRw.out; omega)
              simp only [e1] at h9 ⊢
              have H9 := Lib.hid (h9.new (clCells Cl.zero) 48)
              clear h9 HC HN e1 e2
              have hnw' := hnw.out
              subst hnw'
              unfold callVal clCells
              go_wp2_with fail
              go_ret
              exact ⟨rfl, H9.out.bel⟩
            · have HX := Lib.hid hx
              simp only [e1] at h9 ⊢
              have h10 := h9.new (clCells c) 48
              have h11 := St.sh [_, _, _] [1, 2, 0] (by decide) h10
              simp only [List.map_cons, List.map_nil, List.getD_cons_zero, List.getD_cons_succ, List.cons_append, List.nil_append] at h11
              have H11 := Lib.hid h11
              obtain ⟨p0, p1, p2, p3, p4, -⟩ := Blk.c5 h10.blk.1
              obtain ⟨k0, k1, k2, k3⟩ : (w9.alloc (.cells (clCells c) 48)).cell? ⟨w.heap.size, 0, none⟩ = some (.string ty) ∧ (w9.alloc (.cells (clCells c) 48)).cell? ⟨w.heap.size, 1, none⟩ = some (.bool bub) ∧ (w9.alloc (.cells (clCells c) 48)).cell? ⟨w.heap.size, 2, none⟩ = some (.bool can) ∧ (w9.alloc (.cells (clCells c) 48)).cell? ⟨w.heap.size, 3, none⟩ = some (.slice s1 P.length c1) := ev_cells (h10.blkm (.tail _ (.tail _ (.tail _ (.tail _ (.tail _ (.tail _ (.tail _ (.head _)))))))))
              have hcx := hx.cur
              have hci := hx.id
              have hpl := sg_lt hx.act
              have hsg := hx.st
              have hor := hx.ord
              have HP1 := Lib.hid (fun w2 (hb : Below (w9.alloc (.cells (clCells c) 48)).heap.size (w9.alloc (.cells (clCells c) 48)) w2) => place_any ty bub can s1 c1 P x.tg w2 (HRP.out.below (H11.out.of_below hb).bel) (by omega))
              have HF1 := Lib.hid (fun w2 (hb : Below (w9.alloc (.cells (clCells c) 48)).heap.size (w9.alloc (.cells (clCells c) 48)) w2) => found_any sa ca S.l S.nx x.id w2 (((H11.out.of_below hb).slm (.tail _ (.tail _ (.tail _ (.tail _ (.head _)))))).rd) (by omega))
              rw [found_of hids.out (HSub.out.subset hx.mem)] at HF1
              obtain ⟨y0, y1, -, -⟩ := (H11.out.blkm (.tail _ (.tail _ (.tail _ (.head _))))).two
              obtain ⟨o, ho⟩ : ∃ o, d.next l = o := ⟨_, rfl⟩
              rw [ho] at HX H11 hsg
              have hcl : callVal (some c) = .tuple #[.agg #[.int .i64 x.id, .int .i64 c.cb, .int .i64 x.tg.kind, .int .i64 x.tg.id, .int .i64 c.ph], .bool true] := by
                rw [← hcx, ← hci]; rfl
              have hcl2 : clCells c = #[.int .i64 x.id, .int .i64 c.cb, .int .i64 x.tg.kind, .int .i64 x.tg.id, .int .i64 c.ph] := by
                rw [← hcx, ← hci]; rfl
              rw [hcx] at p2 p3
              rw [hci] at p0
              rw [hcl]
              rw [hcl2] at p0 p1 p2 p3 p4 k0 k1 k2 k3 y0 y1 H11 HP1 HF1
              have hdis : (sgOf P x == last) = false ∨ lid < x.id := by
                by_cases hh : sgOf P x = last
                · rcases hor with q | ⟨q, q2⟩
                  · omega
                  · exact .inr (HL3.out (by omega) _ q2)
                · exact .inl (by simpa using hh)
              have hge : ¬ (sgOf P x < last) := by rcases hor with q | ⟨q, q2⟩ <;> omega
              have hpb := plc_lt P x.tg
              have hnw : n + 1 ≤ want := by
                have h1 := HX.out.rem
                have h2 := HRw.out
                simp only [if_true] at h1
                omega
              have hsf : sgOf P x = if x.cap then (P.length : Int) - 1 - plc P x.tg else (P.length : Int) + plc P x.tg := rfl
              obtain ⟨sg, hsgd⟩ : ∃ sg, sgOf P x = sg := ⟨_, rfl⟩
              rw [hsgd] at hdis hge hpl hsg hsf
              have HSGD := Lib.hid hsgd
              have hsb : 0 ≤ sg ∧ sg < 24 := by omega
              have HSG := Lib.hid hsg
              clear h9 h10 h11 hx e1 HC HN hcl hcl2 hcx hci ho hsgd hsg hor
              go_upto_region 32 with fail
              generalize w9.alloc (.cells #[.int .i64 x.id, .int .i64 c.cb, .int .i64 x.tg.kind, .int .i64 x.tg.id, .int .i64 c.ph] 48) = w10 at *
              obtain ⟨x0, ⟨x1, x2⟩, x3, x4, x5, x6, x7⟩ := x
              simp only at p0 p1 p2 p3 p4 HP1 HF1 hsf hdis hpb H11
              obtain ⟨p, hp⟩ : ∃ p, plc P ⟨x1, x2⟩ = p := ⟨_, rfl⟩
              rw [hp] at HP1 hsf hpb
              unfold evVal at HP1
              unfold lval at HF1
              have HP := Lib.hid hp
              clear hp
              have hlp := World.block_lt_of_cell? _ _ p0
              have hlk := World.block_lt_of_cell? _ _ k0
              have hly := World.block_lt_of_cell? _ _ y0
              go_wp2_with fail
              refine (HP1.out w10 (Below.refl _ _)).mono ?_
              rintro e w11 ⟨rfl, hb11⟩
              replace k3 := bel_cell hb11 k3
              replace p0 := bel_cell hb11 p0
              replace p2 := bel_cell hb11 p2
              replace p3 := bel_cell hb11 p3
              replace y0 := bel_cell hb11 y0
              replace y1 := bel_cell hb11 y1
              have hz11 := hb11.size
              clear k0 k1 k2 p1 p4
              go_upto_region 34 with fail
              go_wp2_with fail
              refine (HF1.out w11 hb11).mono ?_
              rintro e w12 ⟨rfl, hb12⟩
              replace k3 := bel_cell hb12 k3
              replace p0 := bel_cell hb12 p0
              replace p2 := bel_cell hb12 p2
              replace p3 := bel_cell hb12 p3
              have hz12 := hb12.size
              have hlp2 := World.block_lt_of_cell? _ _ p0
              have hlk2 := World.block_lt_of_cell? _ _ k3
              have H12 := (H11.out.of_below (hb11.trans (hb12.mono hb11.size))).alloc (.cells #[.int .i64 x0, .int .i64 x1, .int .i64 x2, .string x3, .int .i64 x4, .bool x5, .bool x6, .bool x7] 41)
              have h13 := St.sh [_, _, _] [2, 0, 1] (by decide) H12
              simp only [List.map_cons, List.map_nil, List.getD_cons_zero, List.getD_cons_succ, List.cons_append, List.nil_append] at h13
              have H13 := Lib.hid h13.drop
              clear H12 h13 H11 y0 y1 HP1 HF1 hb11 hb12
              cases x5
              all_goals
                simp only [if_true, Bool.false_eq_true, if_false] at hsf
                subst hsf
              case false =>
                rcases hdis with hd1 | hd1
                all_goals
                  go_wp2_with fail
                  all_goals
                    go_roundg (want - (n + 1))
                    case measure => have := Hg.out; omega
                    case rel =>
                      have hsg := HSG.out
                      refine ⟨n + 1, o.d, o.l, _, _, rfl, rfl, rfl, by simp, HX.out.inv, ?_, HX.out.sub.trans HSub.out, by omega, by omega, fun _ => HX.out.q, H13.out⟩
                      have h1 := HX.out.rem
                      have h2 := HRw.out
                      simp only [if_true] at h1
                      omega
              case true =>
                rcases hdis with hd1 | hd1
                all_goals
                  go_wp2_with fail
                  all_goals
                    go_roundg (want - (n + 1))
                    case measure => have := Hg.out; omega
                    case rel =>
                      have hsg := HSG.out
                      refine ⟨n + 1, o.d, o.l, _, _, rfl, rfl, rfl, by simp, HX.out.inv, ?_, HX.out.sub.trans HSub.out, by omega, by omega, fun _ => HX.out.q, H13.out⟩
                      have h1 := HX.out.rem
                      have h2 := HRw.out
                      simp only [if_true] at h1
                      omega
end Go.Proofs.Ytianjcbofgdfdaa
