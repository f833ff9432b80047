/-
  The walk of QueueTimes for at most 80 operations.
-/
import Derived.Test.YtkddkbjgnndflaaQw
import Derived.Deep.CutBlock
set_option linter.unusedVariables false
set_option linter.unusedSimpArgs false
namespace Go.Proofs.Ytkddkbjgnndflaa
open Go.RowKit Go.K

structure TOp where
  kind : Int
  id : Int
  due : Int
def TOp.cells (o : TOp) : List Value := [.int .u8 o.kind, .int .u8 o.id, .int .i16 o.due]
def TOp.ok (o : TOp) : Prop := 0 ≤ o.kind ∧ o.kind ≤ 255 ∧ 0 ≤ o.id ∧ o.id ≤ 255 ∧ -32768 ≤ o.due ∧ o.due ≤ 32767

theorem Same.min_head {M r : List Tm} {t : Tm} (h : Same M (t :: r)) : IsMin M t :=
  ⟨h.perm.mem_iff.2 List.mem_cons_self, fun y hy q => by
    rcases List.mem_cons.1 (h.perm.mem_iff.1 hy) with e | e
    · subst e; unfold Tm.lt at q; omega
    · have := (List.pairwise_cons.1 h.sorted).1 y e
      unfold Tm.lt at this q; omega⟩

abbrev TM (bt bm : Nat) (M ts : List Tm) (nx : Int) (s : Option Addr) (c : Nat) : List As :=
  [tObj bt ts nx, As.cells bm #[.slice s M.length c, .int .i64 nx] 67, As.rdr 3 s M.length c (tcells M)]

theorem m_set {w wr w2 : World} {bm n c n' c' : Nat} {A : As} {v v' : Value} {s s' : Option Addr} {xs xs' : List Value} {nx : Int} (h : St w wr [A, As.cells bm #[v, v'] 67, As.rdr 3 s n c xs]) (hb : Below wr.heap.size wr w2) (hr : Rc w2 3 s' n' c' xs') (hn : NewAt wr s') :
    St w ((w2.setCell ⟨bm, 0, none⟩ (.slice s' n' c')).setCell ⟨bm, 1, none⟩ (.int .i64 nx)) [A, As.cells bm #[.slice s' n' c', .int .i64 nx] 67, As.rdr 3 s' n' c' xs'] := by
  have h1 := h.rdr_new hb hr hn
  have h2 : St w w2 [As.cells bm #[v, v'] 67, A, As.rdr 3 s' n' c' xs', As.rdr 3 s n c xs] := h1.perm (by
    refine (List.Perm.swap _ _ _).trans ?_
    exact ((List.Perm.swap _ _ _).cons A).trans (.swap _ _ _))
  have h3 := h2.set2 (.slice s' n' c') (.int .i64 nx)
  refine (h3.perm (L' := [As.rdr 3 s n c xs, A, As.cells bm #[.slice s' n' c', .int .i64 nx] 67, As.rdr 3 s' n' c' xs']) ?_).drop
  refine (List.Perm.swap _ _ _).trans ?_
  refine (((List.Perm.swap _ _ _).cons _).cons _).trans ?_
  refine ((List.Perm.swap _ _ _).cons _).trans ?_
  exact .swap _ _ _
theorem m_same {w wr w2 : World} {bm n c : Nat} {A : As} {s : Option Addr} {xs : List Value} {v : Value} {nx : Int} (h : St w wr [A, As.cells bm #[.slice s n c, v] 67, As.rdr 3 s n c xs]) (hb : Below wr.heap.size wr w2) :
    St w ((w2.setCell ⟨bm, 0, none⟩ (.slice s n c)).setCell ⟨bm, 1, none⟩ (.int .i64 nx)) [A, As.cells bm #[.slice s n c, .int .i64 nx] 67, As.rdr 3 s n c xs] :=
  (((h.of_below hb).swap).set2 (.slice s n c) (.int .i64 nx)).swap

def QtMid (w : World) (bt bm k : Nat) (wr : World) : Prop :=
  ∃ (M ts : List Tm) (nx : Int) (s : Option Addr) (c : Nat), M.length ≤ k ∧ 0 ≤ nx ∧ nx ≤ k ∧ Both M ts nx ∧ St w wr (TM bt bm M ts nx s c)
def QtRel (w : World) (bt bm len g : Nat) (v : Value) (wr : World) : Prop := ∃ k : Nat, g = len - k ∧ k ≤ len ∧ v = .int .i64 k ∧ QtMid w bt bm k wr

set_option maxRecDepth 100000 in
set_option maxHeartbeats 4000000 in
theorem times_go (s0 : Option Addr) (len cap : Nat) (os : List TOp) (w : World) (hl : len ≤ 80) (hr : Rd w 3 s0 len (flat TOp.cells os)) (hz : ∀ o ∈ os, o.ok) :
    Calls Try.prog 9 #[.slice s0 len cap] w fun e w' => e = .returned (.bool true) ∧ Below w.heap.size w w' := by
  have hr' := Lib.hid hr
  have hz' := Lib.hid hz
  have hzl := Lib.hid (show os.length = len by have := hr.len; rw [flat_len (sz := 3) (fun _ => rfl)] at this; omega)
  clear hr hz
  have hd : decide ((80 : Int) < (len : Int)) = false := by simp; omega
  go_enter Try.func9, Try.ntmps9
  go_wp2_with (go_at_call 11; refine (awake_any _).mono ?_; rintro e w1 ⟨rfl, hb1⟩)
  have h0 : St w ((w1.alloc (.cells #[.slice none 0 0, .int .i64 0] 54)).alloc (.cells #[.slice none 0 0, .int .i64 0] 67)) (TM w1.heap.size (w1.heap.size + 1) [] [] 0 none 0) := by
    have h1 := ((t_start (St.start w hb1)).new #[.slice none 0 0, .int .i64 0] 67).rdr_nil 3
    simp only [World.size_alloc] at h1
    exact h1.perm ((List.Perm.swap _ _ _).trans (((List.Perm.swap _ _ _).cons _).trans (.swap _ _ _)) |>.trans (.refl _))
  have H0 := Lib.hid h0
  clear h0 hb1
  generalize w1.heap.size = bt at *
  go_loopg [31] len (QtRel w bt (bt + 1) len)
  case atStart => exact ⟨0, rfl, Nat.zero_le _, rfl, [], [], 0, none, 0, Nat.zero_le _, by omega, by omega, Both.nil, H0.out⟩
  case round =>
    obtain ⟨k, hg, hk, rfl, M, ts, nx, s, c, hM, hx0, hx1, hB, hp⟩ := hrel
    have Hg := Lib.hid hg
    have HB := Lib.hid hB
    have Hp := Lib.hid hp
    have htl : ts.length ≤ 1000 := by have := hB.len; omega
    clear hg hp hB H0
    by_cases hlt : k < len
    · obtain ⟨gl, ol, rfl, hcell⟩ := hr'.out.addr (by omega)
      have hkz : k < os.length := by rw [hzl.out]; exact hlt
      have e0 := flat_at (f := TOp.cells) (sz := 3) (fun _ => rfl) os k 0 hkz (by omega)
      have e1 := flat_at (f := TOp.cells) (sz := 3) (fun _ => rfl) os k 1 hkz (by omega)
      have e2 := flat_at (f := TOp.cells) (sz := 3) (fun _ => rfl) os k 2 hkz (by omega)
      have hok := hz'.out os[k] (List.getElem_mem _)
      obtain ⟨o, ho⟩ : ∃ o, os[k] = o := ⟨_, rfl⟩
      rw [ho] at e0 e1 e2 hok
      clear ho
      obtain ⟨kind, id, due⟩ := o
      have D0 := Lib.hid (hcell _ _ e0)
      have d0 := Hp.out.old D0.out
      have d1 := Hp.out.old (hcell _ _ e1)
      have d2 := Hp.out.old (hcell _ _ e2)
      simp only [Nat.add_zero] at d0
      rw [← Nat.add_assoc] at d1
      rw [← Nat.add_assoc, show ol + k * 3 + 2 = ol + k * 3 + 1 + 1 by omega] at d2
      obtain ⟨z1, z2, z3, z4, z5, z6⟩ := hok
      try simp only at z1 z2 z3 z4 z5 z6
      have hlt' : (k : Int) < (len : Int) := by omega
      have hw1 : IntKind.i64.wrap id = id := by rw [IntKind.wrap_i64]; omega
      have hw2 : IntKind.i64.wrap due = due := by rw [IntKind.wrap_i64]; omega
      have hrem : kind.tmod 6 = kind % 6 := Int.tmod_eq_emod_of_nonneg z1
      clear hcell e0 e1 e2
      go_wp2_with fail
      go_quiet (fail)
      have HP := Lib.hid (Hp.out.drewN nq)
      clear d0 d1 d2
      generalize wr.drewN nq = wq at *
      have d0 := HP.out.old D0.out
      simp only [Nat.add_zero] at d0
      go_upto_block 2 with fail
      go_cut [8, 9, 10, 11, 12, 13, 14, 15, 16, 17, 18, 19, 20, 51] (fun _ _ _ _ _ _ _ _ _ _ _ _ _ _ wc => QtMid w bt (bt + 1) (k + 1) wc)
      case first =>
        obtain ⟨m0, m1, mf0, mf1⟩ := HP.out.swap.two
        have HC := Lib.hid HP.out.front2.rc
        obtain ⟨n6, hn6⟩ : ∃ n6, kind % 6 = n6 := ⟨_, rfl⟩
        rw [hn6] at hrem
        have h60 : 0 ≤ n6 := by omega
        have h65 : n6 ≤ 5 := by omega
        clear d0
        have d0 := HP.out.old D0.out
        simp only [Nat.add_zero] at d0
        by_cases q0 : n6 ≤ 1
        · have b01 : (n6 == 0) = true ∨ ((n6 == 0) = false ∧ (n6 == 1) = true) := by
            by_cases q : n6 = 0
            · left; simp [q]
            · right; simp; omega
          clear q0 h60 h65
          rcases b01 with b0 | ⟨b0, b1⟩
          all_goals
            go_wp2_with fail
            refine (radd_any s M.length c M nx due _ HC.out rfl (by omega) hx0 (by omega)).mono ?_
            rintro e w2 ⟨s', c', rfl, hr2, hn2, hb2⟩
            have G := Lib.hid (m_set (nx := nx + 1) HP.out hb2 hr2 hn2)
            obtain ⟨p0, p1, pf0, pf1⟩ := ((HP.out.of_below hb2).swap).two
            clear hr2 hn2 hb2 m0 m1 mf0 mf1 d0
            go_wp2_with fail
            simp only [List.length_append, List.length_cons, List.length_nil, Nat.zero_add] at G ⊢
            clear p0 p1 pf0 pf1
            generalize (w2.setCell ⟨bt + 1, 0, none⟩ (.slice s' (M.length + 1) c')).setCell ⟨bt + 1, 1, none⟩ (.int .i64 (nx + 1)) = w3 at *
            obtain ⟨p0, p1, pf0, pf1⟩ := G.out.drew.swap.two
            go_region_held3 (fun w' => w'.cell? ⟨bt + 1, 1, none⟩ = some (.int .i64 (nx + 1))) (first | go_keep | exact G2.out.swap.two.2.1)
              (first | (go_at_call 23; refine (tadd_st due G.out.drew (by omega) hx0 (by omega)).mono ?_; rintro e w4 ⟨rfl, i, hf, hs⟩; have G2 := Lib.hid hs; have HF := Lib.hid hf; clear hs hf))
            go_wp2_with fail
            go_meet
            exact ⟨M ++ [⟨nx + 1, due, nx + 1⟩], _, nx + 1, s', c', by simp; omega, by omega, by omega, HB.out.add HF.out, by simpa [TM] using G2.out⟩
        · have b0 : (n6 == 0) = false := by simp; omega
          have b1 : (n6 == 1) = false := by simp; omega
          by_cases q2 : n6 = 2
          · have b2 : (n6 == 2) = true := by simp [q2]
            clear q0 h60 h65 q2
            go_wp2_with fail
            refine (ragain_any s M.length c M nx id due _ HC.out rfl (by omega) hx0 (by omega)).mono ?_
            rintro e w2 (⟨hfit, s', c', rfl, hr2, hn2, hb2⟩ | ⟨hfit, rfl, hb2⟩)
            · have G := Lib.hid (m_set (nx := nx + 1) HP.out hb2 hr2 hn2)
              obtain ⟨p0, p1, pf0, pf1⟩ := ((HP.out.of_below hb2).swap).two
              have plt := ((HP.out.of_below hb2).swap).blk.1.lt
              have HFit := Lib.hid hfit
              clear hr2 hn2 hb2 m0 m1 mf0 mf1 d0 hfit
              go_wp2_with fail
              refine (tagain_st id due (G.out.alloc _) (by omega) hx0 (by omega)).mono ?_
              rintro e w4 (⟨q1, q2, q3, rfl, i, hf, hs⟩ | ⟨hno, rfl, hs⟩)
              · have G2 := Lib.hid hs
                have HF := Lib.hid hf
                clear hs hf p0 p1 pf0 pf1
                go_wp2_with fail
                go_meet
                exact ⟨M ++ [⟨id, due, nx + 1⟩], _, nx + 1, s', c', by simp; omega, by omega, by omega, HB.out.ins HF.out HFit.out.2.2 (by omega), by simpa [TM] using G2.out⟩
              · exfalso
                obtain ⟨q1, q2, q3⟩ := HFit.out
                rcases hno with q | q | ⟨t, ht, q⟩
                · omega
                · omega
                · exact q3 t (HB.out.same.perm.mem_iff.2 ht) q
            · have G := Lib.hid (m_same (nx := nx) HP.out hb2)
              obtain ⟨p0, p1, pf0, pf1⟩ := ((HP.out.of_below hb2).swap).two
              have plt := ((HP.out.of_below hb2).swap).blk.1.lt
              have HFit := Lib.hid hfit
              clear hb2 m0 m1 mf0 mf1 d0 hfit
              go_wp2_with fail
              refine (tagain_st id due (G.out.alloc _) (by omega) hx0 (by omega)).mono ?_
              rintro e w4 (⟨q1, q2, q3, rfl, i, hf, hs⟩ | ⟨hno, rfl, hs⟩)
              · exact (HFit.out ⟨q1, q2, fun t ht => q3 t (HB.out.same.perm.mem_iff.1 ht)⟩).elim
              · have G2 := Lib.hid hs
                clear hs hno p0 p1 pf0 pf1
                go_wp2_with fail
                go_meet
                exact ⟨M, ts, nx, s, c, by omega, by omega, by omega, HB.out, G2.out⟩
          · have b2 : (n6 == 2) = false := by simp [q2]
            by_cases q3 : n6 = 3
            · have b3 : (n6 == 3) = true := by simp [q3]
              clear q0 h60 h65 q2 q3
              go_wp2_with fail
              refine (rremove_any s M.length c M nx id _ HC.out rfl (by omega)).mono ?_
              rintro e w2 (⟨p, hp, s', c', hid, rfl, hr2, hn2, hb2⟩ | ⟨hno, rfl, hb2⟩)
              · have G := Lib.hid (m_set (nx := nx) HP.out hb2 hr2 hn2)
                obtain ⟨p0, p1, pf0, pf1⟩ := ((HP.out.of_below hb2).swap).two
                have plt := ((HP.out.of_below hb2).swap).blk.1.lt
                have HID := Lib.hid hid
                clear hr2 hn2 hb2 m0 m1 mf0 mf1 d0 hid
                go_wp2_with fail
                refine (trem_st id (G.out.alloc _) (by omega)).mono ?_
                rintro e w4 (⟨j, hj, hji, -, rfl, hs⟩ | ⟨hno, rfl, hs⟩)
                · have G2 := Lib.hid hs
                  have HJ := Lib.hid hji
                  clear hs hji p0 p1 pf0 pf1
                  go_wp2_with fail
                  go_meet
                  have hnl : (M.eraseIdx p).length = M.length - 1 := by rw [List.length_eraseIdx, if_pos hp]
                  exact ⟨M.eraseIdx p, ts.eraseIdx j, nx, s', c', by omega, by omega, by omega, HB.out.erase hp hj (HID.out.trans HJ.out.symm), by simpa [TM, hnl] using G2.out⟩
                · exact (hno _ (HB.out.same.perm.mem_iff.1 (List.getElem_mem hp)) HID.out).elim
              · have G := Lib.hid (m_same (nx := nx) HP.out hb2)
                obtain ⟨p0, p1, pf0, pf1⟩ := ((HP.out.of_below hb2).swap).two
                have plt := ((HP.out.of_below hb2).swap).blk.1.lt
                have HNO := Lib.hid hno
                clear hb2 m0 m1 mf0 mf1 d0 hno
                go_wp2_with fail
                refine (trem_st id (G.out.alloc _) (by omega)).mono ?_
                rintro e w4 (⟨j, hj, hji, -, rfl, hs⟩ | ⟨hno, rfl, hs⟩)
                · exact (HNO.out _ (HB.out.same.perm.mem_iff.2 (List.getElem_mem hj)) hji).elim
                · have G2 := Lib.hid hs
                  clear hs hno p0 p1 pf0 pf1
                  go_wp2_with fail
                  go_meet
                  exact ⟨M, ts, nx, s, c, by omega, by omega, by omega, HB.out, G2.out⟩
            · have b3 : (n6 == 3) = false := by simp [q3]
              by_cases q4 : n6 = 4
              · have b4 : (n6 == 4) = true := by simp [q4]
                clear q0 h60 h65 q2 q3 q4
                go_wp2_with fail
                refine (rpop_any s M.length c M nx due _ HC.out rfl (by omega)).mono ?_
                rintro e w2 (⟨x, p, hp, s', c', hmin, hdue, hid, rfl, hr2, hn2, hb2⟩ | ⟨hno, rfl, hb2⟩)
                · have G := Lib.hid (m_set (nx := nx) HP.out hb2 hr2 hn2)
                  obtain ⟨p0, p1, pf0, pf1⟩ := ((HP.out.of_below hb2).swap).two
                  have plt := ((HP.out.of_below hb2).swap).blk.1.lt
                  have plt2 : bt + 1 < w2.heap.size + 1 := by omega
                  have HMIN := Lib.hid hmin
                  have HID := Lib.hid hid
                  obtain ⟨x1, x2, x3⟩ := x
                  have G1 := Lib.hid ((G.out.alloc (.cells #[.slice s' (M.length - 1) c', .int .i64 nx] 67)).new #[.int .i64 x1, .int .i64 x2, .int .i64 x3] 74).swap
                  clear hr2 hn2 hb2 m0 m1 mf0 mf1 d0 hid hmin
                  unfold Tm.val
                  go_wp2_with fail
                  refine (tpop_st due G1.out (by omega)).mono ?_
                  rintro e w4 (⟨t, r, hts, htd, rfl, hs⟩ | ⟨hno, rfl, hs⟩)
                  · subst hts
                    have hxt := HB.out.same.min HMIN.out
                    subst hxt
                    have hy := hs.swap.blk.1
                    simp at hy
                    obtain ⟨y0, y1, y2, yf0, yf1, yf2⟩ := hy.three
                    have hylt := hy.lt
                    have G2 := Lib.hid hs
                    clear hs hy p0 p1 pf0 pf1 hdue htd
                    unfold Tm.val
                    go_wp2_with fail
                    go_meet
                    have hnl : (M.eraseIdx p).length = M.length - 1 := by rw [List.length_eraseIdx, if_pos hp]
                    exact ⟨M.eraseIdx p, r, nx, s', c', by omega, by omega, by omega, by have := HB.out.erase (j := 0) hp (by simp) (by simpa using HID.out); simpa using this, by simpa [TM, hnl] using (G2.out.swap.drop).alloc _⟩
                  · exfalso
                    cases ts with
                    | nil => have := HB.out.same.nil'; subst this; simp at hp
                    | cons t r =>
                      have := HB.out.same.min HMIN.out
                      have h2 := hno t r rfl
                      rw [← this] at h2
                      simp only at h2 hdue
                      omega
                · have G := Lib.hid (m_same (nx := nx) HP.out hb2)
                  obtain ⟨p0, p1, pf0, pf1⟩ := ((HP.out.of_below hb2).swap).two
                  have plt := ((HP.out.of_below hb2).swap).blk.1.lt
                  have plt2 : bt + 1 < w2.heap.size + 1 := by omega
                  have HNO := Lib.hid hno
                  have G1 := Lib.hid ((G.out.alloc (.cells #[.slice s M.length c, .int .i64 nx] 67)).new #[.int .i64 0, .int .i64 0, .int .i64 0] 74).swap
                  clear hb2 m0 m1 mf0 mf1 d0 hno
                  unfold Tm.zero Tm.val
                  go_wp2_with fail
                  refine (tpop_st due G1.out (by omega)).mono ?_
                  rintro e w4 (⟨t, r, hts, htd, rfl, hs⟩ | ⟨hno, rfl, hs⟩)
                  · exfalso
                    subst hts
                    have := HNO.out t HB.out.same.min_head
                    omega
                  · have hy := hs.swap.blk.1
                    simp at hy
                    obtain ⟨y0, y1, y2, yf0, yf1, yf2⟩ := hy.three
                    have hylt := hy.lt
                    have G2 := Lib.hid hs
                    clear hs hy hno p0 p1 pf0 pf1
                    unfold Tm.zero Tm.val
                    go_wp2_with fail
                    go_meet
                    exact ⟨M, ts, nx, s, c, by omega, by omega, by omega, HB.out, by simpa [TM] using (G2.out.swap.drop).alloc _⟩
              · have b4 : (n6 == 4) = false := by simp [q4]
                clear q0 h60 h65 q2 q3 q4
                have HF := Lib.hid (rfirst_any s M.length c M nx _ HC.out rfl (by omega))
                go_wp2_with fail
                refine HF.out.mono ?_
                rintro e w2 ⟨hb2, hh⟩
                have hfst : Hid (∃ x : Tm, e = .returned (.tuple #[x.val, .bool (!ts.isEmpty)]) ∧ ts.headD Tm.zero = x) := by
                  refine Lib.hid ?_
                  rcases hh with ⟨hM0, rfl⟩ | ⟨x, hx, rfl⟩
                  · subst hM0
                    have := HB.out.same.nil
                    subst this
                    exact ⟨_, rfl, rfl⟩
                  · cases ts with
                    | nil => have := HB.out.same.nil'; subst this; exact absurd hx.1 (by simp)
                    | cons t r => have := HB.out.same.min hx; subst this; exact ⟨_, rfl, rfl⟩
                clear hh
                obtain ⟨x, rfl, hx⟩ := hfst.out
                obtain ⟨x1, x2, x3⟩ := x
                have HX := Lib.hid hx
                have G := Lib.hid (HP.out.of_below hb2)
                have K := Lib.hid (Blk.new w2 #[.int .i64 x1, .int .i64 x2, .int .i64 x3] 74)
                obtain ⟨ok, hok⟩ : ∃ ok, (!ts.isEmpty) = ok := ⟨_, rfl⟩
                have HOK := Lib.hid hok
                rw [hok]
                clear hok
                clear hx hb2 m0 m1 mf0 mf1 d0 hfst HF
                unfold Tm.val
                go_wp2_with fail
                refine (tfirst_st (G.out.alloc _) (by omega)).mono ?_
                rintro e w4 ⟨he, hb4⟩
                rw [HX.out, HOK.out] at he
                subst he
                have hy := K.out.kept (Fr.of_below hb4) (fun q => q)
                obtain ⟨y0, y1, y2, yf0, yf1, yf2⟩ := hy.three
                have hylt := hy.lt
                have G2 := Lib.hid ((G.out.alloc (.cells #[.int .i64 x1, .int .i64 x2, .int .i64 x3] 74)).of_below hb4)
                clear hb4 hy
                unfold Tm.val
                go_wp2_with fail
                go_meet
                exact ⟨M, ts, nx, s, c, by omega, by omega, by omega, HB.out, by simpa [TM] using G2.out.alloc _⟩
      case rest =>
        obtain ⟨M, ts, nx, s, c, hM, hx0, hx1, hB, hp⟩ := hcut
        have HB2 := Lib.hid hB
        have HQ := Lib.hid hp
        have HC := Lib.hid hp.front2.rc
        obtain ⟨m0, m1, mf0, mf1⟩ := hp.swap.two
        clear hB hp d0
        go_wp2_with fail
        refine (same_any HQ.out HC.out rfl HB2.out (by omega)).mono ?_
        rintro e w2 ⟨rfl, hb2⟩
        have HQ2 := Lib.hid (HQ.out.of_below hb2)
        clear hb2 m0 m1 mf0 mf1
        go_wp2_with fail
        go_roundg (len - (k + 1))
        case measure => have := Hg.out; omega
        case rel => exact ⟨k + 1, rfl, by omega, by simp, M, ts, nx, s, c, hM, hx0, by omega, HB2.out, HQ2.out⟩
    · obtain rfl : k = len := by omega
      go_wp2_with fail
      go_ret
      exact ⟨rfl, Hp.out.bel⟩
end Go.Proofs.Ytkddkbjgnndflaa
