/-
  The walk of EventStops.
-/
import Derived.Test.YtianjcbofgdfdaaFc
set_option linter.unusedVariables false
set_option linter.unusedSimpArgs false
namespace Go.Proofs.Ytianjcbofgdfdaa
open Go.RowKit Go.K Go.K.Ev

/-- a halted dispatch gives no call -/
theorem halt_next {d : Dp} {l : List Li} (h : d.halt = true ∨ d.done = true) : (d.next l).call = none ∧ ((d.next l).d.halt = true ∨ (d.next l).d.done = true) := by
  unfold Dp.next
  split
  · rename_i hd; exact ⟨rfl, .inr hd⟩
  · rename_i hd
    rw [if_pos (by simpa [hd] using h)]
    exact ⟨rfl, .inr rfl⟩
/-- a stopped dispatch stays in its stage -/
theorem nextK_stop : ∀ (k : Nat) (d : Dp) (l : List Li) (c : Cl), d.stop = true → (nextK k d l).call = some c → c.cur = d.cur ∧ c.ph = d.ph
  | 0, d, l, c, hs, h => by
    unfold nextK at h
    cases hq : scan l d.q with
    | some p => obtain ⟨i, id, r⟩ := p; rw [hq] at h; simp [fire] at h; subst h; exact ⟨rfl, rfl⟩
    | none => rw [hq] at h; simp at h
  | k + 1, d, l, c, hs, h => by
    unfold nextK at h
    cases hq : scan l d.q with
    | some p => obtain ⟨i, id, r⟩ := p; rw [hq] at h; simp [fire] at h; subst h; exact ⟨rfl, rfl⟩
    | none => rw [hq] at h; simp [hs] at h
theorem stop_next {d : Dp} {l : List Li} {c : Cl} (hs : d.stop = true) (h : (d.next l).call = some c) : c.cur = d.cur ∧ c.ph = d.ph := by
  unfold Dp.next at h
  split at h
  · simp at h
  · split at h
    · simp at h
    · exact nextK_stop _ { d with pas := false } _ _ hs h

/-- what a round finds -/
structure Sp (m n M : Nat) (d h : Dp) (l k : List Li) (c : Cl) : Prop where
  d1 : Lim d l
  h1 : Lim h k
  done : d.done = false
  mu : n + mu d ≤ M
  now : (n ≤ m ∧ h = d ∧ k = l) ∨ (m < n ∧ (h.halt = true ∨ h.done = true) ∧ d.stop = true ∧ d.cur = c.cur ∧ d.ph = c.ph)

theorem sp_none {m n M : Nat} {d h : Dp} {l k : List Li} {c : Cl} (s : Sp m n M d h l k c) (hc : (d.next l).call = none) : (h.next k).call = none ∧ (d.next l).d.done = true := by
  obtain ⟨h1, h2, h2b, h3⟩ := next_step d l (by have := s.d1.l; omega) s.d1.st s.done
  refine ⟨?_, ?_⟩
  · rcases s.now with ⟨-, rfl, rfl⟩ | ⟨-, q, -⟩
    · exact hc
    · exact (halt_next q).1
  · rcases h3 with ⟨a1, a2, -⟩ | ⟨c, i, hi, a1, -⟩
    · exact a2
    · rw [hc] at a1; cases a1
theorem sp_some {m n M : Nat} {d h : Dp} {l k : List Li} {c c' : Cl} (s : Sp m n M d h l k c) (hc : (d.next l).call = some c') :
    (n ≤ m → (h.next k).call = some c') ∧ (m < n → (h.next k).call = none ∧ c'.cur = c.cur ∧ c'.ph = c.ph) ∧
    (n < m → Sp m (n + 1) M (d.next l).d (h.next k).d (d.next l).l (h.next k).l c') ∧
    (m = n → Sp m (n + 1) M { (d.next l).d with stop := true } { (h.next k).d with stop := true, halt := true } (d.next l).l (h.next k).l c') ∧
    (m < n → Sp m (n + 1) M (d.next l).d (h.next k).d (d.next l).l (h.next k).l c') := by
  obtain ⟨h1, h2, h2b, h3⟩ := next_step d l (by have := s.d1.l; omega) s.d1.st s.done
  rcases h3 with ⟨a1, a2, -⟩ | ⟨c2, i, hi, a1, a2, a3, a4, a5, a6, a7, a8, a9, a10⟩
  · rw [hc] at a1; cases a1
  · rw [hc] at a1
    cases a1
    have l1 := lim_next s.d1
    have l2 := lim_next s.h1
    have hmu : n + 1 + Go.Proofs.Ytianjcbofgdfdaa.mu (d.next l).d ≤ M := by
      have := s.mu
      have e : Go.Proofs.Ytianjcbofgdfdaa.mu { d with pas := false } = Go.Proofs.Ytianjcbofgdfdaa.mu d := rfl
      omega
    have hdn : (d.next l).d.done = false := by rw [a8]; exact s.done
    refine ⟨fun hn => ?_, fun hn => ?_, fun hn => ?_, fun hn => ?_, fun hn => ?_⟩
    · rcases s.now with ⟨-, rfl, rfl⟩ | ⟨q, -⟩
      · exact hc
      · omega
    · rcases s.now with ⟨q, -⟩ | ⟨-, q, q2, q3, q4⟩
      · omega
      · obtain ⟨r1, r2⟩ := stop_next q2 hc
        exact ⟨(halt_next q).1, r1.trans q3, r2.trans q4⟩
    · refine ⟨l1, l2, hdn, hmu, .inl ?_⟩
      rcases s.now with ⟨-, rfl, rfl⟩ | ⟨q, -⟩
      · exact ⟨by omega, rfl, rfl⟩
      · omega
    · exact ⟨⟨l1.st, l1.path, l1.q, l1.l⟩, ⟨l2.st, l2.path, l2.q, l2.l⟩, hdn, hmu, .inr ⟨by omega, .inl rfl, rfl, a6, a7⟩⟩
    · refine ⟨l1, l2, hdn, hmu, .inr ?_⟩
      rcases s.now with ⟨q, -⟩ | ⟨-, q, q2, q3, q4⟩
      · omega
      · exact ⟨by omega, (halt_next q).2, by rw [h1.stop]; exact q2, a6, a7⟩

abbrev SpObjs (b lb b2 lk bt : Nat) (d h : Dp) (l k : List Li) (nx : Int) (c : Cl) (L : List As) : List As :=
  dObj b d :: lObj lb ⟨l, nx⟩ :: dObj b2 h :: lObj lk ⟨k, nx⟩ :: As.cells bt (clCells c) 48 :: L
def SpRel (w : World) (L : List As) (b lb b2 lk bt m M : Nat) (nx : Int) (g : Nat) (v : Value) (wr : World) : Prop :=
  ∃ (n : Nat) (d h : Dp) (l k : List Li) (c : Cl), g = M - n ∧ v = .int .i64 n ∧ Sp m n M d h l k c ∧ St w wr (SpObjs b lb b2 lk bt d h l k nx c L)
def BgRel2 (w : World) (L : List As) (d : Dp) (v11 v12 : Value) (wc : World) : Prop :=
  ∃ b b2 : Nat, v11 = .pointer (some ⟨b, 0, none⟩) ∧ v12 = .pointer (some ⟨b2, 0, none⟩) ∧ St w wc (dObj b d :: dObj b2 d :: L)

set_option maxRecDepth 100000 in
set_option maxHeartbeats 4000000 in
theorem stops_go (s0 : Option Addr) (c0 : Nat) (X : List Li) (ty : ByteArray) (bub can : Bool) (s1 : Option Addr) (c1 : Nat) (P : List Tg) (at' : Int) (w : World)
    (hX : X.length ≤ 40) (hP : P.length ≤ 12) (hrX : Rd w 8 s0 X.length (flat lcells X)) (hrP : Rd w 2 s1 P.length (flat gcells P)) (ha : 0 ≤ at') (ha2 : at' < 256) :
    Calls Try.prog 6 #[.slice s0 X.length c0, evVal ty bub can s1 P.length c1, .int .u8 at'] w fun e w' => e = .returned (.bool true) ∧ Below w.heap.size w w' := by
  have h0 := (St.start w (Below.refl w.heap.size w)).new #[.string ty, .bool bub, .bool can, .slice s1 P.length c1] 25
  have H0 := Lib.hid h0
  have HRX := Lib.hid hrX
  have HRP := Lib.hid hrP
  have hrem : at'.tmod 20 = at' % 20 := Int.tmod_eq_emod_of_nonneg ha
  have hw1 : IntKind.u8.wrap (at' % 20) = at' % 20 := by rw [IntKind.wrap_u8]; omega
  have hw2 : IntKind.i64.wrap (at' % 20) = at' % 20 := by rw [IntKind.wrap_i64]; omega
  have hd : (decide (X.length ≤ 40) && (decide (P.length ≤ 12) && decide (0 ≤ 30))) = true := by simp [hX, hP]
  have FA := fun w2 => Lib.hid (few_any s0 X.length c0 ty bub can s1 P.length c1 none 0 0 w2)
  simp only [hd] at FA
  clear h0 hrX hrP hd
  go_enter Try.func6, Try.ntmps6
  go_wp2_with fail
  refine (awake_any _).mono ?_
  rintro e w1 ⟨rfl, hb1⟩
  have H1 := Lib.hid (H0.out.of_below hb1)
  obtain ⟨k0, k1, k2, k3⟩ : w1.cell? ⟨w.heap.size, 0, none⟩ = some (.string ty) ∧ w1.cell? ⟨w.heap.size, 1, none⟩ = some (.bool bub) ∧ w1.cell? ⟨w.heap.size, 2, none⟩ = some (.bool can) ∧ w1.cell? ⟨w.heap.size, 3, none⟩ = some (.slice s1 P.length c1) := by
    have hbx := H1.out.blk.1
    have k0 := hbx.cell 0
    have k1 := hbx.cell 1
    have k2 := hbx.cell 2
    have k3 := hbx.cell 3
    simp at k0 k1 k2 k3
    exact ⟨k0, k1, k2, k3⟩
  clear hb1 H0
  go_wp2_with fail
  refine (FA w1).out.mono ?_
  rintro e w2 ⟨rfl, hb2⟩
  have hbl := H1.out.blk.1.lt
  replace k0 := (hb2.cell hbl).trans k0
  replace k1 := (hb2.cell hbl).trans k1
  replace k2 := (hb2.cell hbl).trans k2
  replace k3 := (hb2.cell hbl).trans k3
  have H2 := Lib.hid (H1.out.of_below hb2)
  clear H1 hb2 hbl FA
  go_wp2_with fail
  refine (made_st s0 c0 X H2.out HRX.out (by omega)).mono ?_
  rintro e w3 ⟨sl, cl, sm, cm, rfl, h3⟩
  have H3 := Lib.hid h3
  clear h3 k0 k1 k2 k3
  go_wp2_with fail
  obtain ⟨hml, hmx, hmx2⟩ : (madeS X).l.length ≤ 40 ∧ 0 ≤ (madeS X).nx ∧ (madeS X).nx ≤ 40 := by
    obtain ⟨q1, q2, q3⟩ := madeS_len X X.length
    rw [List.take_length] at q1 q2 q3
    exact ⟨by omega, q2, by omega⟩
  have h4 := St.sh [_, _, _, _, _] [1, 2, 0, 3, 4] (by decide) ((H3.out.new #[.slice sl (madeS X).l.length cl, .int .i64 (madeS X).nx] 32).new #[.slice sm (madeS X).l.length cm, .int .i64 (madeS X).nx] 34)
  simp only [List.map_cons, List.map_nil, List.getD_cons_zero, List.getD_cons_succ, List.cons_append, List.nil_append, World.size_alloc] at h4
  replace h4 := l_shut h4
  have H4 := Lib.hid h4
  clear h4 H3
  generalize (w3.alloc (Obj.cells #[Value.slice sl (madeS X).l.length cl, Value.int IntKind.i64 (madeS X).nx] 32)).alloc
      (Obj.cells #[Value.slice sm (madeS X).l.length cm, Value.int IntKind.i64 (madeS X).nx] 34) = w4 at *
  generalize hlb : w3.heap.size = lb at *
  have hids := Lib.hid (madeS_ids X)
  obtain ⟨S, hS⟩ : ∃ S, madeS X = S := ⟨_, rfl⟩
  rw [hS] at hml hmx hmx2 H4 hids ⊢
  clear hlb hS
  refine (lclone_st H4.out (by omega)).mono ?_
  rintro e w5 ⟨sa, ca, rfl, h5⟩
  have h6 := l_shut (h5.new #[.slice sa S.l.length ca, .int .i64 S.nx] 32 |>.perm (by exact .refl _))
  have H6 := Lib.hid h6
  clear h5 h6 H4
  go_upto_region 5 with fail
  generalize w5.alloc (Obj.cells #[Value.slice sa S.l.length ca, Value.int IntKind.i64 S.nx] 32) = w6 at *
  generalize w5.heap.size = lk at *
  have H7 := Lib.hid H6.out.drew
  have EVK := Lib.hid (fun (w' : World) (hbx : Blk w' w.heap.size #[.string ty, .bool bub, .bool can, .slice s1 P.length c1] 25) => (show w'.cell? ⟨w.heap.size, 0, none⟩ = some (.string ty) ∧ w'.cell? ⟨w.heap.size, 1, none⟩ = some (.bool bub) ∧ w'.cell? ⟨w.heap.size, 2, none⟩ = some (.bool can) ∧ w'.cell? ⟨w.heap.size, 3, none⟩ = some (.slice s1 P.length c1) from by
    have k0 := hbx.cell 0
    have k1 := hbx.cell 1
    have k2 := hbx.cell 2
    have k3 := hbx.cell 3
    simp at k0 k1 k2 k3
    exact ⟨k0, k1, k2, k3⟩))
  obtain ⟨k0, k1, k2, k3⟩ := EVK.out w6 (H6.out.blkm (.tail _ (.tail _ (.tail _ (.tail _ (.head _))))))
  clear H2
  go_cut [11, 12] (fun v11 v12 wc => BgRel2 w [lObj lk S, lObj lb S, As.cells (lb + 1) #[.slice sm S.l.length cm, .int .i64 S.nx] 34, As.rdr 8 sm S.l.length cm (flat lcells S.l), As.cells w.heap.size #[.string ty, .bool bub, .bool can, .slice s1 P.length c1] 25] (dNew ty bub can P) v11 v12 wc)
  case first =>
    refine two_begun 4 35 37 36 38 11 12 w.heap.size ty bub can s1 c1 P _ rfl rfl (by decide) (by decide) ?_ (.tail _ (.tail _ (.tail _ (.tail _ (.head _))))) HRP.out (by omega) H6.out ?_ (by kernel_rfl) (by kernel_rfl) ?_
    · intro d hd
      simp only [List.mem_cons, List.not_mem_nil, or_false] at hd
      have hsz : (105 : Nat) = 105 := rfl
      rcases hd with rfl | rfl | rfl | rfl | rfl | rfl <;> simp
    · intro l0 l2 q1 q2 m1 m2 e1 e2
      cases l0 <;> cases l2 <;> cases q1 <;> cases q2 <;> cases m1 <;> cases m2 <;> first | (exfalso; simp at e1 e2; done) | kernel_rfl
    · intro v1 v2 b b2 wc h8
      simp only [Act.put, List.setIfInBounds_toArray, List.set_cons_zero, List.set_cons_succ]
      go_wp2_with fail
      go_meet
      exact ⟨b, b2, rfl, rfl, h8⟩
  case rest =>
    obtain ⟨b, b2, rfl, rfl, h8⟩ := hcut
    have h9 := St.sh [_, _, _, _] [0, 3, 1, 2] (by decide) h8
    simp only [List.map_cons, List.map_nil, List.getD_cons_zero, List.getD_cons_succ, List.cons_append, List.nil_append] at h9
    have h10 := St.sh [_, _, _, _, _] [1, 2, 3, 4, 0] (by decide) (h9.new (clCells Cl.zero) 48)
    simp only [List.map_cons, List.map_nil, List.getD_cons_zero, List.getD_cons_succ, List.cons_append, List.nil_append] at h10
    have H10 := Lib.hid h10
    obtain ⟨m, hm, hm2⟩ : ∃ m : Nat, (m : Int) = at' % 20 ∧ m < 20 := ⟨(at' % 20).toNat, by omega, by omega⟩
    rw [← hm] at hw1 hw2 hrem
    clear h8 h9 h10 k0 k1 k2 k3 hm EVK H7 H6
    obtain ⟨M, hM, hM2⟩ : ∃ M, mu (dNew ty bub can P) = M ∧ M ≤ 300000 := ⟨_, rfl, by simp only [mu, dNew, List.length_nil]; omega⟩
    go_wp2_with fail
    go_loopg [14] M (SpRel w [As.cells (lb + 1) #[.slice sm S.l.length cm, .int .i64 S.nx] 34, As.rdr 8 sm S.l.length cm (flat lcells S.l), As.cells w.heap.size #[.string ty, .bool bub, .bool can, .slice s1 P.length c1] 25] b lb b2 lk wc.heap.size m M S.nx)
    case atStart =>
      refine ⟨0, dNew ty bub can P, dNew ty bub can P, S.l, S.l, Cl.zero, by omega, rfl, ?_, H10.out⟩
      have : Lim (dNew ty bub can P) S.l := ⟨by simp [dNew], hP, by simp [dNew], by omega⟩
      exact ⟨this, this, rfl, by omega, .inl ⟨by omega, rfl, rfl⟩⟩
    case round =>
      obtain ⟨n, d, h, l, k, c, hg, rfl, hs, hp⟩ := hrel
      have Hg := Lib.hid hg
      have HS := Lib.hid hs
      have Hp := Lib.hid hp
      have hn := hs.mu
      have HN := Lib.hid (next_st Hp.out (by have := HS.out.d1.path; omega) HS.out.d1.st (by have := HS.out.d1.q; omega) (by have := HS.out.d1.l; simp only; omega))
      clear hg hp hs H10
      rcases hoc : (d.next l).call with _ | c'
      · obtain ⟨q1, q2⟩ := sp_none HS.out hoc
        go_wp2_with fail
        refine HN.out.mono ?_
        rintro e w9 ⟨rfl, h9⟩
        rw [hoc]
        have h10 := St.sh [_, _, _, _, _] [3, 4, 0, 1, 2] (by decide) (h9.new (clCells Cl.zero) 48)
        simp only [List.map_cons, List.map_nil, List.getD_cons_zero, List.getD_cons_succ, List.cons_append, List.nil_append] at h10
        have H10 := Lib.hid h10
        have HN2 := Lib.hid (next_st H10.out (by have := HS.out.h1.path; omega) HS.out.h1.st (by have := HS.out.h1.q; omega) (by have := HS.out.h1.l; simp only; omega))
        clear h9 h10 HN hoc
        unfold callVal clCells
        go_wp2_with fail
        refine HN2.out.mono ?_
        rintro e w10 ⟨rfl, h11⟩
        rw [q1]
        have h12 := h11.new (clCells Cl.zero) 48
        have H12 := Lib.hid h12
        obtain ⟨p0, p1, p2, p3, p4, -⟩ := Blk.c5 (h12.blkm (.tail _ (.tail _ (.tail _ (.head _)))))
        obtain ⟨r0, r1, r2, r3, r4, -⟩ := Blk.c5 h12.blk.1
        have h13 := St.sh [_, _, _, _, _] [4, 0, 1, 2, 3] (by decide) h12
        simp only [List.map_cons, List.map_nil, List.getD_cons_zero, List.getD_cons_succ, List.cons_append, List.nil_append] at h13
        obtain ⟨t1, t2, t3, t4, hd3⟩ := d_open h13
        have c13 := (d_cells hd3.blk.1).2.2.2.2.2.2.2
        rw [q2] at c13
        clear h11 h12 h13 hd3 HN2 q1 q2
        unfold clCells at p0 p1 p2 p3 p4 r0 r1 r2 r3 r4 c13
        unfold callVal clCells
        by_cases hnm : n ≤ m
        · have f1 : (n : Int) ≤ (m : Int) := by omega
          have f2 : ¬ ((m : Int) < (n : Int)) := by omega
          clear hnm
          go_wp2_with fail
          go_ret
          exact ⟨rfl, H12.out.bel⟩
        · have f1 : ¬ ((n : Int) ≤ (m : Int)) := by omega
          have f2 : (m : Int) < (n : Int) := by omega
          clear hnm
          go_wp2_with fail
          go_ret
          exact ⟨rfl, H12.out.bel⟩
      · obtain ⟨q1, q2, q3, q4, q5⟩ := sp_some HS.out hoc
        go_wp2_with fail
        refine HN.out.mono ?_
        rintro e w9 ⟨rfl, h9⟩
        rw [hoc]
        have h10 := St.sh [_, _, _, _, _] [3, 4, 0, 1, 2] (by decide) (h9.new (clCells c') 48)
        simp only [List.map_cons, List.map_nil, List.getD_cons_zero, List.getD_cons_succ, List.cons_append, List.nil_append] at h10
        have H10 := Lib.hid h10
        have HN2 := Lib.hid (next_st H10.out (by have := HS.out.h1.path; omega) HS.out.h1.st (by have := HS.out.h1.q; omega) (by have := HS.out.h1.l; simp only; omega))
        have Q1 := Lib.hid q1
        have Q2 := Lib.hid q2
        have Q3 := Lib.hid q3
        have Q4 := Lib.hid q4
        have Q5 := Lib.hid q5
        clear h9 h10 HN hoc q1 q2 q3 q4 q5
        unfold callVal clCells
        go_wp2_with fail
        refine HN2.out.mono ?_
        rintro e w10 ⟨rfl, h11⟩
        by_cases hnm : n ≤ m
        · rw [Q1.out hnm]
          have h12 := h11.new (clCells c') 48
          have H12 := Lib.hid h12
          obtain ⟨p0, p1, p2, p3, p4, -⟩ := Blk.c5 (h12.blkm (.tail _ (.tail _ (.tail _ (.head _)))))
          obtain ⟨r0, r1, r2, r3, r4, -⟩ := Blk.c5 h12.blk.1
          obtain ⟨t0, t1, t2, t3, t4, tf0, tf1, tf2, tf3, tf4⟩ := Blk.c5 (h12.blkm (.tail _ (.tail _ (.tail _ (.tail _ (.tail _ (.tail _ (.head _))))))))
          have tl := (h12.blkm (.tail _ (.tail _ (.tail _ (.tail _ (.tail _ (.tail _ (.head _)))))))).lt
          clear h11 h12 HN2
          unfold clCells at p0 p1 p2 p3 p4 r0 r1 r2 r3 r4 t0 t1 t2 t3 t4 tf0 tf1 tf2 tf3 tf4 tl
          unfold callVal clCells
          have f1 : (n : Int) ≤ (m : Int) := by omega
          have f2 : ¬ ((m : Int) < (n : Int)) := by omega
          have h13 := (St.sh [_, _, _, _, _, _, _] [6, 0, 1, 2, 3, 4, 5] (by decide) H12.out)
          simp only [List.map_cons, List.map_nil, List.getD_cons_zero, List.getD_cons_succ, List.cons_append, List.nil_append] at h13
          have h14 := St.sh [_, _, _, _, _, _, _] [1, 4, 5, 6, 2, 3, 0] (by decide) (h13.set5 (.int .i64 c'.id) (.int .i64 c'.cb) (.int .i64 c'.cur.kind) (.int .i64 c'.cur.id) (.int .i64 c'.ph))
          simp only [List.map_cons, List.map_nil, List.getD_cons_zero, List.getD_cons_succ, List.cons_append, List.nil_append] at h14
          have H13 := Lib.hid h14.drop.drop
          clear h13 h14
          by_cases hne : n = m
          · have f3 : (n : Int) = (m : Int) := by omega
            go_wp2_with fail
            refine (stop_st H13.out).mono ?_
            rintro e w13 ⟨rfl, h14⟩
            have h15 := St.sh [_, _, _] [2, 0, 1] (by decide) h14
            simp only [List.map_cons, List.map_nil, List.getD_cons_zero, List.getD_cons_succ, List.cons_append, List.nil_append] at h15
            have H15 := Lib.hid h15
            clear h14 h15
            go_wp2_with fail
            refine (halt_st H15.out).mono ?_
            rintro e w14 ⟨rfl, h16⟩
            have h17 := St.sh [_, _, _] [1, 2, 0] (by decide) h16
            simp only [List.map_cons, List.map_nil, List.getD_cons_zero, List.getD_cons_succ, List.cons_append, List.nil_append] at h17
            have H17 := Lib.hid h17
            clear h16 h17
            go_wp2_with fail
            go_roundg (M - (n + 1))
            case measure => have := Hg.out; have := (Q4.out (by omega)).mu; omega
            case rel => exact ⟨n + 1, _, _, _, _, c', rfl, by simp; omega, Q4.out (by omega), H17.out⟩
          · have f3 : ¬ ((n : Int) = (m : Int)) := by omega
            go_wp2_with fail
            go_roundg (M - (n + 1))
            case measure => have := Hg.out; have := (Q3.out (by omega)).mu; omega
            case rel => exact ⟨n + 1, _, _, _, _, c', rfl, by simp, Q3.out (by omega), H13.out⟩
        · obtain ⟨q1, q2, q3⟩ := Q2.out (by omega)
          rw [q1]
          have h12 := h11.new (clCells Cl.zero) 48
          have H12 := Lib.hid h12
          obtain ⟨p0, p1, p2, p3, p4, -⟩ := Blk.c5 (h12.blkm (.tail _ (.tail _ (.tail _ (.head _)))))
          obtain ⟨r0, r1, r2, r3, r4, -⟩ := Blk.c5 h12.blk.1
          obtain ⟨t0, t1, t2, t3, t4, tf0, tf1, tf2, tf3, tf4⟩ := Blk.c5 (h12.blkm (.tail _ (.tail _ (.tail _ (.tail _ (.tail _ (.tail _ (.head _))))))))
          have tl := (h12.blkm (.tail _ (.tail _ (.tail _ (.tail _ (.tail _ (.tail _ (.head _)))))))).lt
          clear h11 h12 HN2
          unfold clCells at p0 p1 p2 p3 p4 r0 r1 r2 r3 r4 t0 t1 t2 t3 t4 tf0 tf1 tf2 tf3 tf4 tl
          unfold callVal clCells
          have f1 : ¬ ((n : Int) ≤ (m : Int)) := by omega
          have f2 : (m : Int) < (n : Int) := by omega
          have f3 : ¬ ((n : Int) = (m : Int)) := by omega
          rw [q2] at p2 p3
          rw [q3] at p4
          have h13 := (St.sh [_, _, _, _, _, _, _] [6, 0, 1, 2, 3, 4, 5] (by decide) H12.out)
          simp only [List.map_cons, List.map_nil, List.getD_cons_zero, List.getD_cons_succ, List.cons_append, List.nil_append] at h13
          have h14 := St.sh [_, _, _, _, _, _, _] [1, 4, 5, 6, 2, 3, 0] (by decide) (h13.set5 (.int .i64 c'.id) (.int .i64 c'.cb) (.int .i64 c.cur.kind) (.int .i64 c.cur.id) (.int .i64 c.ph))
          simp only [List.map_cons, List.map_nil, List.getD_cons_zero, List.getD_cons_succ, List.cons_append, List.nil_append] at h14
          have H13 := Lib.hid h14.drop.drop
          clear h13 h14
          have hcc : (#[.int .i64 c'.id, .int .i64 c'.cb, .int .i64 c.cur.kind, .int .i64 c.cur.id, .int .i64 c.ph] : Array Value) = clCells c' := by rw [← q2, ← q3]; rfl
          rw [hcc] at H13
          have HCC := Lib.hid hcc
          clear hnm hcc
          go_wp2_with fail
          go_roundg (M - (n + 1))
          case measure => have := Hg.out; have := (Q5.out (by omega)).mu; omega
          case rel => exact ⟨n + 1, _, _, _, _, c', rfl, by simp, Q5.out (by omega), H13.out⟩
end Go.Proofs.Ytianjcbofgdfdaa
