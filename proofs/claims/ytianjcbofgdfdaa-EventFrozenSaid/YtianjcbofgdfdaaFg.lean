/-
  The walk of EventFrozen.
-/
import Derived.Test.YtianjcbofgdfdaaFe
import Derived.Test.YtianjcbofgdfdaaFf
import Derived.Test.YtianjcbofgdfdaaFc
set_option linter.unusedVariables false
set_option linter.unusedSimpArgs false
namespace Go.Proofs.Ytianjcbofgdfdaa
open Go.RowKit Go.K Go.K.Ev

def FzBg (w : World) (L : List As) (d : Dp) (v11 v12 : Value) (wc : World) : Prop :=
  ∃ b b2 : Nat, v11 = .pointer (some ⟨b, 0, none⟩) ∧ v12 = .pointer (some ⟨b2, 0, none⟩) ∧ St w wc (dObj b d :: dObj b2 d :: L)
def FzRel (w : World) (L : List As) (b lb b2 lk : Nat) (acs : List Ac) (g : Nat) (v13 : Value) (wr : World) : Prop :=
  ∃ (n : Nat) (d : Dp) (S : Ls), g = mu d ∧ v13 = .int .i64 n ∧ n + mu d ≤ 1000000 ∧ Fz acs n d S ∧ St w wr (dObj b d :: dObj b2 d :: lObj lk S :: lObj lb S :: L)

set_option maxRecDepth 100000 in
set_option maxHeartbeats 8000000 in
theorem frozen_go (s0 : Option Addr) (c0 : Nat) (X : List Li) (ty : ByteArray) (bub can : Bool) (s1 : Option Addr) (c1 : Nat) (P : List Tg) (s2 : Option Addr) (c2 : Nat) (acs : List Ac) (w : World)
    (hX : X.length ≤ 40) (hP : P.length ≤ 12) (hrX : Rd w 8 s0 X.length (flat lcells X)) (hrP : Rd w 2 s1 P.length (flat gcells P)) (hA : acs.length ≤ 30) (hrA : Rd w 10 s2 acs.length (flat acells acs)) (hk : ∀ a ∈ acs, 0 ≤ a.kind ∧ 0 ≤ a.at' ∧ a.at' < 256) :
    Calls Try.prog 10 #[.slice s0 X.length c0, evVal ty bub can s1 P.length c1, .slice s2 acs.length c2] w fun e w' => e = .returned (.bool true) ∧ Below w.heap.size w w' := by
  have HRA := Lib.hid hrA
  have HK := Lib.hid hk
  clear hrA hk
  have h0 := (St.start w (Below.refl w.heap.size w)).new #[.string ty, .bool bub, .bool can, .slice s1 P.length c1] 25
  have H0 := Lib.hid h0
  have HRX := Lib.hid hrX
  have HRP := Lib.hid hrP
  have hd : (decide (X.length ≤ 40) && (decide (P.length ≤ 12) && decide (acs.length ≤ 30))) = true := by simp [hX, hP, hA]
  have FA := fun w2 => Lib.hid (few_any s0 X.length c0 ty bub can s1 P.length c1 s2 acs.length c2 w2)
  simp only [hd] at FA
  clear h0 hrX hrP hd
  go_enter Try.func10, Try.ntmps10
  go_wp2_with fail
  refine (awake_any _).mono ?_
  rintro e w1 ⟨rfl, hb1⟩
  have H1 := Lib.hid (H0.out.of_below hb1)
  obtain ⟨k0, k1, k2, k3⟩ : w1.cell? ⟨w.heap.size, 0, none⟩ = some (.string ty) ∧ w1.cell? ⟨w.heap.size, 1, none⟩ = some (.bool bub) ∧ w1.cell? ⟨w.heap.size, 2, none⟩ = some (.bool can) ∧ w1.cell? ⟨w.heap.size, 3, none⟩ = some (.slice s1 P.length c1) := by
    have hbx := H1.out.blk.1
    have k0 := hbx.cell 0
    have k1 := hbx.cell 1
    have k2 := hbx.cell 2
    have k3 := hbx.cell 3
    simp at k0 k1 k2 k3
    exact ⟨k0, k1, k2, k3⟩
  clear hb1 H0
  go_wp2_with fail
  refine (FA w1).out.mono ?_
  rintro e w2 ⟨rfl, hb2⟩
  have hbl := H1.out.blk.1.lt
  replace k0 := (hb2.cell hbl).trans k0
  replace k1 := (hb2.cell hbl).trans k1
  replace k2 := (hb2.cell hbl).trans k2
  replace k3 := (hb2.cell hbl).trans k3
  have H2 := Lib.hid (H1.out.of_below hb2)
  clear H1 hb2 hbl FA
  go_wp2_with fail
  refine (made_st s0 c0 X H2.out HRX.out (by omega)).mono ?_
  rintro e w3 ⟨sl, cl, sm, cm, rfl, h3⟩
  have H3 := Lib.hid h3
  clear h3 k0 k1 k2 k3
  go_wp2_with fail
  obtain ⟨hml, hmx, hmx2⟩ : (madeS X).l.length ≤ 40 ∧ 0 ≤ (madeS X).nx ∧ (madeS X).nx ≤ 40 := by
    obtain ⟨q1, q2, q3⟩ := madeS_len X X.length
    rw [List.take_length] at q1 q2 q3
    exact ⟨by omega, q2, by omega⟩
  have h4 := St.sh [_, _, _, _, _] [1, 2, 0, 3, 4] (by decide) ((H3.out.new #[.slice sl (madeS X).l.length cl, .int .i64 (madeS X).nx] 32).new #[.slice sm (madeS X).l.length cm, .int .i64 (madeS X).nx] 34)
  simp only [List.map_cons, List.map_nil, List.getD_cons_zero, List.getD_cons_succ, List.cons_append, List.nil_append, World.size_alloc] at h4
  replace h4 := l_shut h4
  have H4 := Lib.hid h4
  clear h4 H3
  generalize (w3.alloc (Obj.cells #[Value.slice sl (madeS X).l.length cl, Value.int IntKind.i64 (madeS X).nx] 32)).alloc
      (Obj.cells #[Value.slice sm (madeS X).l.length cm, Value.int IntKind.i64 (madeS X).nx] 34) = w4 at *
  generalize hlb : w3.heap.size = lb at *
  have hids := Lib.hid (madeS_ids X)
  obtain ⟨S, hS⟩ : ∃ S, madeS X = S := ⟨_, rfl⟩
  rw [hS] at hml hmx hmx2 H4 hids ⊢
  clear hlb hS
  refine (lclone_st H4.out (by omega)).mono ?_
  rintro e w5 ⟨sa, ca, rfl, h5⟩
  have h6 := l_shut (h5.new #[.slice sa S.l.length ca, .int .i64 S.nx] 32 |>.perm (by exact .refl _))
  have H6 := Lib.hid h6
  clear h5 h6 H4
  go_upto_region 5 with fail
  generalize w5.alloc (Obj.cells #[Value.slice sa S.l.length ca, Value.int IntKind.i64 S.nx] 32) = w6 at *
  generalize w5.heap.size = lk at *
  clear H2
  go_cut [11, 12] (fun v11 v12 wc => FzBg w [lObj lk S, lObj lb S, As.cells (lb + 1) #[.slice sm S.l.length cm, .int .i64 S.nx] 34, As.rdr 8 sm S.l.length cm (flat lcells S.l), As.cells w.heap.size #[.string ty, .bool bub, .bool can, .slice s1 P.length c1] 25] (dNew ty bub can P) v11 v12 wc)
  case first =>
    refine two_begun 4 37 39 38 40 11 12 w.heap.size ty bub can s1 c1 P _ rfl rfl (by decide) (by decide) ?_ (.tail _ (.tail _ (.tail _ (.tail _ (.head _))))) HRP.out (by omega) H6.out ?_ (by kernel_rfl) (by kernel_rfl) ?_
    · intro d hd
      simp only [List.mem_cons, List.not_mem_nil, or_false] at hd
      rcases hd with rfl | rfl | rfl | rfl | rfl | rfl <;> simp
    · intro l0 l2 q1 q2 m1 m2 e1 e2
      cases l0 <;> cases l2 <;> cases q1 <;> cases q2 <;> cases m1 <;> cases m2 <;> first | (exfalso; simp at e1 e2; done) | kernel_rfl
    · intro v1 v2 b b2 wc h8
      simp only [Act.put, List.setIfInBounds_toArray, List.set_cons_zero, List.set_cons_succ]
      go_wp2_with fail
      go_meet
      exact ⟨b, b2, rfl, rfl, h8⟩
  case rest =>
    obtain ⟨b, b2, rfl, rfl, h8⟩ := hcut
    have H8 := Lib.hid h8
    have HFz := Lib.hid (fz_new hA ty bub can P S hP hml hmx hmx2)
    have hmu0 : mu (dNew ty bub can P) ≤ 300000 := by simp only [mu, dNew, List.length_nil]; omega
    clear h8 H6
    go_wp2_with fail
    go_loopg [13] (mu (dNew ty bub can P)) (FzRel w [As.cells (lb + 1) #[.slice sm S.l.length cm, .int .i64 S.nx] 34, As.rdr 8 sm S.l.length cm (flat lcells S.l), As.cells w.heap.size #[.string ty, .bool bub, .bool can, .slice s1 P.length c1] 25] b lb b2 lk acs)
    case atStart => exact ⟨0, dNew ty bub can P, S, rfl, rfl, by omega, HFz.out, H8.out⟩
    case round =>
      obtain ⟨n, d, S, hg, rfl, hn, hfz, hp⟩ := hrel
      have Hg := Lib.hid hg
      have HN := Lib.hid hn
      have HFz := Lib.hid hfz
      have Hp := Lib.hid hp
      have hnb : n ≤ 1000000 := by omega
      have h9 := St.sh [_, _, _, _] [2, 1, 0, 3] (by decide) hp
      simp only [List.map_cons, List.map_nil, List.getD_cons_zero, List.getD_cons_succ, List.cons_append, List.nil_append] at h9
      have HC := Lib.hid (lclone_st h9 (by have := hfz.len; omega))
      clear hg hn hfz hp h9 H8
      go_wp2_with fail
      (with_reducible refine HC.out.mono ?_)
      rintro e w9 ⟨sa, ca, rfl, h10⟩
      have h11 := St.sh [_, _, _] [2, 0, 1] (by decide) h10
      simp only [List.map_cons, List.map_nil, List.getD_cons_zero, List.getD_cons_succ, List.cons_append, List.nil_append] at h11
      have HD := Lib.hid (dclone_st h11 (by have := HFz.out.path; omega) (by have := HFz.out.q; omega))
      clear h10 h11 HC
      go_wp2_with fail
      (with_reducible refine HD.out.mono ?_)
      rintro e w10 ⟨sp, cp, sq, cq, rfl, h12⟩
      have h13 := (h12.new #[.slice sa S.l.length ca, .int .i64 S.nx] 32).new (dCells d sp cp sq cq) 45
      simp only [World.size_alloc] at h13
      have H13 := Lib.hid h13
      clear h12 h13 HD
      go_upto_region 9 with fail
      generalize (w10.alloc (Obj.cells #[Value.slice sa S.l.length ca, Value.int IntKind.i64 S.nx] 32)).alloc (Obj.cells (dCells d sp cp sq cq) 45) = w11 at *
      generalize hb14 : w10.heap.size = b14 at *
      generalize hb15 : b14 + 1 = b15 at *
      clear hb14 hb15
      have h14 := St.sh [_, _, _, _, _, _, _] [6, 0, 1, 2, 3, 4, 5] (by decide) H13.out
      simp only [List.map_cons, List.map_nil, List.getD_cons_zero, List.getD_cons_succ, List.cons_append, List.nil_append] at h14
      have HDr := Lib.hid (ldrop_st ⟨2, 0⟩ h14 (by have := HFz.out.len; omega))
      clear h14 H13
      go_wp2_with fail
      (with_reducible refine HDr.out.mono ?_)
      rintro e w12 ⟨rfl, h15⟩
      have h16 := St.sh [_, _, _, _, _, _] [5, 0, 1, 2, 3, 4] (by decide) h15
      simp only [List.map_cons, List.map_nil, List.getD_cons_zero, List.getD_cons_succ, List.cons_append, List.nil_append] at h16
      have HHa := Lib.hid (halt_st h16)
      clear h15 h16 HDr
      go_wp2_with fail
      (with_reducible refine HHa.out.mono ?_)
      rintro e w13 ⟨rfl, h17⟩
      obtain ⟨so, co, h18⟩ := l_open h17.swap
      obtain ⟨a0, a1, af0, af1⟩ := h18.two
      obtain ⟨y0, y1, -, -⟩ := (h18.blkm (.tail _ (.tail _ (.tail _ (.tail _ (.head _)))))).two
      have h19 := St.sh [_, _, _, _, _, _, _, _] [1, 4, 0, 7, 2, 3, 5, 6] (by decide) (h18.set2 (.slice sa S.l.length ca) (.int .i64 S.nx))
      simp only [List.map_cons, List.map_nil, List.getD_cons_zero, List.getD_cons_succ, List.cons_append, List.nil_append] at h19
      have H19 := Lib.hid (l_shut h19.drop.drop)
      clear h17 h18 h19 HHa
      go_upto_region 12 with fail
      clear a0 a1 af0 af1 y0 y1
      generalize (w13.setCell ⟨lk, 0, none⟩ (.slice sa S.l.length ca)).setCell ⟨lk, 1, none⟩ (.int .i64 S.nx) = w14 at *
      obtain ⟨so', co', sqo, cqo, h20⟩ := d_open H19.out.swap
      obtain ⟨⟨a0, a1, a2, a3, a4, a5, a6⟩, a7, a8, a9, a10, a11, a12, a13⟩ := d_cells h20.blk.1
      obtain ⟨f0, f1, f2, f3, f4, f5, f6, f7, f8, f9, f10, f11, f12, f13⟩ := Blk.f14 h20.blk.1
      obtain ⟨⟨y0, y1, y2, y3, y4, y5, y6⟩, y7, y8, y9, y10, y11, y12, y13⟩ := d_cells (h20.blkm (.tail _ (.tail _ (.tail _ (.tail _ (.head _))))))
      have h21 := St.sh [_, _, _, _, _, _, _] [1, 2, 4, 0, 5, 6, 3] (by decide) (h20.set14 (.string d.ty) (.bool d.bub) (.bool d.can) (.slice sp d.path.length cp) (.int .i64 d.st) (.slice sq d.q.length cq) (.int .i64 d.cur.kind) (.int .i64 d.cur.id) (.int .i64 d.ph) (.bool d.pas) (.bool d.stop) (.bool d.halt) (.bool d.prev) (.bool d.done))
      simp only [List.map_cons, List.map_nil, List.getD_cons_zero, List.getD_cons_succ, List.cons_append, List.nil_append] at h21
      have h22 := St.sh [_, _, _, _] [2, 3, 0, 1] (by decide) (d_shut h21.drop.drop.drop)
      simp only [List.map_cons, List.map_nil, List.getD_cons_zero, List.getD_cons_succ, List.cons_append, List.nil_append] at h22
      have H22 := Lib.hid h22
      clear h20 h21 h22 H19
      go_upto_region 13 with fail
      clear a0 a1 a2 a3 a4 a5 a6 a7 a8 a9 a10 a11 a12 a13 f0 f1 f2 f3 f4 f5 f6 f7 f8 f9 f10 f11 f12 f13 y0 y1 y2 y3 y4 y5 y6 y7 y8 y9 y10 y11 y12 y13
      have HN1 := Lib.hid (next_st H22.out (by have := HFz.out.path; omega) HFz.out.st (by have := HFz.out.q; omega) (by have := HFz.out.len; omega))
      go_wp2_with fail
      (with_reducible refine HN1.out.mono ?_)
      rintro e w15 ⟨rfl, h23⟩
      have HO := Lib.hid (fz_next HFz.out)
      obtain ⟨o, ho⟩ : ∃ o, d.next S.l = o := ⟨_, rfl⟩
      have HOO := Lib.hid ho
      rw [ho] at h23 HO ⊢
      clear ho H22 HN1
      obtain ⟨cv, hcv⟩ : ∃ cv, o.call.getD Cl.zero = cv := ⟨_, rfl⟩
      have h24 := St.sh [_, _, _, _, _] [3, 4, 0, 1, 2] (by decide) (h23.new (clCells cv) 48)
      simp only [List.map_cons, List.map_nil, List.getD_cons_zero, List.getD_cons_succ, List.cons_append, List.nil_append] at h24
      have HN2 := Lib.hid (next_st h24 (by have := HFz.out.path; omega) HFz.out.st (by have := HFz.out.q; omega) (by have := HFz.out.len; omega))
      rw [HOO.out] at HN2
      clear h23 h24
      unfold callVal
      rw [hcv]
      have HCV := Lib.hid hcv
      clear hcv
      unfold clCells at HN2 ⊢
      go_wp2_with fail
      (with_reducible refine HN2.out.mono ?_)
      rintro e w16 ⟨rfl, h25⟩
      have h26 := h25.new (clCells cv) 48
      obtain ⟨p0, p1, p2, p3, p4, -⟩ := Blk.c5 h26.blk.1
      obtain ⟨r0, r1, r2, r3, r4, -⟩ := Blk.c5 (h26.blkm (.tail _ (.tail _ (.tail _ (.head _)))))
      have h27 := St.sh [_, _, _, _, _, _] [1, 2, 3, 4, 5, 0] (by decide) h26
      simp only [List.map_cons, List.map_nil, List.getD_cons_zero, List.getD_cons_succ, List.cons_append, List.nil_append] at h27
      have h28 := St.sh [_, _, _, _, _] [3, 4, 0, 1, 2] (by decide) h27
      simp only [List.map_cons, List.map_nil, List.getD_cons_zero, List.getD_cons_succ, List.cons_append, List.nil_append] at h28
      obtain ⟨_, _, _, _, hda⟩ := d_open h27
      obtain ⟨_, _, _, _, hdb⟩ := d_open h28
      obtain ⟨-, ka7, ka8, ka9, ka10, ka11, ka12, ka13⟩ := d_cells hda.blk.1
      obtain ⟨-, kb7, kb8, kb9, kb10, kb11, kb12, kb13⟩ := d_cells hdb.blk.1
      obtain ⟨sA, cA, hla⟩ := l_open h27.swap
      obtain ⟨sB, cB, hlb⟩ := l_open h28.swap
      obtain ⟨ga0, -, -, -⟩ := hla.two
      obtain ⟨gb0, -, -, -⟩ := hlb.two
      have H27 := Lib.hid h27
      clear h25 h26 h27 h28 hda hdb hla hlb HN2 ka7 ka8 ka9 ka10 ka11 kb7 kb8 kb9 kb10 kb11
      unfold callVal
      rw [HCV.out]
      unfold clCells at p0 p1 p2 p3 p4 r0 r1 r2 r3 r4 ga0 gb0 ka12 ka13 kb12 kb13 H27 ⊢
      rcases HO.out with ⟨e1, e2⟩ | ⟨c, e1, e2, e3, e4, e5⟩
      · rw [e1]
        rw [e2] at ka13 kb13
        clear e1 e2 HO
        go_wp2_with fail
        go_ret
        exact ⟨rfl, H27.out.bel⟩
      · rw [e1]
        have E3 := Lib.hid e3
        have E4 := Lib.hid e4
        have hn0 := HFz.out.nx0
        have hn1 := HFz.out.nx1
        have h29 := St.sh [_, _, _, _, _, _] [3, 4, 0, 1, 2, 5] (by decide) H27.out
        simp only [List.map_cons, List.map_nil, List.getD_cons_zero, List.getD_cons_succ, List.cons_append, List.nil_append] at h29
        have HA1 := Lib.hid (act_st s2 c2 acs (n : Int) h29 HRA.out HK.out (by simp only; omega) hn0 (by simp only; omega))
        clear e1 e2 e3 e4 HO h29 hn0
        go_wp2_with fail
        (with_reducible refine HA1.out.mono ?_)
        rintro e w17 ⟨rfl, h30⟩
        have h31 := St.sh [_, _, _, _] [2, 3, 0, 1] (by decide) h30
        simp only [List.map_cons, List.map_nil, List.getD_cons_zero, List.getD_cons_succ, List.cons_append, List.nil_append] at h31
        have hn0 := HFz.out.nx0
        have HA2 := Lib.hid (act_st s2 c2 acs (n : Int) h31 HRA.out HK.out (by simp only; omega) hn0 (by simp only; omega))
        clear h30 h31 hn0 HA1 H27 p0 p1 p2 p3 p4 r0 r1 r2 r3 r4 ga0 gb0 ka12 ka13 kb12 kb13
        go_wp2_with fail
        (with_reducible refine HA2.out.mono ?_)
        rintro e w18 ⟨rfl, h32⟩
        have h33 := St.sh [_, _, _, _, _, _] [4, 5, 2, 0, 1, 3] (by decide) h32
        simp only [List.map_cons, List.map_nil, List.getD_cons_zero, List.getD_cons_succ, List.cons_append, List.nil_append] at h33
        have H33 := Lib.hid h33.drop.drop
        clear h32 h33 HA2
        go_wp2_with fail
        go_roundg (mu (actF n (o.d, ⟨o.l, S.nx⟩) acs).1)
        case measure => have := Hg.out; have := E4.out; omega
        case rel =>
          refine ⟨n + 1, (actF n (o.d, ⟨o.l, S.nx⟩) acs).1, (actF n (o.d, ⟨o.l, S.nx⟩) acs).2, rfl, by simp, by have := HN.out; have := E4.out; omega, E3.out, ?_⟩
          exact H33.out
end Go.Proofs.Ytianjcbofgdfdaa
