/-
  Contract of the chapter's Dispatch.
-/
import Derived.Test.YtianjcbofgdfdaaFp
set_option linter.unusedVariables false
set_option linter.unusedSimpArgs false
namespace Go.Proofs.Ytianjcbofgdfdaa
open Go.RowKit Go.K Go.K.Ev

theorem bd_stage {acs : List Ac} {K : Ek} {r : Rn} (h : Bd acs K r) (ty : ByteArray) (t : Tg) (c : Bool) (ph : Int) : Bd acs K (stageR acs ty t c ph r) ∧ (stageR acs ty t c ph r).calls.length ≤ r.calls.length + 100 := by
  unfold stageR
  split
  · exact ⟨h, by omega⟩
  · have e : procQ acs t ph r (stI r.S.l t ty c) = procL acs t c ph r (hits r.S.l t ty) := by rw [procL_eq]; rfl
    rw [e]
    have := bd_proc h t c ph (hits r.S.l t ty) (hits r.S.l t ty).length
    rw [List.take_length] at this
    have hl : (hits r.S.l t ty).length ≤ 100 := by
      unfold hits
      have := List.length_filter_le (fun x => Tg.same x.tg t && (x.ty.toList == ty.toList)) r.S.l
      have := h.len
      omega
    exact ⟨this.1, by omega⟩
def upTo (acs : List Ac) (P : List Tg) (ty : ByteArray) (bub : Bool) (r : Rn) (k : Nat) : Rn := (List.range' 0 k).foldl (stepR acs P ty bub) r
theorem upTo_succ (acs : List Ac) (P : List Tg) (ty : ByteArray) (bub : Bool) (r : Rn) (k : Nat) : upTo acs P ty bub r (k + 1) = stepR acs P ty bub (upTo acs P ty bub r k) k := by
  unfold upTo
  rw [List.range'_concat, List.foldl_append]
  simp
theorem bd_upTo {acs : List Ac} {K : Ek} {P : List Tg} {ty : ByteArray} {bub : Bool} {r : Rn} (h : Bd acs K r) (k : Nat) : Bd acs K (upTo acs P ty bub r k) ∧ (upTo acs P ty bub r k).calls.length ≤ r.calls.length + 100 * k := by
  induction k with
  | zero => exact ⟨h, by simp [upTo]⟩
  | succ k ih =>
    rw [upTo_succ]
    unfold stepR
    split
    · exact ⟨ih.1, by omega⟩
    · obtain ⟨h1, h2⟩ := bd_stage ih.1 ty (stT P k) (decide (k < P.length)) (stP P.length k)
      exact ⟨h1, by omega⟩

def Dr1 (w0 : World) (br : Nat) (K : Ek) (acs : List Ac) (P : List Tg) (r : Rn) (L : List As) (g : Nat) (v : Value) (wr : World) : Prop :=
  ∃ k : Nat, g = P.length - k ∧ k ≤ P.length ∧ v = .int .i64 ((P.length : Int) - 1 - k) ∧ RObj w0 br K (upTo acs P K.ty K.bub r k).d (upTo acs P K.ty K.bub r k).S (upTo acs P K.ty K.bub r k).calls L wr
def Dr2 (w0 : World) (br : Nat) (K : Ek) (acs : List Ac) (P : List Tg) (r : Rn) (L : List As) (g : Nat) (v : Value) (wr : World) : Prop :=
  ∃ k : Nat, g = P.length - k ∧ k ≤ P.length ∧ v = .int .i64 k ∧ RObj w0 br K (upTo acs P K.ty K.bub r (P.length + k)).d (upTo acs P K.ty K.bub r (P.length + k)).S (upTo acs P K.ty K.bub r (P.length + k)).calls L wr
def RDPost (K : Ek) (r : Rn) (w0 : World) (L : List As) (E : Ending) (w' : World) : Prop :=
  ∃ sl cl sc cc, E = .returned (.agg (rCells K r.d r.S r.calls sl cl sc cc)) ∧ St w0 w' (As.rdr 8 sl r.S.l.length cl (flat lcells r.S.l) :: As.row 66 5 sc r.calls.length cc (flat ccells r.calls) :: L)

set_option maxRecDepth 100000 in
set_option maxHeartbeats 8000000 in
theorem rdispatch_st {w0 w : World} {L : List As} (acs : List Ac) (S : Ls) (ty : ByteArray) (bub can : Bool) (s1 : Option Addr) (c1 : Nat) (P : List Tg) (s2 : Option Addr) (c2 : Nat) (sm : Option Addr) (cm : Nat)
    (h : St w0 w (As.rdr 8 sm S.l.length cm (flat lcells S.l) :: L)) (hP : P.length ≤ 12) (hrP : Rd w0 2 s1 P.length (flat gcells P)) (hac : acs.length ≤ 30) (hrA : Rd w0 10 s2 acs.length (flat acells acs)) (hk : ∀ a ∈ acs, 0 ≤ a.kind ∧ 0 ≤ a.at' ∧ a.at' < 256)
    (hl : S.l.length ≤ 40) (hx : 0 ≤ S.nx) (hx2 : S.nx ≤ 40) :
    Calls Try.prog 23 #[mVal sm S.l.length cm S.nx, evVal ty bub can s1 P.length c1, .slice s2 acs.length c2] w (RDPost ⟨ty, bub, can, s1, P.length, c1, s2, acs.length, c2⟩ (restR acs P ty bub ⟨dNew ty bub can P, S, []⟩ 0) w0 L) := by
  obtain ⟨K, hK⟩ : ∃ K : Ek, (⟨ty, bub, can, s1, P.length, c1, s2, acs.length, c2⟩ : Ek) = K := ⟨_, rfl⟩
  obtain ⟨r, hr⟩ : ∃ r : Rn, (⟨dNew ty bub can P, S, []⟩ : Rn) = r := ⟨_, rfl⟩
  rw [hK, hr]
  have hB : Bd acs K r := by
    have := left_le acs ((0 : Nat) : Int)
    rw [← hK, ← hr]
    exact ⟨by simp only [List.length_nil]; omega, hx, by simp only [List.length_nil]; omega, rfl⟩
  have hcl : r.calls.length = 0 := by rw [← hr]; rfl
  have h1 := (((h.new #[.slice sm S.l.length cm, .int .i64 S.nx] 34).new #[.string ty, .bool bub, .bool can, .slice s1 P.length c1] 25).new #[.slice none 0 0, .int .i64 0, .string ByteArray.empty, .bool false, .bool false, .slice none 0 0, .slice none 0 0, .slice none 0 0, .bool false, .bool false, .bool false] 62).new #[.slice sm S.l.length cm, .int .i64 S.nx, .string ty, .bool bub, .bool can, .slice s1 P.length c1, .slice s2 acs.length c2, .slice none 0 0, .bool false, .bool false, .bool false] 62
  simp only [World.size_alloc] at h1
  have h2 := St.sh [_, _, _, _, _, _] [1, 5, 0, 2, 3, 4] (by decide) (h1.row_nil 66 5)
  simp only [List.map_cons, List.map_nil, List.getD_cons_zero, List.getD_cons_succ, List.cons_append, List.nil_append] at h2
  obtain ⟨LL, hLL⟩ : ∃ LL, As.cells (w.heap.size + 1 + 1) #[.slice none 0 0, .int .i64 0, .string ByteArray.empty, .bool false, .bool false, .slice none 0 0, .slice none 0 0, .slice none 0 0, .bool false, .bool false, .bool false] 62 :: As.cells (w.heap.size + 1) #[.string ty, .bool bub, .bool can, .slice s1 P.length c1] 25 :: As.cells w.heap.size #[.slice sm S.l.length cm, .int .i64 S.nx] 34 :: L = LL := ⟨_, rfl⟩
  have hLe : As.cells (w.heap.size + 1) #[.string ty, .bool bub, .bool can, .slice s1 P.length c1] 25 ∈ LL := by rw [← hLL]; exact .tail _ (.head _)
  have hLz : As.cells (w.heap.size + 1 + 1) #[.slice none 0 0, .int .i64 0, .string ByteArray.empty, .bool false, .bool false, .slice none 0 0, .slice none 0 0, .slice none 0 0, .bool false, .bool false, .bool false] 62 ∈ LL := by rw [← hLL]; exact .head _
  have H2 := Lib.hid (show RObj w0 (w.heap.size + 1 + 1 + 1) K r.d r.S r.calls LL _ by rw [← hLL, ← hK, ← hr]; exact ⟨sm, cm, none, 0, h2⟩)
  have HLL := Lib.hid hLL
  have HB := Lib.hid hB
  have HK := Lib.hid hK
  have HRP := Lib.hid hrP
  have HRA := Lib.hid hrA
  have HKK := Lib.hid hk
  have HCl := Lib.hid hcl
  have hKty : Hid (K.ty = ty ∧ K.bub = bub ∧ K.na = acs.length ∧ K.s2 = s2) := Lib.hid (by rw [← hK]; exact ⟨rfl, rfl, rfl, rfl⟩)
  clear h h1 h2 hB hLL hK hr hrP hrA hk hcl
  go_enter Try.func23, Try.ntmps23
  go_wp2_with fail
  obtain ⟨b0, hb0⟩ : ∃ b0, w.heap.size = b0 := ⟨_, rfl⟩
  rw [hb0] at hLe hLz H2 HLL
  try rw [hb0]
  clear hb0
  go_loopg [8] P.length (Dr1 w0 (b0 + 1 + 1 + 1) K acs P r LL)
  case atStart => exact ⟨0, rfl, Nat.zero_le _, by simp, H2.out⟩
  case round =>
    obtain ⟨k, hg, hk, rfl, hp⟩ := hrel
    have Hg := Lib.hid hg
    obtain ⟨hB4, hc4⟩ := bd_upTo (P := P) (ty := K.ty) (bub := K.bub) HB.out k
    have HSu := Lib.hid (upTo_succ acs P K.ty K.bub r k)
    obtain ⟨r4, hr4⟩ : ∃ r4, upTo acs P K.ty K.bub r k = r4 := ⟨_, rfl⟩
    rw [hr4] at hp hB4 hc4 HSu
    have HR4 := Lib.hid hr4
    have Hp := Lib.hid hp
    have hcc := HCl.out
    obtain ⟨sl4, cl4, sc4, cc4, hq⟩ := hp
    obtain ⟨k0, k1, k2, k3⟩ := ev_cells (hq.blkm (.tail _ (.tail _ (.tail _ hLe))))
    have hbel := hq.bel
    clear hg hq hr4 H2
    by_cases hkn : k < P.length
    · obtain ⟨j, hj⟩ : ∃ j, P.length = j + k + 1 := ⟨P.length - 1 - k, by omega⟩
      have hjn : j < P.length := by omega
      have hr := HRP.out.below hbel
      obtain ⟨g1, o1, rfl, -⟩ := hr.addr (by omega)
      obtain ⟨t, ht⟩ : ∃ t, P[j] = t := ⟨_, rfl⟩
      obtain ⟨d0, d1⟩ := g_at hr hjn t ht
      have hstep : Hid (stepR acs P K.ty K.bub r4 k = stageR acs K.ty t true (if j = 0 then 2 else 1) r4) := Lib.hid (by
        unfold stepR
        rw [if_neg (by omega)]
        have e1 : stT P k = t := by
          unfold stT
          rw [if_pos hkn, List.getD_eq_getElem?_getD, show P.length - 1 - k = j by omega, List.getElem?_eq_getElem hjn, ht]; rfl
        have e2 : stP P.length k = if j = 0 then 2 else 1 := by
          unfold stP
          by_cases h0 : j = 0
          · rw [if_neg (by omega), if_pos (by omega), if_pos h0]
          · rw [if_pos (by omega), if_neg h0]
        rw [e1, e2, decide_eq_true hkn])
      have hji : (P.length : Int) - 1 - (k : Int) = (j : Int) := by omega
      have hj0 : (0 : Int) ≤ (j : Int) := by omega
      have hjn' : (j : Int) < (P.length : Int) := by omega
      rw [hji]
      have HCall := Lib.hid (fun ph => rstage_st K acs r4 t true ph Hp.out hB4 hKty.out.2.2.1 (by rw [hKty.out.2.2.2]; exact HRA.out) HKK.out hac (by omega))
      have HJ := Lib.hid hj
      have HJI := Lib.hid hji
      clear hr ht hj hji hcc
      obtain ⟨t1, t2⟩ := t
      simp only at d0 d1
      by_cases h0 : j = 0
      · have h0i : ((j : Int) == 0) = true := by simp [h0]
        have hs2 := hstep.out
        rw [if_pos h0] at hs2
        have HS2 := Lib.hid hs2
        clear hs2 hstep h0
        go_wp2_with fail
        (with_reducible refine (HCall.out 2).mono ?_)
        rintro e w5 ⟨rfl, h5⟩
        clear k0 k1 k2 k3 d0 d1
        go_wp2_with fail
        go_roundg (P.length - (k + 1))
        case measure => have := Hg.out; omega
        case rel => exact ⟨k + 1, rfl, by omega, by have := HJI.out; congr 1; push_cast; omega, by rw [HSu.out, HS2.out]; exact h5⟩
      · have h0i : ((j : Int) == 0) = false := by simp; omega
        have hs2 := hstep.out
        rw [if_neg h0] at hs2
        have HS2 := Lib.hid hs2
        clear hs2 hstep h0
        go_wp2_with fail
        (with_reducible refine (HCall.out 1).mono ?_)
        rintro e w5 ⟨rfl, h5⟩
        clear k0 k1 k2 k3 d0 d1
        go_wp2_with fail
        go_roundg (P.length - (k + 1))
        case measure => have := Hg.out; omega
        case rel => exact ⟨k + 1, rfl, by omega, by have := HJI.out; congr 1; push_cast; omega, by rw [HSu.out, HS2.out]; exact h5⟩
    · obtain rfl : k = P.length := by omega
      have hneg : (P.length : Int) - 1 - (P.length : Int) = -1 := by omega
      rw [hneg]
      clear hneg hB4 hc4 HSu hcc
      go_wp2_with fail
      go_loopg [37] P.length (Dr2 w0 (b0 + 1 + 1 + 1) K acs P r LL)
      case atStart => exact ⟨0, rfl, Nat.zero_le _, rfl, by have q := Hp.out; rw [← HR4.out] at q; exact q⟩
      case round =>
        obtain ⟨k, hg, hk, rfl, hp⟩ := hrel
        have Hg := Lib.hid hg
        obtain ⟨hB4, hc4⟩ := bd_upTo (P := P) (ty := K.ty) (bub := K.bub) HB.out (P.length + k)
        have HSu := Lib.hid (upTo_succ acs P K.ty K.bub r (P.length + k))
        obtain ⟨r5, hr5⟩ : ∃ r5, upTo acs P K.ty K.bub r (P.length + k) = r5 := ⟨_, rfl⟩
        rw [hr5] at hp hB4 hc4 HSu
        have HR5 := Lib.hid hr5
        have Hp := Lib.hid hp
        have hcc := HCl.out
        obtain ⟨sl4, cl4, sc4, cc4, hq⟩ := hp
        clear k0 k1 k2 k3
        obtain ⟨k0, k1, k2, k3⟩ := ev_cells (hq.blkm (.tail _ (.tail _ (.tail _ hLe))))
        have hbel2 := hq.bel
        have Hq := Lib.hid hq
        clear hg hq hr5
        by_cases hkn : k < P.length
        · have hr := HRP.out.below hbel2
          obtain ⟨g1, o1, rfl, -⟩ := hr.addr (by omega)
          obtain ⟨t, ht⟩ : ∃ t, P[k] = t := ⟨_, rfl⟩
          obtain ⟨d0, d1⟩ := g_at hr hkn t ht
          have hT : stT P (P.length + k) = t := by
            unfold stT
            rw [if_neg (by omega), List.getD_eq_getElem?_getD, show P.length + k - P.length = k by omega, List.getElem?_eq_getElem hkn, ht]; rfl
          have hdec : decide (P.length + k < P.length) = false := by simp
          have hk0 : (0 : Int) ≤ (k : Int) := by omega
          have hkn' : (k : Int) < (P.length : Int) := by omega
          have HCall := Lib.hid (fun ph => rstage_st K acs r5 t false ph Hp.out hB4 hKty.out.2.2.1 (by rw [hKty.out.2.2.2]; exact HRA.out) HKK.out hac (by omega))
          have HT := Lib.hid hT
          have HDec := Lib.hid hdec
          clear hr ht hT hdec hcc
          obtain ⟨t1, t2⟩ := t
          simp only at d0 d1
          by_cases h0 : k = 0
          · have h0i : ((k : Int) == 0) = true := by simp [h0]
            have hs : stepR acs P K.ty K.bub r5 (P.length + k) = stageR acs K.ty ⟨t1, t2⟩ false 2 r5 := by
              unfold stepR
              rw [if_neg (by omega), HT.out, HDec.out]
              unfold stP
              rw [if_neg (by omega), if_pos (by omega)]
            have HS2 := Lib.hid hs
            clear hs h0
            go_wp2_with fail
            (with_reducible refine (HCall.out 2).mono ?_)
            rintro e w5 ⟨rfl, h5⟩
            clear k0 k1 k2 k3 d0 d1
            go_wp2_with fail
            go_roundg (P.length - (k + 1))
            case measure => have := Hg.out; omega
            case rel => exact ⟨k + 1, rfl, by omega, by simp, by rw [← Nat.add_assoc, HSu.out, HS2.out]; exact h5⟩
          · have h0i : ((k : Int) == 0) = false := by simp; omega
            have hs : stepR acs P K.ty K.bub r5 (P.length + k) = if bub then stageR acs K.ty ⟨t1, t2⟩ false 3 r5 else r5 := by
              unfold stepR
              rw [hKty.out.2.1]
              cases bub
              · rw [if_pos ⟨by omega, rfl⟩]; rfl
              · rw [if_neg (by simp), HT.out, HDec.out, if_pos rfl]
                unfold stP
                rw [if_neg (by omega), if_neg (by omega)]
            have HS2 := Lib.hid hs
            clear hs h0
            cases bub with
            | false =>
              go_wp2_with fail
              go_roundg (P.length - (k + 1))
              case measure => have := Hg.out; omega
              case rel => exact ⟨k + 1, rfl, by omega, by simp, by rw [← Nat.add_assoc, HSu.out, HS2.out]; exact Hp.out⟩
            | true =>
              go_wp2_with fail
              (with_reducible refine (HCall.out 3).mono ?_)
              rintro e w5 ⟨rfl, h5⟩
              clear k0 k1 k2 k3 d0 d1
              go_wp2_with fail
              go_roundg (P.length - (k + 1))
              case measure => have := Hg.out; omega
              case rel => exact ⟨k + 1, rfl, by omega, by simp, by rw [← Nat.add_assoc, HSu.out, HS2.out]; exact h5⟩
        · obtain rfl : k = P.length := by omega
          have hbk := Hq.out.blk.1
          obtain ⟨c0, c1, c2, c3, c4, c5, c6, c7, c8, c9, c10⟩ := r_cells hbk
          have hbz := Hq.out.blkm (.tail _ (.tail _ (.tail _ hLz)))
          have zc := fun i => hbz.cell i
          have z0 := zc 0; have z1 := zc 1; have z2 := zc 2; have z3 := zc 3; have z4 := zc 4; have z5 := zc 5; have z6 := zc 6; have z7 := zc 7; have z8 := zc 8; have z9 := zc 9; have z10 := zc 10
          simp at z0 z1 z2 z3 z4 z5 z6 z7 z8 z9 z10
          have f0 := hbz.free 0; have f1 := hbz.free 1; have f2 := hbz.free 2; have f3 := hbz.free 3; have f4 := hbz.free 4; have f5 := hbz.free 5; have f6 := hbz.free 6; have f7 := hbz.free 7; have f8 := hbz.free 8; have f9 := hbz.free 9; have f10 := hbz.free 10
          clear zc hbk hbz hcc
          go_wp2_with fail
          have hu : restR acs P ty bub r 0 = r5 := by
            rw [← HR5.out, hKty.out.1, hKty.out.2.1]
            unfold restR upTo
            rw [show 2 * P.length - 0 = P.length + P.length by omega]
          rw [hu]
          refine bodyPost_ret (v := .agg (rCells K r5.d r5.S r5.calls sl4 cl4 sc4 cc4)) (by simp [results, Try.results23, go_sem, z0, z1, z2, z3, z4, z5, z6, z7, z8, z9, z10, rCells]) rfl ⟨sl4, cl4, sc4, cc4, rfl, ?_⟩
          have h9 := Hq.out
          rw [← HLL.out] at h9
          have h10 := St.sh [_, _, _, _, _, _] [3, 0, 4, 5, 1, 2] (by decide) h9
          simp only [List.map_cons, List.map_nil, List.getD_cons_zero, List.getD_cons_succ, List.cons_append, List.nil_append] at h10
          exact (((((((((((h10.set 0 _).set 1 _).set 2 _).set 3 _).set 4 _).set 5 _).set 6 _).set 7 _).set 8 _).set 9 _).set 10 _).drop.drop.drop.drop
end Go.Proofs.Ytianjcbofgdfdaa
