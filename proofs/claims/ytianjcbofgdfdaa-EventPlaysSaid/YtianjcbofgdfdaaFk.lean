/-
  Contracts of the chapter's Drop and For.
-/
import Derived.Test.YtianjcbofgdfdaaFj
set_option linter.unusedVariables false
set_option linter.unusedSimpArgs false
namespace Go.Proofs.Ytianjcbofgdfdaa
open Go.RowKit Go.K Go.K.Ev

def RDropPost (S : Ls) (t : Tg) (w : World) (E : Ending) (w' : World) : Prop :=
  ∃ s' c', E = .returned (.tuple #[mVal s' (S.drop t).l.length c' S.nx, .int .i64 ((S.l.length : Int) - ((S.drop t).l.length : Int))]) ∧ Rc w' 8 s' (S.drop t).l.length c' (flat lcells (S.drop t).l) ∧ NewAt w s' ∧ Below w.heap.size w w'
def RDrRel (w : World) (S : Ls) (t : Tg) (s : Option Addr) (c b : Nat) (g : Nat) (v : Value) (wr : World) : Prop :=
  ∃ (k : Nat) (so : Option Addr) (co : Nat), g = S.l.length - k ∧ k ≤ S.l.length ∧ v = .int .i64 k ∧
    St w wr [As.cells (b + 1 + 1 + 1) #[.slice so (kept S.l t k).length co, .int .i64 S.nx] 34, As.row 55 8 so (kept S.l t k).length co (flat lcells (kept S.l t k)), As.cells (b + 1 + 1) #[.slice none 0 0, .int .i64 0] 34, As.cells (b + 1) #[.int .i64 t.kind, .int .i64 t.id] 29, As.cells b #[.slice s S.l.length c, .int .i64 S.nx] 34]
theorem newat_of {w0 w : World} {L : List As} {e : TypeId} {sz n c : Nat} {s : Option Addr} {xs : List Value} (h : St w0 w (As.row e sz s n c xs :: L)) : NewAt w0 s := by
  obtain ⟨F, h1, h2, -⟩ := h.head
  intro k hk
  exact h2 k ((h1.1 k).2 hk)

set_option maxRecDepth 100000 in
set_option maxHeartbeats 4000000 in
theorem rdrop_any (s : Option Addr) (c : Nat) (S : Ls) (t : Tg) (w : World) (hs : Rc w 8 s S.l.length c (flat lcells S.l)) (hn : S.l.length ≤ 10000) :
    Calls Try.prog 30 #[mVal s S.l.length c S.nx, .agg #[.int .i64 t.kind, .int .i64 t.id]] w (RDropPost S t w) := by
  have h0 := ((((St.start w (Below.refl w.heap.size w)).new #[.slice s S.l.length c, .int .i64 S.nx] 34).new #[.int .i64 t.kind, .int .i64 t.id] 29).new #[.slice none 0 0, .int .i64 0] 34).new #[.slice none 0 0, .int .i64 S.nx] 34
  simp only [World.size_alloc] at h0
  have H0 := Lib.hid ((h0.row_nil 55 8).swap)
  have HS := Lib.hid hs
  clear h0 hs
  go_enter Try.func30, Try.ntmps30
  go_wp2_with fail
  go_loopg [14] S.l.length (RDrRel w S t s c w.heap.size)
  case atStart => exact ⟨0, none, 0, rfl, Nat.zero_le _, rfl, H0.out⟩
  case round =>
    obtain ⟨k, so, co, hg, hk, rfl, hp⟩ := hrel
    have Hg := Lib.hid hg
    have Hp := Lib.hid hp
    have HR := Lib.hid (HS.out.below hp.bel)
    obtain ⟨m, hm⟩ : ∃ m, (kept S.l t k).length = m := ⟨_, rfl⟩
    have hmk := kept_le S.l t k
    rw [hm] at Hp hmk
    obtain ⟨o0, o1, of0, of1⟩ := Hp.out.blk.1.two
    obtain ⟨r0, r1, rf0, rf1⟩ := (Hp.out.blkm (.tail _ (.tail _ (.head _)))).two
    obtain ⟨t0, t1, -, -⟩ := (Hp.out.blkm (.tail _ (.tail _ (.tail _ (.head _))))).two
    obtain ⟨a0, a1, -, -⟩ := (Hp.out.blkm (.tail _ (.tail _ (.tail _ (.tail _ (.head _)))))).two
    have HM := Lib.hid hm
    clear hg hp H0 hm
    by_cases hkn : k < S.l.length
    · obtain ⟨g1, o1', rfl, -⟩ := HR.out.rd.addr (by omega)
      obtain ⟨x, hx⟩ : ∃ x, S.l[k] = x := ⟨_, rfl⟩
      obtain ⟨d0, d1, d2, d3, d4, d5, d6, d7⟩ := l_at HR.out.rd hkn x hx
      have HX := Lib.hid hx
      have hkn' : (k : Int) < (S.l.length : Int) := by omega
      have hk0 : (0 : Int) ≤ (k : Int) := by omega
      have hsu := Lib.hid (kept_succ S.l t k hkn)
      obtain ⟨x0, ⟨x1, x2⟩, x3, x4, x5, x6, x7⟩ := x
      obtain ⟨t1', t2'⟩ := t
      simp only at d0 d1 d2 d3 d4 d5 d6 d7 t0 t1
      clear hx
      by_cases e1 : Tg.same ⟨x1, x2⟩ ⟨t1', t2'⟩ = true
      · have hk2 := Lib.hid (show kept S.l ⟨t1', t2'⟩ (k + 1) = kept S.l ⟨t1', t2'⟩ k by rw [hsu.out, HX.out, if_neg (by unfold keepB; simp [e1]), List.append_nil])
        have e1' := Tg.same_iff.1 e1
        cases e1'
        clear e1
        go_upto_region 5 with fail
        go_quiet (fail)
        go_wp2_with fail
        go_roundg (S.l.length - (k + 1))
        case measure => have := Hg.out; omega
        case rel => exact ⟨k + 1, so, co, rfl, by omega, by simp, by rw [hk2.out, HM.out]; exact Hp.out.drewN _⟩
      · have hk2 := Lib.hid (show kept S.l ⟨t1', t2'⟩ (k + 1) = kept S.l ⟨t1', t2'⟩ k ++ [⟨x0, ⟨x1, x2⟩, x3, x4, x5, x6, x7⟩] by rw [hsu.out, HX.out, if_pos (by unfold keepB; simp [e1])])
        have hor : (x1 == t1') = false ∨ ((x1 == t1') = true ∧ (x2 == t2') = false) := by
          by_cases q : x1 = t1'
          · right; simp [Tg.same, q] at e1 ⊢; exact e1
          · left; simp [q]
        clear e1
        rcases hor with o2 | ⟨o2, o3⟩
        all_goals
          go_upto_region 5 with fail
          go_quiet (fail)
          go_upto_region 6 with fail
          have Hq := Lib.hid (Hp.out.drewN nq).swap
          obtain ⟨wq, hwq⟩ : ∃ wq, wr.drewN nq = wq := ⟨_, rfl⟩
          rw [hwq] at Hq ⊢
          have hd : ∀ {p v}, wr.cell? p = some v → wq.cell? p = some v := fun h => by rw [← hwq]; exact h
          replace d0 := hd d0
          replace d1 := hd d1
          replace d2 := hd d2
          replace d3 := hd d3
          replace d4 := hd d4
          replace d5 := hd d5
          replace d6 := hd d6
          replace d7 := hd d7
          replace o0 := hd o0
          replace a0 := hd a0
          clear hd hwq r0 r1 rf0 rf1 t0 t1 a1 o1 of0 of1
          have hof := Hq.out.swap.free 0
          have hlo := World.block_lt_of_cell? _ _ o0
          have hgl := World.block_lt_of_cell? _ _ d0
          have hal := World.block_lt_of_cell? _ _ a0
          simp only at hlo hgl hal
          have hxs := (Hq.out.sl.alloc (.cells #[.int .i64 x0, .int .i64 x1, .int .i64 x2, .string x3, .int .i64 x4, .bool x5, .bool x6, .bool x7] 55)).drew
          have hrd := rd_built_at wq #[.int .i64 x0, .int .i64 x1, .int .i64 x2, .string x3, .int .i64 x4, .bool x5, .bool x6, .bool x7] 55 8 1 wq.heap.size rfl rfl (by simp [Value.oneCell'])
          have hrd' : Rd (wq.alloc (.cells #[.int .i64 x0, .int .i64 x1, .int .i64 x2, .string x3, .int .i64 x4, .bool x5, .bool x6, .bool x7] 55)).drew 8 (some ⟨wq.heap.size, 0, none⟩) 1 _ := ⟨hrd.len, hrd.one, hrd.nil, hrd.cells⟩
          have H5 := Lib.hid (Hq.out.alloc (.cells #[.int .i64 x0, .int .i64 x1, .int .i64 x2, .string x3, .int .i64 x4, .bool x5, .bool x6, .bool x7] 55)).drew
          clear hrd
          go_region_law ((refine step_append_any (by rfl) _ _ 22 (by rfl) elM so _ co _ (by rfl) hxs _ 1 _ _ (by rfl) hrd' (by omega) (by omega) ?_; intro so3 co3 w4 p1 p2 p3; have H6 := Lib.hid ((H5.out.row_step p1 p2 p3).swap); have z0 := H6.out.cell 0; have zf0 := H6.out.free 0; simp at z0))
          all_goals
            have H7 := Lib.hid (H6.out.set 0 (.slice so3 (m + 1) co3))
            clear p1 p2 p3 hxs hrd' d0 d1 d2 d3 d4 d5 d6 d7 z0 zf0 o0 a0 hof
            go_wp2_with fail
            go_roundg (S.l.length - (k + 1))
            case measure => have := Hg.out; omega
            case rel =>
              refine ⟨k + 1, so3, co3, rfl, by omega, by simp, ?_⟩
              have hl : (kept S.l ⟨t1', t2'⟩ (k + 1)).length = m + 1 := by rw [hk2.out, List.length_append, HM.out]; rfl
              rw [hl, hk2.out, flat_append, flat_one]
              simpa [lcells] using H7.out
    · obtain rfl : k = S.l.length := by omega
      have hkd := kept_drop S t
      rw [hkd] at HM
      have hno := newat_of Hp.out.swap
      have hbel := Hp.out.bel
      have H4 := Lib.hid Hp.out
      have HNo := Lib.hid hno
      have hs1 := (Hp.out.slm (.tail _ (.head _))).rc
      have HRC := Lib.hid hs1
      have hn1 := Hp.out.ne (.tail _ (.head _))
      have hn2 := Hp.out.ne (.tail _ (.tail _ (.tail _ (.head _))))
      have hn1' := hn1.symm
      have hn2' := hn2.symm
      have h3 : w.heap.size + 1 + 1 ≠ w.heap.size := by omega
      have h3' : w.heap.size ≠ w.heap.size + 1 + 1 := by omega
      have hlo := World.block_lt_of_cell? _ _ o0
      have hlr := World.block_lt_of_cell? _ _ r0
      have hla := World.block_lt_of_cell? _ _ a0
      have hwm : IntKind.i64.wrap ((S.l.length : Int) - (m : Int)) = (S.l.length : Int) - (m : Int) := by rw [IntKind.wrap_i64]; omega
      clear hno hbel hs1
      go_upto_region 8 with fail
      go_region_held3 (fun w' => w'.cell? ⟨w.heap.size + 1 + 1 + 1, 0, none⟩ = some (.slice so m co) ∧ w'.cell? ⟨w.heap.size + 1 + 1 + 1, 1, none⟩ = some (.int .i64 S.nx) ∧ w'.cell? ⟨w.heap.size, 0, none⟩ = some (.slice s S.l.length c))
        (go_keep) (fail)
      all_goals
        go_wp2_with fail
        refine bodyPost_ret (v := .tuple #[mVal so m co S.nx, .int .i64 ((S.l.length : Int) - (m : Int))]) (by simp [results, Try.results30, go_sem, r0, r1]) rfl ?_
        unfold RDropPost
        rw [HM.out]
        have hkf : (S.drop t).l = kept S.l t S.l.length := hkd.symm
        rw [hkf]
        have h5 := St.sh [_, _, _] [2, 0, 1] (by decide) H4.out
        simp only [List.map_cons, List.map_nil, List.getD_cons_zero, List.getD_cons_succ, List.cons_append, List.nil_append] at h5
        have h6 := (h5.set2 (.slice so m co) (.int .i64 S.nx)).drew
        exact ⟨so, co, rfl, (h6.slm (.tail _ (.tail _ (.head _)))).rc, HNo.out, h6.bel⟩

def RForPost (S : Ls) (t : Tg) (ty : ByteArray) (w : World) (E : Ending) (w' : World) : Prop :=
  ∃ s' c', E = .returned (.slice s' (hits S.l t ty).length c') ∧ Rc w' 8 s' (hits S.l t ty).length c' (flat lcells (hits S.l t ty)) ∧ NewAt w s' ∧ Below w.heap.size w w'
def RForRel (w : World) (S : Ls) (t : Tg) (ty : ByteArray) (s : Option Addr) (c b : Nat) (g : Nat) (v7 v12 : Value) (wr : World) : Prop :=
  ∃ (k : Nat) (so : Option Addr) (co : Nat), g = S.l.length - k ∧ k ≤ S.l.length ∧ v12 = .int .i64 k ∧ v7 = .slice so (hits (S.l.take k) t ty).length co ∧
    St w wr [As.row 55 8 so (hits (S.l.take k) t ty).length co (flat lcells (hits (S.l.take k) t ty)), As.cells (b + 1) #[.int .i64 t.kind, .int .i64 t.id] 29, As.cells b #[.slice s S.l.length c, .int .i64 S.nx] 34]

set_option maxRecDepth 100000 in
set_option maxHeartbeats 4000000 in
theorem rfor_any (s : Option Addr) (c : Nat) (S : Ls) (t : Tg) (ty : ByteArray) (w : World) (hs : Rc w 8 s S.l.length c (flat lcells S.l)) (hn : S.l.length ≤ 10000) :
    Calls Try.prog 33 #[mVal s S.l.length c S.nx, .agg #[.int .i64 t.kind, .int .i64 t.id], .string ty] w (RForPost S t ty w) := by
  have h0 := ((St.start w (Below.refl w.heap.size w)).new #[.slice s S.l.length c, .int .i64 S.nx] 34).new #[.int .i64 t.kind, .int .i64 t.id] 29
  simp only [World.size_alloc] at h0
  have H0 := Lib.hid (h0.row_nil 55 8)
  have HS := Lib.hid hs
  clear h0 hs
  go_enter Try.func33, Try.ntmps33
  go_wp2_with fail
  go_loopg [7, 12] S.l.length (RForRel w S t ty s c w.heap.size)
  case atStart => exact ⟨0, none, 0, rfl, Nat.zero_le _, rfl, rfl, H0.out⟩
  case round =>
    obtain ⟨k, so, co, hg, hk, rfl, rfl, hp⟩ := hrel
    have Hg := Lib.hid hg
    have Hp := Lib.hid hp
    have HR := Lib.hid (HS.out.below hp.bel)
    have hmk := hits_le S.l t ty k
    obtain ⟨t0, t1, -, -⟩ := (Hp.out.blkm (.tail _ (.head _))).two
    obtain ⟨a0, a1, -, -⟩ := (Hp.out.blkm (.tail _ (.tail _ (.head _)))).two
    clear hg hp H0
    by_cases hkn : k < S.l.length
    · obtain ⟨g1, o1', rfl, -⟩ := HR.out.rd.addr (by omega)
      obtain ⟨x, hx⟩ : ∃ x, S.l[k] = x := ⟨_, rfl⟩
      obtain ⟨d0, d1, d2, d3, d4, d5, d6, d7⟩ := l_at HR.out.rd hkn x hx
      have hkn' : (k : Int) < (S.l.length : Int) := by omega
      have hk0 : (0 : Int) ≤ (k : Int) := by omega
      have hsu := hits_succ S.l t ty k hkn
      rw [hx] at hsu
      have HSu := Lib.hid hsu
      obtain ⟨x0, ⟨x1, x2⟩, x3, x4, x5, x6, x7⟩ := x
      obtain ⟨t1', t2'⟩ := t
      simp only at d0 d1 d2 d3 d4 d5 d6 d7 t0 t1
      generalize hits (S.l.take k) ⟨t1', t2'⟩ ty = hk0' at *
      clear hx hsu
      have hcs : (Tg.same ⟨x1, x2⟩ ⟨t1', t2'⟩ = false ∧ ((x1 == t1') = false ∨ ((x1 == t1') = true ∧ (x2 == t2') = false))) ∨ (Tg.same ⟨x1, x2⟩ ⟨t1', t2'⟩ = true ∧ ((x3.toList == ty.toList) = false ∨ (x3.toList == ty.toList) = true)) := by
        by_cases e : Tg.same ⟨x1, x2⟩ ⟨t1', t2'⟩ = true
        · exact .inr ⟨e, by cases (x3.toList == ty.toList) <;> simp⟩
        · refine .inl ⟨by simpa using e, ?_⟩
          by_cases q : x1 = t1'
          · right; simp [Tg.same, q] at e ⊢; exact e
          · left; simp [q]
      rcases hcs with ⟨hs, hor⟩ | ⟨hs, hty⟩
      · have hk2 := Lib.hid (show hits (S.l.take (k + 1)) ⟨t1', t2'⟩ ty = hk0' by have := HSu.out; rw [hs, Bool.false_and, if_neg (by simp), List.append_nil] at this; exact this)
        clear hs
        rcases hor with o2 | ⟨o2, o3⟩
        all_goals
          go_upto_region 5 with fail
          go_quiet (fail)
          go_wp2_with fail
          go_roundg (S.l.length - (k + 1))
          case measure => have := Hg.out; omega
          case rel => exact ⟨k + 1, so, co, rfl, by omega, by simp, by rw [hk2.out], by rw [hk2.out]; exact Hp.out.drewN _⟩
      · have hs' := Tg.same_iff.1 hs
        cases hs'
        rcases hty with e2 | e2
        · have hk2 := Lib.hid (show hits (S.l.take (k + 1)) ⟨x1, x2⟩ ty = hk0' by have := HSu.out; rw [hs, e2, Bool.true_and, if_neg (by simp), List.append_nil] at this; exact this)
          clear hs
          go_upto_region 5 with fail
          go_quiet (fail)
          go_wp2_with fail
          go_roundg (S.l.length - (k + 1))
          case measure => have := Hg.out; omega
          case rel => exact ⟨k + 1, so, co, rfl, by omega, by simp, by rw [hk2.out], by rw [hk2.out]; exact Hp.out.drewN _⟩
        · have hk2 := Lib.hid (show hits (S.l.take (k + 1)) ⟨x1, x2⟩ ty = hk0' ++ [⟨x0, ⟨x1, x2⟩, x3, x4, x5, x6, x7⟩] by have := HSu.out; rw [hs, e2, Bool.true_and, if_pos rfl] at this; exact this)
          clear hs
          go_upto_region 5 with fail
          go_quiet (fail)
          go_upto_region 6 with fail
          have Hq := Lib.hid (Hp.out.drewN nq)
          obtain ⟨wq, hwq⟩ : ∃ wq, wr.drewN nq = wq := ⟨_, rfl⟩
          rw [hwq] at Hq ⊢
          have hd : ∀ {p v}, wr.cell? p = some v → wq.cell? p = some v := fun h => by rw [← hwq]; exact h
          replace d0 := hd d0
          replace d1 := hd d1
          replace d2 := hd d2
          replace d3 := hd d3
          replace d4 := hd d4
          replace d5 := hd d5
          replace d6 := hd d6
          replace d7 := hd d7
          replace a0 := hd a0
          clear hd hwq t0 t1 a1
          have hxs := Hq.out.sl.alloc (.cells #[.int .i64 x0, .int .i64 x1, .int .i64 x2, .string x3, .int .i64 x4, .bool x5, .bool x6, .bool x7] 55)
          have r2 := rd_built_at wq #[.int .i64 x0, .int .i64 x1, .int .i64 x2, .string x3, .int .i64 x4, .bool x5, .bool x6, .bool x7] 55 8 1 wq.heap.size rfl rfl (by simp [Value.oneCell'])
          have H5 := Lib.hid (Hq.out.alloc (.cells #[.int .i64 x0, .int .i64 x1, .int .i64 x2, .string x3, .int .i64 x4, .bool x5, .bool x6, .bool x7] 55))
          go_wp2_with (refine wpList_append_any rfl (.tmp 33) (.tmp 39) 22 rfl elM so _ co _ rfl hxs _ 1 _ _ rfl r2 (by omega) (by omega) ?_)
          intro so' co' w4 p1 p2 p3
          have H6 := Lib.hid (H5.out.row_step p1 p2 p3)
          clear p1 p2 p3 hxs r2 d0 d1 d2 d3 d4 d5 d6 d7 a0
          go_wp2_with fail
          go_roundg (S.l.length - (k + 1))
          case measure => have := Hg.out; omega
          case rel =>
            refine ⟨k + 1, so', co', rfl, by omega, by simp, by rw [hk2.out]; simp, ?_⟩
            rw [hk2.out, flat_append, flat_one]
            simpa [lcells] using H6.out
    · obtain rfl : k = S.l.length := by omega
      have he : hits (S.l.take S.l.length) t ty = hits S.l t ty := by rw [List.take_length]
      rw [he] at Hp
      simp only [he]
      clear he
      go_wp2_with fail
      go_ret
      exact ⟨so, co, rfl, Hp.out.sl.rc, newat_of Hp.out, Hp.out.bel⟩
end Go.Proofs.Ytianjcbofgdfdaa
