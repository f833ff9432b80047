/-
  Contract of Listeners.For.
-/
import Derived.Test.YtianjcbofgdfdaaEc
set_option linter.unusedVariables false
set_option linter.unusedSimpArgs false
namespace Go.Proofs.Ytianjcbofgdfdaa
open Go.RowKit Go.K Go.K.Ev

def ForPost (b : Nat) (S : Ls) (t : Tg) (ty : ByteArray) (w0 : World) (L : List As) (E : Ending) (w' : World) : Prop :=
  ∃ s c, E = .returned (.slice s (hits S.l t ty).length c) ∧ St w0 w' (As.row 41 8 s (hits S.l t ty).length c (flat lcells (hits S.l t ty)) :: lObj b S :: L)

theorem hits_succ (ls : List Li) (t : Tg) (ty : ByteArray) (k : Nat) (hk : k < ls.length) :
    hits (ls.take (k + 1)) t ty = hits (ls.take k) t ty ++ (if Tg.same ls[k].tg t && (ls[k].ty.toList == ty.toList) then [ls[k]] else []) := by
  unfold hits
  rw [List.take_succ_eq_append_getElem hk, List.filter_append]
  congr 1
  by_cases h : (Tg.same ls[k].tg t && (ls[k].ty.toList == ty.toList)) = true <;> simp [List.filter_cons, h]
theorem hits_le (ls : List Li) (t : Tg) (ty : ByteArray) (k : Nat) : (hits (ls.take k) t ty).length ≤ k := by
  unfold hits
  exact Nat.le_trans (List.length_filter_le _ _) (List.length_take_le _ _)

/-- the objects while For runs: what was found, the target's own block, the list -/
def ForRel (w0 : World) (L : List As) (b bt : Nat) (S : Ls) (t : Tg) (ty : ByteArray) (s : Option Addr) (c : Nat) (g : Nat) (v7 v15 : Value) (wr : World) : Prop :=
  ∃ (k : Nat) (so : Option Addr) (co : Nat), g = S.l.length - k ∧ k ≤ S.l.length ∧ v15 = .int .i64 k ∧ v7 = .slice so (hits (S.l.take k) t ty).length co ∧
    St w0 wr (As.row 41 8 so (hits (S.l.take k) t ty).length co (flat lcells (hits (S.l.take k) t ty)) :: As.cells bt #[.int .i64 t.kind, .int .i64 t.id] 39 :: As.cells b #[.slice s S.l.length c, .int .i64 S.nx] 32 :: As.row 41 8 s S.l.length c (flat lcells S.l) :: L)

theorem st_rot4 {w0 w : World} {A B C D : As} {L : List As} (h : St w0 w (A :: B :: C :: D :: L)) : St w0 w (D :: A :: B :: C :: L) :=
  h.perm (((List.Perm.swap D C L).cons B |>.cons A).trans (((List.Perm.swap D B (C :: L)).cons A).trans (.swap _ _ _)))

set_option maxRecDepth 100000 in
set_option maxHeartbeats 2000000 in
theorem for_st {w0 w : World} {L : List As} {b : Nat} {S : Ls} (t : Tg) (ty : ByteArray) (h : St w0 w (lObj b S :: L)) (hn : S.l.length ≤ 10000) :
    Calls Try.prog 32 #[.pointer (some ⟨b, 0, none⟩), .agg #[.int .i64 t.kind, .int .i64 t.id], .string ty] w (ForPost b S t ty w0 L) := by
  obtain ⟨s, c, h1⟩ := l_open h
  have H0 := Lib.hid ((h1.new #[.int .i64 t.kind, .int .i64 t.id] 39).row_nil 41 8)
  obtain ⟨c0, c1, -, -⟩ := h1.two
  have hlt := h1.blk.1.lt
  clear h h1
  go_enter Try.func32, Try.ntmps32
  go_wp2_with fail
  go_loopg [7, 15] S.l.length (ForRel w0 L b w.heap.size S t ty s c)
  case atStart => exact ⟨0, none, 0, rfl, Nat.zero_le _, rfl, rfl, H0.out⟩
  case round =>
    obtain ⟨k, so, co, hg, hk, rfl, rfl, hp⟩ := hrel
    have Hg := Lib.hid hg
    have Hp := Lib.hid hp
    have hlen := hits_le S.l t ty k
    clear hg hp H0 c0 c1
    by_cases hkn : k < S.l.length
    · have hs := (st_rot4 Hp.out).sl
      obtain ⟨g, off, rfl, -, -, -⟩ := hs.some_of (Nat.lt_of_lt_of_le (by omega) hs.le)
      obtain ⟨x, hx⟩ : ∃ x, S.l[k] = x := ⟨_, rfl⟩
      obtain ⟨d0, d1, d2, d3, d4, d5, d6, d7⟩ := l_at hs.rd hkn x hx
      have HH := Lib.hid (hits_succ S.l t ty k hkn)
      rw [hx] at HH
      obtain ⟨q0, q1, -, -⟩ := Hp.out.swap.two
      have hbt := Hp.out.swap.blk.1.lt
      have H1 := Lib.hid (Hp.out.alloc (.cells (lrow x) 41))
      have HB := Lib.hid (Blk.new wr (lrow x) 41)
      have hkn' : (k : Int) < (S.l.length : Int) := by omega
      have hne : w.heap.size ≠ wr.heap.size := by omega
      obtain ⟨x0, ⟨x1, x2⟩, x3, x4, x5, x6, x7⟩ := x
      obtain ⟨t1, t2⟩ := t
      simp only at d0 d1 d2 d3 d4 d5 d6 d7 q0 q1
      unfold lrow at H1 HB
      clear hs hx
      generalize hits (S.l.take k) ⟨t1, t2⟩ ty = hk0 at *
      by_cases e1 : Tg.same ⟨x1, x2⟩ ⟨t1, t2⟩ = true
      · have e1' := Tg.same_iff.1 e1
        cases e1'
        by_cases e2 : x3.toList = ty.toList
        · have e2b : (x3.toList == ty.toList) = true := by simp [e2]
          have hres := Lib.hid (show (Tg.same ⟨x1, x2⟩ ⟨x1, x2⟩ && (x3.toList == ty.toList)) = true by simp [e1, e2b])
          have h2 := (H1.out.sl).alloc (.cells #[.int .i64 x0, .int .i64 x1, .int .i64 x2, .string x3, .int .i64 x4, .bool x5, .bool x6, .bool x7] 41)
          have r2 := rd_built_at (wr.alloc (.cells #[.int .i64 x0, .int .i64 x1, .int .i64 x2, .string x3, .int .i64 x4, .bool x5, .bool x6, .bool x7] 41)) #[.int .i64 x0, .int .i64 x1, .int .i64 x2, .string x3, .int .i64 x4, .bool x5, .bool x6, .bool x7] 41 8 1 (wr.heap.size + 1) (by simp) rfl (by simp [Value.oneCell'])
          clear e1 e2
          go_wp2_with (refine wpList_append_any rfl (.tmp 29) (.tmp 31) 30 rfl elL so _ co _ rfl h2 _ 1 _ _ rfl r2 (by omega) (by omega) ?_)
          intro so' co' w2 p1 p2 p3
          have H2 := Lib.hid ((H1.out.alloc (.cells #[.int .i64 x0, .int .i64 x1, .int .i64 x2, .string x3, .int .i64 x4, .bool x5, .bool x6, .bool x7] 41)).row_step p1 p2 p3)
          clear p1 p2 p3 d0 d1 d2 d3 d4 d5 d6 d7 q0 q1 h2 r2
          go_wp2_with fail
          go_roundg (S.l.length - (k + 1))
          case measure => have := Hg.out; omega
          case rel =>
            have he := HH.out
            rw [hres.out, if_pos rfl] at he
            refine ⟨k + 1, so', co', rfl, by omega, by simp, by rw [he]; simp, ?_⟩
            rw [he, flat_append, flat_one]
            simpa [lcells] using H2.out
        · have e2b : (x3.toList == ty.toList) = false := by simp [e2]
          have hres := Lib.hid (show (Tg.same ⟨x1, x2⟩ ⟨x1, x2⟩ && (x3.toList == ty.toList)) = false by simp [e2b])
          clear e1 e2
          go_wp2_with fail
          go_roundg (S.l.length - (k + 1))
          case measure => have := Hg.out; omega
          case rel =>
            have he := HH.out
            rw [hres.out, if_neg (by simp), List.append_nil] at he
            exact ⟨k + 1, so, co, rfl, by omega, by simp, by rw [he], by rw [he]; exact H1.out⟩
      · have hres := Lib.hid (show (Tg.same ⟨x1, x2⟩ ⟨t1, t2⟩ && (x3.toList == ty.toList)) = false by simp [e1])
        have hor : (x1 == t1) = false ∨ ((x1 == t1) = true ∧ (x2 == t2) = false) := by
          by_cases q : x1 = t1
          · right; simp [Tg.same, q] at e1 ⊢; exact e1
          · left; simp [q]
        clear e1
        rcases hor with o1 | ⟨o1, o2⟩
        all_goals
          go_wp2_with fail
          go_roundg (S.l.length - (k + 1))
          case measure => have := Hg.out; omega
          case rel =>
            have he := HH.out
            rw [hres.out, if_neg (by simp), List.append_nil] at he
            exact ⟨k + 1, so, co, rfl, by omega, by simp, by rw [he], by rw [he]; exact H1.out⟩
    · obtain rfl : k = S.l.length := by omega
      have he : hits (S.l.take S.l.length) t ty = hits S.l t ty := by rw [List.take_length]
      rw [he] at Hp
      simp only [he]
      clear he
      go_wp2_with fail
      go_ret
      exact ⟨so, co, rfl, (l_shut Hp.out.swap.drop.front2.front2).swap⟩
end Go.Proofs.Ytianjcbofgdfdaa
