/-
  Contract of the chapter's Remove.
-/
import Derived.Test.YtianjcbofgdfdaaFi
set_option linter.unusedVariables false
set_option linter.unusedSimpArgs false
namespace Go.Proofs.Ytianjcbofgdfdaa
open Go.RowKit Go.K Go.K.Ev

def RRmPost (S : Ls) (x : Li) (s : Option Addr) (c : Nat) (w : World) (E : Ending) (w' : World) : Prop :=
  ∃ s' c', E = .returned (.tuple #[mVal s' (S.remove x).l.length c' (S.remove x).nx, .bool (S.has x)]) ∧ Rc w' 8 s' (S.remove x).l.length c' (flat lcells (S.remove x).l) ∧ ((s' = s ∧ c' = c ∧ S.remove x = S) ∨ NewAt w s') ∧ Below w.heap.size w w'
theorem remove_at {S : Ls} {x : Li} {k : Nat} (hk : k < S.l.length) (h : eqL S.l[k] x = true) (ha : ∀ j (hj : j < S.l.length), j < k → eqL S.l[j] x = false) : S.remove x = ⟨S.l.eraseIdx k, S.nx⟩ ∧ S.has x = true := by
  have : S.l.findIdx? (eqL x) = some k := by
    rw [List.findIdx?_eq_some_iff_getElem]
    refine ⟨hk, by rw [eqL_comm]; exact h, fun j hj => ?_⟩
    rw [eqL_comm, ha j (by omega) hj]; simp
  refine ⟨by unfold Ls.remove; rw [this], ?_⟩
  unfold Ls.has
  exact List.any_eq_true.2 ⟨_, List.getElem_mem hk, by rw [eqL_comm]; exact h⟩
theorem remove_no {S : Ls} {x : Li} (ha : ∀ j (hj : j < S.l.length), eqL S.l[j] x = false) : S.remove x = S ∧ S.has x = false := by
  have : S.l.findIdx? (eqL x) = none := by
    rw [List.findIdx?_eq_none_iff]
    intro y hy
    obtain ⟨j, hj, rfl⟩ := List.getElem_of_mem hy
    rw [eqL_comm, ha j hj]
  refine ⟨by unfold Ls.remove; rw [this], ?_⟩
  unfold Ls.has
  refine List.any_eq_false.2 fun y hy => ?_
  obtain ⟨j, hj, rfl⟩ := List.getElem_of_mem hy
  rw [eqL_comm, ha j hj]; simp

set_option maxRecDepth 100000 in
set_option maxHeartbeats 4000000 in
theorem rrem_any (s : Option Addr) (c : Nat) (S : Ls) (x : Li) (w : World) (hs : Rc w 8 s S.l.length c (flat lcells S.l)) (hn : S.l.length ≤ 10000) :
    Calls Try.prog 28 #[mVal s S.l.length c S.nx, lval x] w (RRmPost S x s c w) := by
  have HS := Lib.hid hs
  obtain ⟨W, hW⟩ : ∃ W, W = ((w.alloc (.cells #[.slice s S.l.length c, .int .i64 S.nx] 34)).alloc (.cells (lrow x) 55)).alloc (.cells #[.slice none 0 0, .int .i64 0] 34) := ⟨_, rfl⟩
  have B0 : Hid (Below w.heap.size w W) := Lib.hid (by rw [hW]; exact (((Below.refl _ _).alloc (Nat.le_refl _) _).alloc (by simp) _).alloc (by simp; omega) _)
  have K0 : Hid (Blk W w.heap.size #[.slice s S.l.length c, .int .i64 S.nx] 34) := Lib.hid (by rw [hW]; exact ((Blk.new w _ 34).alloc _).alloc _)
  have K1 : Hid (Blk W (w.heap.size + 1) (lrow x) 55) := Lib.hid (by rw [hW]; exact (blk_new _ _ _ _ (by simp)).alloc _)
  have K2 : Hid (Blk W (w.heap.size + 1 + 1) #[.slice none 0 0, .int .i64 0] 34) := Lib.hid (by rw [hW]; exact blk_new _ _ _ _ (by simp))
  have HR := Lib.hid (hs.below B0.out)
  obtain ⟨x0, ⟨x1, x2⟩, x3, x4, x5, x6, x7⟩ := x
  unfold lrow at hW K1
  unfold lval
  have HW := Lib.hid hW
  clear hs hW
  go_enter Try.func28, Try.ntmps28
  go_wp2_with fail
  rw [← HW.out]
  go_loopg [10] S.l.length (RAddRel ⟨x0, ⟨x1, x2⟩, x3, x4, x5, x6, x7⟩ S.l W S.l.length)
  case atStart => exact ⟨0, rfl, Nat.zero_le _, rfl, Below.refl _ _, by intro j hj h; omega⟩
  case round =>
    obtain ⟨k, hg, hk, rfl, hb, hall⟩ := hrel
    have Hg := Lib.hid hg
    have HA := Lib.hid hall
    have HB := Lib.hid hb
    have HR2 := Lib.hid (HR.out.below hb)
    have k0 := K0.out.kept (Fr.of_below hb) (fun q => q)
    have k1 := K1.out.kept (Fr.of_below hb) (fun q => q)
    have k2 := K2.out.kept (Fr.of_below hb) (fun q => q)
    obtain ⟨a0, a1, af0, af1⟩ := k0.two
    obtain ⟨y0, y1, y2, y3, y4, y5, y6, y7⟩ := Blk.c8 k1
    obtain ⟨b0, b1, bf0, bf1⟩ := k2.two
    have KK2 := Lib.hid k2
    have hlt0 := k0.lt
    clear hg hall hb k0 k1 k2
    by_cases hkn : k < S.l.length
    · obtain ⟨g, off, rfl, -⟩ := HR2.out.rd.addr (by omega)
      obtain ⟨y, hy⟩ : ∃ y, S.l[k] = y := ⟨_, rfl⟩
      obtain ⟨d0, d1, d2, d3, d4, d5, d6, d7⟩ := l_at HR2.out.rd hkn y hy
      have HY := Lib.hid hy
      have hkn' : (k : Int) < (S.l.length : Int) := by omega
      clear hy
      go_wp2_with fail
      go_still_tail 6, (by kernel_rfl)
      change wpList _ _ _ _ _ wr.drew
      go_wp2_with fail
      refine (equal_any y ⟨x0, ⟨x1, x2⟩, x3, x4, x5, x6, x7⟩ _).mono ?_
      rintro e w2 ⟨rfl, hb2⟩
      have hb3 : Below wr.heap.size wr w2 := ⟨hb2.os, hb2.tape, hb2.output, hb2.size, hb2.block⟩
      have HB3 := Lib.hid hb3
      have k22 := KK2.out.kept (Fr.of_below hb3) (fun q => q)
      have K22 := Lib.hid k22
      obtain ⟨b0', b1', bf0', bf1'⟩ := k22.two
      have a0' := (hb3.cell (p := ⟨w.heap.size, 0, none⟩) hlt0).trans a0
      have a1' := (hb3.cell (p := ⟨w.heap.size, 1, none⟩) hlt0).trans a1
      clear hb2 hb3 d0 d1 d2 d3 d4 d5 d6 d7 y0 y1 y2 y3 y4 y5 y6 y7 a0 a1 b0 b1 bf0 bf1 k22
      cases he : eqL y ⟨x0, ⟨x1, x2⟩, x3, x4, x5, x6, x7⟩ with
      | true =>
        have hrm := Lib.hid (remove_at hkn (by rw [HY.out]; exact he) HA.out)
        have HWo := Lib.hid (without_any (some ⟨g, off, none⟩) c S k w2 (HR2.out.below HB3.out) hkn hn)
        clear he
        go_wp2_with fail
        (with_reducible refine HWo.out.mono ?_)
        rintro e w4 ⟨s', c', rfl, hr4, hnew, hb4⟩
        obtain ⟨b0, b1, bf0, bf1⟩ := (K22.out.kept (Fr.of_below hb4) (fun q => q)).two
        have H4 := Lib.hid hr4
        have HB4 := Lib.hid hb4
        have HNew := Lib.hid hnew
        clear hr4 hb4 hnew HWo a0' a1' b0' b1' bf0' bf1'
        go_wp2_with fail
        refine bodyPost_ret (v := .tuple #[mVal s' (S.l.eraseIdx k).length c' S.nx, .bool true]) (by simp [results, Try.results28, go_sem, b0, b1]) rfl ?_
        obtain ⟨hr1, hr2⟩ := hrm.out
        unfold RRmPost
        rw [hr1, hr2]
        have hB0 := B0.out.trans ((HB.out.trans (HB3.out.mono HB.out.size)).mono B0.out.size)
        have hB := hB0.trans (HB4.out.mono hB0.size)
        have hB' := (hB.setCell (p := ⟨w.heap.size + 1 + 1, 0, none⟩) (by simp; omega) (.slice s' (S.l.eraseIdx k).length c')).setCell (p := ⟨w.heap.size + 1 + 1, 1, none⟩) (by simp; omega) (.int .i64 S.nx)
        refine ⟨s', c', rfl, ?_, .inr (fun r hr => by have := HNew.out r hr; have := hB0.size; omega), hB'⟩
        have hlt2 := K22.out.lt
        refine H4.out.kept (S := fun r => r = w.heap.size + 1 + 1) (Fr.setCell (S := fun r => r = w.heap.size + 1 + 1) (p := ⟨w.heap.size + 1 + 1, 1, none⟩) (Fr.setCell (S := fun r => r = w.heap.size + 1 + 1) (p := ⟨w.heap.size + 1 + 1, 0, none⟩) (Fr.refl _ _) (fun _ => rfl) _) (fun _ => rfl) _) (fun r hr e => by have := HNew.out r hr; omega)
      | false =>
        have HE := Lib.hid he
        clear he
        go_wp2_with fail
        go_roundg (S.l.length - (k + 1))
        case measure => have := Hg.out; omega
        case rel =>
          refine ⟨k + 1, rfl, by omega, by simp, HB.out.trans (HB3.out.mono HB.out.size), fun j hj hjk => ?_⟩
          by_cases e : j = k
          · subst e; rw [HY.out]; exact HE.out
          · exact HA.out j hj (by omega)
    · have hno := Lib.hid (remove_no (S := S) (x := ⟨x0, ⟨x1, x2⟩, x3, x4, x5, x6, x7⟩) (fun j hj => HA.out j hj (by omega)))
      go_wp2_with fail
      refine bodyPost_ret (v := .tuple #[mVal s S.l.length c S.nx, .bool false]) (by simp [results, Try.results28, go_sem, b0, b1]) rfl ?_
      obtain ⟨hr1, hr2⟩ := hno.out
      unfold RRmPost
      rw [hr1, hr2]
      have hB := B0.out.trans (HB.out.mono B0.out.size)
      have hB' := (hB.setCell (p := ⟨w.heap.size + 1 + 1, 0, none⟩) (by simp; omega) (.slice s S.l.length c)).setCell (p := ⟨w.heap.size + 1 + 1, 1, none⟩) (by simp; omega) (.int .i64 S.nx)
      exact ⟨s, c, rfl, HS.out.below hB', .inl ⟨rfl, rfl, rfl⟩, hB'⟩
end Go.Proofs.Ytianjcbofgdfdaa
