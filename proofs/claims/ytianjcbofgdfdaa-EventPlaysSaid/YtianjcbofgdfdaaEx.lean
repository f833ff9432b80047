/-
  Contract of place.
-/
import Derived.Test.YtianjcbofgdfdaaEw
set_option linter.unusedVariables false
set_option linter.unusedSimpArgs false
namespace Go.Proofs.Ytianjcbofgdfdaa
open Go.RowKit Go.K Go.K.Ev

theorem bel_drewN {B : Nat} {w w' : World} (h : Below B w w') (n : Nat) : Below B w (w'.drewN n) := ⟨h.os, h.tape, h.output, h.size, h.block⟩
def PlRel (P : List Tg) (t : Tg) (W : World) (g : Nat) (v : Value) (wr : World) : Prop :=
  ∃ k : Nat, g = P.length - k ∧ k ≤ P.length ∧ v = .int .i64 k ∧ Below W.heap.size W wr ∧ ∀ j (hj : j < P.length), j < k → Tg.same P[j] t = false
theorem plc_first {P : List Tg} {t : Tg} {k : Nat} (hk : k < P.length) (h : Tg.same P[k] t = true) (ha : ∀ j (hj : j < P.length), j < k → Tg.same P[j] t = false) : plc P t = k := by
  unfold plc idx
  have : P.findIdx? (fun x => Tg.same x t) = some k := by
    rw [List.findIdx?_eq_some_iff_getElem]
    exact ⟨hk, h, fun j hj => by simp [ha j (by omega) hj]⟩
  rw [this]
theorem plc_none {P : List Tg} {t : Tg} (ha : ∀ j (hj : j < P.length), Tg.same P[j] t = false) : plc P t = -1 := by
  unfold plc idx
  have : P.findIdx? (fun x => Tg.same x t) = none := by
    rw [List.findIdx?_eq_none_iff]
    intro x hx
    obtain ⟨j, hj, rfl⟩ := List.getElem_of_mem hx
    exact ha j hj
  rw [this]

set_option maxRecDepth 100000 in
set_option maxHeartbeats 2000000 in
theorem place_any (ty : ByteArray) (bub can : Bool) (s : Option Addr) (c : Nat) (P : List Tg) (t : Tg) (w : World) (h : Rd w 2 s P.length (flat gcells P)) (hn : P.length ≤ 1000) :
    Calls Try.prog 15 #[evVal ty bub can s P.length c, .agg #[.int .i64 t.kind, .int .i64 t.id]] w fun e w' => e = .returned (.int .i64 (plc P t)) ∧ Below w.heap.size w w' := by
  have b1 : Below w.heap.size w (w.alloc (.cells #[.string ty, .bool bub, .bool can, .slice s P.length c] 25)) := (Below.refl _ _).alloc (Nat.le_refl _) _
  have b2 := b1.alloc b1.size (.cells #[.int .i64 t.kind, .int .i64 t.id] 39)
  have x1 := (Blk.new w #[.string ty, .bool bub, .bool can, .slice s P.length c] 25).alloc (.cells #[.int .i64 t.kind, .int .i64 t.id] 39)
  have x2 := Blk.new (w.alloc (.cells #[.string ty, .bool bub, .bool can, .slice s P.length c] 25)) #[.int .i64 t.kind, .int .i64 t.id] 39
  have hsz : ((w.alloc (.cells #[.string ty, .bool bub, .bool can, .slice s P.length c] 25)).alloc (.cells #[.int .i64 t.kind, .int .i64 t.id] 39)).heap.size = w.heap.size + 2 := by simp
  have HSZ := Lib.hid hsz
  have HB := Lib.hid b2
  have HX1 := Lib.hid x1
  have HX2 := Lib.hid x2
  have H := Lib.hid h
  clear h b1 b2 x1 x2 hsz
  go_enter Try.func15, Try.ntmps15
  go_wp2_with fail
  go_loopg [9] P.length (PlRel P t ((w.alloc (.cells #[.string ty, .bool bub, .bool can, .slice s P.length c] 25)).alloc (.cells #[.int .i64 t.kind, .int .i64 t.id] 39)))
  case atStart => exact ⟨0, rfl, Nat.zero_le _, rfl, Below.refl _ _, by intro j hj h; omega⟩
  case round =>
    obtain ⟨k, hg, hk, rfl, hbw, hall⟩ := hrel
    have Hg := Lib.hid hg
    have HA := Lib.hid hall
    have bx1 := HX1.out.kept (Fr.of_below hbw) (fun q => q)
    have bx2 := HX2.out.kept (Fr.of_below hbw) (fun q => q)
    have e3 := bx1.cell 3
    obtain ⟨t0, t1, -, -⟩ := bx2.two
    simp at e3
    have hbw2 : Below w.heap.size w wr := HB.out.trans (hbw.mono (by rw [HSZ.out]; omega))
    rw [World.size_alloc] at t0 t1
    have BW := Lib.hid hbw
    have BW2 := Lib.hid hbw2
    clear hg hall bx1 bx2 hbw hbw2
    obtain ⟨t1', t2'⟩ := t
    simp only at t0 t1
    by_cases hkn : k < P.length
    · have hr := H.out.below BW2.out
      obtain ⟨g1, o1, rfl, -⟩ := hr.addr (by omega)
      obtain ⟨x, hx⟩ : ∃ x, P[k] = x := ⟨_, rfl⟩
      obtain ⟨d0, d1⟩ := g_at hr hkn x hx
      have HX := Lib.hid hx
      have hkn' : (k : Int) < (P.length : Int) := by omega
      have hk0 : (0 : Int) ≤ (k : Int) := by omega
      obtain ⟨p1, p2⟩ := x
      simp only at d0 d1
      clear hx hr
      by_cases e1 : Tg.same ⟨p1, p2⟩ ⟨t1', t2'⟩ = true
      · have hf := Lib.hid (plc_first (P := P) (t := ⟨t1', t2'⟩) hkn (by rw [HX.out]; exact e1) HA.out)
        have e1' := Tg.same_iff.1 e1
        cases e1'
        clear e1
        go_upto_region 4 with fail
        go_quiet (fail)
        go_wp2_with fail
        go_ret
        exact ⟨by rw [hf.out]; rfl, bel_drewN BW2.out _⟩
      · have hres := Lib.hid (show Tg.same ⟨p1, p2⟩ ⟨t1', t2'⟩ = false by simpa using e1)
        have hor : (p1 == t1') = false ∨ ((p1 == t1') = true ∧ (p2 == t2') = false) := by
          by_cases q : p1 = t1'
          · right; simp [Tg.same, q] at e1 ⊢; exact e1
          · left; simp [q]
        clear e1
        rcases hor with o1 | ⟨o1, o2⟩
        all_goals
          go_upto_region 4 with fail
          go_quiet (fail)
          go_wp2_with fail
          go_roundg (P.length - (k + 1))
          case measure => have := Hg.out; omega
          case rel =>
            refine ⟨k + 1, rfl, by omega, by simp, bel_drewN BW.out _, fun j hj hjk => ?_⟩
            by_cases e : j = k
            · subst e; rw [HX.out]; exact hres.out
            · exact HA.out j hj (by omega)
    · have hf := Lib.hid (plc_none (P := P) (t := ⟨t1', t2'⟩) (fun j hj => HA.out j hj (by omega)))
      go_wp2_with fail
      go_ret
      exact ⟨by rw [hf.out]; rfl, BW2.out⟩
end Go.Proofs.Ytianjcbofgdfdaa
