/-
  Contracts of the chapter's set of timers: First, Pop, Sorted.
-/
import Derived.Test.YtkddkbjgnndflaaQt
set_option linter.unusedVariables false
namespace Go.Proofs.Ytkddkbjgnndflaa
open Go.RowKit Go.K

def RFirstPost (M : List Tm) (w : World) (E : Ending) (w' : World) : Prop :=
  Below w.heap.size w w' ∧ ((M = [] ∧ E = .returned (.tuple #[Tm.zero.val, .bool false])) ∨ ∃ x, IsMin M x ∧ E = .returned (.tuple #[x.val, .bool true]))

/-- the least one among the first k -/
def MinTo (M : List Tm) (k : Nat) (x : Tm) : Prop := x ∈ M ∧ ∀ j (hj : j < M.length), j < k → ¬ (M[j]).lt x
theorem MinTo.step_yes {M : List Tm} {k : Nat} {x : Tm} (h : MinTo M k x) (hk : k < M.length) (hl : (M[k]).lt x) : MinTo M (k + 1) M[k] :=
  ⟨List.getElem_mem hk, fun j hj hjk q => by
    by_cases e : j = k
    · subst e; unfold Tm.lt at q; omega
    · exact h.2 j hj (by omega) (Tm.lt_trans q hl)⟩
theorem MinTo.step_no {M : List Tm} {k : Nat} {x : Tm} (h : MinTo M k x) (hk : k < M.length) (hl : ¬ (M[k]).lt x) : MinTo M (k + 1) x :=
  ⟨h.1, fun j hj hjk q => by
    by_cases e : j = k
    · subst e; exact hl q
    · exact h.2 j hj (by omega) q⟩
theorem MinTo.fin {M : List Tm} {x : Tm} (h : MinTo M M.length x) : IsMin M x :=
  ⟨h.1, fun y hy q => by obtain ⟨j, hj, rfl⟩ := List.getElem_of_mem hy; exact h.2 j hj hj q⟩

def box3 (w : World) (s : Option Addr) (n c : Nat) (nx : Int) : World := (w.alloc (.cells #[.slice s n c, .int .i64 nx] 67)).alloc (.cells #[.int .i64 0, .int .i64 0, .int .i64 0] 74)

def FirstRel (M : List Tm) (n : Nat) (W : World) (bo : Nat) (g : Nat) (v : Value) (wr : World) : Prop :=
  ∃ (k : Nat) (x : Tm), g = n - k ∧ k ≤ n ∧ v = .int .i64 k ∧ MinTo M k x ∧ Below W.heap.size W wr ∧ Blk wr bo #[.int .i64 x.id, .int .i64 x.due, .int .i64 x.ord] 74

theorem first_drew {W wr : World} (h : Below W.heap.size W wr) (d : Nat) : Below W.heap.size W (wr.drewN d) := ⟨h.os, h.tape, h.output, h.size, h.block⟩
theorem set3_blk {w : World} {b : Nat} {x y z u0 u1 u2 : Value} {t : TypeId} (h : Blk w b #[x, y, z] t) (d : Nat) : Blk ((((w.drewN d).setCell ⟨b, 0, none⟩ u0).setCell ⟨b, 1, none⟩ u1).setCell ⟨b, 2, none⟩ u2) b #[u0, u1, u2] t := by
  have := (((h.drewN d).set 0 u0).set 1 u1).set 2 u2
  simpa using this
theorem first_yes {M : List Tm} {n bo d g k : Nat} {W wr : World} {x y z : Value} {t : Tm} (hb : Below W.heap.size W wr) (hx : Blk wr bo #[x, y, z] 74)
    (hg : g = n - (k + 1)) (hk : k + 1 ≤ n) (hm : MinTo M (k + 1) t) (hsz : W.heap.size ≤ bo) :
    FirstRel M n W bo g (.int .i64 ((k + 1 : Nat) : Int)) ((((wr.drewN d).setCell ⟨bo, 0, none⟩ (.int .i64 t.id)).setCell ⟨bo, 1, none⟩ (.int .i64 t.due)).setCell ⟨bo, 2, none⟩ (.int .i64 t.ord)) :=
  ⟨k + 1, t, hg, hk, rfl, hm, (((first_drew hb d).setCell (p := ⟨bo, 0, none⟩) hsz _).setCell (p := ⟨bo, 1, none⟩) hsz _).setCell (p := ⟨bo, 2, none⟩) hsz _, set3_blk hx d⟩
set_option maxRecDepth 100000 in
set_option maxHeartbeats 2000000 in
theorem rfirst_any (s : Option Addr) (n c : Nat) (M : List Tm) (nx : Int) (w : World) (hs : Rc w 3 s n c (tcells M)) (hl : M.length = n) (hn : n ≤ 100000) :
    Calls Try.prog 32 #[MV s n c nx] w (RFirstPost M w) := by
  have HL := Lib.hid hl
  have b0 : Below w.heap.size w (box3 w s n c nx) := ((Below.refl _ _).alloc (Nat.le_refl _) _).alloc (by simp) _
  have HS := Lib.hid (hs.below b0)
  have K0 := Lib.hid (show Blk (box3 w s n c nx) w.heap.size #[.slice s n c, .int .i64 nx] 67 from (Blk.new w _ 67).alloc _)
  have K1 := Lib.hid (show Blk (box3 w s n c nx) (w.heap.size + 1) #[.int .i64 0, .int .i64 0, .int .i64 0] 74 from blk_new _ _ _ _ (by simp))
  have B0 := Lib.hid b0
  clear hl b0
  by_cases h0 : n = 0
  · subst h0
    have hM : M = [] := List.eq_nil_of_length_eq_zero HL.out
    go_enter Try.func32, Try.ntmps32
    go_wp2_with fail
    refine bodyPost_ret (v := .tuple #[Tm.zero.val, .bool false]) (by simp [results, Try.results32, go_sem, Tm.zero, Tm.val]) rfl ⟨?_, .inl ⟨hM, rfl⟩⟩
    exact ((Below.refl _ _).alloc (Nat.le_refl _) _).alloc (by simp) _
  · obtain ⟨g, off, rfl, hcell⟩ := hs.rd.addr (by omega)
    have h0m : 0 < M.length := by rw [HL.out]; omega
    obtain ⟨c0, c1, c2⟩ := tcells_at M 0 h0m
    have d0 := hcell _ _ c0
    have d1 := hcell _ _ c1
    have d2 := hcell _ _ c2
    have hm0 := Lib.hid (show MinTo M 0 M[0] from ⟨List.getElem_mem _, fun j _ h => by omega⟩)
    simp only [Nat.zero_mul, Nat.add_zero, Nat.zero_add] at d0 d1 d2
    rw [show off + 2 = off + 1 + 1 by omega] at d2
    have hgl : g < w.heap.size := World.block_lt_of_cell? _ _ d0
    have hnb : ((n : Int) == 0) = false := by simp; omega
    have hnp : (0 : Int) < (n : Int) := by omega
    clear hcell c0 c1 c2 hs
    generalize hx0 : M[0] = x0 at d0 d1 d2 hm0
    clear hx0
    go_enter Try.func32, Try.ntmps32
    go_wp2_with fail
    go_loopg [18] n (FirstRel M n (box3 w (some ⟨g, off, none⟩) n c nx) (w.heap.size + 1 + 1))
    case atStart => exact ⟨0, x0, rfl, Nat.zero_le _, rfl, hm0.out, (Below.refl _ _).alloc (by simp [box3]) _, blk_new _ _ _ _ (by simp)⟩
    case round =>
      obtain ⟨k, x, hg, hk, rfl, hm, hb, hx⟩ := hrel
      have Hg := Lib.hid hg
      have HM := Lib.hid hm
      have HB := Lib.hid hb
      have HX := Lib.hid hx
      obtain ⟨e0, e1, e2, f0, f1, f2⟩ := hx.three
      obtain ⟨k0, k1, -, -⟩ := (K0.out.kept (Fr.of_below hb) (fun q => q)).two
      have HS1 := Lib.hid (HS.out.below hb)
      have hbo := hx.lt
      obtain ⟨x1, x2, x3⟩ := x
      clear hg hm hb hx d0 d1 d2
      by_cases hkn : k < n
      · have hkt : k < M.length := by rw [HL.out]; exact hkn
        obtain ⟨c0, c1, c2⟩ := tcells_at M k hkt
        have d0 := HS1.out.rd.cells _ rfl _ _ c0
        have d1 := HS1.out.rd.cells _ rfl _ _ c1
        have d2 := HS1.out.rd.cells _ rfl _ _ c2
        simp only [Addr.add_lit, ← Nat.add_assoc] at d0 d1 d2
        rw [show off + k * 3 + 2 = off + k * 3 + 1 + 1 by omega] at d2
        have hkn' : (k : Int) < (n : Int) := by omega
        have hyes := Lib.hid (fun h => HM.out.step_yes hkt h)
        have hnot := Lib.hid (fun h => HM.out.step_no hkt h)
        clear c0 c1 c2
        obtain ⟨y, hy⟩ : ∃ y, M[k] = y := ⟨_, rfl⟩
        rw [hy] at d0 d1 d2 hyes hnot
        obtain ⟨y1, y2, y3⟩ := y
        simp only at d0 d1 d2 e0 e1 e2
        have Hy := Lib.hid hy
        clear hy
        have hlt2 : ∀ a b : Tm, Tm.lt a b ↔ (a.due < b.due ∨ (a.due = b.due ∧ a.ord < b.ord)) := fun _ _ => Iff.rfl
        by_cases q1 : y2 < x2
        · have b1 : decide (y2 < x2) = true := by simp [q1]
          have HY := Lib.hid (hyes.out (.inl q1))
          clear hlt2 hyes hnot q1
          go_wp2_with fail
          go_quiet (fail)
          go_wp2_with fail
          go_roundg (n - (k + 1))
          case measure => have := Hg.out; omega
          case rel => simpa using first_yes (t := ⟨y1, y2, y3⟩) HB.out HX.out rfl (by omega) HY.out (by simp [box3])
        · have b1 : decide (y2 < x2) = false := by simp; omega
          by_cases q2 : y2 = x2
          · have b2 : (y2 == x2) = true := by simp [q2]
            by_cases q3 : y3 < x3
            · have b3 : decide (y3 < x3) = true := by simp [q3]
              have HY := Lib.hid (hyes.out (.inr ⟨q2, q3⟩))
              clear hlt2 hyes hnot q1 q2 q3
              go_wp2_with fail
              go_quiet (fail)
              go_wp2_with fail
              go_roundg (n - (k + 1))
              case measure => have := Hg.out; omega
              case rel => simpa using first_yes (t := ⟨y1, y2, y3⟩) HB.out HX.out rfl (by omega) HY.out (by simp [box3])
            · have b3 : decide (y3 < x3) = false := by simp; omega
              have HN := Lib.hid (hnot.out (by rw [hlt2]; simp only; omega))
              clear hlt2 hyes hnot q1 q2 q3
              go_wp2_with fail
              go_quiet (fail)
              go_wp2_with fail
              go_roundg (n - (k + 1))
              case measure => have := Hg.out; omega
              case rel => exact ⟨k + 1, ⟨x1, x2, x3⟩, rfl, by omega, by simp, HN.out, first_drew HB.out _, HX.out.drewN _⟩
          · have b2 : (y2 == x2) = false := by simp [q2]
            have HN := Lib.hid (hnot.out (by rw [hlt2]; simp only; omega))
            clear hlt2 hyes hnot q1 q2
            go_wp2_with fail
            go_quiet (fail)
            go_wp2_with fail
            go_roundg (n - (k + 1))
            case measure => have := Hg.out; omega
            case rel => exact ⟨k + 1, ⟨x1, x2, x3⟩, rfl, by omega, by simp, HN.out, first_drew HB.out _, HX.out.drewN _⟩
      · obtain rfl : k = n := by omega
        have hmin := Lib.hid (show IsMin M ⟨x1, x2, x3⟩ from by have := HM.out; rw [← HL.out] at this; exact this.fin)
        have K1' := K1.out.kept (Fr.of_below HB.out) (fun q => q)
        obtain ⟨r0, r1, r2, s0, s1, s2⟩ := K1'.three
        have hne : w.heap.size + 1 ≠ w.heap.size + 1 + 1 := by omega
        have HBB := Lib.hid (B0.out.trans (HB.out.mono B0.out.size))
        clear K1'
        go_wp2_with fail
        refine bodyPost_ret (v := .tuple #[.agg #[.int .i64 x1, .int .i64 x2, .int .i64 x3], .bool true]) (by simp [results, Try.results32, go_sem, r0, r1, r2]) rfl ⟨?_, .inr ⟨⟨x1, x2, x3⟩, hmin.out, rfl⟩⟩
        exact ((HBB.out.setCell (p := ⟨w.heap.size + 1, 0, none⟩) (by simp) _).setCell (p := ⟨w.heap.size + 1, 1, none⟩) (by simp) _).setCell (p := ⟨w.heap.size + 1, 2, none⟩) (by simp) _
end Go.Proofs.Ytkddkbjgnndflaa
