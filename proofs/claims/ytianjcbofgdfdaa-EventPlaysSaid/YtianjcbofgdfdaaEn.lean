/-
  The fixed example of the law.
-/
import Derived.Test.YtianjcbofgdfdaaEm
set_option linter.unusedVariables false
set_option linter.unusedSimpArgs false
namespace Go.Proofs.Ytianjcbofgdfdaa
open Go.RowKit Go.K Go.K.Ev

def loadS : ByteArray := ⟨#[108, 111, 97, 100]⟩
def exL : Li := ⟨0, ⟨2, 0⟩, loadS, 7, false, false, false⟩
def exS : Ls := (⟨[], 0⟩ : Ls).add exL
def exD : Dp := dNew loadS false false [⟨2, 0⟩]
def exO1 : Out := exD.next exS.l
def exO2 : Out := exO1.d.next exO1.l

theorem exS_eq : exS = ⟨[⟨1, ⟨2, 0⟩, loadS, 7, false, false, false⟩], 1⟩ := by simp [exS, exL, Ls.add, Ls.has]
theorem exO1_eq : exO1 = ⟨some ⟨1, 7, ⟨2, 0⟩, 2⟩, ⟨loadS, false, false, [⟨2, 0⟩], 2, [], ⟨2, 0⟩, 2, false, false, false, false, false⟩, exS.l⟩ := by
  rw [exO1, exS_eq]
  simp [exD, dNew, Dp.next, nextK, scan, Dp.begin, stI, hits, stT, stP, Tg.same, fire, List.findIdx?, List.findIdx?.go]
theorem exO2_eq : exO2 = ⟨none, ⟨loadS, false, false, [⟨2, 0⟩], 2, [], ⟨0, 0⟩, 0, false, false, false, false, true⟩, exS.l⟩ := by
  rw [exO2, exO1_eq]
  simp [Dp.next, nextK, scan, Dp.fin]
theorem ex4 : (⟨[], 0⟩ : Ls).addId exL = 1 := by rfl

/-- a new dispatch in a block of its own -/
theorem d_make {w0 w : World} {L : List As} {d : Dp} {s : Option Addr} {c : Nat} (h : St w0 w (As.row 39 2 s d.path.length c (flat gcells d.path) :: L)) (hq : d.q = []) :
    St w0 (w.alloc (.cells (dCells d s c none 0) 45)) (dObj w.heap.size d :: L) := by
  have h2 := St.sh [_, _, _] [1, 2, 0] (by decide) ((h.new (dCells d s c none 0) 45).row_nil 3 1)
  simp only [List.map_cons, List.map_nil, List.getD_cons_zero, List.getD_cons_succ, List.cons_append, List.nil_append] at h2
  refine d_shut (sp := s) (cp := c) (sq := none) (cq := 0) ?_
  simp only [dOpen, hq, ints, List.length_nil, List.map_nil]
  simpa only [dCells, hq, List.length_nil] using h2

set_option maxRecDepth 100000 in
set_option maxHeartbeats 4000000 in
theorem awake_any (w : World) : Calls Try.prog 11 #[] w fun e w' => e = .returned (.bool true) ∧ Below w.heap.size w w' := by
  have h0 := l_start (St.start w (Below.refl w.heap.size w))
  have h1 := (h0.new #[.int .i64 2, .int .i64 0] 39).swap
  simp only [World.size_alloc] at h1
  have H0 := Lib.hid h1
  have hA := Lib.hid ((ladd_st exL H0.out (by simp) (by simp) (by simp)))
  unfold exL lval at hA
  clear h0 h1
  go_enter Try.func11, Try.ntmps11
  go_wp2_with fail
  refine hA.out.mono ?_
  rintro e w1 ⟨rfl, h2⟩
  have H2 := Lib.hid (show St w w1 (lObj w.heap.size exS :: As.cells (w.heap.size + 1) #[.int .i64 2, .int .i64 0] 39 :: []) from h2)
  obtain ⟨t0, t1, tf0, tf1⟩ := h2.swap.two
  have htl := h2.swap.blk.1.lt
  have hid1 : Hid ((⟨[], 0⟩ : Ls).addId ⟨0, ⟨2, 0⟩, loadS, 7, false, false, false⟩ = 1) := Lib.hid ex4
  rw [hid1.out]
  have hrb := rd_built w1 #[.int .i64 2, .int .i64 0] 39 2 1 rfl (by simp [Value.oneCell'])
  have hN := Lib.hid (new_st loadS (some ⟨w1.heap.size, 0, none⟩) 1 1 [⟨2, 0⟩] false false (H2.out.alloc (.cells #[.int .i64 2, .int .i64 0] 39)) ⟨hrb, by omega, by omega, by simp⟩ rfl (by omega))
  unfold loadS at hN
  clear h2 hrb
  go_wp2_with fail
  refine hN.out.mono ?_
  rintro e w2 ⟨s2, c2, rfl, h3⟩
  have H3 := Lib.hid (d_make (d := exD) h3 rfl)
  have hX := Lib.hid (next_st H3.out (by simp [exD, dNew]) (by simp [exD, dNew]) (by simp [exD, dNew]) (by rw [exS_eq]; simp))
  clear h3 t0 t1 tf0 tf1 hN
  unfold dNew
  go_wp2_with fail
  refine hX.out.mono ?_
  rintro e w3 ⟨rfl, h4⟩
  rw [show exD.next exS.l = exO1 from rfl, exO1_eq] at h4 ⊢
  have H4 := Lib.hid ((St.sh [_, _, _, _] [1, 2, 0, 3] (by decide) (h4.new (clCells ⟨1, 7, ⟨2, 0⟩, 2⟩) 48)))
  simp only [List.map_cons, List.map_nil, List.getD_cons_zero, List.getD_cons_succ, List.cons_append, List.nil_append] at H4
  have hX2 := Lib.hid (next_st H4.out (by simp) (by simp) (by simp) (by rw [exS_eq]; simp))
  clear h4 hX
  unfold callVal clCells
  go_wp2_with fail
  refine hX2.out.mono ?_
  rintro e w4 ⟨rfl, h5⟩
  have e2 := exO2_eq
  unfold exO2 at e2
  rw [exO1_eq] at e2
  rw [e2] at h5 ⊢
  obtain ⟨p0, p1, p2, p3, p4, -⟩ := Blk.c5 (h5.blkm (.tail _ (.tail _ (.head _))))
  have hpl := (h5.blkm (.tail _ (.tail _ (.head _)))).lt
  obtain ⟨sp3, cp3, sq3, cq3, hd3⟩ := d_open h5
  have hdn := (d_cells hd3.blk.1).2.2.2.2.2.2.2
  have hdl := hd3.blk.1.lt
  have H5 := Lib.hid h5
  simp only at hdn
  clear h5 hd3 e2
  unfold callVal clCells
  go_wp2_with fail
  go_ret
  exact ⟨rfl, (H5.out.alloc _).bel⟩
end Go.Proofs.Ytianjcbofgdfdaa
