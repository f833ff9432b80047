/-
  Contracts of the law's helpers: same, found, begun, made.
-/
import Derived.Test.YtianjcbofgdfdaaEj
set_option linter.unusedVariables false
set_option linter.unusedSimpArgs false
namespace Go.Proofs.Ytianjcbofgdfdaa
open Go.RowKit Go.K Go.K.Ev

def CntRel (W : World) (n : Nat) (g : Nat) (v : Value) (wr : World) : Prop := ∃ k : Nat, g = n - k ∧ k ≤ n ∧ v = .int .i64 k ∧ Below W.heap.size W wr

set_option maxRecDepth 100000 in
set_option maxHeartbeats 2000000 in
theorem same_any (s1 : Option Addr) (c1 : Nat) (s2 : Option Addr) (c2 : Nat) (ls : List Li) (w : World) (h1 : Rd w 8 s1 ls.length (flat lcells ls)) (h2 : Rd w 8 s2 ls.length (flat lcells ls)) (hn : ls.length ≤ 10000) :
    Calls Try.prog 24 #[.slice s1 ls.length c1, .slice s2 ls.length c2] w fun e w' => e = .returned (.bool true) ∧ Below w.heap.size w w' := by
  have H1 := Lib.hid h1
  have H2 := Lib.hid h2
  clear h1 h2
  go_enter Try.func24, Try.ntmps24
  go_wp2_with fail
  go_loopg [13] ls.length (CntRel w ls.length)
  case atStart => exact ⟨0, rfl, Nat.zero_le _, rfl, Below.refl _ _⟩
  case round =>
    obtain ⟨k, hg, hk, rfl, hb⟩ := hrel
    have Hg := Lib.hid hg
    have HB := Lib.hid hb
    have R1 := Lib.hid (H1.out.below hb)
    have R2 := Lib.hid (H2.out.below hb)
    clear hg hb
    by_cases hkn : k < ls.length
    · obtain ⟨g1, o1, rfl, -⟩ := R1.out.addr (by omega)
      obtain ⟨g2, o2, rfl, -⟩ := R2.out.addr (by omega)
      obtain ⟨x, hx⟩ : ∃ x, ls[k] = x := ⟨_, rfl⟩
      obtain ⟨d0, d1, d2, d3, d4, d5, d6, d7⟩ := l_at R1.out hkn x hx
      obtain ⟨e0, e1, e2, e3, e4, e5, e6, e7⟩ := l_at R2.out hkn x hx
      have hg1 : g1 < wr.heap.size := World.block_lt_of_cell? _ _ d0
      have hg2 : g2 < wr.heap.size := World.block_lt_of_cell? _ _ e0
      have hkn' : (k : Int) < (ls.length : Int) := by omega
      have hkeep : ∀ w', Below wr.heap.size wr w' → (w'.cell? ⟨g1, o1 + k * 8, none⟩ = some (.int .i64 x.id) ∧ w'.cell? ⟨g1, o1 + k * 8 + 1, none⟩ = some (.int .i64 x.tg.kind) ∧ w'.cell? ⟨g1, o1 + k * 8 + 1 + 1, none⟩ = some (.int .i64 x.tg.id) ∧ w'.cell? ⟨g1, o1 + k * 8 + 3, none⟩ = some (.string x.ty) ∧ w'.cell? ⟨g1, o1 + k * 8 + 4, none⟩ = some (.int .i64 x.cb) ∧ w'.cell? ⟨g1, o1 + k * 8 + 5, none⟩ = some (.bool x.cap) ∧ w'.cell? ⟨g1, o1 + k * 8 + 6, none⟩ = some (.bool x.once) ∧ w'.cell? ⟨g1, o1 + k * 8 + 7, none⟩ = some (.bool x.pas)) ∧
          (w'.cell? ⟨g2, o2 + k * 8, none⟩ = some (.int .i64 x.id) ∧ w'.cell? ⟨g2, o2 + k * 8 + 1, none⟩ = some (.int .i64 x.tg.kind) ∧ w'.cell? ⟨g2, o2 + k * 8 + 1 + 1, none⟩ = some (.int .i64 x.tg.id) ∧ w'.cell? ⟨g2, o2 + k * 8 + 3, none⟩ = some (.string x.ty) ∧ w'.cell? ⟨g2, o2 + k * 8 + 4, none⟩ = some (.int .i64 x.cb) ∧ w'.cell? ⟨g2, o2 + k * 8 + 5, none⟩ = some (.bool x.cap) ∧ w'.cell? ⟨g2, o2 + k * 8 + 6, none⟩ = some (.bool x.once) ∧ w'.cell? ⟨g2, o2 + k * 8 + 7, none⟩ = some (.bool x.pas)) :=
        fun w' h => ⟨⟨(h.cell hg1).trans d0, (h.cell hg1).trans d1, (h.cell hg1).trans d2, (h.cell hg1).trans d3, (h.cell hg1).trans d4, (h.cell hg1).trans d5, (h.cell hg1).trans d6, (h.cell hg1).trans d7⟩,
          (h.cell hg2).trans e0, (h.cell hg2).trans e1, (h.cell hg2).trans e2, (h.cell hg2).trans e3, (h.cell hg2).trans e4, (h.cell hg2).trans e5, (h.cell hg2).trans e6, (h.cell hg2).trans e7⟩
      have KP := Lib.hid hkeep
      obtain ⟨x0, ⟨x1, x2⟩, x3, x4, x5, x6, x7⟩ := x
      simp only at KP d0 d1 d2 d3 d4 d5 d6 d7 e0 e1 e2 e3 e4 e5 e6 e7
      have HL := Lib.hid (listener_any ⟨x0, ⟨x1, x2⟩, x3, x4, x5, x6, x7⟩ wr.drew)
      unfold lval at HL
      clear hx hkeep
      go_wp2_with fail
      go_region_held3 (fun w' => (w'.cell? ⟨g1, o1 + k * 8, none⟩ = some (.int .i64 x0) ∧ w'.cell? ⟨g1, o1 + k * 8 + 1, none⟩ = some (.int .i64 x1) ∧ w'.cell? ⟨g1, o1 + k * 8 + 1 + 1, none⟩ = some (.int .i64 x2) ∧ w'.cell? ⟨g1, o1 + k * 8 + 3, none⟩ = some (.string x3) ∧ w'.cell? ⟨g1, o1 + k * 8 + 4, none⟩ = some (.int .i64 x4) ∧ w'.cell? ⟨g1, o1 + k * 8 + 5, none⟩ = some (.bool x5) ∧ w'.cell? ⟨g1, o1 + k * 8 + 6, none⟩ = some (.bool x6) ∧ w'.cell? ⟨g1, o1 + k * 8 + 7, none⟩ = some (.bool x7)) ∧
          (w'.cell? ⟨g2, o2 + k * 8, none⟩ = some (.int .i64 x0) ∧ w'.cell? ⟨g2, o2 + k * 8 + 1, none⟩ = some (.int .i64 x1) ∧ w'.cell? ⟨g2, o2 + k * 8 + 1 + 1, none⟩ = some (.int .i64 x2) ∧ w'.cell? ⟨g2, o2 + k * 8 + 3, none⟩ = some (.string x3) ∧ w'.cell? ⟨g2, o2 + k * 8 + 4, none⟩ = some (.int .i64 x4) ∧ w'.cell? ⟨g2, o2 + k * 8 + 5, none⟩ = some (.bool x5) ∧ w'.cell? ⟨g2, o2 + k * 8 + 6, none⟩ = some (.bool x6) ∧ w'.cell? ⟨g2, o2 + k * 8 + 7, none⟩ = some (.bool x7)))
        (first | exact KP.out _ hb2 | go_keep)
        (first | (go_at_call 27; refine HL.out.mono ?_; rintro e w2 ⟨rfl, hb3⟩; have hb2 : Below wr.heap.size wr w2 := ⟨hb3.os, hb3.tape, hb3.output, hb3.size, hb3.block⟩))
      have HB2 := Lib.hid (HB.out.trans (hb2.mono HB.out.size))
      clear hb2 hb3 d0 d1 d2 d3 d4 d5 d6 d7 e0 e1 e2 e3 e4 e5 e6 e7 HL
      go_wp2_with fail
      go_roundg (ls.length - (k + 1))
      case measure => have := Hg.out; omega
      case rel => exact ⟨k + 1, rfl, by omega, by simp, HB2.out⟩
    · go_wp2_with fail
      go_ret
      exact ⟨rfl, HB.out⟩
end Go.Proofs.Ytianjcbofgdfdaa
