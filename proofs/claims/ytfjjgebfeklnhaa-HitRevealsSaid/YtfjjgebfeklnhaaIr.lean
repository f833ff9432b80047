/-
  What offsets and pairs of numbers that came in read as.
-/
import Derived.Test.YtfjjgebfeklnhaaIk
set_option linter.unusedVariables false
set_option linter.unusedSimpArgs false
namespace Go.Proofs.Ytfjjgebfeklnhaa
open Go.RowKit Go.K Go.ChangeShapes Go.WideShapes Go.Deep

structure Of where
  n : Int
  x : Int
  y : Int
def Of.ok (o : Of) : Prop := (0 ≤ o.n ∧ o.n ≤ 255) ∧ (-32768 ≤ o.x ∧ o.x ≤ 32767) ∧ (-32768 ≤ o.y ∧ o.y ≤ 32767)
def ofc (o : Of) : List Value := [.int .u8 o.n, .int .i16 o.x, .int .i16 o.y]
theorem rdr_of : Rdr Try.prog 58 3 ofc Of.ok := by
  intro H enc w base spare held fuel cs x h
  have hl := rdr_cells Try.underlying58 (sz := 3) (by kernel_rfl) h
  obtain ⟨a0, h0, w0⟩ := rdr_field Try.underlying58 0 _ rfl (sz := 1) (by kernel_rfl) (rdr_int Try.underlying5) h
  obtain ⟨a1, h1, w1⟩ := rdr_field Try.underlying58 1 _ rfl (sz := 1) (by kernel_rfl) (rdr_int Try.underlying56) h
  obtain ⟨a2, h2, w2⟩ := rdr_field Try.underlying58 2 _ rfl (sz := 1) (by kernel_rfl) (rdr_int Try.underlying56) h
  match cs, hl with
  | [c0, c1, c2], _ =>
    simp at h0 h1 h2
    subst h0 h1 h2
    exact ⟨⟨a0, a1, a2⟩, rfl, bounds_u8 w0, bounds_i16 w1, bounds_i16 w2⟩
theorem of_one : ∀ (o : Of), ∀ u ∈ ofc o, u.oneCell' = true := by
  intro o u hu
  simp [ofc] at hu
  rcases hu with h | h | h <;> subst h <;> rfl
/-- an array of numbers that came in -/
theorem rdr_at {P : Program} {t e : TypeId} {n : Nat} {k : IntKind} (ht : P.underlying t = some (.array n e)) (he : P.underlying e = some (.int k)) (hC : P.cellsOf e = 1) {H : Type} {enc : TypeId × Value → H} {w : World} {base : Nat} {spare : Nat → Bool} {held : Bool} {fuel : Nat} {cs : List Value} {x : DataW H × List MemPlace}
    (h : DataW.trod enc P w base spare held fuel t cs = some x) : cs.length = P.cellsOf t ∧ ∀ i, i < n → ∃ a, (cs.drop i).take 1 = [Value.int k a] ∧ (Lit.int k a).wf = true := by
  obtain ⟨xs, m, -, -, hl, hxn, hi⟩ := DataW.trod_array ht h
  refine ⟨hl, fun i hin => ?_⟩
  have h1 := hi i hin
  rw [hC, Nat.mul_one, List.getElem?_eq_getElem (by omega)] at h1
  obtain ⟨a, e0, _, wa⟩ := DataW.trod_int he h1
  exact ⟨a, e0, wa⟩
theorem open_two {H : Type} {enc : TypeId × Value → H} {w : World} {base : Nat} {spare : Nat → Bool} {held : Bool} {fuel : Nat} {cs : List Value} {x : DataW H × List MemPlace} (h : DataW.trod enc Try.prog w base spare held fuel 59 cs = some x) :
    ∃ a b : Int, cs = [.int .i16 a, .int .i16 b] ∧ (-32768 ≤ a ∧ a ≤ 32767) ∧ (-32768 ≤ b ∧ b ≤ 32767) := by
  obtain ⟨hl, hi⟩ := rdr_at Try.underlying59 Try.underlying56 (by kernel_rfl) h
  have hC : Try.prog.cellsOf 59 = 2 := by kernel_rfl
  rw [hC] at hl
  obtain ⟨a, ha, wa⟩ := hi 0 (by omega)
  obtain ⟨b, hb, wb⟩ := hi 1 (by omega)
  match cs, hl with
  | [c0, c1], _ =>
    simp at ha hb
    subst ha hb
    exact ⟨a, b, rfl, bounds_i16 wa, bounds_i16 wb⟩
theorem open_three {H : Type} {enc : TypeId × Value → H} {w : World} {base : Nat} {spare : Nat → Bool} {held : Bool} {fuel : Nat} {cs : List Value} {x : DataW H × List MemPlace} (h : DataW.trod enc Try.prog w base spare held fuel 71 cs = some x) :
    ∃ a b c : Int, cs = [.int .u8 a, .int .u8 b, .int .u8 c] ∧ (0 ≤ a ∧ a ≤ 255) ∧ (0 ≤ b ∧ b ≤ 255) ∧ (0 ≤ c ∧ c ≤ 255) := by
  obtain ⟨hl, hi⟩ := rdr_at Try.underlying71 Try.underlying5 (by kernel_rfl) h
  have hC : Try.prog.cellsOf 71 = 3 := by kernel_rfl
  rw [hC] at hl
  obtain ⟨a, ha, wa⟩ := hi 0 (by omega)
  obtain ⟨b, hb, wb⟩ := hi 1 (by omega)
  obtain ⟨c, hc, wc⟩ := hi 2 (by omega)
  match cs, hl with
  | [c0, c1, c2], _ =>
    simp at ha hb hc
    subst ha hb hc
    exact ⟨a, b, c, rfl, bounds_u8 wa, bounds_u8 wb, bounds_u8 wc⟩
end Go.Proofs.Ytfjjgebfeklnhaa
