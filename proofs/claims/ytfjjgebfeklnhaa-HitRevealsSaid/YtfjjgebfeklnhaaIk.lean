/-
  What a shape that came in reads as.
-/
import Derived.Test.YtfjjgebfeklnhaaIa
import Derived.Test.YtfjjgebfeklnhaaKd
set_option linter.unusedVariables false
set_option linter.unusedSimpArgs false
namespace Go.Proofs.Ytfjjgebfeklnhaa
open Go.RowKit Go.K Go.ChangeShapes Go.WideShapes Go.Deep

set_option maxRecDepth 100000 in
theorem open_shape {H : Type} {enc : TypeId × Value → H} {w : World} {base : Nat} {spare : Nat → Bool} {held : Bool} : ∀ (fuel : Nat) {cs : List Value} {x : DataW H × List MemPlace}, DataW.trod enc Try.prog w base spare held fuel 39 cs = some x →
    ∃ t : Sh, cs = shc t ∧ ShAt w t := by
  intro fuel
  induction fuel using Nat.strongRecOn with
  | ind fuel ih =>
  intro cs x h
  have hl := rdr_cells Try.underlying39 (sz := 7) (by kernel_rfl) h
  obtain ⟨a0, h0, w0⟩ := rdr_field Try.underlying39 0 _ rfl (sz := 1) (by kernel_rfl) (rdr_int Try.underlying36) h
  obtain ⟨a1, h1, w1⟩ := rdr_field Try.underlying39 1 _ rfl (sz := 1) (by kernel_rfl) (rdr_int Try.underlying36) h
  obtain ⟨a2, h2, w2⟩ := rdr_field Try.underlying39 2 _ rfl (sz := 1) (by kernel_rfl) (rdr_int Try.underlying5) h
  obtain ⟨a3, h3, w3⟩ := rdr_field Try.underlying39 3 _ rfl (sz := 1) (by kernel_rfl) (rdr_int Try.underlying5) h
  obtain ⟨a4, h4, w4⟩ := rdr_field Try.underlying39 4 _ rfl (sz := 1) (by kernel_rfl) (rdr_int Try.underlying5) h
  obtain ⟨a5, h5, w5⟩ := rdr_field Try.underlying39 5 _ rfl (sz := 1) (by kernel_rfl) (rdr_int Try.underlying5) h
  obtain ⟨xs, n, hfu, -, -, hlen, hf⟩ := DataW.trod_struct Try.underlying39 h
  have hi6 : 6 < xs.length := by rw [hlen]; exact by decide
  have g6 := hf 6 _ rfl
  rw [List.getElem?_eq_getElem hi6] at g6
  have hs : ∃ s len cap ks, (cs.drop 6).take 1 = [Value.slice s len cap] ∧ ks.length = len ∧ len ≤ maxLen ∧ Rd w 7 s len (flat shc ks) ∧ ∀ k ∈ ks, ShAt w k := by
    rcases DataW.trod_slice Try.underlying37 g6 with ⟨e, -⟩ | ⟨ad, len, cap, elems, rest, n2, hn2, e, -, -, hlc, hcm, hel, hat, -⟩
    · exact ⟨none, 0, 0, [], e, rfl, by simp [maxLen], ⟨by simp [flat], by simp [flat], fun _ => rfl, by simp⟩, by simp⟩
    · have hC : Try.prog.cellsOf 39 = 7 := by kernel_rfl
      rw [hC] at hat
      obtain ⟨l, hll, hall⟩ := list_of (Q := fun i (t : Sh) => ShAt w t ∧ ∀ j, j < 7 → w.cell? (ad.add (i * 7 + j)) = (shc t)[j]?) len (fun i hi => by
        have h9 := hat i hi
        rw [List.getElem?_eq_getElem (by omega)] at h9
        obtain ⟨cs', hc, ht'⟩ := Option.bind_eq_some_iff.1 h9
        obtain ⟨_, _, hat'⟩ := World.cells?_some hc
        obtain ⟨t, rfl, hok⟩ := ih n2 (by omega) ht'
        exact ⟨t, hok, fun j hj => by rw [← Go.Deep.add_add]; exact hat' j hj⟩)
      refine ⟨some ad, len, cap, l, e, hll, by omega, ⟨by rw [flat_len shc_len, hll], flat_one_cell (fun t u hu => ?_) l, (fun h => by cases h), fun a' ha' j u hu => ?_⟩, fun y hy => ?_⟩
      · simp [shc, shv] at hu
        rcases hu with h | h | h | h | h | h | h <;> subst h <;> rfl
      · cases ha'
        obtain ⟨k, i, hk, hi', rfl, y, hy, hyu⟩ := flat_get shc_len l j u hu
        rw [(hall k y hy).2 i hi']; exact hyu
      · obtain ⟨i, hi'⟩ := List.getElem?_of_mem hy
        exact (hall i y hi').1
  obtain ⟨s, len, cap, ks, e6, hks, hlm, hrd, hat⟩ := hs
  match cs, hl with
  | [c0, c1, c2, c3, c4, c5, c6], _ =>
    have e6' : [c6] = [Value.slice s len cap] := e6
    simp at h0 h1 h2 h3 h4 h5 e6'
    subst h0 h1 h2 h3 h4 h5 e6' hks
    exact ⟨.mk ⟨a0, a1, a2, a3, a4, a5, s, cap⟩ ks, rfl, .mk _ _ ⟨bounds_i8 w0, bounds_i8 w1, bounds_u8 w2, bounds_u8 w3, bounds_u8 w4, bounds_u8 w5⟩ (by simp only [maxLen] at hlm; omega) hrd hat⟩
end Go.Proofs.Ytfjjgebfeklnhaa
