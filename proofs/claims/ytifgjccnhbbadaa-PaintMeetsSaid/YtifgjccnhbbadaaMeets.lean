/-
  Meet is the common part of two rectangles, Visible the Meet of Rect and Clip: PaintMeets returns true at every input.
  No condition.
-/
import Derived.Test.YtifgjccnhbbadaaRows
import Derived.Test.YtifgjccnhbbadaaMf
import Derived.Test.YtifgjccnhbbadaaMg
import Derived.Test.YtifgjccnhbbadaaKd
import Derived.WalkKit
import Derived.ProofKit
import Derived.OpenShut
import Derived.ShutString
import Derived.ChangeOld
import Derived.Below
set_option linter.unusedVariables false
namespace Go.Proofs.Ytifgjccnhbbadaa.paintMeets
open Go.K Go.ChangeShapes Go.WideShapes Go.ChangeAt Go.RowKit
open Go.ChangeMaps (open_string shut_string)

theorem own : ownKnob Try.prog.godebug = none := by kernel_rfl
theorem laidOut : laidOutB Try.prog = true := by kernel_rfl

theorem walk (a00 a01 a02 a03 : Int) (a10 a11 a12 a13 : Int) (a20 a21 : Int) (w : World) (w00 : (Lit.int .i16 a00).wf = true) (w01 : (Lit.int .i16 a01).wf = true) (w02 : (Lit.int .i16 a02).wf = true) (w03 : (Lit.int .i16 a03).wf = true) (w10 : (Lit.int .i16 a10).wf = true) (w11 : (Lit.int .i16 a11).wf = true) (w12 : (Lit.int .i16 a12).wf = true) (w13 : (Lit.int .i16 a13).wf = true) (w20 : (Lit.int .i16 a20).wf = true) (w21 : (Lit.int .i16 a21).wf = true) :
    Calls Try.prog 4 #[.agg #[.int .i16 a00, .int .i16 a01, .int .i16 a02, .int .i16 a03], .agg #[.int .i16 a10, .int .i16 a11, .int .i16 a12, .int .i16 a13], .agg #[.int .i16 a20, .int .i16 a21]] w fun e w' => e = .returned (.bool true) ∧ Below w.heap.size w w' := by
  obtain ⟨l00, u00⟩ := bounds_i16 w00
  obtain ⟨l01, u01⟩ := bounds_i16 w01
  obtain ⟨l02, u02⟩ := bounds_i16 w02
  obtain ⟨l03, u03⟩ := bounds_i16 w03
  obtain ⟨l10, u10⟩ := bounds_i16 w10
  obtain ⟨l11, u11⟩ := bounds_i16 w11
  obtain ⟨l12, u12⟩ := bounds_i16 w12
  obtain ⟨l13, u13⟩ := bounds_i16 w13
  obtain ⟨l20, u20⟩ := bounds_i16 w20
  obtain ⟨l21, u21⟩ := bounds_i16 w21
  exact meets_go w l00 u00 l01 u01 l02 u02 l03 u03 l10 u10 l11 u11 l12 u12 l13 u13 l20 u20 l21 u21

set_option maxRecDepth 100000 in
theorem lifted (os : Os) (started : os.Started) (H : Type) (enc : TypeId × Value → H) :
    ReturnsInHanded {} Try.checked os 4 .any (Rows.paintMeetsSpec.pre6 enc Try.prog Try.f4 Rows.paintMeetsRow.domain false) (Rows.paintMeetsSpec.post enc Try.prog Try.f4 false true false false) := by
  refine returnsInHanded_of_change (C := Try.checked) own started (by kernel_rfl) Try.func4
    (ChangeSpec.witness6 (enc := enc) (C := Try.checked) false ⟨#[], #[.agg #[.int .i16 0, .int .i16 0, .int .i16 0, .int .i16 0], .agg #[.int .i16 0, .int .i16 0, .int .i16 0, .int .i16 0], .agg #[.int .i16 0, .int .i16 0]], []⟩ 8 (by kernel_rfl) (by kernel_rfl) (by kernel_rfl) (by kernel_rfl)) ?_
  intro W base args ds gs before hval0 hW hcnd _
  have hval : ∀ (j : Nat) t v, Try.f4.params[j]? = some t → args[j]? = some v → Value.okWide Try.prog W .any base t v := hval0
  have hW' := hW
  obtain ⟨p, q, hA0, hV, rfl, hfz, hnd⟩ := hW
  have hA : DataW.TrodAll enc Try.prog W 0 (fun _ => true) true Try.f4.params.toList args.toList ds p := hA0
  rw [Try.params4] at hA hval
  obtain ⟨v0, vs0, d0, ds0, p0, q0, hargs, rfl, rfl, h0, r0⟩ := trodAll_cons hA
  obtain ⟨v1, vs1, d1, ds1, p1, q1, rfl, rfl, rfl, h1, r1⟩ := trodAll_cons r0
  obtain ⟨v2, vs2, d2, ds2, p2, q2, rfl, rfl, rfl, h2, r2⟩ := trodAll_cons r1
  obtain ⟨rfl, rfl, rfl⟩ := trodAll_nil r2
  obtain rfl : args = #[v0, v1, v2] := by cases args; simp_all
  obtain ⟨rfl, rfl⟩ := trodVars_none hV
  have k0 := h0
  have lt0 : ∀ x ∈ p0, x.block < W.heap.size := by obtain ⟨m, hm⟩ := k0; exact DataW.trod_lt m _ _ _ hm
  obtain ⟨cs0, rfl, hsz0⟩ := okWide_array Try.underlying43 (hval 0 43 v0 rfl rfl)
  obtain ⟨a00, a01, a02, a03, e0, w00, w01, w02, w03⟩ : ∃ a00 a01 a02 a03 : Int, cs0 = #[.int .i16 a00, .int .i16 a01, .int .i16 a02, .int .i16 a03] ∧ (Lit.int .i16 a00).wf = true ∧ (Lit.int .i16 a01).wf = true ∧ (Lit.int .i16 a02).wf = true ∧ (Lit.int .i16 a03).wf = true := by
    obtain ⟨fuel, hf⟩ := h0
    obtain ⟨a00, a01, a02, a03, e, q⟩ := rdr_array4 Try.underlying43 Try.underlying42 (by kernel_rfl) (by kernel_rfl) (by simpa [Value.cells] using hf)
    exact ⟨a00, a01, a02, a03, by rw [← Array.toList_inj, e], q⟩
  subst e0
  have k1 := h1
  have lt1 : ∀ x ∈ p1, x.block < W.heap.size := by obtain ⟨m, hm⟩ := k1; exact DataW.trod_lt m _ _ _ hm
  obtain ⟨cs1, rfl, hsz1⟩ := okWide_array Try.underlying43 (hval 1 43 v1 rfl rfl)
  obtain ⟨a10, a11, a12, a13, e1, w10, w11, w12, w13⟩ : ∃ a10 a11 a12 a13 : Int, cs1 = #[.int .i16 a10, .int .i16 a11, .int .i16 a12, .int .i16 a13] ∧ (Lit.int .i16 a10).wf = true ∧ (Lit.int .i16 a11).wf = true ∧ (Lit.int .i16 a12).wf = true ∧ (Lit.int .i16 a13).wf = true := by
    obtain ⟨fuel, hf⟩ := h1
    obtain ⟨a10, a11, a12, a13, e, q⟩ := rdr_array4 Try.underlying43 Try.underlying42 (by kernel_rfl) (by kernel_rfl) (by simpa [Value.cells] using hf)
    exact ⟨a10, a11, a12, a13, by rw [← Array.toList_inj, e], q⟩
  subst e1
  have k2 := h2
  have lt2 : ∀ x ∈ p2, x.block < W.heap.size := by obtain ⟨m, hm⟩ := k2; exact DataW.trod_lt m _ _ _ hm
  obtain ⟨cs2, rfl, hsz2⟩ := okWide_array Try.underlying44 (hval 2 44 v2 rfl rfl)
  obtain ⟨a20, a21, e2, w20, w21⟩ : ∃ a20 a21 : Int, cs2 = #[.int .i16 a20, .int .i16 a21] ∧ (Lit.int .i16 a20).wf = true ∧ (Lit.int .i16 a21).wf = true := by
    obtain ⟨fuel, hf⟩ := h2
    obtain ⟨a20, a21, e, q⟩ := rdr_array2 Try.underlying44 Try.underlying42 (by kernel_rfl) (by kernel_rfl) (by simpa [Value.cells] using hf)
    exact ⟨a20, a21, by rw [← Array.toList_inj, e], q⟩
  subst e2
  clear hA0 hval0
  refine (walk a00 a01 a02 a03 a10 a11 a12 a13 a20 a21 W w00 w01 w02 w03 w10 w11 w12 w13 w20 w21).mono fun e W' ⟨he, bel⟩ => ?_
  subst he
  exact ⟨_, rfl, _, _, _, [], _, [], hW', trodAll_mk1 (shut_bool Try.underlying4 _), (trodAll_cons_mk (Below.trod laidOut (by kernel_rfl) (of_decide_eq_true (by kernel_rfl)) k0 bel lt0) (trodAll_cons_mk (Below.trod laidOut (by kernel_rfl) (of_decide_eq_true (by kernel_rfl)) k1 bel lt1) (trodAll_cons_mk (Below.trod laidOut (by kernel_rfl) (of_decide_eq_true (by kernel_rfl)) k2 bel lt2) trodAll_mk0))), rfl, bel.frame _, fun h => by cases h⟩

theorem over : Rows.paintMeetsRow.holds Try.pinned (OpenSpec.ofChange Rows.paintMeetsSpec) :=
  OpenClaim.holds_of_wide 4 Try.f4 rfl rfl rfl rfl rfl rfl rfl ⟨rfl, rfl, rfl, rfl, rfl⟩ rfl rfl rfl rfl rfl (by kernel_rfl) Try.func4 (by kernel_rfl)
    (of_decide_eq_true (by kernel_rfl)) (by unfold Func.isWrapper; first | (rw [if_pos (by decide +kernel)]; kernel_rfl) | (rw [if_neg (by decide +kernel)]; exact ⟨rfl, rfl⟩))
    (fun os started H enc _ => lifted os started H enc)

/-- the statement -/
theorem proved : Rows.PaintMeetsSaid := over
#print axioms proved
end Go.Proofs.Ytifgjccnhbbadaa.paintMeets
