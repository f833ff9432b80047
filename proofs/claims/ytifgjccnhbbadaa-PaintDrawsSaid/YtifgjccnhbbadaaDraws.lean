/-
  For at most 12 items and any window of at most 100 by 100 pixels, Draw makes of each cell the character that the items say, in their order: PaintDraws returns true at every input.
  No condition.
-/
import Derived.Test.YtifgjccnhbbadaaRows
import Derived.Test.YtifgjccnhbbadaaNv
import Derived.Test.YtifgjccnhbbadaaMg
import Derived.Test.YtifgjccnhbbadaaKd
import Derived.WalkKit
import Derived.ProofKit
import Derived.OpenShut
import Derived.ShutString
import Derived.ChangeOld
import Derived.Below
set_option linter.unusedVariables false
namespace Go.Proofs.Ytifgjccnhbbadaa.paintDraws
open Go.K Go.ChangeShapes Go.WideShapes Go.ChangeAt Go.RowKit
open Go.ChangeMaps (open_string shut_string)

theorem own : ownKnob Try.prog.godebug = none := by kernel_rfl
theorem laidOut : laidOutB Try.prog = true := by kernel_rfl

theorem walk (a0 : Option Addr) (len0 cap0 : Nat) (l0 : List Bx) (a10 a11 : Int) (w : World) (w0 : IsRowF w 11 Bx.cells Bx.ok a0 len0 cap0 l0) (w10 : (Lit.int .i8 a10).wf = true) (w11 : (Lit.int .i8 a11).wf = true) :
    Calls Try.prog 3 #[.slice a0 len0 cap0, .agg #[.int .i8 a10, .int .i8 a11]] w fun e w' => e = .returned (.bool true) ∧ Below w.heap.size w w' := by
  exact draws_in a0 len0 cap0 l0 a10 a11 w w0 w10 w11

set_option maxRecDepth 100000 in
theorem lifted (os : Os) (started : os.Started) (H : Type) (enc : TypeId × Value → H) :
    ReturnsInHanded {} Try.checked os 3 .any (Rows.paintDrawsSpec.pre6 enc Try.prog Try.f3 Rows.paintDrawsRow.domain false) (Rows.paintDrawsSpec.post enc Try.prog Try.f3 false true false false) := by
  refine returnsInHanded_of_change (C := Try.checked) own started (by kernel_rfl) Try.func3
    (ChangeSpec.witness6 (enc := enc) (C := Try.checked) false ⟨#[], #[.slice none 0 0, .agg #[.int .i8 0, .int .i8 0]], []⟩ 8 (by kernel_rfl) (by kernel_rfl) (by kernel_rfl) (by kernel_rfl)) ?_
  intro W base args ds gs before hval0 hW hcnd _
  have hval : ∀ (j : Nat) t v, Try.f3.params[j]? = some t → args[j]? = some v → Value.okWide Try.prog W .any base t v := hval0
  have hW' := hW
  obtain ⟨p, q, hA0, hV, rfl, hfz, hnd⟩ := hW
  have hA : DataW.TrodAll enc Try.prog W 0 (fun _ => true) true Try.f3.params.toList args.toList ds p := hA0
  rw [Try.params3] at hA hval
  obtain ⟨v0, vs0, d0, ds0, p0, q0, hargs, rfl, rfl, h0, r0⟩ := trodAll_cons hA
  obtain ⟨v1, vs1, d1, ds1, p1, q1, rfl, rfl, rfl, h1, r1⟩ := trodAll_cons r0
  obtain ⟨rfl, rfl, rfl⟩ := trodAll_nil r1
  obtain rfl : args = #[v0, v1] := by cases args; simp_all
  obtain ⟨rfl, rfl⟩ := trodVars_none hV
  obtain ⟨a0, len0, cap0, rfl⟩ := okWide_slice Try.underlying22 (hval 0 22 v0 rfl rfl)
  have k0 := h0
  have lt0 : ∀ x ∈ p0, x.block < W.heap.size := by obtain ⟨m, hm⟩ := k0; exact DataW.trod_lt m _ _ _ hm
  obtain ⟨l0, w0⟩ : ∃ l, IsRowF W 11 Bx.cells Bx.ok a0 len0 cap0 l := by
    obtain ⟨fuel, hf⟩ := h0
    exact open_flat Try.underlying22 (by kernel_rfl) rdr_bx (fun _ => rfl) bx_one (by simpa [Value.cells] using hf)
  have k1 := h1
  have lt1 : ∀ x ∈ p1, x.block < W.heap.size := by obtain ⟨m, hm⟩ := k1; exact DataW.trod_lt m _ _ _ hm
  obtain ⟨cs1, rfl, hsz1⟩ := okWide_array Try.underlying24 (hval 1 24 v1 rfl rfl)
  obtain ⟨a10, a11, e1, w10, w11⟩ : ∃ a10 a11 : Int, cs1 = #[.int .i8 a10, .int .i8 a11] ∧ (Lit.int .i8 a10).wf = true ∧ (Lit.int .i8 a11).wf = true := by
    obtain ⟨fuel, hf⟩ := h1
    obtain ⟨a10, a11, e, q⟩ := rdr_array2 Try.underlying24 Try.underlying23 (by kernel_rfl) (by kernel_rfl) (by simpa [Value.cells] using hf)
    exact ⟨a10, a11, by rw [← Array.toList_inj, e], q⟩
  subst e1
  clear hA0 hval0
  refine (walk a0 len0 cap0 l0 a10 a11 W w0 w10 w11).mono fun e W' ⟨he, bel⟩ => ?_
  subst he
  exact ⟨_, rfl, _, _, _, [], _, [], hW', trodAll_mk1 (shut_bool Try.underlying4 _), (trodAll_cons_mk (Below.trod laidOut (by kernel_rfl) (of_decide_eq_true (by kernel_rfl)) k0 bel lt0) (trodAll_cons_mk (Below.trod laidOut (by kernel_rfl) (of_decide_eq_true (by kernel_rfl)) k1 bel lt1) trodAll_mk0)), rfl, bel.frame _, fun h => by cases h⟩

theorem over : Rows.paintDrawsRow.holds Try.pinned (OpenSpec.ofChange Rows.paintDrawsSpec) :=
  OpenClaim.holds_of_wide 3 Try.f3 rfl rfl rfl rfl rfl rfl rfl ⟨rfl, rfl, rfl, rfl, rfl⟩ rfl rfl rfl rfl rfl (by kernel_rfl) Try.func3 (by kernel_rfl)
    (of_decide_eq_true (by kernel_rfl)) (by unfold Func.isWrapper; first | (rw [if_pos (by decide +kernel)]; kernel_rfl) | (rw [if_neg (by decide +kernel)]; exact ⟨rfl, rfl⟩))
    (fun os started H enc _ => lifted os started H enc)

/-- the statement -/
theorem proved : Rows.PaintDrawsSaid := over
#print axioms proved
end Go.Proofs.Ytifgjccnhbbadaa.paintDraws
