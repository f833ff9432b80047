/-
  Offsets are limited to the range of the node's view.
  No condition.
-/
import Derived.Test.YtfjjgebfeklnhaaRows
import Derived.Test.YtfjjgebfeklnhaaIq
import Derived.Test.YtfjjgebfeklnhaaIr
import Derived.Test.YtfjjgebfeklnhaaKd
import Derived.WalkKit
import Derived.ProofKit
import Derived.OpenShut
import Derived.ShutString
import Derived.ChangeOld
import Derived.Below
set_option linter.unusedVariables false
namespace Go.Proofs.Ytfjjgebfeklnhaa.hitClamps
open Go.K Go.ChangeShapes Go.WideShapes Go.ChangeAt Go.RowKit
open Go.ChangeMaps (open_string shut_string)

theorem own : ownKnob Try.prog.godebug = none := by kernel_rfl
theorem laidOut : laidOutB Try.prog = true := by kernel_rfl

theorem walk (t : Sh) (a1 : Of) (sa sb : Int) (w : World) (hat : ShAt w t) (w1 : Of.ok a1) (hsa : -32768 ≤ sa ∧ sa ≤ 32767) (hsb : -32768 ≤ sb ∧ sb ≤ 32767) :
    Calls Try.prog 5 #[.agg (shc t).toArray, .agg (ofc a1).toArray, .agg #[.int .i16 sa, .int .i16 sb]] w fun e w' => e = .returned (.bool true) ∧ Below w.heap.size w w' := by
  exact clamps_go t a1.n a1.x a1.y sa sb w hat w1.1 w1.2.1 w1.2.2 hsa hsb

set_option maxRecDepth 100000 in
theorem lifted (os : Os) (started : os.Started) (H : Type) (enc : TypeId × Value → H) :
    ReturnsInHanded {} Try.checked os 5 .any (Rows.hitClampsSpec.pre6 enc Try.prog Try.f5 Rows.hitClampsRow.domain false) (Rows.hitClampsSpec.post enc Try.prog Try.f5 false true false false) := by
  refine returnsInHanded_of_change (C := Try.checked) own started (by kernel_rfl) Try.func5
    (ChangeSpec.witness6 (enc := enc) (C := Try.checked) false ⟨#[], #[.agg #[.int .i8 0, .int .i8 0, .int .u8 0, .int .u8 0, .int .u8 0, .int .u8 0, .slice none 0 0], .agg #[.int .u8 0, .int .i16 0, .int .i16 0], .agg #[.int .i16 0, .int .i16 0]], []⟩ 8 (by kernel_rfl) (by kernel_rfl) (by kernel_rfl) (by kernel_rfl)) ?_
  intro W base args ds gs before hval0 hW hcnd _
  have hval : ∀ (j : Nat) t v, Try.f5.params[j]? = some t → args[j]? = some v → Value.okWide Try.prog W .any base t v := hval0
  have hW' := hW
  obtain ⟨p, q, hA0, hV, rfl, hfz, hnd⟩ := hW
  have hA : DataW.TrodAll enc Try.prog W 0 (fun _ => true) true Try.f5.params.toList args.toList ds p := hA0
  rw [Try.params5] at hA hval
  obtain ⟨v0, vs0, d0, ds0, p0, q0, hargs, rfl, rfl, h0, r0⟩ := trodAll_cons hA
  obtain ⟨v1, vs1, d1, ds1, p1, q1, rfl, rfl, rfl, h1, r1⟩ := trodAll_cons r0
  obtain ⟨v2, vs2, d2, ds2, p2, q2, rfl, rfl, rfl, h2, r2⟩ := trodAll_cons r1
  obtain ⟨rfl, rfl, rfl⟩ := trodAll_nil r2
  obtain rfl : args = #[v0, v1, v2] := by cases args; simp_all
  obtain ⟨rfl, rfl⟩ := trodVars_none hV
  have k0 := h0
  have lt0 : ∀ x ∈ p0, x.block < W.heap.size := by obtain ⟨m, hm⟩ := k0; exact DataW.trod_lt m _ _ _ hm
  obtain ⟨cs0, rfl, hsz0⟩ := okWide_struct Try.underlying39 (hval 0 39 v0 rfl rfl)
  obtain ⟨fuel0, hf0⟩ := h0
  obtain ⟨t, e0, hat⟩ := open_shape fuel0 (by simpa [Value.cells] using hf0)
  obtain rfl : cs0 = (shc t).toArray := by
    rw [← e0]
  obtain ⟨cs1, rfl, hsz1⟩ := okWide_struct Try.underlying58 (hval 1 58 v1 rfl rfl)
  have k1 := h1
  have lt1 : ∀ x ∈ p1, x.block < W.heap.size := by obtain ⟨m, hm⟩ := k1; exact DataW.trod_lt m _ _ _ hm
  obtain ⟨a1, e1, w1⟩ : ∃ a, cs1 = (ofc a).toArray ∧ Of.ok a := by
    obtain ⟨fuel, hf⟩ := h1
    obtain ⟨a, e, q⟩ := rdr_of (by simpa [Value.cells] using hf)
    exact ⟨a, by rw [← e], q⟩
  subst e1
  have k2 := h2
  have lt2 : ∀ x ∈ p2, x.block < W.heap.size := by obtain ⟨m, hm⟩ := k2; exact DataW.trod_lt m _ _ _ hm
  obtain ⟨cs2, rfl⟩ : ∃ cs, v2 = .agg cs := by
    have h9 := hval 2 59 v2 rfl rfl
    simp only [Value.okWide, Try.underlying59] at h9
    obtain ⟨cs, h8, _⟩ := h9
    exact ⟨cs, h8⟩
  obtain ⟨fuel2, hf2⟩ := h2
  obtain ⟨sa, sb, e2, hsa, hsb⟩ := open_two (by simpa [Value.cells] using hf2)
  obtain rfl : cs2 = #[.int .i16 sa, .int .i16 sb] := by
    show cs2 = [Value.int .i16 sa, Value.int .i16 sb].toArray
    rw [← e2]
  clear hA0 hval0
  refine (walk t a1 sa sb W hat w1 hsa hsb).mono fun e W' ⟨he, bel⟩ => ?_
  subst he
  exact ⟨_, rfl, _, _, _, [], _, [], hW', trodAll_mk1 (shut_bool Try.underlying4 _), (trodAll_cons_mk (Below.trod laidOut (by kernel_rfl) (of_decide_eq_true (by kernel_rfl)) k0 bel lt0) (trodAll_cons_mk (Below.trod laidOut (by kernel_rfl) (of_decide_eq_true (by kernel_rfl)) k1 bel lt1) (trodAll_cons_mk (Below.trod laidOut (by kernel_rfl) (of_decide_eq_true (by kernel_rfl)) k2 bel lt2) trodAll_mk0))), rfl, bel.frame _, fun h => by cases h⟩

theorem over : Rows.hitClampsRow.holds Try.pinned (OpenSpec.ofChange Rows.hitClampsSpec) :=
  OpenClaim.holds_of_wide 5 Try.f5 rfl rfl rfl rfl rfl rfl rfl ⟨rfl, rfl, rfl, rfl, rfl⟩ rfl rfl rfl rfl rfl (by kernel_rfl) Try.func5 (by kernel_rfl)
    (of_decide_eq_true (by kernel_rfl)) (by unfold Func.isWrapper; first | (rw [if_pos (by decide +kernel)]; kernel_rfl) | (rw [if_neg (by decide +kernel)]; exact ⟨rfl, rfl⟩))
    (fun os started H enc _ => lifted os started H enc)

/-- the statement -/
theorem proved : Rows.HitClampsSaid := over
#print axioms proved
end Go.Proofs.Ytfjjgebfeklnhaa.hitClamps
