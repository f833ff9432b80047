/-
  Revealing a node: the document is scrolled so that the node's first box comes into view; a second time nothing changes.
  No condition.
-/
import Derived.Test.YtfjjgebfeklnhaaRows
import Derived.Test.YtfjjgebfeklnhaaIr
import Derived.Test.YtfjjgebfeklnhaaJa
import Derived.Test.YtfjjgebfeklnhaaKd
import Derived.WalkKit
import Derived.ProofKit
import Derived.OpenShut
import Derived.ShutString
import Derived.ChangeOld
import Derived.Below
set_option linter.unusedVariables false
namespace Go.Proofs.Ytfjjgebfeklnhaa.hitReveals
open Go.K Go.ChangeShapes Go.WideShapes Go.ChangeAt Go.RowKit
open Go.ChangeMaps (open_string shut_string)

theorem own : ownKnob Try.prog.godebug = none := by kernel_rfl
theorem laidOut : laidOutB Try.prog = true := by kernel_rfl

theorem walk (t : Sh) (a1 : Option Addr) (len1 cap1 : Nat) (l1 : List Of) (sa sb sc : Int) (w : World) (hat : ShAt w t) (w1 : IsRowF w 3 ofc Of.ok a1 len1 cap1 l1) (hsa : 0 ≤ sa ∧ sa ≤ 255) (hsb : 0 ≤ sb ∧ sb ≤ 255) (hsc : 0 ≤ sc ∧ sc ≤ 255) :
    Calls Try.prog 7 #[.agg (shc t).toArray, .slice a1 len1 cap1, .agg #[.int .u8 sa, .int .u8 sb, .int .u8 sc]] w fun e w' => e = .returned (.bool true) ∧ Below w.heap.size w w' := by
  obtain ⟨hl, hlc, hcm, hrd, hok⟩ := w1
  subst hl
  exact reveals_go t a1 cap1 l1 sa sb sc w hat hrd hok hsa hsb hsc

set_option maxRecDepth 100000 in
theorem lifted (os : Os) (started : os.Started) (H : Type) (enc : TypeId × Value → H) :
    ReturnsInHanded {} Try.checked os 7 .any (Rows.hitRevealsSpec.pre6 enc Try.prog Try.f7 Rows.hitRevealsRow.domain false) (Rows.hitRevealsSpec.post enc Try.prog Try.f7 false true false false) := by
  refine returnsInHanded_of_change (C := Try.checked) own started (by kernel_rfl) Try.func7
    (ChangeSpec.witness6 (enc := enc) (C := Try.checked) false ⟨#[], #[.agg #[.int .i8 0, .int .i8 0, .int .u8 0, .int .u8 0, .int .u8 0, .int .u8 0, .slice none 0 0], .slice none 0 0, .agg #[.int .u8 0, .int .u8 0, .int .u8 0]], []⟩ 8 (by kernel_rfl) (by kernel_rfl) (by kernel_rfl) (by kernel_rfl)) ?_
  intro W base args ds gs before hval0 hW hcnd _
  have hval : ∀ (j : Nat) t v, Try.f7.params[j]? = some t → args[j]? = some v → Value.okWide Try.prog W .any base t v := hval0
  have hW' := hW
  obtain ⟨p, q, hA0, hV, rfl, hfz, hnd⟩ := hW
  have hA : DataW.TrodAll enc Try.prog W 0 (fun _ => true) true Try.f7.params.toList args.toList ds p := hA0
  rw [Try.params7] at hA hval
  obtain ⟨v0, vs0, d0, ds0, p0, q0, hargs, rfl, rfl, h0, r0⟩ := trodAll_cons hA
  obtain ⟨v1, vs1, d1, ds1, p1, q1, rfl, rfl, rfl, h1, r1⟩ := trodAll_cons r0
  obtain ⟨v2, vs2, d2, ds2, p2, q2, rfl, rfl, rfl, h2, r2⟩ := trodAll_cons r1
  obtain ⟨rfl, rfl, rfl⟩ := trodAll_nil r2
  obtain rfl : args = #[v0, v1, v2] := by cases args; simp_all
  obtain ⟨rfl, rfl⟩ := trodVars_none hV
  have k0 := h0
  have lt0 : ∀ x ∈ p0, x.block < W.heap.size := by obtain ⟨m, hm⟩ := k0; exact DataW.trod_lt m _ _ _ hm
  obtain ⟨cs0, rfl, hsz0⟩ := okWide_struct Try.underlying39 (hval 0 39 v0 rfl rfl)
  obtain ⟨fuel0, hf0⟩ := h0
  obtain ⟨t, e0, hat⟩ := open_shape fuel0 (by simpa [Value.cells] using hf0)
  obtain rfl : cs0 = (shc t).toArray := by
    rw [← e0]
  obtain ⟨a1, len1, cap1, rfl⟩ := okWide_slice Try.underlying65 (hval 1 65 v1 rfl rfl)
  have k1 := h1
  have lt1 : ∀ x ∈ p1, x.block < W.heap.size := by obtain ⟨m, hm⟩ := k1; exact DataW.trod_lt m _ _ _ hm
  obtain ⟨l1, w1⟩ : ∃ l, IsRowF W 3 ofc Of.ok a1 len1 cap1 l := by
    obtain ⟨fuel, hf⟩ := h1
    exact open_flat Try.underlying65 (by kernel_rfl) rdr_of (fun _ => rfl) of_one (by simpa [Value.cells] using hf)
  have k2 := h2
  have lt2 : ∀ x ∈ p2, x.block < W.heap.size := by obtain ⟨m, hm⟩ := k2; exact DataW.trod_lt m _ _ _ hm
  obtain ⟨cs2, rfl⟩ : ∃ cs, v2 = .agg cs := by
    have h9 := hval 2 71 v2 rfl rfl
    simp only [Value.okWide, Try.underlying71] at h9
    obtain ⟨cs, h8, _⟩ := h9
    exact ⟨cs, h8⟩
  obtain ⟨fuel2, hf2⟩ := h2
  obtain ⟨sa, sb, sc, e2, hsa, hsb, hsc⟩ := open_three (by simpa [Value.cells] using hf2)
  obtain rfl : cs2 = #[.int .u8 sa, .int .u8 sb, .int .u8 sc] := by
    show cs2 = [Value.int .u8 sa, Value.int .u8 sb, Value.int .u8 sc].toArray
    rw [← e2]
  clear hA0 hval0
  refine (walk t a1 len1 cap1 l1 sa sb sc W hat w1 hsa hsb hsc).mono fun e W' ⟨he, bel⟩ => ?_
  subst he
  exact ⟨_, rfl, _, _, _, [], _, [], hW', trodAll_mk1 (shut_bool Try.underlying4 _), (trodAll_cons_mk (Below.trod laidOut (by kernel_rfl) (of_decide_eq_true (by kernel_rfl)) k0 bel lt0) (trodAll_cons_mk (Below.trod laidOut (by kernel_rfl) (of_decide_eq_true (by kernel_rfl)) k1 bel lt1) (trodAll_cons_mk (Below.trod laidOut (by kernel_rfl) (of_decide_eq_true (by kernel_rfl)) k2 bel lt2) trodAll_mk0))), rfl, bel.frame _, fun h => by cases h⟩

theorem over : Rows.hitRevealsRow.holds Try.pinned (OpenSpec.ofChange Rows.hitRevealsSpec) :=
  OpenClaim.holds_of_wide 7 Try.f7 rfl rfl rfl rfl rfl rfl rfl ⟨rfl, rfl, rfl, rfl, rfl⟩ rfl rfl rfl rfl rfl (by kernel_rfl) Try.func7 (by kernel_rfl)
    (of_decide_eq_true (by kernel_rfl)) (by unfold Func.isWrapper; first | (rw [if_pos (by decide +kernel)]; kernel_rfl) | (rw [if_neg (by decide +kernel)]; exact ⟨rfl, rfl⟩))
    (fun os started H enc _ => lifted os started H enc)

/-- the statement -/
theorem proved : Rows.HitRevealsSaid := over
#print axioms proved
end Go.Proofs.Ytfjjgebfeklnhaa.hitReveals
