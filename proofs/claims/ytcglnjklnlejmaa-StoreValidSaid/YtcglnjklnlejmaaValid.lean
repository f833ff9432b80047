/-
  A store is valid as specified; whatever operations come, it stays valid.
  No condition.
-/
import Derived.Test.YtcglnjklnlejmaaRows
import Derived.Test.YtcglnjklnlejmaaVf
import Derived.Test.YtcglnjklnlejmaaSq
import Derived.Test.YtcglnjklnlejmaaKd
import Derived.WalkKit
import Derived.ProofKit
import Derived.OpenShut
import Derived.ShutString
import Derived.ChangeOld
import Derived.Below
set_option linter.unusedVariables false
namespace Go.Proofs.Ytcglnjklnlejmaa.storeValid
open Go.K Go.ChangeShapes Go.WideShapes Go.ChangeAt Go.RowKit
open Go.ChangeMaps (open_string shut_string)

theorem own : ownKnob Try.prog.godebug = none := by kernel_rfl
theorem laidOut : laidOutB Try.prog = true := by kernel_rfl

open Go.K.Sr
theorem walk (sp : Option Addr) (n cp : Nat) (P : List Pr) (st : Option Addr) (m ct : Nat) (T : List Gt) (nx : Int) (a1 : Option Addr) (len1 cap1 : Nat) (l1 : List Op') (w : World) (hP : IsRowF w 2 pcells Pr.any sp n cp P) (hT : IsRowF w 4 (fun x : Gt => ycells (gy x)) (fun x => IsRowF w 3 ccells Ch.any x.s x.l.length x.c x.l) st m ct T) (hnil : sp = none → cp = 0) (w1 : IsRowF w 5 opc Op'.ok a1 len1 cap1 l1) :
    Calls Try.prog 10 #[.agg #[.slice sp n cp, .slice st m ct, .int .i64 nx], .slice a1 len1 cap1] w fun e w' => e = .returned (.bool true) ∧ Below w.heap.size w w' := by
  have hg := gv_of nx hP hT hnil
  obtain ⟨p1, p2, p3, -, -⟩ := hP
  obtain ⟨t1, t2, t3, -, t5⟩ := hT
  obtain ⟨h1, h2, h3, h4, h5⟩ := w1
  have hm : l1.length ≤ maxLen := by omega
  have hp : P.length ≤ maxLen := by omega
  have ht : T.length ≤ maxLen := by omega
  have hc : ∀ x ∈ T, x.l.length ≤ maxLen := fun x hx => by
    obtain ⟨c1, c2, c3, -, -⟩ := t5 x hx
    omega
  subst h1 p1 t1
  exact valid_go P T nx sp cp st ct a1 cap1 l1 w hg (by simp only [maxLen] at hp; omega) (by simp only [maxLen] at ht; omega) (fun x hx => by have := hc x hx; simp only [maxLen] at this; omega) h4 (by simp only [maxLen] at hm; omega) h5

set_option maxRecDepth 100000 in
theorem lifted (os : Os) (started : os.Started) (H : Type) (enc : TypeId × Value → H) :
    ReturnsInHanded {} Try.checked os 10 .any (Rows.storeValidSpec.pre6 enc Try.prog Try.f10 Rows.storeValidRow.domain false) (Rows.storeValidSpec.post enc Try.prog Try.f10 false true false false) := by
  refine returnsInHanded_of_change (C := Try.checked) own started (by kernel_rfl) Try.func10
    (ChangeSpec.witness6 (enc := enc) (C := Try.checked) false ⟨#[], #[.agg #[.slice none 0 0, .slice none 0 0, .int .i64 0], .slice none 0 0], []⟩ 8 (by kernel_rfl) (by kernel_rfl) (by kernel_rfl) (by kernel_rfl)) ?_
  intro W base args ds gs before hval0 hW hcnd _
  have hval : ∀ (j : Nat) t v, Try.f10.params[j]? = some t → args[j]? = some v → Value.okWide Try.prog W .any base t v := hval0
  have hW' := hW
  obtain ⟨p, q, hA0, hV, rfl, hfz, hnd⟩ := hW
  have hA : DataW.TrodAll enc Try.prog W 0 (fun _ => true) true Try.f10.params.toList args.toList ds p := hA0
  rw [Try.params10] at hA hval
  obtain ⟨v0, vs0, d0, ds0, p0, q0, hargs, rfl, rfl, h0, r0⟩ := trodAll_cons hA
  obtain ⟨v1, vs1, d1, ds1, p1, q1, rfl, rfl, rfl, h1, r1⟩ := trodAll_cons r0
  obtain ⟨rfl, rfl, rfl⟩ := trodAll_nil r1
  obtain rfl : args = #[v0, v1] := by cases args; simp_all
  obtain ⟨rfl, rfl⟩ := trodVars_none hV
  have k0 := h0
  have lt0 : ∀ x ∈ p0, x.block < W.heap.size := by obtain ⟨m, hm⟩ := k0; exact DataW.trod_lt m _ _ _ hm
  obtain ⟨cs0, rfl, hsz0⟩ := okWide_struct Try.underlying28 (hval 0 28 v0 rfl rfl)
  obtain ⟨fuel0, hf0⟩ := h0
  obtain ⟨sp, n, cp, P, st, m, ct, T, nx, e0, hP, hT, hnil⟩ := open_store (by simpa [Value.cells] using hf0)
  obtain rfl : cs0 = #[.slice sp n cp, .slice st m ct, .int .i64 nx] := by
    show cs0 = [Value.slice sp n cp, .slice st m ct, .int .i64 nx].toArray
    rw [← e0]
  obtain ⟨a1, len1, cap1, rfl⟩ := okWide_slice Try.underlying41 (hval 1 41 v1 rfl rfl)
  have k1 := h1
  have lt1 : ∀ x ∈ p1, x.block < W.heap.size := by obtain ⟨m, hm⟩ := k1; exact DataW.trod_lt m _ _ _ hm
  obtain ⟨l1, w1⟩ : ∃ l, IsRowF W 5 opc Op'.ok a1 len1 cap1 l := by
    obtain ⟨fuel, hf⟩ := h1
    exact open_flat Try.underlying41 (by kernel_rfl) rdr_op (fun _ => rfl) opc_one (by simpa [Value.cells] using hf)
  clear hA0 hval0
  refine (walk sp n cp P st m ct T nx a1 len1 cap1 l1 W hP hT hnil w1).mono fun e W' ⟨he, bel⟩ => ?_
  subst he
  exact ⟨_, rfl, _, _, _, [], _, [], hW', trodAll_mk1 (shut_bool Try.underlying4 _), (trodAll_cons_mk (Below.trod laidOut (by kernel_rfl) (of_decide_eq_true (by kernel_rfl)) k0 bel lt0) (trodAll_cons_mk (Below.trod laidOut (by kernel_rfl) (of_decide_eq_true (by kernel_rfl)) k1 bel lt1) trodAll_mk0)), rfl, bel.frame _, fun h => by cases h⟩

theorem over : Rows.storeValidRow.holds Try.pinned (OpenSpec.ofChange Rows.storeValidSpec) :=
  OpenClaim.holds_of_wide 10 Try.f10 rfl rfl rfl rfl rfl rfl rfl ⟨rfl, rfl, rfl, rfl, rfl⟩ rfl rfl rfl rfl rfl (by kernel_rfl) Try.func10 (by kernel_rfl)
    (of_decide_eq_true (by kernel_rfl)) (by unfold Func.isWrapper; first | (rw [if_pos (by decide +kernel)]; kernel_rfl) | (rw [if_neg (by decide +kernel)]; exact ⟨rfl, rfl⟩))
    (fun os started H enc _ => lifted os started H enc)

/-- the statement -/
theorem proved : Rows.StoreValidSaid := over
#print axioms proved
end Go.Proofs.Ytcglnjklnlejmaa.storeValid
