/-
  EventListeners: Add, Remove, Drop and For are those of the chapter, in any order.
  No condition.
-/
import Derived.Test.YtianjcbofgdfdaaRows
import Derived.Test.YtianjcbofgdfdaaFl
import Derived.Test.YtianjcbofgdfdaaEs
import Derived.Test.YtianjcbofgdfdaaKd
import Derived.WalkKit
import Derived.ProofKit
import Derived.OpenShut
import Derived.ShutString
import Derived.ChangeOld
import Derived.Below
set_option linter.unusedVariables false
namespace Go.Proofs.Ytianjcbofgdfdaa.eventListeners
open Go.K Go.K.Ev Go.ChangeShapes Go.WideShapes Go.ChangeAt Go.RowKit
open Go.ChangeMaps (open_string shut_string)

theorem own : ownKnob Try.prog.godebug = none := by kernel_rfl
theorem laidOut : laidOutB Try.prog = true := by kernel_rfl

set_option maxRecDepth 100000 in
set_option maxHeartbeats 1000000 in
theorem long (s0 : Option Addr) (n0 c0 : Nat) (t : Tg) (ty : ByteArray) (w : World) (hl : ¬ n0 ≤ 60) :
    Calls Try.prog 9 #[.slice s0 n0 c0, .agg #[.int .i64 t.kind, .int .i64 t.id], .string ty] w fun e w' => e = .returned (.bool true) ∧ Below w.heap.size w w' := by
  have hl' : (60 : Int) < (n0 : Int) := by omega
  have H0 := Lib.hid ((St.start w (Below.refl w.heap.size w)).new #[.int .i64 t.kind, .int .i64 t.id] 29)
  clear hl
  go_enter Try.func9, Try.ntmps9
  go_wp2_with fail
  refine (awake_any _).mono ?_
  rintro e w1 ⟨rfl, hb1⟩
  have H1 := Lib.hid (H0.out.of_below hb1)
  clear hb1 H0
  go_wp2_with fail
  refine (awake_any _).mono ?_
  rintro e w3 ⟨rfl, hb3⟩
  have H3 := Lib.hid (H1.out.of_below hb3)
  clear hb3
  go_wp2_with fail
  go_ret
  exact ⟨rfl, H3.out.bel⟩

theorem walk (a0 : Option Addr) (len0 cap0 : Nat) (l0 : List Li) (a1 : Tg) (a2 : ByteArray) (w : World) (w0 : IsRowF w 8 lcells (fun _ => True) a0 len0 cap0 l0) (w1 : (fun _ => True) a1) (w2 : a2.size ≤ maxLen) :
    Calls Try.prog 9 #[.slice a0 len0 cap0, .agg (gcells a1).toArray, .string a2] w fun e w' => e = .returned (.bool true) ∧ Below w.heap.size w w' := by
  obtain ⟨h1, h2, h3, h4, h5⟩ := w0
  by_cases hl : len0 ≤ 60
  · subst h1
    exact listeners_go a0 cap0 l0 a1 a2 w hl h4
  · exact long a0 len0 cap0 a1 a2 w hl

set_option maxRecDepth 100000 in
theorem lifted (os : Os) (started : os.Started) (H : Type) (enc : TypeId × Value → H) :
    ReturnsInHanded {} Try.checked os 9 .any (Rows.eventListenersSpec.pre6 enc Try.prog Try.f9 Rows.eventListenersRow.domain false) (Rows.eventListenersSpec.post enc Try.prog Try.f9 false true false false) := by
  refine returnsInHanded_of_change (C := Try.checked) own started (by kernel_rfl) Try.func9
    (ChangeSpec.witness6 (enc := enc) (C := Try.checked) false ⟨#[], #[.slice none 0 0, .agg #[.int .i64 0, .int .i64 0], .string ByteArray.empty], []⟩ 8 (by kernel_rfl) (by kernel_rfl) (by kernel_rfl) (by kernel_rfl)) ?_
  intro W base args ds gs before hval0 hW hcnd _
  have hval : ∀ (j : Nat) t v, Try.f9.params[j]? = some t → args[j]? = some v → Value.okWide Try.prog W .any base t v := hval0
  have hW' := hW
  obtain ⟨p, q, hA0, hV, rfl, hfz, hnd⟩ := hW
  have hA : DataW.TrodAll enc Try.prog W 0 (fun _ => true) true Try.f9.params.toList args.toList ds p := hA0
  rw [Try.params9] at hA hval
  obtain ⟨v0, vs0, d0, ds0, p0, q0, hargs, rfl, rfl, h0, r0⟩ := trodAll_cons hA
  obtain ⟨v1, vs1, d1, ds1, p1, q1, rfl, rfl, rfl, h1, r1⟩ := trodAll_cons r0
  obtain ⟨v2, vs2, d2, ds2, p2, q2, rfl, rfl, rfl, h2, r2⟩ := trodAll_cons r1
  obtain ⟨rfl, rfl, rfl⟩ := trodAll_nil r2
  obtain rfl : args = #[v0, v1, v2] := by cases args; simp_all
  obtain ⟨rfl, rfl⟩ := trodVars_none hV
  obtain ⟨a0, len0, cap0, rfl⟩ := okWide_slice Try.underlying22 (hval 0 22 v0 rfl rfl)
  have k0 := h0
  have lt0 : ∀ x ∈ p0, x.block < W.heap.size := by obtain ⟨m, hm⟩ := k0; exact DataW.trod_lt m _ _ _ hm
  obtain ⟨l0, w0⟩ : ∃ l, IsRowF W 8 lcells (fun _ => True) a0 len0 cap0 l := by
    obtain ⟨fuel, hf⟩ := h0
    exact open_flat Try.underlying22 (by kernel_rfl) rdr_li (fun _ => rfl) lcells_one (by simpa [Value.cells] using hf)
  obtain ⟨cs1, rfl, hsz1⟩ := okWide_struct Try.underlying29 (hval 1 29 v1 rfl rfl)
  have k1 := h1
  have lt1 : ∀ x ∈ p1, x.block < W.heap.size := by obtain ⟨m, hm⟩ := k1; exact DataW.trod_lt m _ _ _ hm
  obtain ⟨a1, e1, w1⟩ : ∃ a, cs1 = (gcells a).toArray ∧ (fun _ => True) a := by
    obtain ⟨fuel, hf⟩ := h1
    obtain ⟨a, e, q⟩ := rdr_tg (by simpa [Value.cells] using hf)
    exact ⟨a, by rw [← e], q⟩
  subst e1
  obtain ⟨a2, rfl, rfl, rfl, w2⟩ := open_string Try.underlying9 (hval 2 9 v2 rfl rfl) h2
  clear hA0 hval0
  refine (walk a0 len0 cap0 l0 a1 a2 W w0 w1 w2).mono fun e W' ⟨he, bel⟩ => ?_
  subst he
  exact ⟨_, rfl, _, _, _, [], _, [], hW', trodAll_mk1 (shut_bool Try.underlying4 _), (trodAll_cons_mk (Below.trod laidOut (by kernel_rfl) (of_decide_eq_true (by kernel_rfl)) k0 bel lt0) (trodAll_cons_mk (Below.trod laidOut (by kernel_rfl) (of_decide_eq_true (by kernel_rfl)) k1 bel lt1) (trodAll_cons_mk (shut_string Try.underlying9 w2) trodAll_mk0))), rfl, bel.frame _, fun h => by cases h⟩

theorem over : Rows.eventListenersRow.holds Try.pinned (OpenSpec.ofChange Rows.eventListenersSpec) :=
  OpenClaim.holds_of_wide 9 Try.f9 rfl rfl rfl rfl rfl rfl rfl ⟨rfl, rfl, rfl, rfl, rfl⟩ rfl rfl rfl rfl rfl (by kernel_rfl) Try.func9 (by kernel_rfl)
    (of_decide_eq_true (by kernel_rfl)) (by unfold Func.isWrapper; first | (rw [if_pos (by decide +kernel)]; kernel_rfl) | (rw [if_neg (by decide +kernel)]; exact ⟨rfl, rfl⟩))
    (fun os started H enc _ => lifted os started H enc)

/-- the statement -/
theorem proved : Rows.EventListenersSaid := over
#print axioms proved
end Go.Proofs.Ytianjcbofgdfdaa.eventListeners
