/-
  EventPlays: whatever happens during the calls, the calls are those of the chapter, and so are the listeners and the flags afterwards.
  No condition.
-/
import Derived.Test.YtianjcbofgdfdaaRows
import Derived.Test.YtianjcbofgdfdaaFr
import Derived.Test.YtianjcbofgdfdaaFh
import Derived.Test.YtianjcbofgdfdaaKd
import Derived.WalkKit
import Derived.ProofKit
import Derived.OpenShut
import Derived.ShutString
import Derived.ChangeOld
import Derived.Below
set_option linter.unusedVariables false
namespace Go.Proofs.Ytianjcbofgdfdaa.eventPlays
open Go.K Go.K.Ev Go.ChangeShapes Go.WideShapes Go.ChangeAt Go.RowKit
open Go.ChangeMaps (open_string shut_string)

theorem own : ownKnob Try.prog.godebug = none := by kernel_rfl
theorem laidOut : laidOutB Try.prog = true := by kernel_rfl

set_option maxRecDepth 100000 in
set_option maxHeartbeats 1000000 in
theorem long (s0 : Option Addr) (n0 c0 : Nat) (ty : ByteArray) (bub can : Bool) (s1 : Option Addr) (n1 c1 : Nat) (s2 : Option Addr) (n2 c2 : Nat) (w : World) (hl : ¬ (n0 ≤ 40 ∧ n1 ≤ 12 ∧ n2 ≤ 30)) :
    Calls Try.prog 8 #[.slice s0 n0 c0, evVal ty bub can s1 n1 c1, .slice s2 n2 c2] w fun e w' => e = .returned (.bool true) ∧ Below w.heap.size w w' := by
  have hd : (decide (n0 ≤ 40) && (decide (n1 ≤ 12) && decide (n2 ≤ 30))) = false := by
    rw [Bool.eq_false_iff]; intro h; simp at h; exact hl h
  have FA := fun w2 => Lib.hid (few_any s0 n0 c0 ty bub can s1 n1 c1 s2 n2 c2 w2)
  simp only [hd] at FA
  have H0 := Lib.hid ((St.start w (Below.refl w.heap.size w)).new #[.string ty, .bool bub, .bool can, .slice s1 n1 c1] 25)
  clear hd
  go_enter Try.func8, Try.ntmps8
  go_wp2_with fail
  refine (awake_any _).mono ?_
  rintro e w1 ⟨rfl, hb1⟩
  have H1 := Lib.hid (H0.out.of_below hb1)
  obtain ⟨k0, k1, k2, k3⟩ : w1.cell? ⟨w.heap.size, 0, none⟩ = some (.string ty) ∧ w1.cell? ⟨w.heap.size, 1, none⟩ = some (.bool bub) ∧ w1.cell? ⟨w.heap.size, 2, none⟩ = some (.bool can) ∧ w1.cell? ⟨w.heap.size, 3, none⟩ = some (.slice s1 n1 c1) := by
    have hbx := H1.out.blk.1
    have k0 := hbx.cell 0
    have k1 := hbx.cell 1
    have k2 := hbx.cell 2
    have k3 := hbx.cell 3
    simp at k0 k1 k2 k3
    exact ⟨k0, k1, k2, k3⟩
  clear hb1 H0
  go_wp2_with fail
  refine (FA w1).out.mono ?_
  rintro e w2 ⟨rfl, hb2⟩
  have H2 := Lib.hid (H1.out.of_below hb2)
  clear H1 hb2 FA k0 k1 k2 k3
  go_wp2_with fail
  refine (awake_any _).mono ?_
  rintro e w3 ⟨rfl, hb3⟩
  have H3 := Lib.hid (H2.out.of_below hb3)
  clear hb3
  go_wp2_with fail
  go_ret
  exact ⟨rfl, H3.out.bel⟩

theorem walk (a0 : Option Addr) (len0 cap0 : Nat) (l0 : List Li) (ty1 : ByteArray) (bub1 can1 : Bool) (s1 : Option Addr) (n1 c1 : Nat) (P1 : List Tg) (a2 : Option Addr) (len2 cap2 : Nat) (l2 : List Ac) (w : World) (w0 : IsRowF w 8 lcells (fun _ => True) a0 len0 cap0 l0) (w1 : IsRowF w 2 gcells (fun _ => True) s1 n1 c1 P1) (w2 : IsRowF w 10 acells AcOk a2 len2 cap2 l2) :
    Calls Try.prog 8 #[.slice a0 len0 cap0, .agg #[.string ty1, .bool bub1, .bool can1, .slice s1 n1 c1], .slice a2 len2 cap2] w fun e w' => e = .returned (.bool true) ∧ Below w.heap.size w w' := by
  obtain ⟨h1, h2, h3, h4, h5⟩ := w0
  obtain ⟨g1, g2, g3, g4, g5⟩ := w1
  obtain ⟨k1, k2, k3, k4, k5⟩ := w2
  by_cases hl : len0 ≤ 40 ∧ n1 ≤ 12 ∧ len2 ≤ 30
  · subst h1 g1 k1
    exact plays_go a0 cap0 l0 ty1 bub1 can1 s1 c1 P1 a2 cap2 l2 w hl.1 hl.2.1 h4 g4 hl.2.2 k4 (fun a ha => k5 a ha)
  · exact long a0 len0 cap0 ty1 bub1 can1 s1 n1 c1 a2 len2 cap2 w hl

set_option maxRecDepth 100000 in
theorem lifted (os : Os) (started : os.Started) (H : Type) (enc : TypeId × Value → H) :
    ReturnsInHanded {} Try.checked os 8 .any (Rows.eventPlaysSpec.pre6 enc Try.prog Try.f8 Rows.eventPlaysRow.domain false) (Rows.eventPlaysSpec.post enc Try.prog Try.f8 false true false false) := by
  refine returnsInHanded_of_change (C := Try.checked) own started (by kernel_rfl) Try.func8
    (ChangeSpec.witness6 (enc := enc) (C := Try.checked) false ⟨#[], #[.slice none 0 0, .agg #[.string ByteArray.empty, .bool false, .bool false, .slice none 0 0], .slice none 0 0], []⟩ 8 (by kernel_rfl) (by kernel_rfl) (by kernel_rfl) (by kernel_rfl)) ?_
  intro W base args ds gs before hval0 hW hcnd _
  have hval : ∀ (j : Nat) t v, Try.f8.params[j]? = some t → args[j]? = some v → Value.okWide Try.prog W .any base t v := hval0
  have hW' := hW
  obtain ⟨p, q, hA0, hV, rfl, hfz, hnd⟩ := hW
  have hA : DataW.TrodAll enc Try.prog W 0 (fun _ => true) true Try.f8.params.toList args.toList ds p := hA0
  rw [Try.params8] at hA hval
  obtain ⟨v0, vs0, d0, ds0, p0, q0, hargs, rfl, rfl, h0, r0⟩ := trodAll_cons hA
  obtain ⟨v1, vs1, d1, ds1, p1, q1, rfl, rfl, rfl, h1, r1⟩ := trodAll_cons r0
  obtain ⟨v2, vs2, d2, ds2, p2, q2, rfl, rfl, rfl, h2, r2⟩ := trodAll_cons r1
  obtain ⟨rfl, rfl, rfl⟩ := trodAll_nil r2
  obtain rfl : args = #[v0, v1, v2] := by cases args; simp_all
  obtain ⟨rfl, rfl⟩ := trodVars_none hV
  obtain ⟨a0, len0, cap0, rfl⟩ := okWide_slice Try.underlying22 (hval 0 22 v0 rfl rfl)
  have k0 := h0
  have lt0 : ∀ x ∈ p0, x.block < W.heap.size := by obtain ⟨m, hm⟩ := k0; exact DataW.trod_lt m _ _ _ hm
  obtain ⟨l0, w0⟩ : ∃ l, IsRowF W 8 lcells (fun _ => True) a0 len0 cap0 l := by
    obtain ⟨fuel, hf⟩ := h0
    exact open_flat Try.underlying22 (by kernel_rfl) rdr_li (fun _ => rfl) lcells_one (by simpa [Value.cells] using hf)
  have k1 := h1
  have lt1 : ∀ x ∈ p1, x.block < W.heap.size := by obtain ⟨m, hm⟩ := k1; exact DataW.trod_lt m _ _ _ hm
  obtain ⟨cs1, rfl, hsz1⟩ := okWide_struct Try.underlying25 (hval 1 25 v1 rfl rfl)
  obtain ⟨ty1, bub1, can1, s1, n1, c1, P1, e1, w1⟩ : ∃ ty bub can s n c P, cs1 = #[.string ty, .bool bub, .bool can, .slice s n c] ∧ IsRowF W 2 gcells (fun _ => True) s n c P := by
    obtain ⟨fuel, hf⟩ := h1
    obtain ⟨ty, bub, can, s, n, c, P, e, q⟩ := ev_open (by simpa [Value.cells] using hf)
    exact ⟨ty, bub, can, s, n, c, P, by rw [← Array.toList_inj, e], q⟩
  subst e1
  obtain ⟨a2, len2, cap2, rfl⟩ := okWide_slice Try.underlying59 (hval 2 59 v2 rfl rfl)
  have k2 := h2
  have lt2 : ∀ x ∈ p2, x.block < W.heap.size := by obtain ⟨m, hm⟩ := k2; exact DataW.trod_lt m _ _ _ hm
  obtain ⟨l2, w2⟩ : ∃ l, IsRowF W 10 acells AcOk a2 len2 cap2 l := by
    obtain ⟨fuel, hf⟩ := h2
    exact open_flat Try.underlying59 (by kernel_rfl) rdr_ac (fun _ => rfl) acells_one (by simpa [Value.cells] using hf)
  clear hA0 hval0
  refine (walk a0 len0 cap0 l0 ty1 bub1 can1 s1 n1 c1 P1 a2 len2 cap2 l2 W w0 w1 w2).mono fun e W' ⟨he, bel⟩ => ?_
  subst he
  exact ⟨_, rfl, _, _, _, [], _, [], hW', trodAll_mk1 (shut_bool Try.underlying4 _), (trodAll_cons_mk (Below.trod laidOut (by kernel_rfl) (of_decide_eq_true (by kernel_rfl)) k0 bel lt0) (trodAll_cons_mk (Below.trod laidOut (by kernel_rfl) (of_decide_eq_true (by kernel_rfl)) k1 bel lt1) (trodAll_cons_mk (Below.trod laidOut (by kernel_rfl) (of_decide_eq_true (by kernel_rfl)) k2 bel lt2) trodAll_mk0))), rfl, bel.frame _, fun h => by cases h⟩

theorem over : Rows.eventPlaysRow.holds Try.pinned (OpenSpec.ofChange Rows.eventPlaysSpec) :=
  OpenClaim.holds_of_wide 8 Try.f8 rfl rfl rfl rfl rfl rfl rfl ⟨rfl, rfl, rfl, rfl, rfl⟩ rfl rfl rfl rfl rfl (by kernel_rfl) Try.func8 (by kernel_rfl)
    (of_decide_eq_true (by kernel_rfl)) (by unfold Func.isWrapper; first | (rw [if_pos (by decide +kernel)]; kernel_rfl) | (rw [if_neg (by decide +kernel)]; exact ⟨rfl, rfl⟩))
    (fun os started H enc _ => lifted os started H enc)

/-- the statement -/
theorem proved : Rows.EventPlaysSaid := over
#print axioms proved
end Go.Proofs.Ytianjcbofgdfdaa.eventPlays
