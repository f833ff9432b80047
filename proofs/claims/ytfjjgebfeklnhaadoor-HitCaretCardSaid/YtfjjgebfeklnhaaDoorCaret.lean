/-
  The caret is in the topmost text at the point, at the offset whose distance from the point is least.
  No condition.
-/
import Derived.Test.YtfjjgebfeklnhaaDoorCards
import Derived.Test.YtfjjgebfeklnhaaDoorTie
import Derived.Test.YtfjjgebfeklnhaaDoorPe
import Derived.Test.YtfjjgebfeklnhaaDoorHj
import Derived.Test.YtfjjgebfeklnhaaDoorKd
import Derived.WalkKit
import Derived.ProofKit
import Derived.LaidMore
import Derived.OpenShut
import Derived.ChangeOld
import Derived.Below
import Derived.PinnedBridge
import Derived.Lay
import Derived.Lib.LaidU8T
import Derived.Lib.LaidIn
import Derived.SevenTiedAt
set_option linter.unusedVariables false
namespace Go.Proofs.YtfjjgebfeklnhaaDoor.hitCaret
open Go.K Go.ChangeShapes Go.WideShapes Go.ChangeAt Go.RowKit Go.Lib

theorem own : ownKnob Tryd.prog.godebug = none := by kernel_rfl
theorem laidOut : laidOutB Tryd.prog = true := by kernel_rfl
theorem short_flat (l : List GL) (h : ∀ x ∈ l, x.1.tx.size ≤ 40) : ∃ ls : List GB, flat bcells ls = flat lcells l ∧ ls.length = l.length := by
  refine ⟨l.attach.map (fun x => ⟨x.1.1, x.1.2, h x.1 x.2⟩), ?_, by simp⟩
  have e : flat lcells l = flat (fun x : { x // x ∈ l } => lcells x.1) l.attach := by
    conv => lhs; rw [← List.attach_map_subtype_val l]
    rw [flat_map]
  rw [e, flat_map]
  rfl
set_option maxRecDepth 100000 in
theorem many (s : Option Addr) (c : Nat) (l : List GL) (x y : Int) (w : World) (h : Rd w 12 s l.length (flat lcells l)) (hn : (l.length : Int) ≤ 9223372036854775807) (hf : fewB l = false) :
    Calls Tryd.prog 3 #[.slice s l.length c, .int .i64 x, .int .i64 y] w fun e w' => e = .returned (.bool true) ∧ Below w.heap.size w w' := by
  have HR := Lib.hid h
  have HF := Lib.hid hf
  clear h hf
  go_enter Tryd.func3, Tryd.ntmps3
  go_wp2_with (first
    | (go_at_call 4; refine (awake_any _).mono ?_; rintro e wb ⟨rfl, hbb⟩; have HB2 := Lib.hid (HB1.out.trans (hbb.mono HB1.out.size)); clear hbb)
    | (go_at_call 4; refine (awake_any _).mono ?_; rintro e wa ⟨rfl, hba⟩; have HB1 := Lib.hid hba; clear hba)
    | (go_at_call 5; refine (few_any _ _ _ _ (HR.out.below HB1.out) hn).mono ?_; rintro e wb ⟨rfl, rfl⟩; rw [HF.out]))
  exact bodyPost_ret (results_tmp Tryd.results3 _ _ _) rfl ⟨rfl, HB2.out⟩
theorem walk (s : Option Addr) (n c : Nat) (l : List Li) (x y : Int) (w : World) (h : IsRowF w 12 lc Li.ok s n c l) (hT : Tabs w) :
    Calls Tryd.prog 3 #[.slice s n c, .int .i64 x, .int .i64 y] w fun e w' => e = .returned (.bool true) ∧ Below w.heap.size w w' := by
  obtain ⟨h1, h2, h3, h4, h5⟩ := h
  obtain ⟨ls, e1, e2⟩ := lc_flat l h5
  rw [← e1] at h4
  have e3 : ls.length = n := by omega
  have hm : ls.length ≤ maxLen := by omega
  subst e3
  have hn : (ls.length : Int) ≤ 9223372036854775807 := by simp only [maxLen] at hm; omega
  by_cases hf : fewB ls = true
  · have hs : ∀ x ∈ ls, x.1.tx.size ≤ 40 := by
      intro x hx
      unfold fewB at hf
      simp only [Bool.and_eq_true, List.all_eq_true, decide_eq_true_eq] at hf
      exact hf.1 x hx
    obtain ⟨lb, b1, b2⟩ := short_flat ls hs
    have h6 := h4
    rw [← b1] at h6
    have b3 : Rd w 12 s lb.length (flat bcells lb) := by rw [b2]; exact h6
    have := caret_go s c lb x y w b3 hT ls b2.symm h4 hf
    rw [b2] at this
    exact this
  · exact many s c ls x y w h4 hn (by simpa using hf)

set_option maxRecDepth 100000 in
theorem lifted (os : Os) (started : os.Started) (H : Type) (enc : TypeId × Value → H) :
    ReturnsInHanded {} Tryd.checked os 3 .any (fun w args => (Rows.hitCaretSpec.pre enc Tryd.prog Tryd.f3 [] false w args ∧ laidMetH Tryd.prog Rows.hitCaretRow.laid w) ∧ sizedMet enc Tryd.prog Tryd.f3 (OpenSpec.ofChange Rows.hitCaretSpec) false w args)
      (Rows.hitCaretSpec.post enc Tryd.prog Tryd.f3 false true false false) := by
  refine returnsInHanded_of_change_and (C := Tryd.checked) (X := fun w _ => laidMetH Tryd.prog Rows.hitCaretRow.laid w) (fun _ _ _ hh h => h.of_heap hh) own started (by kernel_rfl) Tryd.func3
    (ChangeSpec.witness_shaped (enc := enc) (C := Tryd.checked) (os := os) (X := fun w _ => laidMetH Tryd.prog Rows.hitCaretRow.laid w) false (World.laidAll Tryd.prog os Rows.hitCaretRow.laid) #[.slice none 0 0, .int .i64 0, .int .i64 0] 8 (World.laidAll_os _ _ _)
      (World.shaped_of_ZipB (by kernel_rfl) (by kernel_rfl)) (by kernel_rfl) (by kernel_rfl) (by kernel_rfl)
      (by rw [MakeChecks.laidMetH_plain _ _ _ (by kernel_rfl)]; exact laidMet_laidAll _ (by kernel_rfl) (by kernel_rfl))) ?_
  intro W base args ds gs before hval0 hW _ _ hL _
  have hval : ∀ (j : Nat) t v, Tryd.f3.params[j]? = some t → args[j]? = some v → Value.okWide Tryd.prog W .any base t v := hval0
  have hW' := hW
  obtain ⟨p, q, hA0, hV, rfl, hfz, hnd⟩ := hW
  have hA : DataW.TrodAll enc Tryd.prog W 0 (fun _ => true) true Tryd.f3.params.toList args.toList ds p := hA0
  rw [Tryd.params3] at hA hval
  obtain ⟨v0, vs0, d0, ds0, p0, q0, hargs, rfl, rfl, h0, r0⟩ := trodAll_cons hA
  obtain ⟨v1, vs1, d1, ds1, p1, q1, rfl, rfl, rfl, h1, r1⟩ := trodAll_cons r0
  obtain ⟨v2, vs2, d2, ds2, p2, q2, rfl, rfl, rfl, h2, r2⟩ := trodAll_cons r1
  obtain ⟨rfl, rfl, rfl⟩ := trodAll_nil r2
  obtain rfl : args = #[v0, v1, v2] := by cases args; simp_all
  obtain ⟨rfl, rfl⟩ := trodVars_none hV
  obtain ⟨a0, len0, cap0, rfl⟩ := okWide_slice Tryd.underlying22 (hval 0 22 v0 rfl rfl)
  have k0 := h0
  have lt0 : ∀ x ∈ p0, x.block < W.heap.size := by obtain ⟨m, hm⟩ := k0; exact DataW.trod_lt m _ _ _ hm
  obtain ⟨l0, w0⟩ : ∃ l, IsRowF W 12 lc Li.ok a0 len0 cap0 l := by
    obtain ⟨fuel, hf⟩ := h0
    exact open_flat Tryd.underlying22 (by kernel_rfl) rdr_li (fun _ => rfl) lc_one (by simpa [Value.cells] using hf)
  obtain ⟨a1, rfl, rfl, rfl, w1⟩ := open_int Tryd.underlying3 (hval 1 3 v1 rfl rfl) h1
  obtain ⟨a2, rfl, rfl, rfl, w2⟩ := open_int Tryd.underlying3 (hval 2 3 v2 rfl rfl) h2
  clear hA0 hval0
  rw [MakeChecks.laidMetH_plain _ _ _ (by kernel_rfl)] at hL
  have htab : Tabs W :=
    utf8Tabs_of_readsT (U8Types.of196 Tryd.laysValid) ⟨by kernel_rfl, by kernel_rfl, by kernel_rfl, by kernel_rfl, by kernel_rfl, by kernel_rfl, by kernel_rfl⟩ (Pinned.utf8First_eq ▸ Lib.laidMet.reads hL (.tail _ (.head _))) (Lib.laidMet.reads hL (.head _))
  refine (walk a0 len0 cap0 l0 a1 a2 W w0 htab).mono fun e W' ⟨he, bel⟩ => ?_
  subst he
  exact ⟨_, rfl, _, _, _, [], _, [], hW', trodAll_mk1 (shut_bool Tryd.underlying4 _), (trodAll_cons_mk (Below.trod laidOut (by kernel_rfl) (of_decide_eq_true (by kernel_rfl)) k0 bel lt0) (trodAll_cons_mk (shut_int Tryd.underlying3 w1) (trodAll_cons_mk (shut_int Tryd.underlying3 w2) trodAll_mk0))), rfl, bel.frame _, fun h => by cases h⟩

theorem over : Rows.HitCaretSaid :=
  OpenClaim.holds_of_wide 3 Tryd.f3 rfl rfl rfl rfl rfl rfl rfl ⟨rfl, rfl, rfl, rfl, rfl⟩ rfl rfl rfl rfl rfl (by kernel_rfl) Tryd.func3 (by kernel_rfl)
    (of_decide_eq_true (by kernel_rfl)) (by unfold Func.isWrapper; first | (rw [if_pos (by decide +kernel)]; kernel_rfl) | (rw [if_neg (by decide +kernel)]; exact ⟨rfl, rfl⟩))
    (fun os started H enc _ => lifted os started H enc)

/-- the card -/
theorem proved : Rows.HitCaretCardSaid :=
  Claim7.holds_tied_plain_at .later [] [.data, .pinned] true (true, "22b2f9eec2db692040ddbd34b0d0d522766178bb4a6f8307367a563a5b54c36b") false
    over (fun _ h => by cases h) (by kernel_rfl) (fun _ h => by cases h) hitCaret_row_tie rfl ⟨rfl, rfl⟩ (by kernel_rfl) rfl
    (fun f fn hf hfn => by
      obtain rfl : f = 3 := Option.some.inj ((show Tryd.prog.funcNamed "knapsack/knapsacklaw24.HitCaret" = some 3 by kernel_rfl).symm.trans hf) |>.symm
      obtain rfl : fn = Tryd.f3 := (Option.some.inj (Tryd.func3.symm.trans hfn)).symm
      exact ⟨by kernel_rfl, fun j t ht => by
        rw [Tryd.params3] at ht
        have hm : t ∈ [22, 3, 3] := by simpa using Array.mem_of_getElem? ht
        have hall : ([22, 3, 3].all fun u => !Tryd.prog.wantsStandIn u) = true := by kernel_rfl
        exact (show Tryd.prog.wantsStandIn t = false by simpa using List.all_eq_true.1 hall t hm)⟩)
    (by kernel_rfl)
#print axioms proved
end Go.Proofs.YtfjjgebfeklnhaaDoor.hitCaret
