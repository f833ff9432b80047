/-
  into, Moved, Clone, alike; the plain law of revealing.
-/
import Derived.Test.YtfjjgebfeklnhaaIt
import Derived.Test.YtfjjgebfeklnhaaIv
set_option linter.unusedVariables false
set_option linter.unusedSimpArgs false
namespace Go.Proofs.Ytfjjgebfeklnhaa
open Go.RowKit Go.K

def intoT (o f s w : Int) : Int := if f < o then f else if wr (o + w) < wr (f + s) then min f (wr (wr (f + s) - w)) else o
def movedT (o a b w : Int) : Int := if a < o then a else if wr (o + w) < b then min a (wr (b - w)) else o
set_option maxRecDepth 100000 in
theorem into_c (o f s d : Int) (w : World) : Calls Try.prog 39 #[.int .i64 o, .int .i64 f, .int .i64 s, .int .i64 d] w fun e w' => e = .returned (.int .i64 (intoT o f s d)) ∧ Below w.heap.size w w' := by
  obtain ⟨R, hR⟩ : ∃ R, intoT o f s d = R := ⟨_, rfl⟩
  rw [hR]
  have m1 : ∀ a b : Int, (if b < a then b else a) = min a b := fun a b => by split <;> omega
  unfold intoT at hR
  by_cases h1 : f < o
  · rw [if_pos h1] at hR
    have HR := Lib.hid hR
    clear hR
    go_enter Try.func39, Try.ntmps39
    go_wp2_with fail
    go_ret
    exact ⟨by rw [← HR.out]; rfl, Below.refl _ _⟩
  · rw [if_neg h1] at hR
    by_cases h2 : wrap64 (o + d) < wrap64 (f + s)
    · have h2' : wr (o + d) < wr (f + s) := by rwa [wr64, wr64] at h2
      rw [if_pos h2'] at hR
      have HR := Lib.hid hR
      clear hR h2'
      go_enter Try.func39, Try.ntmps39
      go_wp2_with fail
      go_ret
      exact ⟨by rw [← HR.out]; simp only [wr64]; rfl, Below.refl _ _⟩
    · have h2' : ¬ wr (o + d) < wr (f + s) := by rwa [wr64, wr64] at h2
      rw [if_neg h2'] at hR
      have HR := Lib.hid hR
      clear hR h2'
      go_enter Try.func39, Try.ntmps39
      go_wp2_with fail
      go_ret
      exact ⟨by rw [← HR.out]; rfl, Below.refl _ _⟩
set_option maxRecDepth 100000 in
theorem moved_c (o f s d : Int) (w : World) : Calls Try.prog 25 #[.int .i64 o, .int .i64 f, .int .i64 s, .int .i64 d] w fun e w' => e = .returned (.int .i64 (movedT o f s d)) ∧ Below w.heap.size w w' := by
  obtain ⟨R, hR⟩ : ∃ R, movedT o f s d = R := ⟨_, rfl⟩
  rw [hR]
  have m1 : ∀ a b : Int, (if b < a then b else a) = min a b := fun a b => by split <;> omega
  unfold movedT at hR
  by_cases h1 : f < o
  · rw [if_pos h1] at hR
    have HR := Lib.hid hR
    clear hR
    go_enter Try.func25, Try.ntmps25
    go_wp2_with fail
    go_ret
    exact ⟨by rw [← HR.out]; rfl, Below.refl _ _⟩
  · rw [if_neg h1] at hR
    by_cases h2 : wrap64 (o + d) < s
    · have h2' : wr (o + d) < s := by rwa [wr64] at h2
      rw [if_pos h2'] at hR
      have HR := Lib.hid hR
      clear hR h2'
      go_enter Try.func25, Try.ntmps25
      go_wp2_with fail
      go_ret
      exact ⟨by rw [← HR.out]; simp only [wr64]; rfl, Below.refl _ _⟩
    · have h2' : ¬ wr (o + d) < s := by rwa [wr64] at h2
      rw [if_neg h2'] at hR
      have HR := Lib.hid hR
      clear hR h2'
      go_enter Try.func25, Try.ntmps25
      go_wp2_with fail
      go_ret
      exact ⟨by rw [← HR.out]; rfl, Below.refl _ _⟩
theorem nil_eq (c : Nat) (w : World) : (binOp BinOp.eql 66 (.slice none 0 c) (.slice none 0 0)).run Try.prog w = .ok (.bool true) w := by
  first
    | kernel_rfl
    | simp [binOp, go_sem]
theorem nil_ne (ad : Addr) (n c : Nat) (w : World) : (binOp BinOp.eql 66 (.slice (some ad) n c) (.slice none 0 0)).run Try.prog w = .ok (.bool false) w := by
  first
    | kernel_rfl
    | simp [binOp, go_sem]
set_option maxRecDepth 100000 in
theorem clone_any (s : Option Addr) (c n : Nat) (l : List Sc) (w : World) (h : Rd w 3 s n (flat scc l)) (hl : l.length = n) (hn : n ≤ 100000) :
    Calls Try.prog 38 #[.slice s n c] w fun e w' => ∃ s' c', e = .returned (.slice s' n c') ∧ K.Own w w' 61 3 s' n c' (flat scc l) := by
  have HR := Lib.hid h
  clear h
  cases s with
  | none =>
    have h0 : n = 0 := HR.out.nil rfl
    subst h0
    obtain rfl : l = [] := List.length_eq_zero_iff.1 hl
    have e0 := nil_eq c
    go_enter Try.func38, Try.ntmps38
    go_wp2_with fail
    go_ret
    exact ⟨none, 0, rfl, K.Own.nil (Below.refl _ _) _ _⟩
  | some ad =>
    have HN := Lib.hid (K.Own.fresh (Below.refl _ w) 61 3)
    have e0 := nil_ne ad n c
    go_enter Try.func38, Try.ntmps38
    go_wp2_with (refine wpList_append_any rfl (.tmp 5) (.tmp 6) 66 rfl el61 _ 0 0 [] (by rfl) HN.out.sl (some ad) n c _ (by rfl) (HR.out.below HN.out.bel) (by omega) (by decide) ?_; intro s7 c7 W7 p1 p2 p3; have H7 := Lib.hid (HN.out.app p1 p2 p3); clear p1 p2 p3; rw [Nat.zero_add, List.nil_append] at H7; rw [Nat.zero_add])
    go_ret
    exact ⟨s7, c7, rfl, H7.out⟩
def AkRel (w : World) (n : Nat) (g : Nat) (v13 : Value) (wr' : World) : Prop := ∃ k : Nat, g = n - k ∧ k ≤ n ∧ v13 = .int .i64 k ∧ Below w.heap.size w wr'
set_option maxRecDepth 100000 in
theorem alike_any (s1 s2 : Option Addr) (c1 c2 n : Nat) (l : List Sc) (w : World) (h1 : Rd w 3 s1 n (flat scc l)) (h2 : Rd w 3 s2 n (flat scc l)) (hl : l.length = n) (hn : n ≤ 100000) :
    Calls Try.prog 26 #[.slice s1 n c1, .slice s2 n c2] w fun e w' => e = .returned (.bool true) ∧ Below w.heap.size w w' := by
  have H1 := Lib.hid h1
  have H2 := Lib.hid h2
  have HL := Lib.hid hl
  clear h1 h2 hl
  have hnI : (n : Int) ≤ 100000 := by omega
  go_enter Try.func26, Try.ntmps26
  go_wp2_with fail
  go_loopg [13] n (AkRel w n)
  case atStart => exact ⟨0, rfl, Nat.zero_le _, rfl, Below.refl _ _⟩
  case round =>
    obtain ⟨k, hg, hk, rfl, hb⟩ := hrel
    have Hg := Lib.hid hg
    have HB := Lib.hid hb
    clear hg hb
    by_cases hkn : k < n
    · have hkI : (k : Int) < (n : Int) := by omega
      have hkI0 : (0 : Int) ≤ (k : Int) := by omega
      have hra := H1.out.below HB.out
      have hrb := H2.out.below HB.out
      obtain ⟨ga, offa, rfl, -⟩ := hra.addr (by omega)
      obtain ⟨gb, offb, rfl, -⟩ := hrb.addr (by omega)
      have hkl : k < l.length := by rw [HL.out]; exact hkn
      obtain ⟨x, hx⟩ : ∃ x, l[k] = x := ⟨_, rfl⟩
      obtain ⟨d0, d1, d2⟩ := sc_at hra hkl x hx
      obtain ⟨f0, f1, f2⟩ := sc_at hrb hkl x hx
      clear hra hrb hx hkl
      go_upto_region 6 with fail
      go_quiet (fail)
      go_wp2_with fail
      go_roundg (n - (k + 1))
      case measure => have := Hg.out; omega
      case rel => exact ⟨k + 1, rfl, hkn, by simp, ⟨HB.out.os, HB.out.tape, HB.out.output, HB.out.size, HB.out.block⟩⟩
    · have hkI : ¬ (k : Int) < (n : Int) := by omega
      go_wp2_with fail
      go_ret
      exact ⟨rfl, HB.out⟩

/-! plain -/
theorem cut_idem (R o f s w : Int) (hR : 0 ≤ R) :
    min (max (if f < min (max (if f < o then f else if o + w < f + s then min f (f + s - w) else o) 0) R then f else if min (max (if f < o then f else if o + w < f + s then min f (f + s - w) else o) 0) R + w < f + s then min f (f + s - w) else min (max (if f < o then f else if o + w < f + s then min f (f + s - w) else o) 0) R) 0) R
      = min (max (if f < o then f else if o + w < f + s then min f (f + s - w) else o) 0) R := by
  omega
theorem scFold_none (c : Sc) (kb : Bool) : ∀ (l : List Sc) (st : List Sc × Bool), (∀ x ∈ l, x.n ≠ c.n) → l.foldl (scStep c) st = (st.1 ++ l, st.2)
  | [], st, _ => by simp
  | x :: l, st, h => by
    rw [List.foldl_cons, scFold_none c kb l _ (fun y hy => h y (by simp [hy])), scStep, if_neg (h x (by simp))]
    simp
end Go.Proofs.Ytfjjgebfeklnhaa
