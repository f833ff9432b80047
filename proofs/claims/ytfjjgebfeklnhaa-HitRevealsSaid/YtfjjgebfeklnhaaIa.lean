/-
  Shapes: the tree, how it lies in memory, Deep, Count, Few.
-/
import Derived.Test.YtfjjgebfeklnhaaHh
import Derived.Deep.MidRow
set_option linter.unusedVariables false
set_option linter.unusedSimpArgs false
namespace Go.Proofs.Ytfjjgebfeklnhaa
open Go.RowKit Go.K

structure Sd where
  x : Int
  y : Int
  w : Int
  h : Int
  kd : Int
  bd : Int
  s : Option Addr
  c : Nat
inductive Sh where
  | mk (a : Sd) (ks : List Sh) : Sh
def Sh.a : Sh → Sd
  | .mk a _ => a
def Sh.ks : Sh → List Sh
  | .mk _ ks => ks
def Sd.ok (a : Sd) : Prop := (-128 ≤ a.x ∧ a.x ≤ 127) ∧ (-128 ≤ a.y ∧ a.y ≤ 127) ∧ (0 ≤ a.w ∧ a.w ≤ 255) ∧ (0 ≤ a.h ∧ a.h ≤ 255) ∧ (0 ≤ a.kd ∧ a.kd ≤ 255) ∧ (0 ≤ a.bd ∧ a.bd ≤ 255)
def shv (a : Sd) (n : Nat) : List Value := [.int .i8 a.x, .int .i8 a.y, .int .u8 a.w, .int .u8 a.h, .int .u8 a.kd, .int .u8 a.bd, .slice a.s n a.c]
def shc (t : Sh) : List Value := shv t.a t.ks.length
theorem shc_len (t : Sh) : (shc t).length = 7 := rfl
inductive ShAt (w : World) : Sh → Prop
  | mk (a : Sd) (ks : List Sh) : a.ok → (ks.length : Int) ≤ 9223372036854775807 → Rd w 7 a.s ks.length (flat shc ks) → (∀ k ∈ ks, ShAt w k) → ShAt w (.mk a ks)
theorem ShAt.stay {w w' : World} {t : Sh} (h : ShAt w t) (hb : Below w.heap.size w w') : ShAt w' t := by
  induction h with
  | mk a ks h1 h2 h3 h4 ih => exact .mk a ks h1 h2 (h3.below hb) ih
theorem s_at {w : World} {g off n : Nat} {ls : List Sh} (hs : Rd w 7 (some ⟨g, off, none⟩) n (flat shc ls)) {k : Nat} (hk : k < ls.length) (a : Sd) (ks : List Sh) (hx : ls[k] = .mk a ks) :
    w.cell? ⟨g, off + k * 7, none⟩ = some (.int .i8 a.x) ∧ w.cell? ⟨g, off + k * 7 + 1, none⟩ = some (.int .i8 a.y) ∧ w.cell? ⟨g, off + k * 7 + 2, none⟩ = some (.int .u8 a.w) ∧ w.cell? ⟨g, off + k * 7 + 3, none⟩ = some (.int .u8 a.h) ∧ w.cell? ⟨g, off + k * 7 + 4, none⟩ = some (.int .u8 a.kd) ∧ w.cell? ⟨g, off + k * 7 + 5, none⟩ = some (.int .u8 a.bd) ∧ w.cell? ⟨g, off + k * 7 + 6, none⟩ = some (.slice a.s ks.length a.c) := by
  have e := fun j hj => flat_at (f := shc) (sz := 7) (fun _ => rfl) ls k j hk hj
  rw [hx] at e
  have c := fun j u h => hs.cells _ rfl j u h
  simp only [Addr.add_lit] at c
  have q := fun j hj => c _ _ ((e j hj).trans (List.getElem?_eq_getElem (by show j < 7; exact hj)))
  simp only [← Nat.add_assoc] at q
  exact ⟨by have := q 0 (by omega); rwa [Nat.add_zero] at this, q 1 (by omega), q 2 (by omega), q 3 (by omega), q 4 (by omega), q 5 (by omega), q 6 (by omega)⟩

/-! the numbers -/
def deepB : Nat → Sh → Bool
  | 0, t => decide (t.ks ≠ [])
  | n + 1, t => t.ks.any (deepB n)
mutual
def Sh.cnt (n : Nat) : Sh → Nat
  | .mk _ ks => cntL n 1 ks
def cntL (n : Nat) : Nat → List Sh → Nat
  | s, [] => s
  | s, k :: ks => if n < s then s else cntL n (s + k.cnt n) ks
end
mutual
def Sh.sz : Sh → Nat
  | .mk _ ks => 1 + szL ks
def szL : List Sh → Nat
  | [] => 0
  | k :: ks => k.sz + szL ks
end
theorem cntL_stop {n s : Nat} (h : n < s) (ks : List Sh) : cntL n s ks = s := by
  cases ks with
  | nil => rw [cntL]
  | cons k ks => rw [cntL, if_pos h]
theorem cntL_go {n s : Nat} (h : ¬ n < s) (k : Sh) (ks : List Sh) : cntL n s (k :: ks) = cntL n (s + k.cnt n) ks := by rw [cntL, if_neg h]
theorem cntL_bd (n B : Nat) : ∀ (ks : List Sh) (s : Nat), (∀ k ∈ ks, k.cnt n ≤ B) → s ≤ n + B → cntL n s ks ≤ n + B
  | [], s, _, hs => by rw [cntL]; exact hs
  | k :: ks, s, h, hs => by
    by_cases hn : n < s
    · rw [cntL_stop hn]; exact hs
    · rw [cntL_go hn]
      exact cntL_bd n B ks _ (fun x hx => h x (by simp [hx])) (by have := h k (by simp); omega)
theorem deep_kid {d : Nat} {a : Sd} {ks : List Sh} (h : deepB (d + 1) (.mk a ks) = false) : ∀ k ∈ ks, deepB d k = false := by
  intro k hk
  have h1 : ks.any (deepB d) = false := h
  rw [List.any_eq_false] at h1
  simpa using h1 k hk
theorem deep_zero {a : Sd} {ks : List Sh} (h : deepB 0 (.mk a ks) = false) : ks = [] := by
  have : decide (ks ≠ []) = false := h
  simpa using this
theorem cnt_bd (n : Nat) (hn : 1 ≤ n) : ∀ (d : Nat) (t : Sh), deepB d t = false → t.cnt n ≤ n * (d + 1)
  | 0, .mk a ks, h => by
    rw [deep_zero h, Sh.cnt, cntL]
    omega
  | d + 1, .mk a ks, h => by
    rw [Sh.cnt]
    have := cntL_bd n (n * (d + 1)) ks 1 (fun k hk => cnt_bd n hn d k (deep_kid h k hk)) (by omega)
    rw [Nat.mul_add n (d + 1) 1]
    omega
theorem cntL_ge (n : Nat) : ∀ (ks : List Sh) (s : Nat), s ≤ cntL n s ks
  | [], s => by rw [cntL]; exact Nat.le_refl _
  | k :: ks, s => by
    by_cases hn : n < s
    · rw [cntL_stop hn]; exact Nat.le_refl _
    · rw [cntL_go hn]
      have := cntL_ge n ks (s + k.cnt n)
      omega
mutual
theorem cnt_sz (n : Nat) : ∀ t : Sh, t.cnt n ≤ n → t.cnt n = t.sz
  | .mk a ks, h => by
    rw [Sh.cnt] at h ⊢
    rw [Sh.sz]
    exact cntL_sz n ks 1 h
theorem cntL_sz (n : Nat) : ∀ (ks : List Sh) (s : Nat), cntL n s ks ≤ n → cntL n s ks = s + szL ks
  | [], s, h => by rw [cntL, szL]; rfl
  | k :: ks, s, h => by
    have h0 := cntL_ge n (k :: ks) s
    have hn : ¬ n < s := by omega
    rw [cntL_go hn] at h ⊢
    have h1 := cntL_ge n ks (s + k.cnt n)
    rw [cntL_sz n ks _ h, szL, cnt_sz n k (by omega)]
    omega
end

def DpRel (p : Sh → Bool) (ks : List Sh) (w : World) (g : Nat) (v : Value) (wr : World) : Prop :=
  ∃ k : Nat, g = ks.length - k ∧ k ≤ ks.length ∧ v = .int .i64 k ∧ Below w.heap.size w wr ∧ (∀ x ∈ ks.take k, p x = false)
theorem any_yes {p : Sh → Bool} {ks : List Sh} {k : Nat} (hk : k < ks.length) (h : p ks[k] = true) : ks.any p = true := List.any_eq_true.2 ⟨_, List.getElem_mem hk, h⟩
theorem any_no {p : Sh → Bool} {ks : List Sh} (h : ∀ x ∈ ks, p x = false) : ks.any p = false := List.any_eq_false.2 (fun x hx => by simp [h x hx])
theorem take_snoc {p : Sh → Bool} {ks : List Sh} {k : Nat} (hk : k < ks.length) (h : ∀ x ∈ ks.take k, p x = false) (h1 : p ks[k] = false) : ∀ x ∈ ks.take (k + 1), p x = false := by
  intro x hx
  rw [List.take_succ_eq_append_getElem hk] at hx
  rcases List.mem_append.1 hx with q | q
  · exact h x q
  · rw [List.mem_singleton.1 q]; exact h1
set_option maxHeartbeats 1000000 in
theorem deep_c : ∀ (d : Nat) (v : Int) (t : Sh) (w : World), ShAt w t → v = (d : Int) → d ≤ 1000 →
    Calls Try.prog 32 #[.agg (shc t).toArray, .int .i64 v] w fun e w' => e = .returned (.bool (deepB d t)) ∧ Below w.heap.size w w'
  | 0, v, .mk a ks, w, h, hv, hd => by
    have hv0 : v = 0 := hv
    clear hv
    subst hv0
    cases h with
    | mk _ _ ho hl hr hk =>
    show Calls Try.prog 32 #[.agg #[.int .i8 a.x, .int .i8 a.y, .int .u8 a.w, .int .u8 a.h, .int .u8 a.kd, .int .u8 a.bd, .slice a.s ks.length a.c], .int .i64 0] w _
    obtain ⟨r, hr0⟩ : ∃ r, deepB 0 (Sh.mk a ks) = r := ⟨_, rfl⟩
    rw [hr0]
    go_enter Try.func32, Try.ntmps32
    go_upto_region 1 with fail
    obtain ⟨W, hW⟩ : ∃ W, w.alloc (.cells #[.int .i8 a.x, .int .i8 a.y, .int .u8 a.w, .int .u8 a.h, .int .u8 a.kd, .int .u8 a.bd, .slice a.s ks.length a.c] 39) = W := ⟨_, rfl⟩
    obtain ⟨b2, hb2⟩ : ∃ b, w.heap.size = b := ⟨_, rfl⟩
    have HW := Lib.hid (show Below w.heap.size w W by rw [← hW]; exact (Below.refl _ w).alloc (Nat.le_refl _) _)
    have KA := Blk.new w #[.int .i8 a.x, .int .i8 a.y, .int .u8 a.w, .int .u8 a.h, .int .u8 a.kd, .int .u8 a.bd, .slice a.s ks.length a.c] 39
    rw [hW, hb2] at KA
    have z6 := KA.cell 6
    simp only [List.getElem?_toArray, List.getElem?_cons_succ, List.getElem?_cons_zero] at z6
    try simp only [hW, hb2]
    clear hW hb2 KA
    have HR0 := Lib.hid hr0
    clear hr0
    go_wp2_with fail
    go_loopg [9] ks.length (DpRel (fun _ => true) ks W)
    case atStart => exact ⟨0, rfl, Nat.zero_le _, rfl, Below.refl _ _, by simp⟩
    case round =>
      obtain ⟨k, hg, hk2, rfl, hb, hno⟩ := hrel
      have HB := Lib.hid (HW.out.trans (hb.mono HW.out.size))
      have HN := Lib.hid hno
      clear hb hno hg
      by_cases hkn : k < ks.length
      · have hkI : (k : Int) < (ks.length : Int) := by omega
        go_wp2_with fail
        go_ret
        refine ⟨?_, HB.out⟩
        rw [← HR0.out]
        have : ks ≠ [] := by rintro rfl; simp at hkn
        simp [deepB, Sh.ks, this]
      · have hkI : ¬ (k : Int) < (ks.length : Int) := by omega
        go_wp2_with fail
        go_ret
        refine ⟨?_, HB.out⟩
        rw [← HR0.out]
        have : ks = [] := by
          cases ks with
          | nil => rfl
          | cons x r =>
            have hk3 : (x :: r).length ≤ k := by omega
            have := HN.out x (by rw [List.take_of_length_le hk3]; simp)
            cases this
        simp [deepB, Sh.ks, this]
  | d + 1, v, .mk a ks, w, h, hv, hd => by
    have hv0 : ¬ v = 0 := by omega
    have hv1 : (v == 0) = false := by simpa using hv0
    have hvw : IntKind.i64.wrap (v - 1) = v - 1 := by rw [IntKind.wrap_i64]; omega
    cases h with
    | mk _ _ ho hl hr hk =>
    show Calls Try.prog 32 #[.agg #[.int .i8 a.x, .int .i8 a.y, .int .u8 a.w, .int .u8 a.h, .int .u8 a.kd, .int .u8 a.bd, .slice a.s ks.length a.c], .int .i64 v] w _
    obtain ⟨r, hr0⟩ : ∃ r, deepB (d + 1) (Sh.mk a ks) = r := ⟨_, rfl⟩
    rw [hr0]
    have HK := Lib.hid hk
    have HRD := Lib.hid hr
    have HV := Lib.hid hv
    clear hk hr hv
    go_enter Try.func32, Try.ntmps32
    go_upto_region 1 with fail
    obtain ⟨W, hW⟩ : ∃ W, w.alloc (.cells #[.int .i8 a.x, .int .i8 a.y, .int .u8 a.w, .int .u8 a.h, .int .u8 a.kd, .int .u8 a.bd, .slice a.s ks.length a.c] 39) = W := ⟨_, rfl⟩
    obtain ⟨b2, hb2⟩ : ∃ b, w.heap.size = b := ⟨_, rfl⟩
    have HW := Lib.hid (show Below w.heap.size w W by rw [← hW]; exact (Below.refl _ w).alloc (Nat.le_refl _) _)
    have KA := Blk.new w #[.int .i8 a.x, .int .i8 a.y, .int .u8 a.w, .int .u8 a.h, .int .u8 a.kd, .int .u8 a.bd, .slice a.s ks.length a.c] 39
    rw [hW, hb2] at KA
    have HKA := Lib.hid KA
    have z6 := KA.cell 6
    simp only [List.getElem?_toArray, List.getElem?_cons_succ, List.getElem?_cons_zero] at z6
    try simp only [hW, hb2]
    clear hW hb2 KA
    have HR0 := Lib.hid hr0
    clear hr0
    go_wp2_with fail
    clear z6
    go_loopg [9] ks.length (DpRel (deepB d) ks W)
    case atStart => exact ⟨0, rfl, Nat.zero_le _, rfl, Below.refl _ _, by simp⟩
    case round =>
      obtain ⟨k, hg, hk2, rfl, hb, hno⟩ := hrel
      have HB := Lib.hid (HW.out.trans (hb.mono HW.out.size))
      have HN := Lib.hid hno
      have Hg := Lib.hid hg
      have HBW := Lib.hid hb
      have z6 := (HKA.out.kept (Fr.of_below hb) (fun q => q)).cell 6
      simp only [List.getElem?_toArray, List.getElem?_cons_succ, List.getElem?_cons_zero] at z6
      clear hb hno hg
      by_cases hkn : k < ks.length
      · have hkI : (k : Int) < (ks.length : Int) := by omega
        have hkI0 : (0 : Int) ≤ (k : Int) := by omega
        have hrd := HRD.out.below HB.out
        obtain ⟨g, off, hsa, -⟩ := hrd.addr (by omega)
        rw [hsa] at hrd z6
        obtain ⟨b, l, hx⟩ : ∃ b l, ks[k] = Sh.mk b l := by cases ks[k] with | mk b l => exact ⟨b, l, rfl⟩
        obtain ⟨d0, d1, d2, d3, d4, d5, d6⟩ := s_at hrd hkn b l hx
        have hat := (HK.out _ (List.getElem_mem hkn)).stay HB.out
        rw [hx] at hat
        have IH := Lib.hid (deep_c d (v - 1) (.mk b l) wr hat (by have := HV.out; omega) (by omega))
        have HX := Lib.hid hx
        have HSA := Lib.hid hsa
        clear hrd hsa hx hat
        obtain ⟨u, hu⟩ : ∃ u, deepB d (.mk b l) = u := ⟨_, rfl⟩
        rw [hu] at IH
        have HU := Lib.hid hu
        clear hu
        cases u with
        | false =>
          go_wp2_with (go_at_call 32; refine (IH.out).mono ?_; rintro e w3 ⟨rfl, hb3⟩; have HB3 := Lib.hid (HBW.out.trans (hb3.mono HBW.out.size)); clear hb3)
          try rw [← HSA.out]
          go_roundg (ks.length - (k + 1))
          case measure => have := Hg.out; omega
          case rel => exact ⟨k + 1, rfl, by omega, by simp, HB3.out, take_snoc hkn HN.out (by rw [HX.out]; exact HU.out)⟩
        | true =>
          go_wp2_with (go_at_call 32; refine (IH.out).mono ?_; rintro e w3 ⟨rfl, hb3⟩; have HB3 := Lib.hid (HB.out.trans (hb3.mono HB.out.size)); clear hb3)
          go_ret
          refine ⟨?_, HB3.out⟩
          rw [← HR0.out]
          have : ks.any (deepB d) = true := any_yes hkn (by rw [HX.out]; exact HU.out)
          simp [deepB, Sh.ks, this]
      · have hkI : ¬ (k : Int) < (ks.length : Int) := by omega
        go_wp2_with fail
        go_ret
        refine ⟨?_, HB.out⟩
        rw [← HR0.out]
        have hke : k = ks.length := by omega
        have : ks.any (deepB d) = false := any_no (by have := HN.out; rwa [hke, List.take_length] at this)
        simp [deepB, Sh.ks, this]
end Go.Proofs.Ytfjjgebfeklnhaa
