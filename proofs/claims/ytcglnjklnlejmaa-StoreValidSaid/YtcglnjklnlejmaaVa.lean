/-
  StoreValid: stores of any form, and sizes that may wrap.
-/
import Derived.Test.YtcglnjklnlejmaaSy
set_option linter.unusedVariables false
set_option linter.unusedSimpArgs false
namespace Go.Proofs.Ytcglnjklnlejmaa
open Go.RowKit Go.K Go.K.Sr

/-- the size as the program counts it -/
def wz (l : List Pr) : Int := IntKind.i64.wrap (sizeP l)
theorem wz_succ {l : List Pr} {k : Nat} (hk : k < l.length) (x : Pr) (hx : l[k] = x) : wz (l.take (k + 1)) = IntKind.i64.wrap (wz (l.take k) + IntKind.i64.wrap ((x.k.size : Int) + (x.v.size : Int))) := by
  unfold wz
  have e : sizeP (l.take (k + 1)) = sizeP (l.take k) + (x.k.size + x.v.size) := sizeP_take l k hk x hx
  rw [e]
  simp only [IntKind.wrap_i64]
  omega
theorem wz_small {l : List Pr} (h : sizeP l ≤ 1048576) : wz l = sizeP l := by
  unfold wz
  rw [IntKind.wrap_i64]
  omega
def WzRel (l : List Pr) (w : World) (g : Nat) (v3 v4 : Value) (wr : World) : Prop := ∃ (k : Nat) (z : Int), g = l.length - k ∧ k ≤ l.length ∧ wz (l.take k) = z ∧ v4 = .int .i64 k ∧ v3 = .int .i64 z ∧ Below w.heap.size w wr

structure Gt where
  t : Tx
  s : Option Addr
  c : Nat
  l : List Ch
def gy (x : Gt) : Tx × Value := (x.t, .slice x.s x.l.length x.c)
/-- a value that reads as a store of any form -/
structure Gv (w : World) (v : Value) (P : List Pr) (T : List Gt) (nx : Int) (sp : Option Addr) (cp : Nat) (st : Option Addr) (ct : Nat) : Prop where
  eq : v = .agg #[.slice sp P.length cp, .slice st T.length ct, .int .i64 nx]
  ps : Rd w 2 sp P.length (flat pcells P)
  pc : Rc w 2 sp P.length cp (flat pcells P)
  ts : Rd w 4 st T.length (flat ycells (T.map gy))
  cs : ∀ x ∈ T, Rd w 3 x.s x.l.length (flat ccells x.l)
theorem Gv.below {w w' : World} {v : Value} {P : List Pr} {T : List Gt} {nx : Int} {sp st : Option Addr} {cp ct : Nat} (h : Gv w v P T nx sp cp st ct) (hb : Below w.heap.size w w') : Gv w' v P T nx sp cp st ct :=
  ⟨h.eq, h.ps.below hb, h.pc.below hb, h.ts.below hb, fun x hx => (h.cs x hx).below hb⟩
def stepT (a : Option (Nat × Int)) (x : Gt) : Option (Nat × Int) :=
  match a with
  | none => none
  | some (i, last) => if x.t.id ≤ last ∨ (x.l ≠ [] ∧ (0 < i ∨ x.t.wr = false)) then none else some (i + 1, x.t.id)
def foldT (T : List Gt) : Option (Nat × Int) := T.foldl stepT (some (0, 0))
theorem foldT_none (T : List Gt) : T.foldl stepT none = none := by
  induction T with
  | nil => rfl
  | cons x T ih => rw [List.foldl_cons]; exact ih
theorem foldT_succ {T : List Gt} {k : Nat} (hk : k < T.length) (x : Gt) (hx : T[k] = x) : foldT (T.take (k + 1)) = stepT (foldT (T.take k)) x := by
  unfold foldT
  rw [List.take_succ_eq_append_getElem hk, hx, List.foldl_append]
  rfl
theorem foldT_bad {T : List Gt} {k : Nat} (h : foldT (T.take k) = none) : foldT T = none := by
  have e : T = T.take k ++ T.drop k := (List.take_append_drop k T).symm
  unfold foldT at h ⊢
  rw [e, List.foldl_append, h]
  exact foldT_none _
def okC (l : List Ch) : Prop := Asc Ch.k l ∧ ∀ c ∈ l, c.r = true → c.v = .empty
def VS (P : List Pr) (T : List Gt) (nx : Int) : Prop :=
  Asc Pr.k P ∧ ∃ last, foldT T = some (T.length, last) ∧ last ≤ nx ∧ 0 ≤ nx ∧ wz P ≤ 1048576 ∧ (∀ x r, T = x :: r → okC x.l ∧ wz (content P x.l) ≤ 1048576)
theorem foldT_len {T : List Gt} {i : Nat} {last : Int} (h : foldT T = some (i, last)) : i = T.length := by
  have key : ∀ (T : List Gt) (a : Nat) (z : Int), T.foldl stepT (some (a, z)) = some (i, last) → i = a + T.length := by
    intro T
    induction T with
    | nil => intro a z h; simp at h; simp [h.1]
    | cons x T ih =>
      intro a z h
      rw [List.foldl_cons] at h
      by_cases hc : x.t.id ≤ z ∨ (x.l ≠ [] ∧ (0 < a ∨ x.t.wr = false))
      · have e : stepT (some (a, z)) x = none := by simp only [stepT]; rw [if_pos hc]
        rw [e, foldT_none] at h
        cases h
      · have e : stepT (some (a, z)) x = some (a + 1, x.t.id) := by simp only [stepT]; rw [if_neg hc]
        rw [e] at h
        have := ih _ _ h
        simp
        omega
  have := key T 0 0 h
  omega
theorem asc_adj {α : Type} {key : α → ByteArray} : ∀ {l : List α}, (∀ i (h : i + 1 < l.length), klt (key l[i]) (key l[i + 1]) = true) → Asc key l
  | [], _ => List.Pairwise.nil
  | [a], _ => List.pairwise_singleton _ _
  | a :: b :: l, h => by
    have h1 : Asc key (b :: l) := asc_adj (fun i hi => by have := h (i + 1) (by simp at hi ⊢; omega); simpa using this)
    have h0 : klt (key a) (key b) = true := by have := h 0 (by simp); simpa using this
    refine List.pairwise_cons.2 ⟨fun x hx => ?_, h1⟩
    rcases List.mem_cons.1 hx with rfl | hx
    · exact h0
    · exact klt_trans h0 ((List.pairwise_cons.1 h1).1 x hx)
theorem asc_no {α : Type} {key : α → ByteArray} {l : List α} {i : Nat} (hi : i + 1 < l.length) (h : klt (key l[i]) (key l[i + 1]) = false) : ¬ Asc key l := by
  intro ha
  have := List.pairwise_iff_getElem.1 ha i (i + 1) (by omega) hi (by omega)
  rw [h] at this
  cases this

set_option maxRecDepth 100000 in
set_option maxHeartbeats 1000000 in
theorem size_w (s : Option Addr) (c : Nat) (l : List Pr) (w : World) (h : Rd w 2 s l.length (flat pcells l)) (hn : l.length ≤ 1000000) :
    Calls Try.prog 37 #[.slice s l.length c] w fun e w' => e = .returned (.int .i64 (wz l)) ∧ Below w.heap.size w w' := by
  have HR := Lib.hid h
  clear h
  go_enter Try.func37, Try.ntmps37
  go_wp2_with fail
  go_loopg [3, 8] l.length (WzRel l w)
  case atStart => exact ⟨0, 0, rfl, Nat.zero_le _, rfl, rfl, rfl, Below.refl _ _⟩
  case round =>
    obtain ⟨k, z, hg, hk, hz, rfl, rfl, hb⟩ := hrel
    have Hg := Lib.hid hg
    have HB := Lib.hid hb
    have HZ := Lib.hid hz
    clear hg hb hz
    by_cases hkn : k < l.length
    · have hkI : (k : Int) < (l.length : Int) := by omega
      have hk0 : (0 : Int) ≤ (k : Int) := by omega
      have r1 := HR.out.below HB.out
      obtain ⟨g1, o1, rfl, -⟩ := r1.addr (by omega)
      obtain ⟨x, hx⟩ : ∃ x, l[k] = x := ⟨_, rfl⟩
      obtain ⟨x0, x1⟩ := p_at r1 hkn x hx
      have HSU := Lib.hid (wz_succ hkn x hx)
      clear r1 hx
      go_wp2_with fail
      go_roundg (l.length - (k + 1))
      case measure => have := Hg.out; omega
      case rel => exact ⟨k + 1, _, rfl, by omega, by rw [HSU.out, HZ.out]; simp only [wrap64, IntKind.wrap_i64], by simp, rfl, HB.out.trans ((Below.refl _ _).alloc HB.out.size _)⟩
    · obtain rfl : k = l.length := by omega
      have hz := HZ.out
      rw [List.take_length] at hz
      subst hz
      go_wp2_with fail
      go_ret
      exact ⟨rfl, HB.out⟩

set_option maxRecDepth 100000 in
set_option maxHeartbeats 1000000 in
theorem size_wr (s : Option Addr) (c : Nat) (l : List Pr) (w : World) (h : Rd w 2 s l.length (flat pcells l)) (hn : l.length ≤ 1000000) :
    Calls Try.prog 41 #[.slice s l.length c] w fun e w' => e = .returned (.int .i64 (wz l)) ∧ Below w.heap.size w w' := by
  have HR := Lib.hid h
  clear h
  go_enter Try.func41, Try.ntmps41
  go_wp2_with fail
  go_loopg [3, 4] l.length (WzRel l w)
  case atStart => exact ⟨0, 0, rfl, Nat.zero_le _, rfl, rfl, rfl, Below.refl _ _⟩
  case round =>
    obtain ⟨k, z, hg, hk, hz, rfl, rfl, hb⟩ := hrel
    have Hg := Lib.hid hg
    have HB := Lib.hid hb
    have HZ := Lib.hid hz
    clear hg hb hz
    by_cases hkn : k < l.length
    · have hkI : (k : Int) < (l.length : Int) := by omega
      have hk0 : (0 : Int) ≤ (k : Int) := by omega
      have r1 := HR.out.below HB.out
      obtain ⟨g1, o1, rfl, -⟩ := r1.addr (by omega)
      obtain ⟨x, hx⟩ : ∃ x, l[k] = x := ⟨_, rfl⟩
      obtain ⟨x0, x1⟩ := p_at r1 hkn x hx
      have HSU := Lib.hid (wz_succ hkn x hx)
      clear r1 hx
      go_wp2_with go_quiet (fail)
      go_roundg (l.length - (k + 1))
      case measure => have := Hg.out; omega
      case rel => exact ⟨k + 1, _, rfl, by omega, by rw [HSU.out, HZ.out]; simp only [wrap64, IntKind.wrap_i64], by simp, rfl, ⟨HB.out.os, HB.out.tape, HB.out.output, HB.out.size, HB.out.block⟩⟩
    · obtain rfl : k = l.length := by omega
      have hz := HZ.out
      rw [List.take_length] at hz
      subst hz
      go_wp2_with fail
      go_ret
      exact ⟨rfl, HB.out⟩

end Go.Proofs.Ytcglnjklnlejmaa
