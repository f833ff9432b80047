/-
  Contracts of the queue of integers over objects that lie apart: Push, Pop, Peek, Len, Clone, Take.
-/
import Derived.Test.YtkddkbjgnndflaaQe
import Derived.Test.YtkddkbjgnndflaaKs
set_option linter.unusedVariables false
namespace Go.Proofs.Ytkddkbjgnndflaa
open Go.RowKit Go.K

/-- a queue at block b -/
def qObj (b T e sz n : Nat) (xs : List Value) : As := As.ex fun p : Option Addr × Nat => As.star (As.cells b #[.slice p.1 n p.2] T) (As.row e sz p.1 n p.2 xs)

theorem q_open {w0 w : World} {L : List As} {b T e sz n : Nat} {xs : List Value} (h : St w0 w (qObj b T e sz n xs :: L)) :
    ∃ s c, St w0 w (As.cells b #[.slice s n c] T :: As.row e sz s n c xs :: L) := by
  obtain ⟨⟨s, c⟩, h⟩ := h.open_ex
  exact ⟨s, c, h.open_star⟩
theorem q_shut {w0 w : World} {L : List As} {b T e sz n : Nat} {xs : List Value} {s : Option Addr} {c : Nat} (h : St w0 w (As.cells b #[.slice s n c] T :: As.row e sz s n c xs :: L)) : St w0 w (qObj b T e sz n xs :: L) :=
  St.shut_ex (f := fun p : Option Addr × Nat => As.star (As.cells b #[.slice p.1 n p.2] T) (As.row e sz p.1 n p.2 xs)) (s, c) h.shut_star
theorem q_start {w0 w : World} {L : List As} (h : St w0 w L) (T e sz : Nat) : St w0 (w.alloc (.cells #[.slice none 0 0] T)) (qObj w.heap.size T e sz 0 [] :: L) :=
  q_shut (((h.new #[.slice none 0 0] T).row_nil e sz).swap)

/-- a queue as the older contracts have it, and back -/
theorem q_qu {w0 w : World} {L : List As} {b T e sz n : Nat} {xs : List Value} (h : St w0 w (qObj b T e sz n xs :: L)) :
    ∃ r, Qu w b T e sz r n xs ∧ ∀ (w' : World) (r' : Option Nat) (n' : Nat) (xs' : List Value), Qu w' b T e sz r' n' xs' → Fr (fun k => k = b ∨ r = some k) w w' → (∀ k, r' = some k → r = some k ∨ w.heap.size ≤ k) → St w0 w' (qObj b T e sz n' xs' :: L) := by
  obtain ⟨F, ⟨⟨s, c⟩, F1, F2, ⟨h1, h1'⟩, ⟨h2, h2'⟩, h3, h4⟩, _, hk⟩ := h.head
  refine ⟨rowOf s, ⟨s, c, rfl, h1', h2', fun q => h4 b ((h1 b).2 rfl) ((h2 b).2 q)⟩, fun w' r' n' xs' hq f hn => ?_⟩
  obtain ⟨s', c', rfl, q1, q2, q3⟩ := hq
  refine hk w' (fun k => k = b ∨ rowOf s' = some k) _ ⟨⟨s', c'⟩, fun k => k = b, fun k => rowOf s' = some k, ⟨fun _ => Iff.rfl, q1⟩, ⟨fun _ => Iff.rfl, q2⟩, fun _ => Iff.rfl, fun k e e' => q3 (e ▸ e')⟩ ⟨f.mono (fun k _ q => ?_), fun k q => ?_⟩
  · rw [h3, h1, h2]; exact q
  · rcases q with q | q
    · left; rw [h3, h1]; exact .inl q
    · rcases hn k q with e | e
      · left; rw [h3, h2]; exact .inr e
      · exact .inr e

theorem NewOr.all {w : World} {r r' : Option Nat} (h : NewOr w r r') : ∀ k, r' = some k → r = some k ∨ w.heap.size ≤ k := by
  intro k hk
  rcases h with e | ⟨g, e, e2⟩
  · exact .inl (e ▸ hk)
  · rw [e] at hk; cases hk; exact .inr e2

def RetSt (v : Value) (w0 : World) (L : List As) (E : Ending) (w' : World) : Prop := E = .returned v ∧ St w0 w' L

theorem push_st {w0 w : World} {L : List As} {b n : Nat} {xs : List Value} (x : Int) (h : St w0 w (qObj b 26 3 1 n xs :: L)) (hn : n ≤ 4294967296) :
    Calls Try.prog 12 #[.pointer (some ⟨b, 0, none⟩), .int .i64 x] w (RetSt (.tuple #[]) w0 (qObj b 26 3 1 (n + 1) (xs ++ [.int .i64 x]) :: L)) := by
  obtain ⟨r, h1, h2⟩ := q_qu h
  exact (push_any b r n xs x w h1 hn).mono fun e w' ⟨he, r', q1, q2, q3⟩ => ⟨he, h2 _ _ _ _ q1 q2 (NewOr.all q3)⟩

theorem pop_st {w0 w : World} {L : List As} {b n : Nat} {xs : List Value} (x : Int) (h : St w0 w (qObj b 26 3 1 (n + 1) (.int .i64 x :: xs) :: L)) (hn : n ≤ 4294967296) :
    Calls Try.prog 14 #[.pointer (some ⟨b, 0, none⟩)] w (RetSt (.tuple #[.int .i64 x, .bool true]) w0 (qObj b 26 3 1 n xs :: L)) := by
  obtain ⟨r, h1, h2⟩ := q_qu h
  refine (pop_some b r n xs x w h1 hn).mono fun e w' ⟨he, r', q1, q2, q3⟩ => ⟨he, h2 _ _ _ _ q1 (q2.mono (fun _ _ q => .inl q)) ?_⟩
  intro k hk
  rcases NewOr.all q3 k hk with e | e
  · cases e
  · exact .inr e

theorem pop0_st {w0 w : World} {L : List As} {b : Nat} {xs : List Value} (h : St w0 w (qObj b 26 3 1 0 xs :: L)) :
    Calls Try.prog 14 #[.pointer (some ⟨b, 0, none⟩)] w (RetSt (.tuple #[.int .i64 0, .bool false]) w0 (qObj b 26 3 1 0 xs :: L)) := by
  obtain ⟨r, h1, h2⟩ := q_qu h
  exact (pop_none b r xs w h1).mono fun e w' ⟨he, hw⟩ => ⟨he, hw ▸ h⟩

theorem len_st {w0 w : World} {L : List As} {b n : Nat} {xs : List Value} (h : St w0 w (qObj b 26 3 1 n xs :: L)) :
    Calls Try.prog 15 #[.pointer (some ⟨b, 0, none⟩)] w fun e w' => e = .returned (.int .i64 n) ∧ w = w' := by
  obtain ⟨s, c, h⟩ := q_open h
  have hc := h.cell 0
  simp at hc
  exact len_at b s n c w hc

def CloneSt (n : Nat) (xs : List Value) (w0 : World) (L : List As) (E : Ending) (w' : World) : Prop := ∃ s c, E = .returned (.agg #[.slice s n c]) ∧ St w0 w' (As.row 3 1 s n c xs :: L)

theorem clone_st {w0 w : World} {L : List As} {s : Option Addr} {n c : Nat} {xs : List Value} (hs : Sl w 3 1 s n c xs) (h : St w0 w L) (hn : n ≤ 4294967296) :
    Calls Try.prog 36 #[.slice s n c] w fun e w' => ∃ s' c', e = .returned (.slice s' n c') ∧ St w0 w' (As.row 3 1 s' n c' xs :: L) :=
  (clone_any s n c xs w hs hn).mono fun e w' ⟨s', c', he, q1, q2, q3⟩ => ⟨s', c', he, h.row_new q1 q2 q3⟩

set_option maxHeartbeats 400000 in
theorem qclone_st {w0 w : World} {L : List As} {b n : Nat} {xs : List Value} (h : St w0 w (qObj b 26 3 1 n xs :: L)) (hn : n ≤ 4294967296) :
    Calls Try.prog 21 #[.pointer (some ⟨b, 0, none⟩)] w (CloneSt n xs w0 (qObj b 26 3 1 n xs :: L)) := by
  have H := Lib.hid h
  obtain ⟨s, c, h⟩ := q_open h
  have hc := h.cell 0
  simp at hc
  have hlt := h.blk.1.lt
  have hs := Lib.hid ((h.swap.sl).alloc (.cells #[.slice none 0 0] 26))
  clear h
  go_enter Try.func21, Try.ntmps21
  go_wp2_with fail
  refine (clone_st hs.out (H.out.new _ 26) hn).mono ?_
  rintro e w1 ⟨s', c', rfl, h1⟩
  have h2 := h1.swap
  have hc1 := h2.cell 0
  have hf1 := h2.free 0
  simp at hc1
  have H2 := Lib.hid h2
  clear h1 h2 hc
  go_wp2_with fail
  have hc2 := (H2.out.set 0 (.slice s' n c')).cell 0
  simp at hc2
  refine bodyPost_ret (v := .agg #[.slice s' n c']) (by simp [results, Try.results21, go_sem, hc2]) rfl ⟨s', c', rfl, ?_⟩
  exact (H2.out.set 0 (.slice s' n c')).drop

def TakeSt (k : Nat) (xs ys : List Value) (b n : Nat) (w0 : World) (L : List As) (E : Ending) (w' : World) : Prop := ∃ s c, E = .returned (.slice s k c) ∧ St w0 w' (As.row 3 1 s k c xs :: qObj b 26 3 1 n ys :: L)

theorem take_end {w0 w2 : World} {L : List As} {b n k c1 c2 : Nat} {s1 s2 : Option Addr} {xs : List Value} {j : Nat} (_hj : n - k = j)
    (h2 : St w0 w2 (As.row 3 1 s2 j c2 (xs.drop k) :: As.row 3 1 s1 k c1 (xs.take k) :: qObj b 26 3 1 n xs :: L)) :
    ∃ s c, w2.cell? ⟨b, 0, none⟩ = some (.slice s n c) ∧ w2.frozen? ⟨b, 0, none⟩ = false ∧ St w0 (w2.setCell ⟨b, 0, none⟩ (.slice s2 j c2)) (As.row 3 1 s1 k c1 (xs.take k) :: qObj b 26 3 1 j (xs.drop k) :: L) := by
  obtain ⟨s, c, h3⟩ := q_open h2.front2
  refine ⟨s, c, by have := h3.cell 0; simpa using this, h3.free 0, ?_⟩
  have h4 := (h3.set 0 (.slice s2 j c2)).swap.drop
  exact (q_shut h4).swap

set_option maxHeartbeats 1000000 in
theorem take_st {w0 w : World} {L : List As} {b n : Nat} {xs : List Value} (m : Int) (k : Nat) (hk : min (max m 0) (n : Int) = k) (h : St w0 w (qObj b 26 3 1 n xs :: L)) (hn : n ≤ 4294967296) :
    Calls Try.prog 22 #[.pointer (some ⟨b, 0, none⟩), .int .i64 m] w (TakeSt k (xs.take k) (xs.drop k) b (n - k) w0 L) := by
  have H := Lib.hid h
  obtain ⟨s, c, h⟩ := q_open h
  have hc := h.cell 0
  simp at hc
  have hkn : k ≤ n := by omega
  have hs := h.swap.sl
  have hcn := hs.le
  obtain ⟨s1, hrun1, hs1, hr1⟩ := hs.cut_h el24 k hkn
  obtain ⟨s2, hrun2, hs2, hr2⟩ := hs.cut_l el24 k hkn
  rw [Nat.mul_one] at hs1 hs2
  have HS1 := Lib.hid hs1
  have HS2 := Lib.hid hs2
  clear hs hs1 hs2 hr1 hr2 h
  obtain ⟨j, hj⟩ : ∃ j, n - k = j := ⟨_, rfl⟩
  obtain ⟨cj, hcj⟩ : ∃ cj, c - k = cj := ⟨_, rfl⟩
  have hjn : j ≤ n := by omega
  rw [hj, hcj] at hrun2 HS2
  rw [hj]
  have HJ := Lib.hid hj
  clear hj hcj
  rcases Int.lt_or_le m 0 with hm | hm
  case' inl =>
    obtain rfl : k = 0 := by omega
    clear hk
    simp at hrun1 hrun2
  case' inr =>
    rcases Int.lt_or_le n m with hm2 | hm2
    case' inl =>
      obtain rfl : k = n := by omega
      clear hk
    case' inr =>
      obtain rfl : m = (k : Int) := by omega
      clear hk
  all_goals
    go_enter Try.func22, Try.ntmps22
    go_wp2_with fail
    refine (clone_any _ _ _ _ _ HS1.out (by omega)).mono ?_
    rintro e w1 ⟨s3, c3, rfl, q1, q2, q3⟩
    have h1 := H.out.row_new q1 q2 q3
    have hc1 := q2.cell hc (fun e => e)
    have HS3 := Lib.hid (HS2.out.kept q2 (fun _ _ e => e))
    have H1 := Lib.hid h1
    clear h1 q1 q2 q3 hc
    go_wp2_with fail
    refine (clone_st HS3.out H1.out (by omega)).mono ?_
    rintro e w2 ⟨s4, c4, rfl, h2⟩
    obtain ⟨s5, c5, hc2, hf2, h3⟩ := take_end HJ.out h2
    have H3 := Lib.hid h3
    clear h2 h3 hc1
    go_wp2_with fail
    go_ret
    exact ⟨s3, c3, rfl, H3.out⟩
end Go.Proofs.Ytkddkbjgnndflaa
