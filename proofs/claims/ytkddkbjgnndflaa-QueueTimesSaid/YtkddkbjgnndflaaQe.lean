/-
  The walk of QueuePlays for at most 300 operations.
-/
import Derived.Test.YtkddkbjgnndflaaQd
import Derived.Test.YtkddkbjgnndflaaKf
import Derived.Deep.DeepCutAuto
import Derived.Deep.LoopGhost
import Derived.Outline
import Derived.Deep.QuietTactic
set_option linter.unusedVariables false
namespace Go.Proofs.Ytkddkbjgnndflaa
open Go.RowKit Go.K

theorem Qu.kept {S : Nat → Prop} {w w' : World} {b T e sz : Nat} {r : Option Nat} {n : Nat} {xs : List Value} (h : Qu w b T e sz r n xs) (hf : Fr S w w') (hb : ¬ S b) (hr : ∀ k, r = some k → ¬ S k) : Qu w' b T e sz r n xs := by
  obtain ⟨s, c, rfl, h1, h2, h3⟩ := h
  exact ⟨s, c, rfl, h1.kept hf hb, h2.kept hf hr, h3⟩
theorem Qu.lt {w : World} {b T e sz : Nat} {r : Option Nat} {n : Nat} {xs : List Value} (h : Qu w b T e sz r n xs) : b < w.heap.size := by
  obtain ⟨s, c, rfl, h1, h2, h3⟩ := h
  exact h1.lt
theorem Qu.rlt {w : World} {b T e sz : Nat} {r : Option Nat} {n : Nat} {xs : List Value} (h : Qu w b T e sz r n xs) : ∀ k, r = some k → k < w.heap.size := by
  obtain ⟨s, c, rfl, h1, h2, h3⟩ := h
  exact h2.lt

theorem bel_fr {S : Nat → Prop} {B : Nat} {w0 w w' : World} (h : Below B w0 w) (f : Fr S w w') (hB : B ≤ w0.heap.size) (hS : ∀ k, S k → B ≤ k) : Below B w0 w' :=
  ⟨f.os.trans h.os, f.tape.trans h.tape, f.output.trans h.output, Nat.le_trans h.size f.size, fun k hk => (f.block k (by have := h.size; omega) (fun e => by have := hS k e; omega)).trans (h.block k hk)⟩

/-- a queue at b (row r) and a slice s that read alike, both in memory from w0 on -/
structure PW (w0 wr : World) (b : Nat) (r : Option Nat) (s : Option Addr) (n c : Nat) (xs : List Value) : Prop where
  q : Qu wr b 26 3 1 r n xs
  hs : Sl wr 3 1 s n c xs
  ds : ∀ k, rowOf s = some k → k ≠ b ∧ r ≠ some k ∧ w0.heap.size ≤ k
  dr : ∀ k, r = some k → w0.heap.size ≤ k
  db : w0.heap.size ≤ b
  bel : Below w0.heap.size w0 wr

def ints (l : List Int) : List Value := l.map (Value.int .i64)

theorem PW.push {w0 wr w1 w2 : World} {b : Nat} {r r' : Option Nat} {s s' : Option Addr} {n c c' : Nat} {xs ys : List Value} (h : PW w0 wr b r s n c xs)
    (hq : Qu w1 b 26 3 1 r' (n + 1) ys) (f1 : Fr (fun k => k = b ∨ r = some k) wr w1) (n1 : NewOr wr r r')
    (hs : Sl w2 3 1 s' (n + 1) c' ys) (f2 : Fr (fun k => rowOf s = some k) w1 w2) (n2 : NewOr w1 (rowOf s) (rowOf s')) : PW w0 w2 b r' s' (n + 1) c' ys := by
  have hlt := h.q.lt
  have hsz := f1.size
  have hw := h.bel.size
  have hds : ∀ k, rowOf s = some k → r' ≠ some k := fun k hk e => by
    have h1 := (h.ds k hk).2.1
    have h2 := h.hs.lt k hk
    rcases n1 with q | ⟨g, q, q2⟩
    · exact h1 (q ▸ e)
    · rw [q] at e; cases e; omega
  refine ⟨hq.kept f2 (fun e => (h.ds b e).1 rfl) (fun k hk e => hds k e hk), hs, fun k hk => ?_, fun k hk => ?_, h.db, ?_⟩
  · rcases n2 with q | ⟨g, q, q2⟩
    · rw [q] at hk
      exact ⟨(h.ds k hk).1, hds k hk, (h.ds k hk).2.2⟩
    · rw [q] at hk; cases hk
      refine ⟨by omega, fun e => ?_, by omega⟩
      have := hq.rlt _ e
      omega
  · rcases n1 with q | ⟨g, q, q2⟩
    · exact h.dr k (q ▸ hk)
    · rw [q] at hk; cases hk; omega
  · refine bel_fr (bel_fr h.bel f1 (Nat.le_refl _) ?_) f2 (Nat.le_refl _) (fun k hk => (h.ds k hk).2.2)
    rintro k (rfl | hk)
    · exact h.db
    · exact h.dr k hk

theorem PW.pop {w0 wr w1 : World} {b : Nat} {r r' : Option Nat} {s s' : Option Addr} {n c c' : Nat} {xs ys : List Value} (h : PW w0 wr b r s (n + 1) c xs)
    (hq : Qu w1 b 26 3 1 r' n ys) (f1 : Fr (fun k => k = b) wr w1) (n1 : NewOr wr none r')
    (hs : Sl wr 3 1 s' n c' ys) (hrow : rowOf s' = rowOf s) : PW w0 w1 b r' s' n c' ys := by
  have hw := h.bel.size
  refine ⟨hq, hs.kept f1 (fun k hk e => (h.ds k (hrow ▸ hk)).1 e), fun k hk => ?_, fun k hk => ?_, h.db, bel_fr h.bel f1 (Nat.le_refl _) (by rintro k rfl; exact h.db)⟩
  · rw [hrow] at hk
    refine ⟨(h.ds k hk).1, fun e => ?_, (h.ds k hk).2.2⟩
    have := h.hs.lt k hk
    rcases n1 with q | ⟨g, q, q2⟩
    · rw [q] at e; cases e
    · rw [q] at e; cases e; omega
  · rcases n1 with q | ⟨g, q, q2⟩
    · rw [q] at hk; cases hk
    · rw [q] at hk; cases hk; omega

theorem Qu.drewN {w : World} {b T e sz : Nat} {r : Option Nat} {n : Nat} {xs : List Value} (h : Qu w b T e sz r n xs) (d : Nat) : Qu (w.drewN d) b T e sz r n xs := by
  obtain ⟨s, c, rfl, h1, h2, h3⟩ := h
  exact ⟨s, c, rfl, h1.drewN d, h2.drewN d, h3⟩
theorem bel_drewN {B : Nat} {w0 w : World} (h : Below B w0 w) (d : Nat) : Below B w0 (w.drewN d) := ⟨h.os, h.tape, h.output, h.size, h.block⟩
theorem PW.drewN {w0 wr : World} {b : Nat} {r : Option Nat} {s : Option Addr} {n c : Nat} {xs : List Value} (h : PW w0 wr b r s n c xs) (d : Nat) : PW w0 (wr.drewN d) b r s n c xs :=
  ⟨h.q.drewN d, h.hs.drewN d, h.ds, h.dr, h.db, bel_drewN h.bel d⟩

def PlRel (w0 : World) (b len g : Nat) (v4 v21 : Value) (wr : World) : Prop :=
  ∃ (k : Nat) (r : Option Nat) (s : Option Addr) (n c : Nat) (xs : List Int), g = len - k ∧ v21 = .int .i64 k ∧ k ≤ len ∧ n ≤ k ∧ v4 = .slice s n c ∧ PW w0 wr b r s n c (ints xs)
def PlMid (w0 : World) (b k : Nat) (v4 : Value) (wr : World) : Prop :=
  ∃ (r : Option Nat) (s : Option Addr) (n c : Nat) (xs : List Int), n ≤ k + 1 ∧ v4 = .slice s n c ∧ PW w0 wr b r s n c (ints xs)

theorem PW.start (w0 w1 : World) (h : Below w0.heap.size w0 w1) : PW w0 (w1.alloc (.cells #[.slice none 0 0] 26)) w1.heap.size none none 0 0 (ints []) :=
  ⟨⟨none, 0, rfl, Blk.new _ _ _, Sl.nil _ _ _, by simp⟩, Sl.nil _ _ _, by simp [rowOf], by simp, h.size, h.alloc h.size _⟩

set_option maxRecDepth 100000 in
set_option maxHeartbeats 1000000 in
theorem plays_go (s0 : Option Addr) (len cap : Nat) (zs : List Int) (w : World) (hl : len ≤ 300) (hr : Rd w 1 s0 len (zs.map (Value.int .i16))) (hz : ∀ z ∈ zs, -32768 ≤ z ∧ z ≤ 32767) :
    Calls Try.prog 3 #[.slice s0 len cap] w fun e w' => e = .returned (.bool true) ∧ Below w.heap.size w w' := by
  have hr' := Lib.hid hr
  have hz' := Lib.hid hz
  clear hr hz
  have hd : decide ((300 : Int) < (len : Int)) = false := by simp; omega
  go_enter Try.func3, Try.ntmps3
  go_wp2_with (go_at_call 11; refine (awake_any _).mono ?_; rintro e w1 ⟨rfl, hb1⟩)
  go_loopg [4, 21] len (PlRel w w1.heap.size len)
  case atStart => exact ⟨0, none, none, 0, 0, [], rfl, rfl, Nat.zero_le _, Nat.zero_le _, rfl, PW.start w w1 hb1⟩
  case round =>
    obtain ⟨k, r, s, n, c, xs, hg, rfl, hk, hn, rfl, hp⟩ := hrel
    have Hg := Lib.hid hg
    have Hp := Lib.hid hp
    clear hg hp hb1
    by_cases hlt : k < len
    · obtain ⟨gl, ol, rfl, hcell⟩ := hr'.out.addr (by omega)
      have hkz : k < zs.length := by have := hr'.out.len; simp at this; omega
      have hcz := hcell k (.int .i16 zs[k]) (by simp [hkz])
      have hzk := hz'.out zs[k] (List.getElem_mem _)
      have hcz2 : wr.cell? ⟨gl, ol + k, none⟩ = some (.int .i16 zs[k]) := (Hp.out.bel.cell (World.block_lt_of_cell? _ _ hcz)).trans hcz
      obtain ⟨hz1, hz2⟩ := hzk
      clear hcell
      have hgl : gl < w.heap.size := World.block_lt_of_cell? _ _ hcz
      clear hcz
      generalize zs[k] = z at *
      have hlt' : (k : Int) < (len : Int) := by omega
      go_upto_if 29 with fail
      go_cut [4] (PlMid w w1.heap.size k)
      case first =>
        by_cases hpar : (z.tmod 2 == 0) = true
        · have hq := Hp.out.q
          go_wp2_with (go_at_call 12; refine (push_any _ _ _ _ _ _ hq (by omega)).mono ?_)
          rintro e w2 ⟨rfl, r', hq', f1, n1⟩
          have hs2 := Hp.out.hs.kept f1 (fun k hk e => (Hp.out.ds k hk).elim (fun a b => e.elim a b.1))
          have hcz3 : w2.cell? ⟨gl, ol + k, none⟩ = some (.int .i16 z) := f1.cell hcz2 (by
            rintro (e | e)
            · have := Hp.out.db; simp only at e; omega
            · have h1 : w.heap.size ≤ gl := Hp.out.dr _ e
              omega)
          clear hcz2 hq
          go_wp2_with (at_builtin; refine wpList_append_one w2 rfl _ _ 24 rfl el24 s n c _ rfl hs2 1 _ rfl rfl (by simp [Value.oneCell']) (by omega) (by omega) ?_)
          intro s' c' w3 g1 g2 g3
          go_wp2_with fail
          go_meet
          exact ⟨r', s', n + 1, c', xs ++ [z], by omega, rfl, by simpa [ints] using Hp.out.push hq' f1 n1 g1 g2 g3⟩
        · have hpar' : (z.tmod 2 == 0) = false := by simpa using hpar
          clear hpar
          cases xs with
          | nil =>
            obtain rfl : n = 0 := by have := Hp.out.hs.len; simpa [ints] using this.symm
            have hq := Hp.out.q
            obtain ⟨s2, c2, e1, e2, e3, e4⟩ := hq
            have hc := e2.cell 0
            simp at hc
            have hq := Hp.out.q
            clear e1 e2 e3 e4
            go_wp2_with (first | (go_at_call 13; refine (peek_none _ _ _ _ hc).mono ?_; rintro e w' ⟨rfl, rfl⟩) | (go_at_call 14; refine (pop_none _ _ _ _ hq).mono ?_; rintro e w' ⟨rfl, rfl⟩))
            go_meet
            exact ⟨r, s, 0, c, [], by omega, rfl, Hp.out⟩
          | cons x xs =>
            obtain ⟨m, rfl⟩ : ∃ m, n = m + 1 := ⟨n - 1, by have := Hp.out.hs.len; simp [ints] at this; omega⟩
            have hq := Hp.out.q
            obtain ⟨s2, c2, e1, e2, e3, e4⟩ := hq
            have hc := e2.cell 0
            simp at hc
            obtain ⟨g2, o2, rfl, hcell2, _, _⟩ := e3.some_of (Nat.lt_of_lt_of_le (by omega) e3.le)
            have hx2 := hcell2 0 (by omega)
            simp [ints] at hx2
            have hs := Hp.out.hs
            obtain ⟨s', hsl, hs', hrow⟩ := hs.cut_l el24 1 (by omega)
            obtain ⟨g3, o3, rfl, hcell3, _, _⟩ := hs.some_of (Nat.lt_of_lt_of_le (by omega) hs.le)
            have hx3 := hcell3 0 (by omega)
            simp [ints] at hx3 hsl hs'
            have hq := Hp.out.q
            have Hrow := Lib.hid hrow
            have hpos : (0 : Int) < (m : Int) + 1 := by omega
            clear e1 e2 e3 e4 hcell2 hcell3 hs hrow
            go_wp2_with (first | (go_at_call 13; refine (peek_some _ _ _ _ _ _ _ hc hx2).mono ?_; rintro e w' ⟨rfl, rfl⟩) | (go_at_call 14; refine (pop_some _ _ _ _ _ _ hq (by omega)).mono ?_))
            rintro e w2 ⟨rfl, r', hq', f1, n1⟩
            have hx4 : w2.cell? ⟨g3, o3, none⟩ = some (.int .i64 x) := f1.cell hx3 (fun e => (Hp.out.ds g3 rfl).1 e)
            clear hc hx2 hx3 hq
            go_wp2_with fail
            go_meet
            exact ⟨r', s', m, c - 1, xs, by omega, rfl, Hp.out.pop hq' f1 n1 hs' Hrow.out⟩
      case rest =>
        obtain ⟨r, s, n, c, xs, hn, rfl, hp⟩ := hcut
        have Hp := Lib.hid hp
        clear hp
        obtain ⟨s2, c2, e1, e2, e3, e4⟩ := Hp.out.q
        have hc := e2.cell 0
        simp at hc
        have E3 := Lib.hid e3
        clear e1 e2 e3 e4 hcz2
        go_wp2_with (go_at_call 15; refine (len_at _ _ _ _ _ hc).mono ?_; rintro e w' ⟨rfl, rfl⟩)
        go_loopg [102] n (fun g v wx => ∃ j d : Nat, g = n - j ∧ j ≤ n ∧ v = .int .i64 j ∧ wx = wc.drewN d)
        case atStart => exact ⟨0, 0, rfl, Nat.zero_le _, rfl, rfl⟩
        case round =>
          obtain ⟨j, d, hg2, hj, rfl, rfl⟩ := hrel
          have Hg2 := Lib.hid hg2
          clear hg2
          by_cases hjn : j < n
          · obtain ⟨g2, o2, rfl, hcell2, _, _⟩ := E3.out.some_of (Nat.lt_of_lt_of_le (by omega) E3.out.le)
            obtain ⟨g3, o3, rfl, hcell3, _, _⟩ := Hp.out.hs.some_of (Nat.lt_of_lt_of_le (by omega) Hp.out.hs.le)
            have hx2 := hcell2 j (by omega)
            have hx3 := hcell3 j (by omega)
            have hjx : j < xs.length := by have := E3.out.len; simp [ints] at this; omega
            simp [ints, hjx] at hx2 hx3
            generalize xs[j] = x at *
            clear hcell2 hcell3
            have hjn' : (j : Int) < (n : Int) := by omega
            go_wp2_with fail
            go_quiet (fail)
            go_wp2_with fail
            go_roundg (n - (j + 1))
            case measure => have := Hg2.out; omega
            case rel => exact ⟨j + 1, _, rfl, by omega, by simp, rfl⟩
          · go_wp2_with fail
            go_roundg (len - (k + 1))
            case measure => have := Hg.out; omega
            case rel => exact ⟨k + 1, r, s, n, c, xs, rfl, by simp, by omega, by omega, rfl, Hp.out.drewN d⟩
    · go_wp2
      go_ret
      exact ⟨rfl, Hp.out.bel⟩
end Go.Proofs.Ytkddkbjgnndflaa
