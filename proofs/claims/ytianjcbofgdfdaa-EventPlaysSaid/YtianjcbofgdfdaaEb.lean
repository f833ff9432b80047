/-
  Contracts of slices.IndexFunc at listeners and of the closures that are handed to it.
-/
import Derived.Test.YtianjcbofgdfdaaEa
import Derived.Test.YtianjcbofgdfdaaEp
import Derived.Test.YtianjcbofgdfdaaKf
set_option linter.unusedVariables false
set_option linter.unusedSimpArgs false
namespace Go.Proofs.Ytianjcbofgdfdaa
open Go.RowKit Go.K Go.K.Ev

def lcells (x : Li) : List Value := [.int .i64 x.id, .int .i64 x.tg.kind, .int .i64 x.tg.id, .string x.ty, .int .i64 x.cb, .bool x.cap, .bool x.once, .bool x.pas]
def lval (x : Li) : Value := .agg #[.int .i64 x.id, .int .i64 x.tg.kind, .int .i64 x.tg.id, .string x.ty, .int .i64 x.cb, .bool x.cap, .bool x.once, .bool x.pas]
def lrow (x : Li) : Array Value := #[.int .i64 x.id, .int .i64 x.tg.kind, .int .i64 x.tg.id, .string x.ty, .int .i64 x.cb, .bool x.cap, .bool x.once, .bool x.pas]

theorem lcells_one (x : Li) : ∀ u ∈ lcells x, u.oneCell' = true := by
  intro u hu
  simp [lcells] at hu
  rcases hu with rfl | rfl | rfl | rfl | rfl | rfl | rfl | rfl <;> rfl

set_option maxHeartbeats 1000000 in
theorem clo_eq (x y : Li) (b : Nat) (w : World) (hb : Blk w b (lrow x) 41) :
    Calls Try.prog 50 #[lval y, .pointer (some ⟨b, 0, none⟩)] w fun e w' => e = .returned (.bool (eqL x y)) ∧ Below w.heap.size w w' := by
  obtain ⟨x0, ⟨x1, x2⟩, x3, x4, x5, x6, x7⟩ := x
  obtain ⟨y0, ⟨y1, y2⟩, y3, y4, y5, y6, y7⟩ := y
  unfold lrow at hb
  have hlt := hb.lt
  have h1 := hb.cell 1
  have h2 := hb.cell 2
  have h3 := hb.cell 3
  have h4 := hb.cell 4
  have h5 := hb.cell 5
  simp at h1 h2 h3 h4 h5
  clear hb
  unfold lval eqL Tg.same
  go_enter Try.func50, Try.ntmps50
  go_wp2_with fail
  all_goals
    go_ret
    exact ⟨by congr 2; simp [*], (Below.refl _ _).alloc (Nat.le_refl _) _⟩

set_option maxHeartbeats 1000000 in
theorem clo_id (y : Li) (id : Int) (b : Nat) (w : World) (hb : w.cell? ⟨b, 0, none⟩ = some (.int .i64 id)) :
    Calls Try.prog 41 #[lval y, .pointer (some ⟨b, 0, none⟩)] w fun e w' => e = .returned (.bool (y.id == id)) ∧ Below w.heap.size w w' := by
  obtain ⟨y0, ⟨y1, y2⟩, y3, y4, y5, y6, y7⟩ := y
  have hlt := World.block_lt_of_cell? _ _ hb
  simp only at hlt
  unfold lval
  go_enter Try.func41, Try.ntmps41
  go_wp2_with fail
  go_ret
  exact ⟨rfl, (Below.refl _ _).alloc (Nat.le_refl _) _⟩

set_option maxHeartbeats 1000000 in
theorem clo_tg (y : Li) (t : Tg) (b : Nat) (w : World) (hb : Blk w b #[.int .i64 t.kind, .int .i64 t.id] 39) :
    Calls Try.prog 48 #[lval y, .pointer (some ⟨b, 0, none⟩)] w fun e w' => e = .returned (.bool (Tg.same y.tg t)) ∧ Below w.heap.size w w' := by
  obtain ⟨y0, ⟨y1, y2⟩, y3, y4, y5, y6, y7⟩ := y
  obtain ⟨t1, t2⟩ := t
  have hlt := hb.lt
  obtain ⟨c0, c1, -, -⟩ := hb.two
  clear hb
  unfold lval Tg.same
  go_enter Try.func48, Try.ntmps48
  go_wp2_with fail
  all_goals
    go_ret
    exact ⟨by first | rfl | (congr 2; simp [*]), (Below.refl _ _).alloc (Nat.le_refl _) _⟩

theorem lc_at (ls : List Li) (k : Nat) (hk : k < ls.length) (j : Nat) (hj : j < 8) : (flat lcells ls)[k * 8 + j]? = (lcells ls[k])[j]? := flat_at (f := lcells) (sz := 8) (fun _ => rfl) ls k j hk hj

/-- the place of the first one where p holds -/
def IdxIs (p : Li → Bool) (ls : List Li) (r : Int) : Prop :=
  (∃ (k : Nat) (hk : k < ls.length), r = k ∧ ls.findIdx? p = some k ∧ p ls[k] = true) ∨ (r = -1 ∧ ls.findIdx? p = none)
def IdxPost (p : Li → Bool) (ls : List Li) (w : World) (E : Ending) (w' : World) : Prop := ∃ r, E = .returned (.int .i64 r) ∧ IdxIs p ls r ∧ Below w.heap.size w w'
def IdxRel (p : Li → Bool) (ls : List Li) (n : Nat) (w : World) (g : Nat) (v : Value) (wr : World) : Prop :=
  ∃ k : Nat, g = n - k ∧ k ≤ n ∧ v = .int .i64 k ∧ Below w.heap.size w wr ∧ ∀ j (hj : j < ls.length), j < k → p ls[j] = false

theorem lcells8 (x : Li) : (lcells x)[0]? = some (.int .i64 x.id) ∧ (lcells x)[1]? = some (.int .i64 x.tg.kind) ∧ (lcells x)[2]? = some (.int .i64 x.tg.id) ∧ (lcells x)[3]? = some (.string x.ty) ∧ (lcells x)[4]? = some (.int .i64 x.cb) ∧ (lcells x)[5]? = some (.bool x.cap) ∧ (lcells x)[6]? = some (.bool x.once) ∧ (lcells x)[7]? = some (.bool x.pas) := ⟨rfl, rfl, rfl, rfl, rfl, rfl, rfl, rfl⟩

/-- the cells of the element k of a slice of listeners -/
theorem l_at {w : World} {g off n : Nat} {ls : List Li} (hs : Rd w 8 (some ⟨g, off, none⟩) n (flat lcells ls)) {k : Nat} (hk : k < ls.length) (x : Li) (hx : ls[k] = x) :
    w.cell? ⟨g, off + k * 8, none⟩ = some (.int .i64 x.id) ∧ w.cell? ⟨g, off + k * 8 + 1, none⟩ = some (.int .i64 x.tg.kind) ∧ w.cell? ⟨g, off + k * 8 + 1 + 1, none⟩ = some (.int .i64 x.tg.id) ∧ w.cell? ⟨g, off + k * 8 + 3, none⟩ = some (.string x.ty) ∧
    w.cell? ⟨g, off + k * 8 + 4, none⟩ = some (.int .i64 x.cb) ∧ w.cell? ⟨g, off + k * 8 + 5, none⟩ = some (.bool x.cap) ∧ w.cell? ⟨g, off + k * 8 + 6, none⟩ = some (.bool x.once) ∧ w.cell? ⟨g, off + k * 8 + 7, none⟩ = some (.bool x.pas) := by
  have e := fun j hj => lc_at ls k hk j hj
  rw [hx] at e
  obtain ⟨a0, a1, a2, a3, a4, a5, a6, a7⟩ := lcells8 x
  have c := fun j u h => hs.cells _ rfl j u h
  simp only [Addr.add_lit] at c
  refine ⟨?_, ?_, ?_, ?_, ?_, ?_, ?_, ?_⟩
  · have := c _ _ ((e 0 (by omega)).trans a0); simpa using this
  · have := c _ _ ((e 1 (by omega)).trans a1); rwa [← Nat.add_assoc] at this
  · have := c _ _ ((e 2 (by omega)).trans a2); rwa [show off + (k * 8 + 2) = off + k * 8 + 1 + 1 by omega] at this
  · have := c _ _ ((e 3 (by omega)).trans a3); rwa [← Nat.add_assoc] at this
  · have := c _ _ ((e 4 (by omega)).trans a4); rwa [← Nat.add_assoc] at this
  · have := c _ _ ((e 5 (by omega)).trans a5); rwa [← Nat.add_assoc] at this
  · have := c _ _ ((e 6 (by omega)).trans a6); rwa [← Nat.add_assoc] at this
  · have := c _ _ ((e 7 (by omega)).trans a7); rwa [← Nat.add_assoc] at this

set_option maxRecDepth 100000 in
set_option maxHeartbeats 1000000 in
theorem idxfunc (C : Nat) (hC : C = 41 ∨ C = 50 ∨ C = 48) (cap : Value) (p : Li → Bool) (s : Option Addr) (n c : Nat) (ls : List Li) (w : World) (hs : Rd w 8 s n (flat lcells ls)) (hl : ls.length = n) (hn : n ≤ 100000)
    (hclo : ∀ (x : Li) (w' : World), Below w.heap.size w w' → Calls Try.prog C #[lval x, cap] w' fun e w'' => e = .returned (.bool (p x)) ∧ Below w'.heap.size w' w'') :
    Calls Try.prog 40 #[.slice s n c, .func (.func C) #[] #[cap]] w (IdxPost p ls w) := by
  have HS := Lib.hid hs
  have HL := Lib.hid hl
  have HC := Lib.hid hclo
  clear hs hl hclo
  rcases hC with rfl | rfl | rfl
  all_goals
    go_enter Try.func40, Try.ntmps40
    go_wp2_with fail
    go_loopg [8] n (IdxRel p ls n w)
    case atStart => exact ⟨0, rfl, Nat.zero_le _, rfl, Below.refl _ _, by intro j hj h; omega⟩
    case round =>
      obtain ⟨k, hg, hk, rfl, hb, hall⟩ := hrel
      have Hg := Lib.hid hg
      have HA := Lib.hid hall
      have HB := Lib.hid hb
      have HR := Lib.hid (HS.out.below hb)
      clear hg hall hb
      by_cases hkn : k < n
      · have hkt : k < ls.length := by rw [HL.out]; exact hkn
        obtain ⟨g, off, rfl, -⟩ := HS.out.addr (by omega)
        obtain ⟨x, hx⟩ : ∃ x, ls[k] = x := ⟨_, rfl⟩
        obtain ⟨d0, d1, d2, d3, d4, d5, d6, d7⟩ := l_at HR.out hkt x hx
        have HX := Lib.hid hx
        have hkn' : (k : Int) < (n : Int) := by omega
        clear hx
        go_wp2_with fail
        refine (HC.out x wr HB.out).mono ?_
        rintro e w2 ⟨rfl, hb2⟩
        have HB2 := Lib.hid (HB.out.trans (hb2.mono HB.out.size))
        clear hb2 d0 d1 d2 d3 d4 d5 d6 d7
        by_cases hp : p x = true
        · have HP := Lib.hid hp
          simp only [hp]
          clear hp
          go_wp2_with fail
          go_ret
          refine ⟨k, rfl, .inl ⟨k, hkt, rfl, ?_, by rw [HX.out]; exact HP.out⟩, HB2.out⟩
          rw [List.findIdx?_eq_some_iff_getElem]
          exact ⟨hkt, by rw [HX.out]; exact HP.out, fun j hj => by simp [HA.out j (by omega) hj]⟩
        · have hp' : p x = false := by simpa using hp
          have HP := Lib.hid hp'
          simp only [hp']
          clear hp hp'
          go_wp2_with fail
          go_roundg (n - (k + 1))
          case measure => have := Hg.out; omega
          case rel =>
            refine ⟨k + 1, rfl, by omega, by simp, HB2.out, fun j hj hjk => ?_⟩
            by_cases e : j = k
            · subst e; rw [HX.out]; exact HP.out
            · exact HA.out j hj (by omega)
      · go_wp2_with fail
        go_ret
        refine ⟨-1, rfl, .inr ⟨rfl, ?_⟩, HB.out⟩
        rw [List.findIdx?_eq_none_iff]
        intro x hx
        obtain ⟨j, hj, rfl⟩ := List.getElem_of_mem hx
        exact HA.out j hj (by have := HL.out; omega)
end Go.Proofs.Ytianjcbofgdfdaa
