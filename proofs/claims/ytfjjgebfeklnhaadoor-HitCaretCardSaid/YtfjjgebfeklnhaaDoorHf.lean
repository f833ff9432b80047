/-
  Items as the law is given them, and what few, rect and items make of them.
-/
import Derived.Test.YtfjjgebfeklnhaaDoorHe
set_option linter.unusedVariables false
set_option linter.unusedSimpArgs false
namespace Go.Proofs.YtfjjgebfeklnhaaDoor
open Go.RowKit Go.K

structure Li where
  kd : Int
  nd : Int
  r : R4
  c : R4
  cl : Bool
  tx : ByteArray
def R4.ok8 (r : R4) : Prop := -128 ≤ r.x ∧ r.x ≤ 127 ∧ -128 ≤ r.y ∧ r.y ≤ 127 ∧ 0 ≤ r.w ∧ r.w ≤ 255 ∧ 0 ≤ r.h ∧ r.h ≤ 255
def Li.ok (i : Li) : Prop := (0 ≤ i.kd ∧ i.kd ≤ 255) ∧ (0 ≤ i.nd ∧ i.nd ≤ 255) ∧ i.r.ok8 ∧ i.c.ok8
abbrev GL := { i : Li // i.ok }
def lcells (x : GL) : List Value := [.int .u8 x.1.kd, .int .u8 x.1.nd, .int .i8 x.1.r.x, .int .i8 x.1.r.y, .int .u8 x.1.r.w, .int .u8 x.1.r.h, .int .i8 x.1.c.x, .int .i8 x.1.c.y, .int .u8 x.1.c.w, .int .u8 x.1.c.h, .bool x.1.cl, .string x.1.tx]
theorem l_at {w : World} {g off n : Nat} {ls : List GL} (hs : Rd w 12 (some ⟨g, off, none⟩) n (flat lcells ls)) {k : Nat} (hk : k < ls.length) (x : GL) (hx : ls[k] = x) :
    w.cell? ⟨g, off + k * 12 , none⟩ = some (.int .u8 x.1.kd) ∧ w.cell? ⟨g, off + k * 12 + 1, none⟩ = some (.int .u8 x.1.nd) ∧ w.cell? ⟨g, off + k * 12 + 2, none⟩ = some (.int .i8 x.1.r.x) ∧ w.cell? ⟨g, off + k * 12 + 2 + 1, none⟩ = some (.int .i8 x.1.r.y) ∧ w.cell? ⟨g, off + k * 12 + 2 + 2, none⟩ = some (.int .u8 x.1.r.w) ∧ w.cell? ⟨g, off + k * 12 + 2 + 3, none⟩ = some (.int .u8 x.1.r.h) ∧ w.cell? ⟨g, off + k * 12 + 6, none⟩ = some (.int .i8 x.1.c.x) ∧ w.cell? ⟨g, off + k * 12 + 6 + 1, none⟩ = some (.int .i8 x.1.c.y) ∧ w.cell? ⟨g, off + k * 12 + 6 + 2, none⟩ = some (.int .u8 x.1.c.w) ∧ w.cell? ⟨g, off + k * 12 + 6 + 3, none⟩ = some (.int .u8 x.1.c.h) ∧ w.cell? ⟨g, off + k * 12 + 10, none⟩ = some (.bool x.1.cl) ∧ w.cell? ⟨g, off + k * 12 + 11, none⟩ = some (.string x.1.tx) := by
  have e := fun j hj => flat_at (f := lcells) (sz := 12) (fun _ => rfl) ls k j hk hj
  rw [hx] at e
  have c := fun j u h => hs.cells _ rfl j u h
  simp only [Addr.add_lit] at c
  have q := fun j hj => c _ _ ((e j hj).trans (List.getElem?_eq_getElem (by show j < 12; exact hj)))
  simp only [← Nat.add_assoc] at q
  exact ⟨by have := q 0 (by omega); rwa [Nat.add_zero] at this, q 1 (by omega), q 2 (by omega), by have := q 3 (by omega); rwa [show off + k * 12 + 3 = off + k * 12 + 2 + 1 by omega] at this, by have := q 4 (by omega); rwa [show off + k * 12 + 4 = off + k * 12 + 2 + 2 by omega] at this, by have := q 5 (by omega); rwa [show off + k * 12 + 5 = off + k * 12 + 2 + 3 by omega] at this, q 6 (by omega), by have := q 7 (by omega); rwa [show off + k * 12 + 7 = off + k * 12 + 6 + 1 by omega] at this, by have := q 8 (by omega); rwa [show off + k * 12 + 8 = off + k * 12 + 6 + 2 by omega] at this, by have := q 9 (by omega); rwa [show off + k * 12 + 9 = off + k * 12 + 6 + 3 by omega] at this, q 10 (by omega), q 11 (by omega)⟩

set_option maxHeartbeats 400000 in
theorem rect_c {a0 a1 a2 a3 : Int} (w : World) (h : R4.ok8 ⟨a0, a1, a2, a3⟩) : Calls Tryd.prog 15 #[.agg #[.int .i8 a0, .int .i8 a1, .int .u8 a2, .int .u8 a3]] w fun e w' => e = .returned (r4 a0 a1 a2 a3) ∧ Below w.heap.size w w' := by
  obtain ⟨h1, h2, h3, h4, h5, h6, h7, h8⟩ := h
  simp only at h1 h2 h3 h4 h5 h6 h7 h8
  go_enter Tryd.func15, Tryd.ntmps15
  go_wp2_with fail
  refine bodyPost_ret (v := r4 a0 a1 a2 a3) (by simp [results, Tryd.results15, go_sem]) rfl ⟨rfl, ?_⟩
  exact ((Below.refl _ _).alloc (Nat.le_refl _) _).alloc (by simp) _

def fewB (ls : List GL) : Bool := ls.all (fun x => decide (x.1.tx.size ≤ 40)) && decide (ls.length ≤ 40)
def FwRel (ls : List GL) (w : World) (g : Nat) (u : Value) (wr : World) : Prop :=
  ∃ k : Nat, g = ls.length - k ∧ k ≤ ls.length ∧ u = .int .i64 k ∧ wr = w ∧ ∀ j (hj : j < ls.length), j < k → ls[j].1.tx.size ≤ 40
set_option maxHeartbeats 600000 in
theorem few_any (s : Option Addr) (c : Nat) (ls : List GL) (w : World) (h : Rd w 12 s ls.length (flat lcells ls)) (hn : (ls.length : Int) ≤ 9223372036854775807) :
    Calls Tryd.prog 5 #[.slice s ls.length c] w fun e w' => w' = w ∧ e = .returned (.bool (fewB ls)) := by
  have HR := Lib.hid h
  clear h
  go_enter Tryd.func5, Tryd.ntmps5
  go_wp2_with fail
  go_loopg [6] ls.length (FwRel ls w)
  case atStart => exact ⟨0, rfl, Nat.zero_le _, rfl, rfl, fun j hj h => by omega⟩
  case round =>
    obtain ⟨k, hg, hk, rfl, rfl, hall⟩ := hrel
    have Hg := Lib.hid hg
    have HA := Lib.hid hall
    clear hg hall
    by_cases hkn : k < ls.length
    · obtain ⟨g, off, rfl, -⟩ := HR.out.addr (by omega)
      obtain ⟨x, hx⟩ : ∃ x, ls[k] = x := ⟨_, rfl⟩
      obtain ⟨d0, d1, d2, d3, d4, d5, d6, d7, d8, d9, d10, d11⟩ := l_at HR.out hkn x hx
      have HX := Lib.hid hx
      have hkn' : (k : Int) < (ls.length : Int) := by omega
      clear hx
      by_cases hv : x.1.tx.size ≤ 40
      · have hv' : ¬ ((40 : Int) < (x.1.tx.size : Int)) := by omega
        have HV := Lib.hid hv
        clear hv
        go_wp2_with fail
        go_roundg (ls.length - (k + 1))
        case measure => have := Hg.out; omega
        case rel =>
          refine ⟨k + 1, rfl, by omega, by simp, rfl, fun j hj h => ?_⟩
          by_cases e : j = k
          · subst e; rw [HX.out]; exact HV.out
          · exact HA.out j hj (by omega)
      · have hv' : (40 : Int) < (x.1.tx.size : Int) := by omega
        have HV := Lib.hid hv
        clear hv
        go_wp2_with fail
        go_ret
        refine ⟨rfl, ?_⟩
        have : fewB ls = false := by
          unfold fewB
          rw [Bool.and_eq_false_iff]
          left
          rw [List.all_eq_false]
          exact ⟨x, by rw [← HX.out]; exact List.getElem_mem hkn, by simpa using HV.out⟩
        rw [this]
        rfl
    · have hall : (ls.all (fun x => decide (x.1.tx.size ≤ 40))) = true := by
        rw [List.all_eq_true]
        intro x hx
        obtain ⟨j, hj, rfl⟩ := List.getElem_of_mem hx
        simpa using HA.out j hj (by omega)
      have e : fewB ls = decide (ls.length ≤ 40) := by unfold fewB; rw [hall, Bool.true_and]
      have E := Lib.hid e
      clear hall e
      by_cases h40 : ls.length ≤ 40
      · have h40' : (ls.length : Int) ≤ 40 := by omega
        go_wp2_with fail
        go_ret
        exact ⟨rfl, by rw [E.out]; simp [h40]⟩
      · have h40' : ¬ (ls.length : Int) ≤ 40 := by omega
        go_wp2_with fail
        go_ret
        exact ⟨rfl, by rw [E.out]; simp [h40]⟩

/-- an item whose text is short -/
abbrev GB := { i : Li // i.ok ∧ i.tx.size ≤ 40 }
def bcells (x : GB) : List Value := [.int .u8 x.1.kd, .int .u8 x.1.nd, .int .i8 x.1.r.x, .int .i8 x.1.r.y, .int .u8 x.1.r.w, .int .u8 x.1.r.h, .int .i8 x.1.c.x, .int .i8 x.1.c.y, .int .u8 x.1.c.w, .int .u8 x.1.c.h, .bool x.1.cl, .string x.1.tx]
theorem b_at {w : World} {g off n : Nat} {ls : List GB} (hs : Rd w 12 (some ⟨g, off, none⟩) n (flat bcells ls)) {k : Nat} (hk : k < ls.length) (x : GB) (hx : ls[k] = x) :
    w.cell? ⟨g, off + k * 12 , none⟩ = some (.int .u8 x.1.kd) ∧ w.cell? ⟨g, off + k * 12 + 1, none⟩ = some (.int .u8 x.1.nd) ∧ w.cell? ⟨g, off + k * 12 + 2, none⟩ = some (.int .i8 x.1.r.x) ∧ w.cell? ⟨g, off + k * 12 + 2 + 1, none⟩ = some (.int .i8 x.1.r.y) ∧ w.cell? ⟨g, off + k * 12 + 2 + 2, none⟩ = some (.int .u8 x.1.r.w) ∧ w.cell? ⟨g, off + k * 12 + 2 + 3, none⟩ = some (.int .u8 x.1.r.h) ∧ w.cell? ⟨g, off + k * 12 + 6, none⟩ = some (.int .i8 x.1.c.x) ∧ w.cell? ⟨g, off + k * 12 + 6 + 1, none⟩ = some (.int .i8 x.1.c.y) ∧ w.cell? ⟨g, off + k * 12 + 6 + 2, none⟩ = some (.int .u8 x.1.c.w) ∧ w.cell? ⟨g, off + k * 12 + 6 + 3, none⟩ = some (.int .u8 x.1.c.h) ∧ w.cell? ⟨g, off + k * 12 + 10, none⟩ = some (.bool x.1.cl) ∧ w.cell? ⟨g, off + k * 12 + 11, none⟩ = some (.string x.1.tx) := by
  have e := fun j hj => flat_at (f := bcells) (sz := 12) (fun _ => rfl) ls k j hk hj
  rw [hx] at e
  have c := fun j u h => hs.cells _ rfl j u h
  simp only [Addr.add_lit] at c
  have q := fun j hj => c _ _ ((e j hj).trans (List.getElem?_eq_getElem (by show j < 12; exact hj)))
  simp only [← Nat.add_assoc] at q
  exact ⟨by have := q 0 (by omega); rwa [Nat.add_zero] at this, q 1 (by omega), q 2 (by omega), by have := q 3 (by omega); rwa [show off + k * 12 + 3 = off + k * 12 + 2 + 1 by omega] at this, by have := q 4 (by omega); rwa [show off + k * 12 + 4 = off + k * 12 + 2 + 2 by omega] at this, by have := q 5 (by omega); rwa [show off + k * 12 + 5 = off + k * 12 + 2 + 3 by omega] at this, q 6 (by omega), by have := q 7 (by omega); rwa [show off + k * 12 + 7 = off + k * 12 + 6 + 1 by omega] at this, by have := q 8 (by omega); rwa [show off + k * 12 + 8 = off + k * 12 + 6 + 2 by omega] at this, by have := q 9 (by omega); rwa [show off + k * 12 + 9 = off + k * 12 + 6 + 3 by omega] at this, q 10 (by omega), q 11 (by omega)⟩

def itOf (a : Li) : It := ⟨1 + a.kd % 3, a.r, if a.cl then a.c else ⟨-200, -200, 1000, 1000⟩, .empty, if a.kd % 3 = 2 then a.tx else .empty, if a.kd % 3 = 2 then 16 else 0, a.nd⟩
theorem R4.ok8.bd {r : R4} (h : r.ok8) : Bd 1000000 r := by
  obtain ⟨h1, h2, h3, h4, h5, h6, h7, h8⟩ := h
  exact ⟨by omega, by omega, by omega, by omega, by omega, by omega, by omega, by omega⟩
def gOf (a : GB) : GI := ⟨itOf a.1, a.2.1.2.2.1.bd, by
  show Bd 1000000 (if a.1.cl then a.1.c else ⟨-200, -200, 1000, 1000⟩)
  split
  · exact a.2.1.2.2.2.bd
  · exact ⟨by simp, by simp, by simp, by simp, by simp, by simp, by simp, by simp⟩, by
  show (if a.1.kd % 3 = 2 then a.1.tx else ByteArray.empty).size ≤ 1000
  have := a.2.2
  split
  · omega
  · simp⟩

theorem infoIt : (Tryd.prog.info? 34).map (fun i => (i.zero, i.size, i.bytes)) = some (some (.agg #[.int .i64 0, .int .i64 0, .int .i64 0, .int .i64 0, .int .i64 0, .int .i64 0, .int .i64 0, .int .i64 0, .int .i64 0, .string ByteArray.empty, .string ByteArray.empty, .int .i64 0, .int .i64 0]), 13, 120) := by kernel_rfl
theorem elIt : El Tryd.prog 25 34 13 120 := by
  obtain ⟨i, hi, h1, h2, h3⟩ := info_parts infoIt
  exact ⟨by kernel_rfl, ⟨i, _, hi, h1, h2, h3, rfl⟩, by decide⟩

theorem below_drew' {n : Nat} {w w' : World} (h : Below n w w') : Below n w w'.drew := ⟨h.os, h.tape, h.output, h.size, h.block⟩
theorem below_set13 {n b : Nat} {W W2 : World} (h : Below n W W2) (hb : n ≤ b) (v0 v1 v2 v3 v4 v5 v6 v7 v8 v9 v10 v11 v12 : Value) : Below n W (((((((((((((W2.setCell ⟨b, 0, none⟩ v0).setCell ⟨b, 1, none⟩ v1).setCell ⟨b, 2, none⟩ v2).setCell ⟨b, 3, none⟩ v3).setCell ⟨b, 4, none⟩ v4).setCell ⟨b, 5, none⟩ v5).setCell ⟨b, 6, none⟩ v6).setCell ⟨b, 7, none⟩ v7).setCell ⟨b, 8, none⟩ v8).setCell ⟨b, 9, none⟩ v9).setCell ⟨b, 10, none⟩ v10).setCell ⟨b, 11, none⟩ v11).setCell ⟨b, 12, none⟩ v12) := (((((((((((((h.setCell (p := ⟨b, 0, none⟩) hb v0).setCell (p := ⟨b, 1, none⟩) hb v1).setCell (p := ⟨b, 2, none⟩) hb v2).setCell (p := ⟨b, 3, none⟩) hb v3).setCell (p := ⟨b, 4, none⟩) hb v4).setCell (p := ⟨b, 5, none⟩) hb v5).setCell (p := ⟨b, 6, none⟩) hb v6).setCell (p := ⟨b, 7, none⟩) hb v7).setCell (p := ⟨b, 8, none⟩) hb v8).setCell (p := ⟨b, 9, none⟩) hb v9).setCell (p := ⟨b, 10, none⟩) hb v10).setCell (p := ⟨b, 11, none⟩) hb v11).setCell (p := ⟨b, 12, none⟩) hb v12)
theorem blk_set13 {W : World} {b : Nat} {t : TypeId} {u0 u1 u2 u3 u4 u5 u6 u7 u8 u9 u10 u11 u12 : Value} (h : Blk W b #[u0, u1, u2, u3, u4, u5, u6, u7, u8, u9, u10, u11, u12] t) (v0 v1 v2 v3 v4 v5 v6 v7 v8 v9 v10 v11 v12 : Value) : Blk (((((((((((((W.setCell ⟨b, 0, none⟩ v0).setCell ⟨b, 1, none⟩ v1).setCell ⟨b, 2, none⟩ v2).setCell ⟨b, 3, none⟩ v3).setCell ⟨b, 4, none⟩ v4).setCell ⟨b, 5, none⟩ v5).setCell ⟨b, 6, none⟩ v6).setCell ⟨b, 7, none⟩ v7).setCell ⟨b, 8, none⟩ v8).setCell ⟨b, 9, none⟩ v9).setCell ⟨b, 10, none⟩ v10).setCell ⟨b, 11, none⟩ v11).setCell ⟨b, 12, none⟩ v12) b #[v0, v1, v2, v3, v4, v5, v6, v7, v8, v9, v10, v11, v12] t := by
  have := (((((((((((((h.set 0 v0).set 1 v1).set 2 v2).set 3 v3).set 4 v4).set 5 v5).set 6 v6).set 7 v7).set 8 v8).set 9 v9).set 10 v10).set 11 v11).set 12 v12)
  simpa only [List.setIfInBounds_toArray, List.set_cons_zero, List.set_cons_succ] using this
def ItRel (ls : List GB) (w : World) (g : Nat) (v3 v8 : Value) (wr : World) : Prop :=
  ∃ (k : Nat) (s : Option Addr) (c : Nat), g = ls.length - k ∧ k ≤ ls.length ∧ v8 = .int .i64 k ∧ v3 = .slice s k c ∧ K.Own w wr 34 13 s k c (flat icells ((ls.take k).map gOf))
def ItPost (ls : List GB) (w : World) (e : Ending) (w' : World) : Prop :=
  ∃ s c, e = .returned (.slice s ls.length c) ∧ K.Own w w' 34 13 s ls.length c (flat icells (ls.map gOf))
def MidIt (m3 : Int) (x : GB) (wr : World) (v5 : Value) (wx : World) : Prop :=
  ∃ bx, v5 = .pointer (some ⟨bx, 0, none⟩) ∧ wr.heap.size ≤ bx ∧ Below wr.heap.size wr wx ∧ Blk wx bx #[.int .i64 (1 + m3), .int .i64 x.1.r.x, .int .i64 x.1.r.y, .int .i64 x.1.r.w, .int .i64 x.1.r.h, .int .i64 (-200), .int .i64 (-200), .int .i64 1000, .int .i64 1000, .string ByteArray.empty, .string ByteArray.empty, .int .i64 0, .int .i64 x.1.nd] 34

set_option maxRecDepth 100000 in
set_option maxHeartbeats 1000000 in
theorem items_any (s : Option Addr) (c : Nat) (ls : List GB) (w : World) (h : Rd w 12 s ls.length (flat bcells ls)) (hn : ls.length ≤ 1000) :
    Calls Tryd.prog 6 #[.slice s ls.length c] w (ItPost ls w) := by
  have HR := Lib.hid h
  clear h
  have hnI : (ls.length : Int) ≤ 1000 := by omega
  go_enter Tryd.func6, Tryd.ntmps6
  go_wp2_with fail
  go_loopg [3, 8] ls.length (ItRel ls w)
  case atStart => exact ⟨0, none, 0, rfl, Nat.zero_le _, rfl, rfl, K.Own.nil (Below.refl _ _) _ _⟩
  case round =>
    obtain ⟨k, so, co, hg, hk, rfl, rfl, hp⟩ := hrel
    have Hg := Lib.hid hg
    have Hp := Lib.hid hp
    clear hg hp
    by_cases hkn : k < ls.length
    · have hr := HR.out.below Hp.out.bel
      obtain ⟨g, off, rfl, -⟩ := hr.addr (by omega)
      obtain ⟨x, hx⟩ : ∃ x, ls[k] = x := ⟨_, rfl⟩
      obtain ⟨d0, d1, d2, d3, d4, d5, d6, d7, d8, d9, d10, d11⟩ := b_at hr hkn x hx
      have HX := Lib.hid hx
      obtain ⟨⟨hk0, hk1⟩, ⟨hn0, hn1⟩, hr8, hc8⟩ := x.2.1
      have hm : 0 ≤ x.1.kd % 3 ∧ x.1.kd % 3 ≤ 2 := by omega
      have ht : x.1.kd.tmod 3 = x.1.kd % 3 := Int.tmod_eq_emod_of_nonneg hk0
      obtain ⟨m3, hm3⟩ : ∃ m3, x.1.kd % 3 = m3 := ⟨_, rfl⟩
      rw [hm3] at hm ht
      obtain ⟨m0, m2⟩ := hm
      have HM3 := Lib.hid hm3
      have hkn' : (k : Int) < (ls.length : Int) := by omega
      have KP := Lib.hid (show ∀ w' : World, Below wr.heap.size wr w' → w'.cell? ⟨g, off + k * 12 , none⟩ = some (.int .u8 x.1.kd) ∧ w'.cell? ⟨g, off + k * 12 + 1, none⟩ = some (.int .u8 x.1.nd) ∧ w'.cell? ⟨g, off + k * 12 + 2, none⟩ = some (.int .i8 x.1.r.x) ∧ w'.cell? ⟨g, off + k * 12 + 2 + 1, none⟩ = some (.int .i8 x.1.r.y) ∧ w'.cell? ⟨g, off + k * 12 + 2 + 2, none⟩ = some (.int .u8 x.1.r.w) ∧ w'.cell? ⟨g, off + k * 12 + 2 + 3, none⟩ = some (.int .u8 x.1.r.h) ∧ w'.cell? ⟨g, off + k * 12 + 6, none⟩ = some (.int .i8 x.1.c.x) ∧ w'.cell? ⟨g, off + k * 12 + 6 + 1, none⟩ = some (.int .i8 x.1.c.y) ∧ w'.cell? ⟨g, off + k * 12 + 6 + 2, none⟩ = some (.int .u8 x.1.c.w) ∧ w'.cell? ⟨g, off + k * 12 + 6 + 3, none⟩ = some (.int .u8 x.1.c.h) ∧ w'.cell? ⟨g, off + k * 12 + 10, none⟩ = some (.bool x.1.cl) ∧ w'.cell? ⟨g, off + k * 12 + 11, none⟩ = some (.string x.1.tx) from fun w' h => ⟨(h.cell (World.block_lt_of_cell? _ _ d0)).trans d0, (h.cell (World.block_lt_of_cell? _ _ d1)).trans d1, (h.cell (World.block_lt_of_cell? _ _ d2)).trans d2, (h.cell (World.block_lt_of_cell? _ _ d3)).trans d3, (h.cell (World.block_lt_of_cell? _ _ d4)).trans d4, (h.cell (World.block_lt_of_cell? _ _ d5)).trans d5, (h.cell (World.block_lt_of_cell? _ _ d6)).trans d6, (h.cell (World.block_lt_of_cell? _ _ d7)).trans d7, (h.cell (World.block_lt_of_cell? _ _ d8)).trans d8, (h.cell (World.block_lt_of_cell? _ _ d9)).trans d9, (h.cell (World.block_lt_of_cell? _ _ d10)).trans d10, (h.cell (World.block_lt_of_cell? _ _ d11)).trans d11⟩)
      have CR := Lib.hid (fun (wz : World) => rect_c (a0 := x.1.r.x) (a1 := x.1.r.y) (a2 := x.1.r.w) (a3 := x.1.r.h) wz hr8)
      have CC := Lib.hid (fun (wz : World) => rect_c (a0 := x.1.c.x) (a1 := x.1.c.y) (a2 := x.1.c.w) (a3 := x.1.c.h) wz hc8)
      clear hx hr hm3 hr8 hc8
      have hw1 : IntKind.i64.wrap m3 = m3 := by rw [IntKind.wrap_i64]; omega
      have hw3 : IntKind.i64.wrap x.1.nd = x.1.nd := by rw [IntKind.wrap_i64]; omega
      have hw2 : IntKind.i64.wrap (1 + m3) = 1 + m3 := by rw [IntKind.wrap_i64]; omega
      go_upto_region 5 with fail
      go_cut [5] (MidIt m3 x wr)
      case first =>
        have hb0 : Below wr.heap.size wr wr.drew := ⟨rfl, rfl, rfl, Nat.le_refl _, fun _ _ => rfl⟩
        have hb1 : ∀ cs t, Below wr.heap.size wr (wr.alloc (.cells cs t)).drew := fun cs t => below_drew' ((Below.refl wr.heap.size wr).alloc (Nat.le_refl _) _)
        go_region_held3 (fun w' => w'.cell? ⟨g, off + k * 12 , none⟩ = some (.int .u8 x.1.kd) ∧ w'.cell? ⟨g, off + k * 12 + 1, none⟩ = some (.int .u8 x.1.nd) ∧ w'.cell? ⟨g, off + k * 12 + 2, none⟩ = some (.int .i8 x.1.r.x) ∧ w'.cell? ⟨g, off + k * 12 + 2 + 1, none⟩ = some (.int .i8 x.1.r.y) ∧ w'.cell? ⟨g, off + k * 12 + 2 + 2, none⟩ = some (.int .u8 x.1.r.w) ∧ w'.cell? ⟨g, off + k * 12 + 2 + 3, none⟩ = some (.int .u8 x.1.r.h) ∧ w'.cell? ⟨g, off + k * 12 + 6, none⟩ = some (.int .i8 x.1.c.x) ∧ w'.cell? ⟨g, off + k * 12 + 6 + 1, none⟩ = some (.int .i8 x.1.c.y) ∧ w'.cell? ⟨g, off + k * 12 + 6 + 2, none⟩ = some (.int .u8 x.1.c.w) ∧ w'.cell? ⟨g, off + k * 12 + 6 + 3, none⟩ = some (.int .u8 x.1.c.h) ∧ w'.cell? ⟨g, off + k * 12 + 10, none⟩ = some (.bool x.1.cl) ∧ w'.cell? ⟨g, off + k * 12 + 11, none⟩ = some (.string x.1.tx))
          (first | with_reducible exact KP.out _ hb0 | with_reducible exact KP.out _ (hb1 _ _) | with_reducible exact KP.out _ hbw | with_reducible exact KP.out _ (hbw.alloc hbw.size _) | with_reducible exact KP.out _ (below_set13 hbw (Nat.le_refl _) _ _ _ _ _ _ _ _ _ _ _ _ _) | with_reducible exact KP.out _ (below_set13 (hbw.alloc hbw.size _) hbw.size _ _ _ _ _ _ _ _ _ _ _ _ _))
          (first
            | (go_at_call 15; refine (CR.out _).mono ?_; rintro e w2 ⟨rfl, hb2⟩; have hbw : Below wr.heap.size wr w2 := ⟨hb2.os, hb2.tape, hb2.output, hb2.size, hb2.block⟩)
            | (go_at_call 15; refine (CR.out _).mono ?_; rintro e w2 ⟨rfl, hb2⟩; have hbw : Below wr.heap.size wr w2 := ((Below.refl wr.heap.size wr).alloc (Nat.le_refl _) (.cells #[.int .i64 0, .int .i64 0, .int .i64 0, .int .i64 0, .int .i64 0, .int .i64 0, .int .i64 0, .int .i64 0, .int .i64 0, .string ByteArray.empty, .string ByteArray.empty, .int .i64 0, .int .i64 0] 34)).trans (Below.mono ⟨hb2.os, hb2.tape, hb2.output, hb2.size, hb2.block⟩ (by simp)); have hbz := (Blk.new wr #[.int .i64 0, .int .i64 0, .int .i64 0, .int .i64 0, .int .i64 0, .int .i64 0, .int .i64 0, .int .i64 0, .int .i64 0, .string ByteArray.empty, .string ByteArray.empty, .int .i64 0, .int .i64 0] 34).kept (S := fun _ => False) (Fr.of_below ⟨hb2.os, hb2.tape, hb2.output, hb2.size, hb2.block⟩) (fun q => q); obtain ⟨z0, z1, z2, z3, z4, z5, z6, z7, z8, z9, z10, z11, z12, zf0, zf1, zf2, zf3, zf4, zf5, zf6, zf7, zf8, zf9, zf10, zf11, zf12⟩ := blk13 hbz))
        all_goals
          go_wp2_with fail
          go_meet
          first
            | (have hz0 := hbz; exact ⟨_, rfl, Nat.le_refl _, below_set13 hbw (Nat.le_refl _) _ _ _ _ _ _ _ _ _ _ _ _ _, blk_set13 hz0 _ _ _ _ _ _ _ _ _ _ _ _ _⟩)
            | exact ⟨_, rfl, hbw.size, hbw.alloc hbw.size _, Blk.new _ _ _⟩
      case rest =>
        obtain ⟨bx, rfl, hbx, hbel, hblk⟩ := hcut
        have hbxl := hblk.lt
        have HB := Lib.hid hbel
        have HK := Lib.hid hblk
        obtain ⟨d0, d1, d2, d3, d4, d5, d6, d7, d8, d9, d10, d11⟩ := KP.out _ hbel
        obtain ⟨z0, z1, z2, z3, z4, z5, z6, z7, z8, z9, z10, z11, z12, zf0, zf1, zf2, zf3, zf4, zf5, zf6, zf7, zf8, zf9, zf10, zf11, zf12⟩ := blk13 hblk
        clear hbel hblk
        have HGO := Lib.hid (show flat icells ((ls.take (k + 1)).map gOf) = flat icells ((ls.take k).map gOf) ++ icells (gOf x) by rw [List.take_succ_eq_append_getElem hkn, List.map_append, flat_append, HX.out]; simp [flat])
        by_cases h3 : m3 = 2
        · subst h3
          cases hcl : x.1.cl with
          | false =>
            rw [hcl] at d10
            go_upto_region 11 with fail
            have HB9 := Lib.hid (Below.setCell (p := ⟨bx, 11, none⟩) (Below.setCell (p := ⟨bx, 10, none⟩) HB.out hbx (.string x.1.tx)) hbx (.int .i64 16))
            have HK9 := ((HK.out.set 10 (.string x.1.tx)).set 11 (.int .i64 16))
            simp only [List.setIfInBounds_toArray, List.set_cons_zero, List.set_cons_succ] at HK9
            obtain ⟨W9, hW9⟩ : ∃ W9, ((wc.setCell ⟨bx, 10, none⟩ (.string x.1.tx)).setCell ⟨bx, 11, none⟩ (.int .i64 16)) = W9 := ⟨_, rfl⟩
            rw [hW9] at HB9 HK9 ⊢
            clear hW9
            clear d0 d1 d2 d3 d4 d5 d6 d7 d8 d9 d10 d11 z0 z1 z2 z3 z4 z5 z6 z7 z8 z9 z10 z11 z12 zf0 zf1 zf2 zf3 zf4 zf5 zf6 zf7 zf8 zf9 zf10 zf11 zf12
            obtain ⟨z0, z1, z2, z3, z4, z5, z6, z7, z8, z9, z10, z11, z12, -⟩ := blk13 HK9
            have H3 := Lib.hid ((Hp.out.to HB9.out).alloc (.cells #[.int .i64 (1 + 2), .int .i64 x.1.r.x, .int .i64 x.1.r.y, .int .i64 x.1.r.w, .int .i64 x.1.r.h, .int .i64 (-200), .int .i64 (-200), .int .i64 1000, .int .i64 1000, .string ByteArray.empty, .string x.1.tx, .int .i64 16, .int .i64 x.1.nd] 34))
            have r2 := rd_built_at W9 #[.int .i64 (1 + 2), .int .i64 x.1.r.x, .int .i64 x.1.r.y, .int .i64 x.1.r.w, .int .i64 x.1.r.h, .int .i64 (-200), .int .i64 (-200), .int .i64 1000, .int .i64 1000, .string ByteArray.empty, .string x.1.tx, .int .i64 16, .int .i64 x.1.nd] 34 13 1 W9.heap.size rfl rfl (by simp [Value.oneCell'])
            go_wp2_with (refine wpList_append_own' rfl (.tmp 55) (.tmp 57) 25 rfl elIt so _ co _ rfl H3.out _ 1 _ _ rfl r2 (by omega) (by omega) ?_; intro so' co' w4 p1 p2 p3; have H4 := Lib.hid p1; clear p1 p2 p3)
            go_roundg (ls.length - (k + 1))
            case measure => have := Hg.out; omega
            case rel =>
              refine ⟨k + 1, so', co', rfl, by omega, by simp, rfl, ?_⟩
              rw [HGO.out]
              have h4 := H4.out
              have hgo : icells (gOf x) = (#[.int .i64 (1 + 2), .int .i64 x.1.r.x, .int .i64 x.1.r.y, .int .i64 x.1.r.w, .int .i64 x.1.r.h, .int .i64 (-200), .int .i64 (-200), .int .i64 1000, .int .i64 1000, .string ByteArray.empty, .string x.1.tx, .int .i64 16, .int .i64 x.1.nd]).toList := by simp [icells, gOf, itOf, HM3.out, hcl]
              rw [hgo]
              exact h4
          | true =>
            rw [hcl] at d10
            go_upto_region 11 with (go_at_call 15; refine (CC.out _).mono ?_; rintro e w5 ⟨rfl, hb5⟩; have HB5 := Lib.hid (HB.out.trans (hb5.mono HB.out.size)); have HK5 := Lib.hid (HK.out.kept (S := fun _ => False) (Fr.of_below hb5) (fun q => q)); clear d0 d1 d2 d3 d4 d5 d6 d7 d8 d9 d10 d11 z0 z1 z2 z3 z4 z5 z6 z7 z8 z9 z10 z11 z12 zf0 zf1 zf2 zf3 zf4 zf5 zf6 zf7 zf8 zf9 zf10 zf11 zf12 hb5; obtain ⟨d0, d1, d2, d3, d4, d5, d6, d7, d8, d9, d10, d11⟩ := KP.out _ HB5.out; obtain ⟨z0, z1, z2, z3, z4, z5, z6, z7, z8, z9, z10, z11, z12, zf0, zf1, zf2, zf3, zf4, zf5, zf6, zf7, zf8, zf9, zf10, zf11, zf12⟩ := blk13 HK5.out)
            have HB9 := Lib.hid (Below.setCell (p := ⟨bx, 11, none⟩) (Below.setCell (p := ⟨bx, 10, none⟩) (Below.setCell (p := ⟨bx, 8, none⟩) (Below.setCell (p := ⟨bx, 7, none⟩) (Below.setCell (p := ⟨bx, 6, none⟩) (Below.setCell (p := ⟨bx, 5, none⟩) HB5.out hbx (.int .i64 x.1.c.x)) hbx (.int .i64 x.1.c.y)) hbx (.int .i64 x.1.c.w)) hbx (.int .i64 x.1.c.h)) hbx (.string x.1.tx)) hbx (.int .i64 16))
            have HK9 := ((((((HK5.out.set 5 (.int .i64 x.1.c.x)).set 6 (.int .i64 x.1.c.y)).set 7 (.int .i64 x.1.c.w)).set 8 (.int .i64 x.1.c.h)).set 10 (.string x.1.tx)).set 11 (.int .i64 16))
            simp only [List.setIfInBounds_toArray, List.set_cons_zero, List.set_cons_succ] at HK9
            obtain ⟨W9, hW9⟩ : ∃ W9, ((((((w5.setCell ⟨bx, 5, none⟩ (.int .i64 x.1.c.x)).setCell ⟨bx, 6, none⟩ (.int .i64 x.1.c.y)).setCell ⟨bx, 7, none⟩ (.int .i64 x.1.c.w)).setCell ⟨bx, 8, none⟩ (.int .i64 x.1.c.h)).setCell ⟨bx, 10, none⟩ (.string x.1.tx)).setCell ⟨bx, 11, none⟩ (.int .i64 16)) = W9 := ⟨_, rfl⟩
            rw [hW9] at HB9 HK9 ⊢
            clear hW9
            clear d0 d1 d2 d3 d4 d5 d6 d7 d8 d9 d10 d11 z0 z1 z2 z3 z4 z5 z6 z7 z8 z9 z10 z11 z12 zf0 zf1 zf2 zf3 zf4 zf5 zf6 zf7 zf8 zf9 zf10 zf11 zf12
            obtain ⟨z0, z1, z2, z3, z4, z5, z6, z7, z8, z9, z10, z11, z12, -⟩ := blk13 HK9
            have H3 := Lib.hid ((Hp.out.to HB9.out).alloc (.cells #[.int .i64 (1 + 2), .int .i64 x.1.r.x, .int .i64 x.1.r.y, .int .i64 x.1.r.w, .int .i64 x.1.r.h, .int .i64 x.1.c.x, .int .i64 x.1.c.y, .int .i64 x.1.c.w, .int .i64 x.1.c.h, .string ByteArray.empty, .string x.1.tx, .int .i64 16, .int .i64 x.1.nd] 34))
            have r2 := rd_built_at W9 #[.int .i64 (1 + 2), .int .i64 x.1.r.x, .int .i64 x.1.r.y, .int .i64 x.1.r.w, .int .i64 x.1.r.h, .int .i64 x.1.c.x, .int .i64 x.1.c.y, .int .i64 x.1.c.w, .int .i64 x.1.c.h, .string ByteArray.empty, .string x.1.tx, .int .i64 16, .int .i64 x.1.nd] 34 13 1 W9.heap.size rfl rfl (by simp [Value.oneCell'])
            go_wp2_with (refine wpList_append_own' rfl (.tmp 55) (.tmp 57) 25 rfl elIt so _ co _ rfl H3.out _ 1 _ _ rfl r2 (by omega) (by omega) ?_; intro so' co' w4 p1 p2 p3; have H4 := Lib.hid p1; clear p1 p2 p3)
            go_roundg (ls.length - (k + 1))
            case measure => have := Hg.out; omega
            case rel =>
              refine ⟨k + 1, so', co', rfl, by omega, by simp, rfl, ?_⟩
              rw [HGO.out]
              have h4 := H4.out
              have hgo : icells (gOf x) = (#[.int .i64 (1 + 2), .int .i64 x.1.r.x, .int .i64 x.1.r.y, .int .i64 x.1.r.w, .int .i64 x.1.r.h, .int .i64 x.1.c.x, .int .i64 x.1.c.y, .int .i64 x.1.c.w, .int .i64 x.1.c.h, .string ByteArray.empty, .string x.1.tx, .int .i64 16, .int .i64 x.1.nd]).toList := by simp [icells, gOf, itOf, HM3.out, hcl]
              rw [hgo]
              exact h4
        · have h3' : ((1 : Int) + m3 == 3) = false := by simp; omega
          cases hcl : x.1.cl with
          | false =>
            rw [hcl] at d10
            go_upto_region 11 with fail
            have HB9 := Lib.hid HB.out
            have HK9 := HK.out
            clear d0 d1 d2 d3 d4 d5 d6 d7 d8 d9 d10 d11 z0 z1 z2 z3 z4 z5 z6 z7 z8 z9 z10 z11 z12 zf0 zf1 zf2 zf3 zf4 zf5 zf6 zf7 zf8 zf9 zf10 zf11 zf12
            obtain ⟨z0, z1, z2, z3, z4, z5, z6, z7, z8, z9, z10, z11, z12, -⟩ := blk13 HK9
            have H3 := Lib.hid ((Hp.out.to HB9.out).alloc (.cells #[.int .i64 (1 + m3), .int .i64 x.1.r.x, .int .i64 x.1.r.y, .int .i64 x.1.r.w, .int .i64 x.1.r.h, .int .i64 (-200), .int .i64 (-200), .int .i64 1000, .int .i64 1000, .string ByteArray.empty, .string ByteArray.empty, .int .i64 0, .int .i64 x.1.nd] 34))
            have r2 := rd_built_at wc #[.int .i64 (1 + m3), .int .i64 x.1.r.x, .int .i64 x.1.r.y, .int .i64 x.1.r.w, .int .i64 x.1.r.h, .int .i64 (-200), .int .i64 (-200), .int .i64 1000, .int .i64 1000, .string ByteArray.empty, .string ByteArray.empty, .int .i64 0, .int .i64 x.1.nd] 34 13 1 wc.heap.size rfl rfl (by simp [Value.oneCell'])
            go_wp2_with (refine wpList_append_own' rfl (.tmp 55) (.tmp 57) 25 rfl elIt so _ co _ rfl H3.out _ 1 _ _ rfl r2 (by omega) (by omega) ?_; intro so' co' w4 p1 p2 p3; have H4 := Lib.hid p1; clear p1 p2 p3)
            go_roundg (ls.length - (k + 1))
            case measure => have := Hg.out; omega
            case rel =>
              refine ⟨k + 1, so', co', rfl, by omega, by simp, rfl, ?_⟩
              rw [HGO.out]
              have h4 := H4.out
              have hgo : icells (gOf x) = (#[.int .i64 (1 + m3), .int .i64 x.1.r.x, .int .i64 x.1.r.y, .int .i64 x.1.r.w, .int .i64 x.1.r.h, .int .i64 (-200), .int .i64 (-200), .int .i64 1000, .int .i64 1000, .string ByteArray.empty, .string ByteArray.empty, .int .i64 0, .int .i64 x.1.nd]).toList := by simp [icells, gOf, itOf, HM3.out, hcl, h3]
              rw [hgo]
              exact h4
          | true =>
            rw [hcl] at d10
            go_upto_region 11 with (go_at_call 15; refine (CC.out _).mono ?_; rintro e w5 ⟨rfl, hb5⟩; have HB5 := Lib.hid (HB.out.trans (hb5.mono HB.out.size)); have HK5 := Lib.hid (HK.out.kept (S := fun _ => False) (Fr.of_below hb5) (fun q => q)); clear d0 d1 d2 d3 d4 d5 d6 d7 d8 d9 d10 d11 z0 z1 z2 z3 z4 z5 z6 z7 z8 z9 z10 z11 z12 zf0 zf1 zf2 zf3 zf4 zf5 zf6 zf7 zf8 zf9 zf10 zf11 zf12 hb5; obtain ⟨d0, d1, d2, d3, d4, d5, d6, d7, d8, d9, d10, d11⟩ := KP.out _ HB5.out; obtain ⟨z0, z1, z2, z3, z4, z5, z6, z7, z8, z9, z10, z11, z12, zf0, zf1, zf2, zf3, zf4, zf5, zf6, zf7, zf8, zf9, zf10, zf11, zf12⟩ := blk13 HK5.out)
            have HB9 := Lib.hid (Below.setCell (p := ⟨bx, 8, none⟩) (Below.setCell (p := ⟨bx, 7, none⟩) (Below.setCell (p := ⟨bx, 6, none⟩) (Below.setCell (p := ⟨bx, 5, none⟩) HB5.out hbx (.int .i64 x.1.c.x)) hbx (.int .i64 x.1.c.y)) hbx (.int .i64 x.1.c.w)) hbx (.int .i64 x.1.c.h))
            have HK9 := ((((HK5.out.set 5 (.int .i64 x.1.c.x)).set 6 (.int .i64 x.1.c.y)).set 7 (.int .i64 x.1.c.w)).set 8 (.int .i64 x.1.c.h))
            simp only [List.setIfInBounds_toArray, List.set_cons_zero, List.set_cons_succ] at HK9
            obtain ⟨W9, hW9⟩ : ∃ W9, ((((w5.setCell ⟨bx, 5, none⟩ (.int .i64 x.1.c.x)).setCell ⟨bx, 6, none⟩ (.int .i64 x.1.c.y)).setCell ⟨bx, 7, none⟩ (.int .i64 x.1.c.w)).setCell ⟨bx, 8, none⟩ (.int .i64 x.1.c.h)) = W9 := ⟨_, rfl⟩
            rw [hW9] at HB9 HK9 ⊢
            clear hW9
            clear d0 d1 d2 d3 d4 d5 d6 d7 d8 d9 d10 d11 z0 z1 z2 z3 z4 z5 z6 z7 z8 z9 z10 z11 z12 zf0 zf1 zf2 zf3 zf4 zf5 zf6 zf7 zf8 zf9 zf10 zf11 zf12
            obtain ⟨z0, z1, z2, z3, z4, z5, z6, z7, z8, z9, z10, z11, z12, -⟩ := blk13 HK9
            have H3 := Lib.hid ((Hp.out.to HB9.out).alloc (.cells #[.int .i64 (1 + m3), .int .i64 x.1.r.x, .int .i64 x.1.r.y, .int .i64 x.1.r.w, .int .i64 x.1.r.h, .int .i64 x.1.c.x, .int .i64 x.1.c.y, .int .i64 x.1.c.w, .int .i64 x.1.c.h, .string ByteArray.empty, .string ByteArray.empty, .int .i64 0, .int .i64 x.1.nd] 34))
            have r2 := rd_built_at W9 #[.int .i64 (1 + m3), .int .i64 x.1.r.x, .int .i64 x.1.r.y, .int .i64 x.1.r.w, .int .i64 x.1.r.h, .int .i64 x.1.c.x, .int .i64 x.1.c.y, .int .i64 x.1.c.w, .int .i64 x.1.c.h, .string ByteArray.empty, .string ByteArray.empty, .int .i64 0, .int .i64 x.1.nd] 34 13 1 W9.heap.size rfl rfl (by simp [Value.oneCell'])
            go_wp2_with (refine wpList_append_own' rfl (.tmp 55) (.tmp 57) 25 rfl elIt so _ co _ rfl H3.out _ 1 _ _ rfl r2 (by omega) (by omega) ?_; intro so' co' w4 p1 p2 p3; have H4 := Lib.hid p1; clear p1 p2 p3)
            go_roundg (ls.length - (k + 1))
            case measure => have := Hg.out; omega
            case rel =>
              refine ⟨k + 1, so', co', rfl, by omega, by simp, rfl, ?_⟩
              rw [HGO.out]
              have h4 := H4.out
              have hgo : icells (gOf x) = (#[.int .i64 (1 + m3), .int .i64 x.1.r.x, .int .i64 x.1.r.y, .int .i64 x.1.r.w, .int .i64 x.1.r.h, .int .i64 x.1.c.x, .int .i64 x.1.c.y, .int .i64 x.1.c.w, .int .i64 x.1.c.h, .string ByteArray.empty, .string ByteArray.empty, .int .i64 0, .int .i64 x.1.nd]).toList := by simp [icells, gOf, itOf, HM3.out, hcl, h3]
              rw [hgo]
              exact h4
    · go_wp2_with fail
      go_ret
      obtain rfl : k = ls.length := by omega
      exact ⟨so, co, rfl, by simpa using Hp.out⟩
end Go.Proofs.YtfjjgebfeklnhaaDoor
