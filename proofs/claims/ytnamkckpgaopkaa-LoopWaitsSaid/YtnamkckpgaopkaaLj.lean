/-
  slices.IndexFunc at calls and shots.
-/
import Derived.Test.YtnamkckpgaopkaaLi
import Derived.Deep.LoopGhost
set_option linter.unusedVariables false
set_option linter.unusedSimpArgs false
namespace Go.Proofs.Ytnamkckpgaopkaa
open Go.RowKit Go.K

theorem lenC (c : Cl) : c.cells.length = 7 := rfl
theorem oneC : ∀ c : Cl, ∀ u ∈ c.cells, u.oneCell' = true := by
  intro c u hu
  simp only [Cl.cells, List.mem_cons, List.not_mem_nil, or_false] at hu
  rcases hu with rfl | rfl | rfl | rfl | rfl | rfl | rfl <;> rfl
/-- the cells of an element of a row that is read -/
theorem atC {w : World} {g off n : Nat} {l : List Cl} (h : Rd w 7 (some ⟨g, off, none⟩) n (flat Cl.cells l)) {k : Nat} (hk : k < l.length) (c : Cl) (hc : l[k] = c) :
    w.cell? ⟨g, off + k * 7, none⟩ = c.cells[0]? ∧ w.cell? ⟨g, off + k * 7 + 1, none⟩ = c.cells[1]? ∧ w.cell? ⟨g, off + k * 7 + 2, none⟩ = c.cells[2]? ∧ w.cell? ⟨g, off + k * 7 + 3, none⟩ = c.cells[3]? ∧ w.cell? ⟨g, off + k * 7 + 4, none⟩ = c.cells[4]? ∧ w.cell? ⟨g, off + k * 7 + 5, none⟩ = c.cells[5]? ∧ w.cell? ⟨g, off + k * 7 + 6, none⟩ = c.cells[6]? := by
  have key : ∀ i v, i < 7 → c.cells[i]? = some v → w.cell? ⟨g, off + k * 7 + i, none⟩ = some v := fun i v hi hv => by
    have h1 := flat_at (f := Cl.cells) (sz := 7) lenC l k i hk hi
    rw [hc, hv] at h1
    have h2 := h.cells _ rfl _ _ h1
    rw [Addr.add_lit] at h2
    rwa [← Nat.add_assoc] at h2
  exact ⟨key 0 _ (by omega) rfl, key 1 _ (by omega) rfl, key 2 _ (by omega) rfl, key 3 _ (by omega) rfl, key 4 _ (by omega) rfl, key 5 _ (by omega) rfl, key 6 _ (by omega) rfl⟩
set_option maxHeartbeats 400000 in
theorem cloC (c : Cl) (id : Int) (g : Nat) (w : World) (hc : w.cell? ⟨g, 0, none⟩ = some (.int .i64 id)) :
    Calls Try.prog 65 #[.agg c.cells.toArray, .pointer (some ⟨g, 0, none⟩)] w fun e w' => e = .returned (.bool (c.id == id)) ∧ Below w.heap.size w w' := by
  obtain ⟨id, ev, vk, fn, a, an, ac⟩ := c
  unfold Cl.cells
  have hlt := World.block_lt_of_cell? _ _ hc
  simp only at hlt
  go_enter Try.func65, Try.ntmps65
  go_wp2
  go_ret
  exact ⟨rfl, (Below.refl _ _).alloc (Nat.le_refl _) _⟩
/-- the place of the first element with a number, -1 if there is none -/
def ixC (l : List Cl) (id : Int) : Int := match l.findIdx? (fun c => c.id == id) with
  | none => -1
  | some i => i
def IxRelC (l : List Cl) (id : Int) (n : Nat) (w : World) (g : Nat) (v : Value) (wr : World) : Prop :=
  ∃ k : Nat, g = n - k ∧ k ≤ n ∧ v = .int .i64 k ∧ Below w.heap.size w wr ∧ ∀ j (hj : j < l.length), j < k → (l[j].id == id) = false
set_option maxHeartbeats 1000000 in
theorem idxC (s : Option Addr) (n c : Nat) (l : List Cl) (id : Int) (gi : Nat) (w : World) (hs : Rd w 7 s n (flat Cl.cells l)) (hl : l.length = n) (hc : w.cell? ⟨gi, 0, none⟩ = some (.int .i64 id)) (hn : n ≤ 1000000) :
    Calls Try.prog 64 #[.slice s n c, .func (.func 65) #[] #[.pointer (some ⟨gi, 0, none⟩)]] w fun e w' => e = .returned (.int .i64 (ixC l id)) ∧ Below w.heap.size w w' := by
  obtain ⟨R, hR⟩ : ∃ R, ixC l id = R := ⟨_, rfl⟩
  rw [hR]
  have HR := Lib.hid hR
  have HS := Lib.hid hs
  have HL := Lib.hid hl
  have hlt := World.block_lt_of_cell? _ _ hc
  simp only at hlt
  clear hs hl hR
  go_enter Try.func64, Try.ntmps64
  go_wp2_with fail
  go_loopg [8] n (IxRelC l id n w)
  case atStart => exact ⟨0, rfl, Nat.zero_le _, rfl, Below.refl _ _, by intro j hj h; omega⟩
  case round =>
    obtain ⟨k, hg, hk, rfl, hb, hall⟩ := hrel
    have Hg := Lib.hid hg
    have HA := Lib.hid hall
    have HB := Lib.hid hb
    have hc2 : wr.cell? ⟨gi, 0, none⟩ = some (.int .i64 id) := (hb.cell hlt).trans hc
    have hsz := hb.size
    clear hg hall hb
    by_cases hkn : k < n
    · have hkt : k < l.length := by rw [HL.out]; exact hkn
      have hr := HS.out.below HB.out
      obtain ⟨g, off, rfl, -⟩ := hr.addr (by omega)
      have hkn' : (k : Int) < (n : Int) := by omega
      have hk0 : (0 : Int) ≤ (k : Int) := by omega
      obtain ⟨x, hx⟩ : ∃ x, l[k] = x := ⟨_, rfl⟩
      have HX := Lib.hid hx
      obtain ⟨e0, e1, e2, e3, e4, e5, e6⟩ := atC hr hkt x hx
      obtain ⟨yid, yev, yvk, yfn, ya, yan, yac⟩ := x
      simp only [Cl.cells, List.getElem?_cons_zero, List.getElem?_cons_succ] at e0 e1 e2 e3 e4 e5 e6
      clear hr hx
      cases hid : (yid == id) with
      | true =>
        have HID := Lib.hid hid
        clear hid
        go_wp2_with fail
        refine (cloC ⟨yid, yev, yvk, yfn, ya, yan, yac⟩ id gi _ hc2).mono ?_
        rintro e w2 ⟨rfl, hb2⟩
        have HB2 := Lib.hid hb2
        clear hb2 e0 e1 e2 e3 e4 e5 e6
        simp only [HID.out]
        go_wp2_with fail
        go_ret
        refine ⟨?_, HB.out.trans (HB2.out.mono hsz)⟩
        have hf : l.findIdx? (fun c => c.id == id) = some k := by
          rw [List.findIdx?_eq_some_iff_getElem]
          exact ⟨hkt, by rw [HX.out]; exact HID.out, fun j hj => by rw [HA.out j (by omega) hj]; decide⟩
        rw [← HR.out, ixC, hf]
        rfl
      | false =>
        have HID := Lib.hid hid
        clear hid
        go_wp2_with fail
        refine (cloC ⟨yid, yev, yvk, yfn, ya, yan, yac⟩ id gi _ hc2).mono ?_
        rintro e w2 ⟨rfl, hb2⟩
        have HB2 := Lib.hid hb2
        clear hb2 e0 e1 e2 e3 e4 e5 e6
        simp only [HID.out]
        go_wp2_with fail
        go_roundg (n - (k + 1))
        case measure => have := Hg.out; omega
        case rel => exact ⟨k + 1, rfl, by omega, by simp, HB.out.trans (HB2.out.mono hsz), fun j hj h => by
          rcases Nat.lt_or_ge j k with q | q
          · exact HA.out j hj q
          · obtain rfl : j = k := by omega
            rw [HX.out]; exact HID.out⟩
    · have hkn' : ¬ (k : Int) < (n : Int) := by omega
      go_wp2_with fail
      go_ret
      refine ⟨?_, HB.out⟩
      have hf : l.findIdx? (fun c => c.id == id) = none := by
        rw [List.findIdx?_eq_none_iff]
        intro x hx
        obtain ⟨j, hj, rfl⟩ := List.getElem_of_mem hx
        exact HA.out j hj (by rw [HL.out] at hj; omega)
      rw [← HR.out, ixC, hf]
      rfl

theorem lenH (c : Hs) : c.cells.length = 5 := rfl
theorem oneH : ∀ c : Hs, ∀ u ∈ c.cells, u.oneCell' = true := by
  intro c u hu
  simp only [Hs.cells, List.mem_cons, List.not_mem_nil, or_false] at hu
  rcases hu with rfl | rfl | rfl | rfl | rfl <;> rfl
/-- the cells of an element of a row that is read -/
theorem atH {w : World} {g off n : Nat} {l : List Hs} (h : Rd w 5 (some ⟨g, off, none⟩) n (flat Hs.cells l)) {k : Nat} (hk : k < l.length) (c : Hs) (hc : l[k] = c) :
    w.cell? ⟨g, off + k * 5, none⟩ = c.cells[0]? ∧ w.cell? ⟨g, off + k * 5 + 1, none⟩ = c.cells[1]? ∧ w.cell? ⟨g, off + k * 5 + 2, none⟩ = c.cells[2]? ∧ w.cell? ⟨g, off + k * 5 + 3, none⟩ = c.cells[3]? ∧ w.cell? ⟨g, off + k * 5 + 4, none⟩ = c.cells[4]? := by
  have key : ∀ i v, i < 5 → c.cells[i]? = some v → w.cell? ⟨g, off + k * 5 + i, none⟩ = some v := fun i v hi hv => by
    have h1 := flat_at (f := Hs.cells) (sz := 5) lenH l k i hk hi
    rw [hc, hv] at h1
    have h2 := h.cells _ rfl _ _ h1
    rw [Addr.add_lit] at h2
    rwa [← Nat.add_assoc] at h2
  exact ⟨key 0 _ (by omega) rfl, key 1 _ (by omega) rfl, key 2 _ (by omega) rfl, key 3 _ (by omega) rfl, key 4 _ (by omega) rfl⟩
set_option maxHeartbeats 400000 in
theorem cloH (c : Hs) (id : Int) (g : Nat) (w : World) (hc : w.cell? ⟨g, 0, none⟩ = some (.int .i64 id)) :
    Calls Try.prog 39 #[.agg c.cells.toArray, .pointer (some ⟨g, 0, none⟩)] w fun e w' => e = .returned (.bool (c.id == id)) ∧ Below w.heap.size w w' := by
  obtain ⟨id, fn⟩ := c
  unfold Hs.cells
  have hlt := World.block_lt_of_cell? _ _ hc
  simp only at hlt
  go_enter Try.func39, Try.ntmps39
  go_wp2
  go_ret
  exact ⟨rfl, (Below.refl _ _).alloc (Nat.le_refl _) _⟩
/-- the place of the first element with a number, -1 if there is none -/
def ixH (l : List Hs) (id : Int) : Int := match l.findIdx? (fun c => c.id == id) with
  | none => -1
  | some i => i
def IxRelH (l : List Hs) (id : Int) (n : Nat) (w : World) (g : Nat) (v : Value) (wr : World) : Prop :=
  ∃ k : Nat, g = n - k ∧ k ≤ n ∧ v = .int .i64 k ∧ Below w.heap.size w wr ∧ ∀ j (hj : j < l.length), j < k → (l[j].id == id) = false
set_option maxHeartbeats 1000000 in
theorem idxH (s : Option Addr) (n c : Nat) (l : List Hs) (id : Int) (gi : Nat) (w : World) (hs : Rd w 5 s n (flat Hs.cells l)) (hl : l.length = n) (hc : w.cell? ⟨gi, 0, none⟩ = some (.int .i64 id)) (hn : n ≤ 1000000) :
    Calls Try.prog 38 #[.slice s n c, .func (.func 39) #[] #[.pointer (some ⟨gi, 0, none⟩)]] w fun e w' => e = .returned (.int .i64 (ixH l id)) ∧ Below w.heap.size w w' := by
  obtain ⟨R, hR⟩ : ∃ R, ixH l id = R := ⟨_, rfl⟩
  rw [hR]
  have HR := Lib.hid hR
  have HS := Lib.hid hs
  have HL := Lib.hid hl
  have hlt := World.block_lt_of_cell? _ _ hc
  simp only at hlt
  clear hs hl hR
  go_enter Try.func38, Try.ntmps38
  go_wp2_with fail
  go_loopg [8] n (IxRelH l id n w)
  case atStart => exact ⟨0, rfl, Nat.zero_le _, rfl, Below.refl _ _, by intro j hj h; omega⟩
  case round =>
    obtain ⟨k, hg, hk, rfl, hb, hall⟩ := hrel
    have Hg := Lib.hid hg
    have HA := Lib.hid hall
    have HB := Lib.hid hb
    have hc2 : wr.cell? ⟨gi, 0, none⟩ = some (.int .i64 id) := (hb.cell hlt).trans hc
    have hsz := hb.size
    clear hg hall hb
    by_cases hkn : k < n
    · have hkt : k < l.length := by rw [HL.out]; exact hkn
      have hr := HS.out.below HB.out
      obtain ⟨g, off, rfl, -⟩ := hr.addr (by omega)
      have hkn' : (k : Int) < (n : Int) := by omega
      have hk0 : (0 : Int) ≤ (k : Int) := by omega
      obtain ⟨x, hx⟩ : ∃ x, l[k] = x := ⟨_, rfl⟩
      have HX := Lib.hid hx
      obtain ⟨e0, e1, e2, e3, e4⟩ := atH hr hkt x hx
      obtain ⟨yid, yfn⟩ := x
      simp only [Hs.cells, List.getElem?_cons_zero, List.getElem?_cons_succ] at e0 e1 e2 e3 e4
      clear hr hx
      cases hid : (yid == id) with
      | true =>
        have HID := Lib.hid hid
        clear hid
        go_wp2_with fail
        refine (cloH ⟨yid, yfn⟩ id gi _ hc2).mono ?_
        rintro e w2 ⟨rfl, hb2⟩
        have HB2 := Lib.hid hb2
        clear hb2 e0 e1 e2 e3 e4
        simp only [HID.out]
        go_wp2_with fail
        go_ret
        refine ⟨?_, HB.out.trans (HB2.out.mono hsz)⟩
        have hf : l.findIdx? (fun c => c.id == id) = some k := by
          rw [List.findIdx?_eq_some_iff_getElem]
          exact ⟨hkt, by rw [HX.out]; exact HID.out, fun j hj => by rw [HA.out j (by omega) hj]; decide⟩
        rw [← HR.out, ixH, hf]
        rfl
      | false =>
        have HID := Lib.hid hid
        clear hid
        go_wp2_with fail
        refine (cloH ⟨yid, yfn⟩ id gi _ hc2).mono ?_
        rintro e w2 ⟨rfl, hb2⟩
        have HB2 := Lib.hid hb2
        clear hb2 e0 e1 e2 e3 e4
        simp only [HID.out]
        go_wp2_with fail
        go_roundg (n - (k + 1))
        case measure => have := Hg.out; omega
        case rel => exact ⟨k + 1, rfl, by omega, by simp, HB.out.trans (HB2.out.mono hsz), fun j hj h => by
          rcases Nat.lt_or_ge j k with q | q
          · exact HA.out j hj q
          · obtain rfl : j = k := by omega
            rw [HX.out]; exact HID.out⟩
    · have hkn' : ¬ (k : Int) < (n : Int) := by omega
      go_wp2_with fail
      go_ret
      refine ⟨?_, HB.out⟩
      have hf : l.findIdx? (fun c => c.id == id) = none := by
        rw [List.findIdx?_eq_none_iff]
        intro x hx
        obtain ⟨j, hj, rfl⟩ := List.getElem_of_mem hx
        exact HA.out j hj (by rw [HL.out] at hj; omega)
      rw [← HR.out, ixH, hf]
      rfl

end Go.Proofs.Ytnamkckpgaopkaa
