/-
  Cascade: Lower.
-/
import Derived.Test.YtldembadjgibjaaGreatDoorAe
import Derived.Lib.ConvBytes
set_option linter.unusedVariables false
set_option linter.unusedSimpArgs false
namespace Go.Proofs.YtldembadjgibjaaGreatDoor
open Go.RowKit Go.K Go.PlainAid Go.Lib

structure MpW (w wr : World) (cs : Array Value) : Prop where
  bel : Below w.heap.size w wr
  row : wr.heap[w.heap.size]? = some (.cells cs 5 (cs.size, cs.size + 1))
theorem MpW.cell {w wr : World} {cs : Array Value} (h : MpW w wr cs) (j : Nat) : wr.cell? ⟨w.heap.size, j, none⟩ = cs[j]? := by
  simp [World.cell?, h.row]
theorem MpW.free {w wr : World} {cs : Array Value} (h : MpW w wr cs) {j : Nat} (hj : j < cs.size) : wr.frozen? ⟨w.heap.size, j, none⟩ = false := by
  simp [World.frozen?, h.row]
  omega
theorem MpW.set {w wr : World} {cs : Array Value} (h : MpW w wr cs) (j : Nat) (v : Value) : MpW w (wr.setCell ⟨w.heap.size, j, none⟩ v) (cs.setIfInBounds j v) := by
  have hf : Fr (fun k => k = w.heap.size) wr (wr.setCell ⟨w.heap.size, j, none⟩ v) := Fr.setCell (S := fun k => k = w.heap.size) (Fr.refl _ _) (fun _ => rfl) v
  refine ⟨⟨hf.os.trans h.bel.os, hf.tape.trans h.bel.tape, hf.output.trans h.bel.output, Nat.le_trans h.bel.size hf.size, fun k hk => (hf.block k (by have := h.bel.size; omega) (by omega)).trans (h.bel.block k hk)⟩, ?_⟩
  have hlt := (Array.getElem?_eq_some_iff.1 h.row)
  have hv : wr.heap[w.heap.size]'(hlt.1) = .cells cs 5 (cs.size, cs.size + 1) := hlt.2
  unfold World.setCell
  rw [Array.getElem?_eq_getElem (by simpa using hlt.1), Array.getElem_modify]
  simp [hv]
def lowB (c : UInt8) : UInt8 := if 65 ≤ c.toNat ∧ c.toNat ≤ 90 then c + 32 else c
def lowL (l : List UInt8) : List UInt8 := l.map lowB
def lowC (l : List UInt8) (k : Nat) (sp : List Value) : Array Value := (((l.take k).map lowB ++ l.drop k).map (fun b => Value.int .u8 b.toNat) ++ sp).toArray
theorem lowC_at (l : List UInt8) (k : Nat) (sp : List Value) (x : UInt8) (h : l[k]? = some x) : (lowC l k sp)[k]? = some (.int .u8 x.toNat) := by
  have hk := (List.getElem?_eq_some_iff.1 h).1
  have e : ((l.take k).map lowB ++ l.drop k)[k]? = some x := by
    rw [List.getElem?_append_right (by simp [Nat.min_eq_left (Nat.le_of_lt hk)]), List.getElem?_drop]
    simp [Nat.min_eq_left (Nat.le_of_lt hk), h]
  unfold lowC
  rw [List.getElem?_toArray, List.getElem?_append_left (by simp; omega), List.getElem?_map, e]
  rfl
theorem lowC_set (l : List UInt8) (k : Nat) (sp : List Value) (x : UInt8) (h : l[k]? = some x) : (lowC l k sp).setIfInBounds k (.int .u8 (lowB x).toNat) = lowC l (k + 1) sp := by
  have hk := (List.getElem?_eq_some_iff.1 h)
  obtain ⟨hk1, hk2⟩ := hk
  unfold lowC
  rw [List.setIfInBounds_toArray]
  congr 1
  have e1 : l.drop k = x :: l.drop (k + 1) := by rw [← hk2]; exact (List.drop_eq_getElem_cons hk1)
  have e2 : l.take (k + 1) = l.take k ++ [x] := by rw [List.take_add_one, h]; rfl
  rw [e1, e2, List.map_append, List.map_append, List.map_append, List.map_append, List.append_assoc, List.append_assoc, List.append_assoc]
  rw [List.set_append_right _ _ (by simp [Nat.min_eq_left (Nat.le_of_lt hk1)])]
  simp [Nat.min_eq_left (Nat.le_of_lt hk1)]
theorem lowC_same (l : List UInt8) (k : Nat) (sp : List Value) (x : UInt8) (h : l[k]? = some x) (hx : lowB x = x) : lowC l k sp = lowC l (k + 1) sp := by
  rw [← lowC_set l k sp x h, hx]
  apply Array.ext_getElem?
  intro i
  by_cases hi : i = k
  · subst hi
    rw [Array.getElem?_setIfInBounds_self_of_lt, lowC_at l i sp x h]
    exact (Array.getElem?_eq_some_iff.1 (lowC_at l i sp x h)).1
  · rw [Array.getElem?_setIfInBounds_ne (fun e => hi e.symm)]
theorem lowC_size (l : List UInt8) (k : Nat) (sp : List Value) : (lowC l k sp).size = l.length + sp.length := by
  unfold lowC
  simp
  omega
theorem lowB_val {x : UInt8} (h : 65 ≤ x.toNat ∧ x.toNat ≤ 90) : ((lowB x).toNat : Int) = (x.toNat : Int) + 32 := by
  unfold lowB
  rw [if_pos h]
  have : (x + 32).toNat = x.toNat + 32 := by
    rw [UInt8.toNat_add]
    have : (32 : UInt8).toNat = 32 := rfl
    omega
  omega
set_option maxRecDepth 100000 in
set_option maxHeartbeats 4000000 in
theorem mapped_any (l : List UInt8) (hl : l.length ≤ 100000) (w : World) : Calls Tryz.prog 63 #[.string (S l), .int .u8 65, .int .u8 90, .int .i64 32] w fun e w' => e = .returned (.string (S (lowL l))) ∧ Below w.heap.size w w' := by
  have hcv := Go.Lib.run_convert_string_bytes (P := Tryz.prog) w 9 91 5 (S l) Tryz.underlying9 Tryz.underlying91 Tryz.underlying5
  obtain ⟨cap, hcap⟩ : ∃ c, grownCap w (S l).size 0 5 = c := ⟨_, rfl⟩
  rw [hcap, S_size] at hcv
  obtain ⟨sp, hsp⟩ : ∃ sp : List Value, List.replicate (cap - l.length) (.int .u8 0) = sp := ⟨_, rfl⟩
  have hm : MpW w (bytesWorld w 5 (S l)) (lowC l 0 sp) := by
    have e : bytesCells w 5 (S l) = lowC l 0 sp := by
      unfold bytesCells lowC
      rw [hcap, S_size, ← hsp]
      simp
    refine ⟨Go.Joins.below_bytesWorld _ w 5 _ (Nat.le_refl _), ?_⟩
    rw [bytesWorld_at_new, e]
  obtain ⟨W1, hW1⟩ : ∃ V, bytesWorld w 5 (S l) = V := ⟨_, rfl⟩
  simp only [hW1] at hcv hm
  have HM := Lib.hid hm
  clear hm hW1 hsp hcap
  go_enter Tryz.func63, Tryz.ntmps63
  go_wp2_with fail
  clear hcv
  go_loopg [16] l.length (fun g v wr => ∃ k : Nat, g = l.length - k ∧ k ≤ l.length ∧ v = .int .i64 k ∧ MpW w wr (lowC l k sp))
  case atStart => exact ⟨0, rfl, Nat.zero_le _, rfl, HM.out⟩
  case round =>
    obtain ⟨k, hg, hk, rfl, hm⟩ := hrel
    have Hg := Lib.hid hg
    have HM2 := Lib.hid hm
    clear hg hm
    by_cases hkn : k < l.length
    · have hkI : (k : Int) < (l.length : Int) := by omega
      have hw1 := wrapS (a := (k : Int) + 1) (by omega) (by omega)
      obtain ⟨x, hx⟩ : ∃ x, l[k]? = some x := ⟨_, List.getElem?_eq_getElem hkn⟩
      have hsz := lowC_size l k sp
      have c0 : wr.cell? ⟨w.heap.size, k, none⟩ = some (.int .u8 x.toNat) := (HM2.out.cell k).trans (lowC_at l k sp x hx)
      have f0 : wr.frozen? ⟨w.heap.size, k, none⟩ = false := HM2.out.free (by omega)
      have HX := Lib.hid hx
      by_cases h1 : (65 : Int) ≤ (x.toNat : Int)
      · by_cases h2 : (x.toNat : Int) ≤ 90
        · have hv := lowB_val (x := x) ⟨by omega, by omega⟩
          have e1 := wrapS (a := (x.toNat : Int)) (by omega) (by omega)
          have e2 := wrapS (a := (x.toNat : Int) + 32) (by omega) (by omega)
          have e3 : IntKind.u8.wrap ((x.toNat : Int) + 32) = ((x.toNat : Int) + 32) := by show ((x.toNat : Int) + 32) % 256 = _; omega
          have hs := HM2.out.set k (.int .u8 (lowB x).toNat)
          rw [lowC_set l k sp x hx, hv] at hs
          have HS := Lib.hid hs
          clear hs hx hv hsz
          go_wp2_with fail
          go_roundg (l.length - (k + 1))
          case measure => have := Hg.out; omega
          case rel => exact ⟨k + 1, rfl, by omega, by rw [Int.natCast_add]; rfl, HS.out⟩
        · have hsame : lowB x = x := by unfold lowB; rw [if_neg (by omega)]
          have hs := HM2.out
          rw [lowC_same l k sp x hx hsame] at hs
          have HS := Lib.hid hs
          clear hs hx hsz hsame
          go_wp2_with fail
          go_roundg (l.length - (k + 1))
          case measure => have := Hg.out; omega
          case rel => exact ⟨k + 1, rfl, by omega, by rw [Int.natCast_add]; rfl, HS.out⟩
      · have hsame : lowB x = x := by unfold lowB; rw [if_neg (by omega)]
        have hs := HM2.out
        rw [lowC_same l k sp x hx hsame] at hs
        have HS := Lib.hid hs
        clear hs hx hsz hsame
        go_wp2_with fail
        go_roundg (l.length - (k + 1))
        case measure => have := Hg.out; omega
        case rel => exact ⟨k + 1, rfl, by omega, by rw [Int.natCast_add]; rfl, HS.out⟩
    · have hke : k = l.length := by omega
      subst hke
      have hkI : ¬ (l.length : Int) < (l.length : Int) := by omega
      have hbk := run_convert_bytes_back (P := Tryz.prog) wr 91 9 5 ⟨w.heap.size, 0, none⟩ cap (lowL l) Tryz.underlying91 Tryz.underlying5 Tryz.underlying9 (fun j hj => by
        unfold lowL at hj
        rw [List.length_map] at hj
        rw [Addr.add_lit, Nat.zero_add, HM2.out.cell j]
        unfold lowC lowL
        rw [List.take_length, List.drop_length, List.append_nil, List.getElem?_toArray, List.getElem?_append_left (by simpa using hj)]
        simp [hj])
      rw [show (lowL l).length = l.length from List.length_map _] at hbk
      go_wp2_with fail
      exact bodyPost_ret (results_tmp Tryz.results63 _ _ _) rfl ⟨rfl, HM2.out.bel⟩
set_option maxHeartbeats 4000000 in
theorem lower_any (l : List UInt8) (hl : l.length ≤ 100000) (w : World) : Calls Tryz.prog 39 #[.string (S l)] w fun e w' => e = .returned (.string (S (lowL l))) ∧ Below w.heap.size w w' := by
  have H := Lib.hid (mapped_any l hl w)
  clear hl
  go_enter Tryz.func39, Tryz.ntmps39
  go_wp2_with (go_at_call 63; refine H.out.mono ?_; rintro e w1 ⟨rfl, hb⟩)
  exact bodyPost_ret (results_tmp Tryz.results39 _ _ _) rfl ⟨rfl, hb⟩
end Go.Proofs.YtldembadjgibjaaGreatDoor
