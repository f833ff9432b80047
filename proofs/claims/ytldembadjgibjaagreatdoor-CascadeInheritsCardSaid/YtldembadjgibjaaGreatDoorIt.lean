/-
  Cascade: strconv.Itoa, whatever the table uint64pow10 holds.
-/
import Derived.Test.YtldembadjgibjaaGreatDoorAe
import Derived.Shelf.Strconv.Itoa0
import Derived.Shelf.Strconv.Itoa1
import Derived.Shelf.Strconv.Itoa2
import Derived.Lib.ItoaLen
import Derived.Lib.ItoaMem
import Derived.Shelf.RegionOpenPlain
import Derived.Lib.ItoaWalk
import Derived.WalkKit
import Derived.RegionTactic
import Derived.BigCall
import Derived.BigGuard
import Derived.CellFam
set_option linter.unusedVariables false
set_option linter.unusedSimpArgs false
namespace Go.Proofs
open Go.Shelf
def Tryz.lays129_ren : Go.Shelf.Ren := ⟨fun | 129 => 165 | n => n, fun | 53 => 173 | 3 => 3 | 4 => 4 | 46 => 151 | 5 => 5 | 9 => 9 | n => n, fun | n => n⟩
theorem Tryz.lays129 : Go.Proofs.Lays.n129 Tryz.prog Tryz.lays129_ren := {
  mixed := by kernel_rfl
  f129 := Tryz.func165.trans (congrArg some (by kernel_rfl))
  t3 := Tryz.underlying3
  a3 := Tryz.isAgg3
  z3 := Tryz.sizeOf3
  v3 := Tryz.zeroValue3
  t4 := Tryz.underlying4
  a4 := Tryz.isAgg4
  z4 := Tryz.sizeOf4
  v4 := Tryz.zeroValue4
  t5 := Tryz.underlying5
  a5 := Tryz.isAgg5
  z5 := Tryz.sizeOf5
  v5 := Tryz.zeroValue5
  t9 := Tryz.underlying9
  a9 := Tryz.isAgg9
  z9 := Tryz.sizeOf9
  v9 := Tryz.zeroValue9
  t46 := Tryz.underlying151
  a46 := Tryz.isAgg151
  z46 := Tryz.sizeOf151
  v46 := Tryz.zeroValue151
  t53 := Tryz.underlying173
  a53 := Tryz.isAgg173
  z53 := Tryz.sizeOf173
  v53 := Tryz.zeroValue173 }
/-- bits.Len64: "Len64 returns the minimum number of bits required to represent x; the result is 0 for x == 0.": IT RETURNS 'Lib.bitLen x'; the world is as it was. ('h0', 'h1': x is a uint64.) (LAID: no walk: one application.) -/
theorem Tryz.bits_Len64 (x : Int) (w : World) (h0 : 0 ≤ x) (h1 : x ≤ 18446744073709551615) :
    Calls Tryz.prog 165 #[.int .u64 x] w fun e w' => e = .returned (.int .i64 (Lib.bitLen x.toNat)) ∧ w' = w := Any.bits_Len64 Tryz.lays129 x w h0 h1
def Tryz.lays317_ren : Go.Shelf.Ren := ⟨fun | 317 => 164 | n => n, fun | 3 => 3 | 46 => 151 | n => n, fun | n => n⟩
theorem Tryz.lays317 : Go.Proofs.Lays.n317 Tryz.prog Tryz.lays317_ren := {
  mixed := by kernel_rfl
  f317 := Tryz.func164.trans (congrArg some (by kernel_rfl))
  t3 := Tryz.underlying3
  a3 := Tryz.isAgg3
  z3 := Tryz.sizeOf3
  v3 := Tryz.zeroValue3
  t46 := Tryz.underlying151
  a46 := Tryz.isAgg151
  z46 := Tryz.sizeOf151
  v46 := Tryz.zeroValue151 }
open Go.Lib in
/-- internal/strconv.log10Pow2: "log10Pow2(x) returns ⌊log₁₀ 2**x⌋ = ⌊x * log₁₀ 2⌋.": '(x * 78913) >> 18', at an x up to 64 (a length in bits). The world is as it was. (LAID: no walk: one application.) -/
theorem Tryz.internal_strconv_log10Pow2 (x : Nat) (h : x ≤ 64) (w : World) :
    Calls Tryz.prog 164 #[.int .i64 x] w fun e w' => e = .returned (.int .i64 (Lib.l10 x)) ∧ w' = w := Any.internal_strconv_log10Pow2 Tryz.lays317 x h w
def Tryz.lays318_ren : Go.Shelf.Ren := ⟨fun | 318 => 166 | n => n, fun | 3 => 3 | 4 => 4 | n => n, fun | n => n⟩
theorem Tryz.lays318 : Go.Proofs.Lays.n318 Tryz.prog Tryz.lays318_ren := {
  mixed := by kernel_rfl
  f318 := Tryz.func166.trans (congrArg some (by kernel_rfl))
  t3 := Tryz.underlying3
  a3 := Tryz.isAgg3
  z3 := Tryz.sizeOf3
  v3 := Tryz.zeroValue3
  t4 := Tryz.underlying4
  a4 := Tryz.isAgg4
  z4 := Tryz.sizeOf4
  v4 := Tryz.zeroValue4 }
open Go.Lib in
/-- internal/strconv.bool2: "bool2 converts b to an integer: 1 for true, 0 for false." The world is as it was. (LAID: no walk: one application.) -/
theorem Tryz.internal_strconv_bool2_int (b : Bool) (w : World) :
    Calls Tryz.prog 166 #[.bool b] w fun e w' => e = .returned (.int .i64 (if b then 1 else 0)) ∧ w' = w := Any.internal_strconv_bool2_int Tryz.lays318 b w
def Tryz.lays283_ren : Go.Shelf.Ren := ⟨fun | 283 => 153 | n => n, fun | 3 => 3 | 9 => 9 | 4 => 4 | n => n, fun | n => n⟩
theorem Tryz.lays283 : Go.Proofs.Lays.n283 Tryz.prog Tryz.lays283_ren := {
  mixed := by kernel_rfl
  f283 := Tryz.func153.trans (congrArg some (by kernel_rfl))
  t3 := Tryz.underlying3
  a3 := Tryz.isAgg3
  z3 := Tryz.sizeOf3
  v3 := Tryz.zeroValue3
  t4 := Tryz.underlying4
  a4 := Tryz.isAgg4
  z4 := Tryz.sizeOf4
  v4 := Tryz.zeroValue4
  t9 := Tryz.underlying9
  a9 := Tryz.isAgg9
  z9 := Tryz.sizeOf9
  v9 := Tryz.zeroValue9 }
open Go.Lib in
/-- internal/strconv.small: "small returns the string for an i with 0 <= i < nSmalls.": i's decimal numeral. The world is as it was. (LAID: no walk: one application.) -/
theorem Tryz.internal_strconv_small (i : Nat) (h : i < 100) (w : World) :
    Calls Tryz.prog 153 #[.int .i64 i] w fun e w' => e = .returned (.string ⟨(Lib.decDigits i).toArray⟩) ∧ w' = w := Any.internal_strconv_small Tryz.lays283 i h w
end Go.Proofs
namespace Go.Proofs.YtldembadjgibjaaGreatDoor
open Go.RowKit Go.K Go.PlainAid Go.Lib Go.Sort

abbrev VB : UInt8 → Value := (fun (b : UInt8) => Value.int .u8 (b.toNat : Int))
/-- two digits are written -/
def stp (dk : Array UInt8) (i v : Nat) : Array UInt8 := (dk.setIfInBounds (i + 1) (sm (v % 100 * 2 + 1))).setIfInBounds i (sm (v % 100 * 2))
theorem stp_size (dk : Array UInt8) (i v : Nat) : (stp dk i v).size = dk.size := by unfold stp; simp
abbrev rep0 (n : Nat) : Array UInt8 := Array.replicate n 0
/-- what formatBase10 leaves in nd places -/
def fbA (nd u : Nat) : Array UInt8 :=
  if nd = 2 then stp (rep0 2) 0 u
  else if nd = 3 then (stp (rep0 3) 1 u).setIfInBounds 0 (UInt8.ofNat (48 + u / 100))
  else if nd = 4 then stp (stp (rep0 4) 2 u) 0 (u / 100)
  else if nd = 5 then (stp (stp (rep0 5) 3 u) 1 (u / 100)).setIfInBounds 0 (UInt8.ofNat (48 + u / 100 / 100))
  else if nd = 6 then stp (stp (stp (rep0 6) 4 u) 2 (u / 100)) 0 (u / 100 / 100)
  else (stp (stp (stp (rep0 7) 5 u) 3 (u / 100)) 1 (u / 100 / 100)).setIfInBounds 0 (UInt8.ofNat (48 + u / 100 / 100 / 100))
set_option maxHeartbeats 6400000 in
set_option maxRecDepth 100000 in
theorem fb2 (blk off cap u : Nat) (hu : u ≤ 1049000) (w : World) (hH : Holds VB w blk off (rep0 2)) :
    Calls Tryz.prog 155 #[.slice (some ⟨blk, off, none⟩) 2 cap, .int .u64 u] w fun e w' => e = .returned (.tuple #[]) ∧ ∃ n, w' = (putRow VB w blk off (fbA 2 u)).drewN n := by
  obtain ⟨D0, hD0⟩ : ∃ z, rep0 2 = z := ⟨_, rfl⟩
  have hsz : D0.size = 2 := by rw [← hD0]; simp
  have hfb : fbA 2 u = stp D0 0 (u) := by rw [← hD0]; rfl
  rw [hfb]
  rw [hD0] at hH
  clear hD0 hfb
  have mixed : Tryz.prog.follows .mixedOrders = true := by kernel_rfl
  have AH := Lib.hid hH
  clear hH
  go_enter Tryz.func155, Tryz.ntmps155
  go_name_bytes SM hSM
  have eSM : SM = Lib.smalls := by rw [← hSM]; decide +kernel
  subst eSM
  clear hSM
  go_wp2
  go_loopw [1, 4] (fun vu vn wr => vu = .int .u64 u ∧ vn = .int .i64 2 ∧ wr = (putRow VB w blk off D0).drewN 0) (fun _ vn _ => 0)
  case atStart => exact ⟨rfl, rfl, (putRow_self _ _ _ _ _ AH.out).symm⟩
  case round =>
    obtain ⟨rfl, rfl, hw0⟩ := hrel
    rename World => W0
    have hs0 : D0.size = 2 := hsz
    have hH0 : Holds VB W0 blk off D0 := by rw [hw0]; exact holds_putRow _ w blk off D0 D0 AH.out rfl
    obtain ⟨G0, hG0⟩ : ∃ G : Nat → Int, ∀ t, G t = (D0[t]!.toNat : Int) := ⟨_, fun _ => rfl⟩
    have hc0 : ∀ t, t < 2 → W0.cell? ⟨blk, off + t, none⟩ = some (.int .u8 (G0 t)) := fun t ht => by rw [hG0]; exact (hH0 t (by omega)).1
    have hf0 : ∀ t, t < 2 → W0.frozen? ⟨blk, off + t, none⟩ = false := fun t ht => (hH0 t (by omega)).2
    have AW0 := Lib.hid hw0
    have AS0 := Lib.hid hs0
    clear hw0 hG0 hH0 hs0
    have AZ := Lib.hid hsz; clear hsz
    go_wp2
    go_name_slot 16 x0 hx0
    have hxe0 : x0 = ((u % 100 * 2 : Nat) : Int) := by omega
    have hXa0 : ∀ w, (Instr.index 9 (.string Lib.smalls) (.int .u32 (x0 + 1))).run Tryz.prog w = .ok (.int .u8 ((sm (u % 100 * 2 + 1)).toNat : Int)) w := idx_smalls 9 Tryz.underlying9 .u32 _ _ (by omega) (by omega)
    have hXb0 : ∀ w, (Instr.index 9 (.string Lib.smalls) (.int .u32 x0)).run Tryz.prog w = .ok (.int .u8 ((sm (u % 100 * 2)).toNat : Int)) w := idx_smalls 9 Tryz.underlying9 .u32 _ _ (by omega) (by omega)
    have hlo0 : 0 ≤ x0 := by omega
    have hhi0 : x0 ≤ 198 := by omega
    clear hx0 hxe0
    go_region_o
    go_wp2
    go_end0
    refine ⟨rfl, 0 + 1, ?_⟩
    rw [AW0.out]
    exact store2_world w blk off D0 0 (0 + 1) (0) _ _ (by have := AS0.out; omega) (by have := AS0.out; omega)
set_option maxHeartbeats 6400000 in
set_option maxRecDepth 100000 in
theorem fb3 (blk off cap u : Nat) (hu : u ≤ 1049000) (w : World) (hH : Holds VB w blk off (rep0 3)) :
    Calls Tryz.prog 155 #[.slice (some ⟨blk, off, none⟩) 3 cap, .int .u64 u] w fun e w' => e = .returned (.tuple #[]) ∧ ∃ n, w' = (putRow VB w blk off (fbA 3 u)).drewN n := by
  obtain ⟨D0, hD0⟩ : ∃ z, rep0 3 = z := ⟨_, rfl⟩
  have hsz : D0.size = 3 := by rw [← hD0]; simp
  have hfb : fbA 3 u = (stp D0 1 (u)).setIfInBounds 0 (UInt8.ofNat (48 + u / 100)) := by rw [← hD0]; rfl
  rw [hfb]
  rw [hD0] at hH
  clear hD0 hfb
  have mixed : Tryz.prog.follows .mixedOrders = true := by kernel_rfl
  have AH := Lib.hid hH
  clear hH
  go_enter Tryz.func155, Tryz.ntmps155
  go_name_bytes SM hSM
  have eSM : SM = Lib.smalls := by rw [← hSM]; decide +kernel
  subst eSM
  clear hSM
  go_wp2
  go_loopw [1, 4] (fun vu vn wr => vu = .int .u64 u ∧ vn = .int .i64 3 ∧ wr = (putRow VB w blk off D0).drewN 0) (fun _ vn _ => 0)
  case atStart => exact ⟨rfl, rfl, (putRow_self _ _ _ _ _ AH.out).symm⟩
  case round =>
    obtain ⟨rfl, rfl, hw0⟩ := hrel
    rename World => W0
    have hs0 : D0.size = 3 := hsz
    have hH0 : Holds VB W0 blk off D0 := by rw [hw0]; exact holds_putRow _ w blk off D0 D0 AH.out rfl
    obtain ⟨G0, hG0⟩ : ∃ G : Nat → Int, ∀ t, G t = (D0[t]!.toNat : Int) := ⟨_, fun _ => rfl⟩
    have hc0 : ∀ t, t < 3 → W0.cell? ⟨blk, off + t, none⟩ = some (.int .u8 (G0 t)) := fun t ht => by rw [hG0]; exact (hH0 t (by omega)).1
    have hf0 : ∀ t, t < 3 → W0.frozen? ⟨blk, off + t, none⟩ = false := fun t ht => (hH0 t (by omega)).2
    have AW0 := Lib.hid hw0
    have AS0 := Lib.hid hs0
    clear hw0 hG0 hH0 hs0
    have AZ := Lib.hid hsz; clear hsz
    go_wp2
    go_name_slot 16 x0 hx0
    have hxe0 : x0 = ((u % 100 * 2 : Nat) : Int) := by omega
    have hXa0 : ∀ w, (Instr.index 9 (.string Lib.smalls) (.int .u32 (x0 + 1))).run Tryz.prog w = .ok (.int .u8 ((sm (u % 100 * 2 + 1)).toNat : Int)) w := idx_smalls 9 Tryz.underlying9 .u32 _ _ (by omega) (by omega)
    have hXb0 : ∀ w, (Instr.index 9 (.string Lib.smalls) (.int .u32 x0)).run Tryz.prog w = .ok (.int .u8 ((sm (u % 100 * 2)).toNat : Int)) w := idx_smalls 9 Tryz.underlying9 .u32 _ _ (by omega) (by omega)
    have hlo0 : 0 ≤ x0 := by omega
    have hhi0 : x0 ≤ 198 := by omega
    clear hx0 hxe0
    go_region_o
    go_wp2
    go_end0
    refine ⟨rfl, 0 + 1, ?_⟩
    rw [AW0.out]
    exact store21_world w blk off D0 0 (1 + 1) (1) _ _ _ (u / 100) (by omega) (by have := AS0.out; omega) (by have := AS0.out; omega)
set_option maxHeartbeats 6400000 in
set_option maxRecDepth 100000 in
theorem fb4 (blk off cap u : Nat) (hu : u ≤ 1049000) (w : World) (hH : Holds VB w blk off (rep0 4)) :
    Calls Tryz.prog 155 #[.slice (some ⟨blk, off, none⟩) 4 cap, .int .u64 u] w fun e w' => e = .returned (.tuple #[]) ∧ ∃ n, w' = (putRow VB w blk off (fbA 4 u)).drewN n := by
  obtain ⟨D0, hD0⟩ : ∃ z, rep0 4 = z := ⟨_, rfl⟩
  have hsz : D0.size = 4 := by rw [← hD0]; simp
  have hfb : fbA 4 u = stp (stp D0 2 (u)) 0 (u / 100) := by rw [← hD0]; rfl
  rw [hfb]
  rw [hD0] at hH
  clear hD0 hfb
  have mixed : Tryz.prog.follows .mixedOrders = true := by kernel_rfl
  have AH := Lib.hid hH
  clear hH
  go_enter Tryz.func155, Tryz.ntmps155
  go_name_bytes SM hSM
  have eSM : SM = Lib.smalls := by rw [← hSM]; decide +kernel
  subst eSM
  clear hSM
  go_wp2
  go_loopw [1, 4] (fun vu vn wr => vu = .int .u64 u ∧ vn = .int .i64 4 ∧ wr = (putRow VB w blk off D0).drewN 0) (fun _ vn _ => 0)
  case atStart => exact ⟨rfl, rfl, (putRow_self _ _ _ _ _ AH.out).symm⟩
  case round =>
    obtain ⟨rfl, rfl, hw0⟩ := hrel
    rename World => W0
    have hs0 : D0.size = 4 := hsz
    have hH0 : Holds VB W0 blk off D0 := by rw [hw0]; exact holds_putRow _ w blk off D0 D0 AH.out rfl
    obtain ⟨G0, hG0⟩ : ∃ G : Nat → Int, ∀ t, G t = (D0[t]!.toNat : Int) := ⟨_, fun _ => rfl⟩
    have hc0 : ∀ t, t < 4 → W0.cell? ⟨blk, off + t, none⟩ = some (.int .u8 (G0 t)) := fun t ht => by rw [hG0]; exact (hH0 t (by omega)).1
    have hf0 : ∀ t, t < 4 → W0.frozen? ⟨blk, off + t, none⟩ = false := fun t ht => (hH0 t (by omega)).2
    have AW0 := Lib.hid hw0
    have AS0 := Lib.hid hs0
    clear hw0 hG0 hH0 hs0
    have AZ := Lib.hid hsz; clear hsz
    go_wp2
    go_name_slot 15 x0 hx0
    have hxe0 : x0 = ((u % 100 * 2 : Nat) : Int) := by omega
    have hXa0 : ∀ w, (Instr.index 9 (.string Lib.smalls) (.int .u32 (x0 + 1))).run Tryz.prog w = .ok (.int .u8 ((sm (u % 100 * 2 + 1)).toNat : Int)) w := idx_smalls 9 Tryz.underlying9 .u32 _ _ (by omega) (by omega)
    have hXb0 : ∀ w, (Instr.index 9 (.string Lib.smalls) (.int .u32 x0)).run Tryz.prog w = .ok (.int .u8 ((sm (u % 100 * 2)).toNat : Int)) w := idx_smalls 9 Tryz.underlying9 .u32 _ _ (by omega) (by omega)
    have hlo0 : 0 ≤ x0 := by omega
    have hhi0 : x0 ≤ 198 := by omega
    clear hx0 hxe0
    go_region_o
    go_wp2
    go_name_world W1 hW1
    have hw1 : W1 = (putRow VB w blk off (stp D0 2 (u))).drewN (0 + 1) := by rw [← hW1]; exact (by rw [AW0.out]; exact store2_world w blk off D0 0 (2 + 1) (2) _ _ (by have := AS0.out; omega) (by have := AS0.out; omega))
    obtain ⟨D1, hd1⟩ : ∃ z, stp D0 2 (u) = z := ⟨_, rfl⟩
    rw [hd1] at hw1
    have hs0 := AS0.out
    have AD1 := Lib.hid hd1
    clear hW1 hc0 hf0 hXa0 hXb0 AW0 AS0
    have hs1 : D1.size = 4 := by rw [← hd1, stp_size]; exact hs0
    have hH1 : Holds VB W1 blk off D1 := by rw [hw1]; exact holds_putRow _ w blk off D0 D1 AH.out (hs1.trans AZ.out.symm)
    obtain ⟨G1, hG1⟩ : ∃ G : Nat → Int, ∀ t, G t = (D1[t]!.toNat : Int) := ⟨_, fun _ => rfl⟩
    have hc1 : ∀ t, t < 4 → W1.cell? ⟨blk, off + t, none⟩ = some (.int .u8 (G1 t)) := fun t ht => by rw [hG1]; exact (hH1 t (by omega)).1
    have hf1 : ∀ t, t < 4 → W1.frozen? ⟨blk, off + t, none⟩ = false := fun t ht => (hH1 t (by omega)).2
    have AW1 := Lib.hid hw1
    have AS1 := Lib.hid hs1
    clear hw1 hG1 hH1 hs1
    clear hd1 hs0
    go_name_slot 14 x1 hx1
    have hxe1 : x1 = ((u / 100 % 100 * 2 : Nat) : Int) := by omega
    have hXa1 : ∀ w, (Instr.index 9 (.string Lib.smalls) (.int .u32 (x1 + 1))).run Tryz.prog w = .ok (.int .u8 ((sm (u / 100 % 100 * 2 + 1)).toNat : Int)) w := idx_smalls 9 Tryz.underlying9 .u32 _ _ (by omega) (by omega)
    have hXb1 : ∀ w, (Instr.index 9 (.string Lib.smalls) (.int .u32 x1)).run Tryz.prog w = .ok (.int .u8 ((sm (u / 100 % 100 * 2)).toNat : Int)) w := idx_smalls 9 Tryz.underlying9 .u32 _ _ (by omega) (by omega)
    have hlo1 : 0 ≤ x1 := by omega
    have hhi1 : x1 ≤ 198 := by omega
    clear hx1 hxe1
    go_region_o
    go_wp2
    go_end0
    refine ⟨rfl, 1 + 1, ?_⟩
    rw [AD1.out]
    rw [AW1.out]
    exact store2_world w blk off D1 1 (0 + 1) (0) _ _ (by have := AS1.out; omega) (by have := AS1.out; omega)
set_option maxHeartbeats 6400000 in
set_option maxRecDepth 100000 in
theorem fb5 (blk off cap u : Nat) (hu : u ≤ 1049000) (w : World) (hH : Holds VB w blk off (rep0 5)) :
    Calls Tryz.prog 155 #[.slice (some ⟨blk, off, none⟩) 5 cap, .int .u64 u] w fun e w' => e = .returned (.tuple #[]) ∧ ∃ n, w' = (putRow VB w blk off (fbA 5 u)).drewN n := by
  obtain ⟨D0, hD0⟩ : ∃ z, rep0 5 = z := ⟨_, rfl⟩
  have hsz : D0.size = 5 := by rw [← hD0]; simp
  have hfb : fbA 5 u = (stp (stp D0 3 (u)) 1 (u / 100)).setIfInBounds 0 (UInt8.ofNat (48 + u / 100 / 100)) := by rw [← hD0]; rfl
  rw [hfb]
  rw [hD0] at hH
  clear hD0 hfb
  have mixed : Tryz.prog.follows .mixedOrders = true := by kernel_rfl
  have AH := Lib.hid hH
  clear hH
  go_enter Tryz.func155, Tryz.ntmps155
  go_name_bytes SM hSM
  have eSM : SM = Lib.smalls := by rw [← hSM]; decide +kernel
  subst eSM
  clear hSM
  go_wp2
  go_loopw [1, 4] (fun vu vn wr => vu = .int .u64 u ∧ vn = .int .i64 5 ∧ wr = (putRow VB w blk off D0).drewN 0) (fun _ vn _ => 0)
  case atStart => exact ⟨rfl, rfl, (putRow_self _ _ _ _ _ AH.out).symm⟩
  case round =>
    obtain ⟨rfl, rfl, hw0⟩ := hrel
    rename World => W0
    have hs0 : D0.size = 5 := hsz
    have hH0 : Holds VB W0 blk off D0 := by rw [hw0]; exact holds_putRow _ w blk off D0 D0 AH.out rfl
    obtain ⟨G0, hG0⟩ : ∃ G : Nat → Int, ∀ t, G t = (D0[t]!.toNat : Int) := ⟨_, fun _ => rfl⟩
    have hc0 : ∀ t, t < 5 → W0.cell? ⟨blk, off + t, none⟩ = some (.int .u8 (G0 t)) := fun t ht => by rw [hG0]; exact (hH0 t (by omega)).1
    have hf0 : ∀ t, t < 5 → W0.frozen? ⟨blk, off + t, none⟩ = false := fun t ht => (hH0 t (by omega)).2
    have AW0 := Lib.hid hw0
    have AS0 := Lib.hid hs0
    clear hw0 hG0 hH0 hs0
    have AZ := Lib.hid hsz; clear hsz
    go_wp2
    go_name_slot 15 x0 hx0
    have hxe0 : x0 = ((u % 100 * 2 : Nat) : Int) := by omega
    have hXa0 : ∀ w, (Instr.index 9 (.string Lib.smalls) (.int .u32 (x0 + 1))).run Tryz.prog w = .ok (.int .u8 ((sm (u % 100 * 2 + 1)).toNat : Int)) w := idx_smalls 9 Tryz.underlying9 .u32 _ _ (by omega) (by omega)
    have hXb0 : ∀ w, (Instr.index 9 (.string Lib.smalls) (.int .u32 x0)).run Tryz.prog w = .ok (.int .u8 ((sm (u % 100 * 2)).toNat : Int)) w := idx_smalls 9 Tryz.underlying9 .u32 _ _ (by omega) (by omega)
    have hlo0 : 0 ≤ x0 := by omega
    have hhi0 : x0 ≤ 198 := by omega
    clear hx0 hxe0
    go_region_o
    go_wp2
    go_name_world W1 hW1
    have hw1 : W1 = (putRow VB w blk off (stp D0 3 (u))).drewN (0 + 1) := by rw [← hW1]; exact (by rw [AW0.out]; exact store2_world w blk off D0 0 (3 + 1) (3) _ _ (by have := AS0.out; omega) (by have := AS0.out; omega))
    obtain ⟨D1, hd1⟩ : ∃ z, stp D0 3 (u) = z := ⟨_, rfl⟩
    rw [hd1] at hw1
    have hs0 := AS0.out
    have AD1 := Lib.hid hd1
    clear hW1 hc0 hf0 hXa0 hXb0 AW0 AS0
    have hs1 : D1.size = 5 := by rw [← hd1, stp_size]; exact hs0
    have hH1 : Holds VB W1 blk off D1 := by rw [hw1]; exact holds_putRow _ w blk off D0 D1 AH.out (hs1.trans AZ.out.symm)
    obtain ⟨G1, hG1⟩ : ∃ G : Nat → Int, ∀ t, G t = (D1[t]!.toNat : Int) := ⟨_, fun _ => rfl⟩
    have hc1 : ∀ t, t < 5 → W1.cell? ⟨blk, off + t, none⟩ = some (.int .u8 (G1 t)) := fun t ht => by rw [hG1]; exact (hH1 t (by omega)).1
    have hf1 : ∀ t, t < 5 → W1.frozen? ⟨blk, off + t, none⟩ = false := fun t ht => (hH1 t (by omega)).2
    have AW1 := Lib.hid hw1
    have AS1 := Lib.hid hs1
    clear hw1 hG1 hH1 hs1
    clear hd1 hs0
    go_name_slot 14 x1 hx1
    have hxe1 : x1 = ((u / 100 % 100 * 2 : Nat) : Int) := by omega
    have hXa1 : ∀ w, (Instr.index 9 (.string Lib.smalls) (.int .u32 (x1 + 1))).run Tryz.prog w = .ok (.int .u8 ((sm (u / 100 % 100 * 2 + 1)).toNat : Int)) w := idx_smalls 9 Tryz.underlying9 .u32 _ _ (by omega) (by omega)
    have hXb1 : ∀ w, (Instr.index 9 (.string Lib.smalls) (.int .u32 x1)).run Tryz.prog w = .ok (.int .u8 ((sm (u / 100 % 100 * 2)).toNat : Int)) w := idx_smalls 9 Tryz.underlying9 .u32 _ _ (by omega) (by omega)
    have hlo1 : 0 ≤ x1 := by omega
    have hhi1 : x1 ≤ 198 := by omega
    clear hx1 hxe1
    go_region_o
    go_wp2
    go_end0
    refine ⟨rfl, 1 + 1, ?_⟩
    rw [AD1.out]
    rw [AW1.out]
    exact store21_world w blk off D1 1 (1 + 1) (1) _ _ _ (u / 100 / 100) (by omega) (by have := AS1.out; omega) (by have := AS1.out; omega)
set_option maxHeartbeats 6400000 in
set_option maxRecDepth 100000 in
theorem fb6 (blk off cap u : Nat) (hu : u ≤ 1049000) (w : World) (hH : Holds VB w blk off (rep0 6)) :
    Calls Tryz.prog 155 #[.slice (some ⟨blk, off, none⟩) 6 cap, .int .u64 u] w fun e w' => e = .returned (.tuple #[]) ∧ ∃ n, w' = (putRow VB w blk off (fbA 6 u)).drewN n := by
  obtain ⟨D0, hD0⟩ : ∃ z, rep0 6 = z := ⟨_, rfl⟩
  have hsz : D0.size = 6 := by rw [← hD0]; simp
  have hfb : fbA 6 u = stp (stp (stp D0 4 (u)) 2 (u / 100)) 0 (u / 100 / 100) := by rw [← hD0]; rfl
  rw [hfb]
  rw [hD0] at hH
  clear hD0 hfb
  have mixed : Tryz.prog.follows .mixedOrders = true := by kernel_rfl
  have AH := Lib.hid hH
  clear hH
  go_enter Tryz.func155, Tryz.ntmps155
  go_name_bytes SM hSM
  have eSM : SM = Lib.smalls := by rw [← hSM]; decide +kernel
  subst eSM
  clear hSM
  go_wp2
  go_loopw [1, 4] (fun vu vn wr => vu = .int .u64 u ∧ vn = .int .i64 6 ∧ wr = (putRow VB w blk off D0).drewN 0) (fun _ vn _ => 0)
  case atStart => exact ⟨rfl, rfl, (putRow_self _ _ _ _ _ AH.out).symm⟩
  case round =>
    obtain ⟨rfl, rfl, hw0⟩ := hrel
    rename World => W0
    have hs0 : D0.size = 6 := hsz
    have hH0 : Holds VB W0 blk off D0 := by rw [hw0]; exact holds_putRow _ w blk off D0 D0 AH.out rfl
    obtain ⟨G0, hG0⟩ : ∃ G : Nat → Int, ∀ t, G t = (D0[t]!.toNat : Int) := ⟨_, fun _ => rfl⟩
    have hc0 : ∀ t, t < 6 → W0.cell? ⟨blk, off + t, none⟩ = some (.int .u8 (G0 t)) := fun t ht => by rw [hG0]; exact (hH0 t (by omega)).1
    have hf0 : ∀ t, t < 6 → W0.frozen? ⟨blk, off + t, none⟩ = false := fun t ht => (hH0 t (by omega)).2
    have AW0 := Lib.hid hw0
    have AS0 := Lib.hid hs0
    clear hw0 hG0 hH0 hs0
    have AZ := Lib.hid hsz; clear hsz
    go_wp2
    go_name_slot 15 x0 hx0
    have hxe0 : x0 = ((u % 100 * 2 : Nat) : Int) := by omega
    have hXa0 : ∀ w, (Instr.index 9 (.string Lib.smalls) (.int .u32 (x0 + 1))).run Tryz.prog w = .ok (.int .u8 ((sm (u % 100 * 2 + 1)).toNat : Int)) w := idx_smalls 9 Tryz.underlying9 .u32 _ _ (by omega) (by omega)
    have hXb0 : ∀ w, (Instr.index 9 (.string Lib.smalls) (.int .u32 x0)).run Tryz.prog w = .ok (.int .u8 ((sm (u % 100 * 2)).toNat : Int)) w := idx_smalls 9 Tryz.underlying9 .u32 _ _ (by omega) (by omega)
    have hlo0 : 0 ≤ x0 := by omega
    have hhi0 : x0 ≤ 198 := by omega
    clear hx0 hxe0
    go_region_o
    go_wp2
    go_name_world W1 hW1
    have hw1 : W1 = (putRow VB w blk off (stp D0 4 (u))).drewN (0 + 1) := by rw [← hW1]; exact (by rw [AW0.out]; exact store2_world w blk off D0 0 (4 + 1) (4) _ _ (by have := AS0.out; omega) (by have := AS0.out; omega))
    obtain ⟨D1, hd1⟩ : ∃ z, stp D0 4 (u) = z := ⟨_, rfl⟩
    rw [hd1] at hw1
    have hs0 := AS0.out
    have AD1 := Lib.hid hd1
    clear hW1 hc0 hf0 hXa0 hXb0 AW0 AS0
    have hs1 : D1.size = 6 := by rw [← hd1, stp_size]; exact hs0
    have hH1 : Holds VB W1 blk off D1 := by rw [hw1]; exact holds_putRow _ w blk off D0 D1 AH.out (hs1.trans AZ.out.symm)
    obtain ⟨G1, hG1⟩ : ∃ G : Nat → Int, ∀ t, G t = (D1[t]!.toNat : Int) := ⟨_, fun _ => rfl⟩
    have hc1 : ∀ t, t < 6 → W1.cell? ⟨blk, off + t, none⟩ = some (.int .u8 (G1 t)) := fun t ht => by rw [hG1]; exact (hH1 t (by omega)).1
    have hf1 : ∀ t, t < 6 → W1.frozen? ⟨blk, off + t, none⟩ = false := fun t ht => (hH1 t (by omega)).2
    have AW1 := Lib.hid hw1
    have AS1 := Lib.hid hs1
    clear hw1 hG1 hH1 hs1
    clear hd1 hs0
    go_name_slot 14 x1 hx1
    have hxe1 : x1 = ((u / 100 % 100 * 2 : Nat) : Int) := by omega
    have hXa1 : ∀ w, (Instr.index 9 (.string Lib.smalls) (.int .u32 (x1 + 1))).run Tryz.prog w = .ok (.int .u8 ((sm (u / 100 % 100 * 2 + 1)).toNat : Int)) w := idx_smalls 9 Tryz.underlying9 .u32 _ _ (by omega) (by omega)
    have hXb1 : ∀ w, (Instr.index 9 (.string Lib.smalls) (.int .u32 x1)).run Tryz.prog w = .ok (.int .u8 ((sm (u / 100 % 100 * 2)).toNat : Int)) w := idx_smalls 9 Tryz.underlying9 .u32 _ _ (by omega) (by omega)
    have hlo1 : 0 ≤ x1 := by omega
    have hhi1 : x1 ≤ 198 := by omega
    clear hx1 hxe1
    go_region_o
    go_wp2
    go_name_world W2 hW2
    have hw2 : W2 = (putRow VB w blk off (stp D1 2 (u / 100))).drewN (1 + 1) := by rw [← hW2]; exact (by rw [AW1.out]; exact store2_world w blk off D1 1 (2 + 1) (2) _ _ (by have := AS1.out; omega) (by have := AS1.out; omega))
    obtain ⟨D2, hd2⟩ : ∃ z, stp D1 2 (u / 100) = z := ⟨_, rfl⟩
    rw [hd2] at hw2
    have hs1 := AS1.out
    have AD2 := Lib.hid hd2
    clear hW2 hc1 hf1 hXa1 hXb1 AW1 AS1
    have hs2 : D2.size = 6 := by rw [← hd2, stp_size]; exact hs1
    have hH2 : Holds VB W2 blk off D2 := by rw [hw2]; exact holds_putRow _ w blk off D0 D2 AH.out (hs2.trans AZ.out.symm)
    obtain ⟨G2, hG2⟩ : ∃ G : Nat → Int, ∀ t, G t = (D2[t]!.toNat : Int) := ⟨_, fun _ => rfl⟩
    have hc2 : ∀ t, t < 6 → W2.cell? ⟨blk, off + t, none⟩ = some (.int .u8 (G2 t)) := fun t ht => by rw [hG2]; exact (hH2 t (by omega)).1
    have hf2 : ∀ t, t < 6 → W2.frozen? ⟨blk, off + t, none⟩ = false := fun t ht => (hH2 t (by omega)).2
    have AW2 := Lib.hid hw2
    have AS2 := Lib.hid hs2
    clear hw2 hG2 hH2 hs2
    clear hd2 hs1
    go_name_slot 16 x2 hx2
    have hxe2 : x2 = ((u / 100 / 100 % 100 * 2 : Nat) : Int) := by omega
    have hXa2 : ∀ w, (Instr.index 9 (.string Lib.smalls) (.int .u32 (x2 + 1))).run Tryz.prog w = .ok (.int .u8 ((sm (u / 100 / 100 % 100 * 2 + 1)).toNat : Int)) w := idx_smalls 9 Tryz.underlying9 .u32 _ _ (by omega) (by omega)
    have hXb2 : ∀ w, (Instr.index 9 (.string Lib.smalls) (.int .u32 x2)).run Tryz.prog w = .ok (.int .u8 ((sm (u / 100 / 100 % 100 * 2)).toNat : Int)) w := idx_smalls 9 Tryz.underlying9 .u32 _ _ (by omega) (by omega)
    have hlo2 : 0 ≤ x2 := by omega
    have hhi2 : x2 ≤ 198 := by omega
    clear hx2 hxe2
    go_region_o
    go_wp2
    go_end0
    refine ⟨rfl, 2 + 1, ?_⟩
    rw [AD1.out, AD2.out]
    rw [AW2.out]
    exact store2_world w blk off D2 2 (0 + 1) (0) _ _ (by have := AS2.out; omega) (by have := AS2.out; omega)
set_option maxHeartbeats 6400000 in
set_option maxRecDepth 100000 in
theorem fb7 (blk off cap u : Nat) (hu : u ≤ 1049000) (w : World) (hH : Holds VB w blk off (rep0 7)) :
    Calls Tryz.prog 155 #[.slice (some ⟨blk, off, none⟩) 7 cap, .int .u64 u] w fun e w' => e = .returned (.tuple #[]) ∧ ∃ n, w' = (putRow VB w blk off (fbA 7 u)).drewN n := by
  obtain ⟨D0, hD0⟩ : ∃ z, rep0 7 = z := ⟨_, rfl⟩
  have hsz : D0.size = 7 := by rw [← hD0]; simp
  have hfb : fbA 7 u = (stp (stp (stp D0 5 (u)) 3 (u / 100)) 1 (u / 100 / 100)).setIfInBounds 0 (UInt8.ofNat (48 + u / 100 / 100 / 100)) := by rw [← hD0]; rfl
  rw [hfb]
  rw [hD0] at hH
  clear hD0 hfb
  have mixed : Tryz.prog.follows .mixedOrders = true := by kernel_rfl
  have AH := Lib.hid hH
  clear hH
  go_enter Tryz.func155, Tryz.ntmps155
  go_name_bytes SM hSM
  have eSM : SM = Lib.smalls := by rw [← hSM]; decide +kernel
  subst eSM
  clear hSM
  go_wp2
  go_loopw [1, 4] (fun vu vn wr => vu = .int .u64 u ∧ vn = .int .i64 7 ∧ wr = (putRow VB w blk off D0).drewN 0) (fun _ vn _ => 0)
  case atStart => exact ⟨rfl, rfl, (putRow_self _ _ _ _ _ AH.out).symm⟩
  case round =>
    obtain ⟨rfl, rfl, hw0⟩ := hrel
    rename World => W0
    have hs0 : D0.size = 7 := hsz
    have hH0 : Holds VB W0 blk off D0 := by rw [hw0]; exact holds_putRow _ w blk off D0 D0 AH.out rfl
    obtain ⟨G0, hG0⟩ : ∃ G : Nat → Int, ∀ t, G t = (D0[t]!.toNat : Int) := ⟨_, fun _ => rfl⟩
    have hc0 : ∀ t, t < 7 → W0.cell? ⟨blk, off + t, none⟩ = some (.int .u8 (G0 t)) := fun t ht => by rw [hG0]; exact (hH0 t (by omega)).1
    have hf0 : ∀ t, t < 7 → W0.frozen? ⟨blk, off + t, none⟩ = false := fun t ht => (hH0 t (by omega)).2
    have AW0 := Lib.hid hw0
    have AS0 := Lib.hid hs0
    clear hw0 hG0 hH0 hs0
    have AZ := Lib.hid hsz; clear hsz
    go_wp2
    go_name_slot 15 x0 hx0
    have hxe0 : x0 = ((u % 100 * 2 : Nat) : Int) := by omega
    have hXa0 : ∀ w, (Instr.index 9 (.string Lib.smalls) (.int .u32 (x0 + 1))).run Tryz.prog w = .ok (.int .u8 ((sm (u % 100 * 2 + 1)).toNat : Int)) w := idx_smalls 9 Tryz.underlying9 .u32 _ _ (by omega) (by omega)
    have hXb0 : ∀ w, (Instr.index 9 (.string Lib.smalls) (.int .u32 x0)).run Tryz.prog w = .ok (.int .u8 ((sm (u % 100 * 2)).toNat : Int)) w := idx_smalls 9 Tryz.underlying9 .u32 _ _ (by omega) (by omega)
    have hlo0 : 0 ≤ x0 := by omega
    have hhi0 : x0 ≤ 198 := by omega
    clear hx0 hxe0
    go_region_o
    go_wp2
    go_name_world W1 hW1
    have hw1 : W1 = (putRow VB w blk off (stp D0 5 (u))).drewN (0 + 1) := by rw [← hW1]; exact (by rw [AW0.out]; exact store2_world w blk off D0 0 (5 + 1) (5) _ _ (by have := AS0.out; omega) (by have := AS0.out; omega))
    obtain ⟨D1, hd1⟩ : ∃ z, stp D0 5 (u) = z := ⟨_, rfl⟩
    rw [hd1] at hw1
    have hs0 := AS0.out
    have AD1 := Lib.hid hd1
    clear hW1 hc0 hf0 hXa0 hXb0 AW0 AS0
    have hs1 : D1.size = 7 := by rw [← hd1, stp_size]; exact hs0
    have hH1 : Holds VB W1 blk off D1 := by rw [hw1]; exact holds_putRow _ w blk off D0 D1 AH.out (hs1.trans AZ.out.symm)
    obtain ⟨G1, hG1⟩ : ∃ G : Nat → Int, ∀ t, G t = (D1[t]!.toNat : Int) := ⟨_, fun _ => rfl⟩
    have hc1 : ∀ t, t < 7 → W1.cell? ⟨blk, off + t, none⟩ = some (.int .u8 (G1 t)) := fun t ht => by rw [hG1]; exact (hH1 t (by omega)).1
    have hf1 : ∀ t, t < 7 → W1.frozen? ⟨blk, off + t, none⟩ = false := fun t ht => (hH1 t (by omega)).2
    have AW1 := Lib.hid hw1
    have AS1 := Lib.hid hs1
    clear hw1 hG1 hH1 hs1
    clear hd1 hs0
    go_name_slot 14 x1 hx1
    have hxe1 : x1 = ((u / 100 % 100 * 2 : Nat) : Int) := by omega
    have hXa1 : ∀ w, (Instr.index 9 (.string Lib.smalls) (.int .u32 (x1 + 1))).run Tryz.prog w = .ok (.int .u8 ((sm (u / 100 % 100 * 2 + 1)).toNat : Int)) w := idx_smalls 9 Tryz.underlying9 .u32 _ _ (by omega) (by omega)
    have hXb1 : ∀ w, (Instr.index 9 (.string Lib.smalls) (.int .u32 x1)).run Tryz.prog w = .ok (.int .u8 ((sm (u / 100 % 100 * 2)).toNat : Int)) w := idx_smalls 9 Tryz.underlying9 .u32 _ _ (by omega) (by omega)
    have hlo1 : 0 ≤ x1 := by omega
    have hhi1 : x1 ≤ 198 := by omega
    clear hx1 hxe1
    go_region_o
    go_wp2
    go_name_world W2 hW2
    have hw2 : W2 = (putRow VB w blk off (stp D1 3 (u / 100))).drewN (1 + 1) := by rw [← hW2]; exact (by rw [AW1.out]; exact store2_world w blk off D1 1 (3 + 1) (3) _ _ (by have := AS1.out; omega) (by have := AS1.out; omega))
    obtain ⟨D2, hd2⟩ : ∃ z, stp D1 3 (u / 100) = z := ⟨_, rfl⟩
    rw [hd2] at hw2
    have hs1 := AS1.out
    have AD2 := Lib.hid hd2
    clear hW2 hc1 hf1 hXa1 hXb1 AW1 AS1
    have hs2 : D2.size = 7 := by rw [← hd2, stp_size]; exact hs1
    have hH2 : Holds VB W2 blk off D2 := by rw [hw2]; exact holds_putRow _ w blk off D0 D2 AH.out (hs2.trans AZ.out.symm)
    obtain ⟨G2, hG2⟩ : ∃ G : Nat → Int, ∀ t, G t = (D2[t]!.toNat : Int) := ⟨_, fun _ => rfl⟩
    have hc2 : ∀ t, t < 7 → W2.cell? ⟨blk, off + t, none⟩ = some (.int .u8 (G2 t)) := fun t ht => by rw [hG2]; exact (hH2 t (by omega)).1
    have hf2 : ∀ t, t < 7 → W2.frozen? ⟨blk, off + t, none⟩ = false := fun t ht => (hH2 t (by omega)).2
    have AW2 := Lib.hid hw2
    have AS2 := Lib.hid hs2
    clear hw2 hG2 hH2 hs2
    clear hd2 hs1
    go_name_slot 16 x2 hx2
    have hxe2 : x2 = ((u / 100 / 100 % 100 * 2 : Nat) : Int) := by omega
    have hXa2 : ∀ w, (Instr.index 9 (.string Lib.smalls) (.int .u32 (x2 + 1))).run Tryz.prog w = .ok (.int .u8 ((sm (u / 100 / 100 % 100 * 2 + 1)).toNat : Int)) w := idx_smalls 9 Tryz.underlying9 .u32 _ _ (by omega) (by omega)
    have hXb2 : ∀ w, (Instr.index 9 (.string Lib.smalls) (.int .u32 x2)).run Tryz.prog w = .ok (.int .u8 ((sm (u / 100 / 100 % 100 * 2)).toNat : Int)) w := idx_smalls 9 Tryz.underlying9 .u32 _ _ (by omega) (by omega)
    have hlo2 : 0 ≤ x2 := by omega
    have hhi2 : x2 ≤ 198 := by omega
    clear hx2 hxe2
    go_region_o
    go_wp2
    go_end0
    refine ⟨rfl, 2 + 1, ?_⟩
    rw [AD1.out, AD2.out]
    rw [AW2.out]
    exact store21_world w blk off D2 2 (1 + 1) (1) _ _ _ (u / 100 / 100 / 100) (by omega) (by have := AS2.out; omega) (by have := AS2.out; omega)
theorem fbA_size (nd u : Nat) (h2 : 2 ≤ nd) (h7 : nd ≤ 7) : (fbA nd u).size = nd := by
  unfold fbA
  repeat' split
  all_goals simp only [Array.size_setIfInBounds, stp_size, Array.size_replicate]
  all_goals omega
theorem fbA_b (nd u : Nat) : 1 ≤ (fbA nd u).size ∧ (fbA nd u).size ≤ 21 := by
  unfold fbA
  repeat' split
  all_goals simp only [Array.size_setIfInBounds, stp_size, Array.size_replicate]
  all_goals omega
theorem fb_any (blk off cap nd u : Nat) (h2 : 2 ≤ nd) (h7 : nd ≤ 7) (hu : u ≤ 1049000) (w : World) (hH : Holds VB w blk off (rep0 nd)) :
    Calls Tryz.prog 155 #[.slice (some ⟨blk, off, none⟩) nd cap, .int .u64 u] w fun e w' => e = .returned (.tuple #[]) ∧ ∃ n, w' = (putRow VB w blk off (fbA nd u)).drewN n := by
  have hc : nd = 2 ∨ nd = 3 ∨ nd = 4 ∨ nd = 5 ∨ nd = 6 ∨ nd = 7 := by omega
  rcases hc with rfl | rfl | rfl | rfl | rfl | rfl
  · exact fb2 blk off cap u hu w hH
  · exact fb3 blk off cap u hu w hH
  · exact fb4 blk off cap u hu w hH
  · exact fb5 blk off cap u hu w hH
  · exact fb6 blk off cap u hu w hH
  · exact fb7 blk off cap u hu w hH
/-- the number of places that numDigits asks for -/
def numD [Inhabited TbBox] (u : Nat) : Nat := Lib.l10 (Lib.bitLen u) + (if pw (Lib.l10 (Lib.bitLen u)) ≤ (u : Int) then 1 else 0)
theorem l10_b (u : Nat) (h1 : 100 ≤ u) (h2 : u ≤ 1048999) : 2 ≤ Lib.l10 (Lib.bitLen u) ∧ Lib.l10 (Lib.bitLen u) ≤ 6 := by
  have a := Lib.bitLen_le u 21 (by decide) (by omega)
  have b : 7 ≤ Lib.bitLen u := by
    rw [Lib.bitLen_shift 6 u (by omega) (by omega), Lib.bitLen_half (u / 2 ^ 6) (by omega) (by omega)]
    omega
  unfold Lib.l10
  omega
theorem numD_b [Inhabited TbBox] (u : Nat) (h1 : 100 ≤ u) (h2 : u ≤ 1048999) : 2 ≤ numD u ∧ numD u ≤ 7 := by
  have := l10_b u h1 h2
  unfold numD
  split <;> omega
set_option maxHeartbeats 2000000 in
set_option maxRecDepth 100000 in
theorem numD_c [Inhabited TbBox] (u : Nat) (h1 : 100 ≤ u) (h2 : u ≤ 1048999) (w : World) (E : Env w) :
    Calls Tryz.prog 154 #[.int .u64 u] w fun e w' => e = .returned (.int .i64 (numD u)) ∧ w' = w := by
  obtain ⟨q2, q6⟩ := l10_b u h1 h2
  have hL : Lib.bitLen u ≤ 64 := Lib.bitLen_le u 64 (Nat.le_refl _) (by omega)
  have hcell := E.p10 (Lib.l10 (Lib.bitLen u)) (by omega)
  have hnd : numD u = Lib.l10 (Lib.bitLen u) + (if pw (Lib.l10 (Lib.bitLen u)) ≤ (u : Int) then 1 else 0) := rfl
  have hto : ((u : Int)).toNat = u := by omega
  generalize hq : Lib.l10 (Lib.bitLen u) = q at hnd q2 q6 hcell
  generalize hT : pw q = T at hnd hcell
  generalize hN : numD u = N at hnd ⊢
  have Hnd := Lib.hid hnd
  clear hnd hN hT E
  go_enter Tryz.func154, Tryz.ntmps154
  go_wp2_with (first
    | (go_at_call 165; refine (Tryz.bits_Len64 _ _ (by omega) (by omega)).mono ?_; rintro e w' ⟨rfl, rfl⟩)
    | (go_at_call 164; refine (Tryz.internal_strconv_log10Pow2 _ (by first | exact hL | (rw [hto]; exact hL)) _).mono ?_; rintro e w' ⟨rfl, rfl⟩)
    | (go_at_call 166; refine (Tryz.internal_strconv_bool2_int _ _).mono ?_; rintro e w' ⟨rfl, rfl⟩))
  all_goals go_ret
  all_goals (
    refine ⟨?_, rfl⟩
    have hnd := Hnd.out
    congr 2
    split at hnd <;> simp_all <;> omega)
/-- the numeral that Itoa makes -/
def itoaT [Inhabited TbBox] (n : Int) : List UInt8 := if n < 100 then Lib.decDigits n.toNat else (fbA (numD n.toNat) n.toNat).toList
theorem itoaT_len [Inhabited TbBox] (n : Int) (h0 : 0 ≤ n) (h1 : n ≤ 1048999) : (itoaT n).length ≤ 21 := by
  unfold itoaT
  split
  · have := Lib.itoa_length_le n (by omega) (by omega)
    obtain ⟨u, rfl⟩ : ∃ u : Nat, n = (u : Int) := ⟨n.toNat, by omega⟩
    rw [Lib.itoa_nonneg] at this
    exact this
  · rw [Array.length_toList]
    exact (fbA_b _ _).2
theorem itoaT_pos [Inhabited TbBox] (n : Int) (h : 0 ≤ n) : 1 ≤ (itoaT n).length := by
  unfold itoaT
  split
  · rw [Lib.decDigits]
    split <;> simp
  · rw [Array.length_toList]
    exact (fbA_b _ _).1
theorem Env.alloc [Inhabited TbBox] {w : World} (E : Env w) (o : Obj) : Env (w.alloc o) := E.below ((Below.refl _ _).alloc (Nat.le_refl _) _)
set_option maxHeartbeats 2000000 in
set_option maxRecDepth 100000 in
theorem fmtInt_c [Inhabited TbBox] (n : Int) (h0 : 0 ≤ n) (h1 : n ≤ 1048999) (w : World) (E : Env w) :
    Calls Tryz.prog 140 #[.int .i64 n, .int .i64 10] w fun e w' => e = .returned (.string (S (itoaT n))) ∧ ∃ k os, w' = grow (w.drewN k) os := by
  by_cases hs : n < 100
  · obtain ⟨i, rfl⟩ : ∃ i : Nat, n = i := ⟨n.toNat, by omega⟩
    have hi : i < 100 := by omega
    go_enter Tryz.func140, Tryz.ntmps140
    go_wp2_with (go_at_call 153; refine (Tryz.internal_strconv_small i hi _).mono ?_; rintro e w' ⟨rfl, rfl⟩)
    go_ret
    refine ⟨?_, 0, #[], by simp [World.drewN_zero]⟩
    unfold itoaT
    rw [if_pos hs]
    rfl
  · obtain ⟨u, rfl⟩ : ∃ u : Nat, n = u := ⟨n.toNat, by omega⟩
    have hu1 : 100 ≤ u := by omega
    have hu2 : u ≤ 1048999 := by omega
    have hres : itoaT (u : Int) = (fbA (numD u) u).toList := by unfold itoaT; rw [if_neg hs]; rfl
    rw [hres]
    obtain ⟨d2, d7⟩ := numD_b u hu1 hu2
    have hnc := fun w E => numD_c u hu1 hu2 w E
    have hsz := fbA_size (numD u) u d2 d7
    have hfmt := fb_any w.heap.size 1 23 (numD u) u d2 d7 (by omega) (w.alloc (.cells Lib.zeros24 203)) (Lib.holds_zero w 203 (numD u) (by omega))
    have HH0 := Lib.hid (Lib.holds_zero w 203 (numD u) (by omega))
    generalize hA : fbA (numD u) u = A at hsz hfmt ⊢
    generalize numD u = nd at *
    have hal : Tryz.prog.arrayLen 203 = 24 := by kernel_rfl
    have hsl1 : ∀ W, (Instr.sliceAt 203 (.pointer (some ⟨w.heap.size, 0, none⟩)) (some (.int .i64 1)) (some (.int .i64 (1 + (nd : Int)))) none).run Tryz.prog W = .ok (.slice (some ⟨w.heap.size, 1, none⟩) nd 23) W := fun W => by
      rw [run_sliceAt_array_lh W 203 ⟨w.heap.size, 0, none⟩ (by kernel_rfl) .i64 .i64 1 (1 + (nd : Int)) (by omega) (by omega) (by rw [hal]; omega)]
      go_simp
      omega
    have HN := Lib.hid hnc
    have HE := Lib.hid (E.alloc (.cells Lib.zeros24 203))
    have HF := Lib.hid hfmt
    have HS := Lib.hid hsz
    clear hal hA hnc E hfmt hsz hres
    go_enter Tryz.func140, Tryz.ntmps140
    go_wp2_with (first
      | (go_at_call 154; refine (HN.out _ HE.out).mono ?_; rintro e w' ⟨rfl, rfl⟩))
    go_at_call 155
    refine HF.out.mono ?_
    rintro e w' ⟨rfl, k, rfl⟩
    have hcv : (convert 91 9 (.slice (some ⟨w.heap.size, 1, none⟩) nd 23)).run Tryz.prog ((putRow VB (w.alloc (.cells Lib.zeros24 203)) w.heap.size 1 A).drewN k) = .ok (.string (S A.toList)) ((putRow VB (w.alloc (.cells Lib.zeros24 203)) w.heap.size 1 A).drewN k) := by
      have h := run_convert_bytes_back (P := Tryz.prog) ((putRow VB (w.alloc (.cells Lib.zeros24 203)) w.heap.size 1 A).drewN k) 91 9 5 ⟨w.heap.size, 1, none⟩ 23 A.toList Tryz.underlying91 Tryz.underlying5 Tryz.underlying9 (fun j hj => by
        have hj' : j < A.size := by simpa using hj
        rw [Lib.add_plain, World.cell?_drewN]
        have := cell?_putRow VB (w.alloc (.cells Lib.zeros24 203)) w.heap.size 1 _ A HH0.out (by rw [HS.out, Array.size_replicate]) j hj'
        rw [this, getElem!_pos A j hj', Array.getElem_toList])
      rw [Array.length_toList, HS.out] at h
      exact h
    go_wp2
    go_ret
    obtain ⟨os, eo⟩ := Lib.fin_pos w (.cells Lib.zeros24 203) A k
    exact ⟨rfl, k, os, eo⟩
theorem itoa0_c [Inhabited TbBox] (n : Int) (h0 : 0 ≤ n) (h1 : n ≤ 1048999) (w : World) (E : Env w) :
    Calls Tryz.prog 117 #[.int .i64 n] w fun e w' => e = .returned (.string (S (itoaT n))) ∧ ∃ k os, w' = grow (w.drewN k) os := by
  have hc := fmtInt_c n h0 h1 w E
  go_enter Tryz.func117, Tryz.ntmps117
  go_wp2_with (go_at_call 140; refine hc.mono ?_; rintro e w' ⟨rfl, k, os, rfl⟩)
  go_ret
  exact ⟨rfl, k, os, rfl⟩
theorem itoa1_c [Inhabited TbBox] (n : Int) (h0 : 0 ≤ n) (h1 : n ≤ 1048999) (w : World) (E : Env w) :
    Calls Tryz.prog 83 #[.int .i64 n] w fun e w' => e = .returned (.string (S (itoaT n))) ∧ ∃ k os, w' = grow (w.drewN k) os := by
  have hc := itoa0_c n h0 h1 w E
  go_enter Tryz.func83, Tryz.ntmps83
  go_wp2_with (go_at_call 117; refine hc.mono ?_; rintro e w' ⟨rfl, k, os, rfl⟩)
  go_ret
  exact ⟨rfl, k, os, rfl⟩
theorem itoa_any [Inhabited TbBox] (n : Int) (h0 : 0 ≤ n) (h1 : n ≤ 1048999) (w : World) (E : Env w) : Calls Tryz.prog 83 #[.int .i64 n] w fun e w' => e = .returned (.string (S (itoaT n))) ∧ Below w.heap.size w w' := by
  refine (itoa1_c n h0 h1 w E).mono ?_
  rintro e w' ⟨rfl, k, os, rfl⟩
  refine ⟨rfl, ?_⟩
  exact ⟨rfl, rfl, rfl, by simp [Sort.grow, World.drewN], fun k hk => by simp [Sort.grow, World.drewN, Array.getElem?_append, hk]⟩
end Go.Proofs.YtldembadjgibjaaGreatDoor
