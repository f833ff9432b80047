/-
  PaintDraws: the law's item.
-/
import Derived.Test.YtifgjccnhbbadaaNi
set_option linter.unusedVariables false
set_option linter.unusedSimpArgs false
namespace Go.Proofs.Ytifgjccnhbbadaa
open Go.RowKit Go.K Go.PlainAid Go.Lib

/-- a box of the law's input: kind, place, clip, text, size -/
structure Bx where
  kd : Int
  r : R4
  c : R4
  tx : ByteArray
  z : Int
def Bd8 (a : R4) : Prop := -128 ≤ a.x ∧ a.x ≤ 127 ∧ -128 ≤ a.y ∧ a.y ≤ 127 ∧ -128 ≤ a.w ∧ a.w ≤ 127 ∧ -128 ≤ a.h ∧ a.h ≤ 127
def Bx.ok (b : Bx) : Prop := 0 ≤ b.kd ∧ b.kd ≤ 255 ∧ 0 ≤ b.z ∧ b.z ≤ 255 ∧ Bd8 b.r ∧ Bd8 b.c
def Bx.cells (b : Bx) : List Value := [.int .u8 b.kd, .int .i8 b.r.x, .int .i8 b.r.y, .int .i8 b.r.w, .int .i8 b.r.h, .int .i8 b.c.x, .int .i8 b.c.y, .int .i8 b.c.w, .int .i8 b.c.h, .string b.tx, .int .u8 b.z]
def hexS : ByteArray := ⟨#[35, 48, 48, 48, 48, 48, 48]⟩
/-- an item of a display list: kind, place, clip, whether it has a color, text, size -/
structure Im where
  kd : Int
  r : R4
  c : R4
  co : ByteArray
  tx : ByteArray
  z : Int
def Im.cells (i : Im) : List Value := [.int .i64 i.kd, .int .i64 i.r.x, .int .i64 i.r.y, .int .i64 i.r.w, .int .i64 i.r.h, .int .i64 i.c.x, .int .i64 i.c.y, .int .i64 i.c.w, .int .i64 i.c.h, .string i.co, .string i.tx, .int .i64 i.z, .int .i64 0]
def Bx.im (b : Bx) : Im := ⟨1 + b.kd % 3, b.r, b.c, if 100 ≤ b.kd then ⟨#[]⟩ else hexS, if b.kd % 3 = 2 then b.tx else ⟨#[]⟩, if b.kd % 3 = 2 then b.z % 40 + 1 else 0⟩

set_option maxRecDepth 100000 in
set_option maxHeartbeats 2000000 in
theorem item_any (b : Bx) (hb : b.ok) (w : World) : Calls Try.prog 6 #[.agg b.cells.toArray] w fun e w' => e = .returned (.agg b.im.cells.toArray) ∧ Below w.heap.size w w' := by
  obtain ⟨kd, ⟨a0, a1, a2, a3⟩, ⟨c0, c1, c2, c3⟩, tx, z⟩ := b
  obtain ⟨k0, k1, z0, z1, ⟨p0, p1, p2, p3, p4, p5, p6, p7⟩, ⟨q0, q1, q2, q3, q4, q5, q6, q7⟩⟩ := hb
  simp only at k0 k1 z0 z1 p0 p1 p2 p3 p4 p5 p6 p7 q0 q1 q2 q3 q4 q5 q6 q7
  show Calls Try.prog 6 #[.agg #[.int .u8 kd, .int .i8 a0, .int .i8 a1, .int .i8 a2, .int .i8 a3, .int .i8 c0, .int .i8 c1, .int .i8 c2, .int .i8 c3, .string tx, .int .u8 z]] w _
  have ht : kd.tmod 3 = kd % 3 := Int.tmod_eq_emod_of_nonneg k0
  have ht2 : z.tmod 40 = z % 40 := Int.tmod_eq_emod_of_nonneg z0
  by_cases g1 : kd % 3 = 2 <;> by_cases g2 : 100 ≤ kd
  · have hm : (⟨kd, ⟨a0, a1, a2, a3⟩, ⟨c0, c1, c2, c3⟩, tx, z⟩ : Bx).im = ⟨1 + kd % 3, ⟨a0, a1, a2, a3⟩, ⟨c0, c1, c2, c3⟩, if 100 ≤ kd then ⟨#[]⟩ else hexS, if kd % 3 = 2 then tx else ⟨#[]⟩, if kd % 3 = 2 then z % 40 + 1 else 0⟩ := rfl
    rw [if_pos g2, if_pos g1, if_pos g1, g1] at hm
    rw [hm]
    show Calls _ _ _ _ fun e w' => e = .returned (.agg #[.int .i64 (1 + 2), .int .i64 a0, .int .i64 a1, .int .i64 a2, .int .i64 a3, .int .i64 c0, .int .i64 c1, .int .i64 c2, .int .i64 c3, .string ⟨#[]⟩, .string tx, .int .i64 (z % 40 + 1), .int .i64 0]) ∧ _
    clear hm
    go_enter Try.func6, Try.ntmps6
    go_wp2_with fail
    refine bodyPost_ret (v := .agg #[.int .i64 3, .int .i64 a0, .int .i64 a1, .int .i64 a2, .int .i64 a3, .int .i64 c0, .int .i64 c1, .int .i64 c2, .int .i64 c3, .string ⟨#[]⟩, .string tx, .int .i64 (z % 40 + 1), .int .i64 0]) (by simp [results, Try.results6, go_sem]) rfl ⟨rfl, ?_⟩
    exact (((Below.refl _ _).alloc (Nat.le_refl _) _).alloc (by simp) _).alloc (by simp; omega) _
  · have hm : (⟨kd, ⟨a0, a1, a2, a3⟩, ⟨c0, c1, c2, c3⟩, tx, z⟩ : Bx).im = ⟨1 + kd % 3, ⟨a0, a1, a2, a3⟩, ⟨c0, c1, c2, c3⟩, if 100 ≤ kd then ⟨#[]⟩ else hexS, if kd % 3 = 2 then tx else ⟨#[]⟩, if kd % 3 = 2 then z % 40 + 1 else 0⟩ := rfl
    rw [if_neg g2, if_pos g1, if_pos g1, g1] at hm
    rw [hm]
    show Calls _ _ _ _ fun e w' => e = .returned (.agg #[.int .i64 (1 + 2), .int .i64 a0, .int .i64 a1, .int .i64 a2, .int .i64 a3, .int .i64 c0, .int .i64 c1, .int .i64 c2, .int .i64 c3, .string ⟨#[35, 48, 48, 48, 48, 48, 48]⟩, .string tx, .int .i64 (z % 40 + 1), .int .i64 0]) ∧ _
    clear hm
    go_enter Try.func6, Try.ntmps6
    go_wp2_with fail
    refine bodyPost_ret (v := .agg #[.int .i64 3, .int .i64 a0, .int .i64 a1, .int .i64 a2, .int .i64 a3, .int .i64 c0, .int .i64 c1, .int .i64 c2, .int .i64 c3, .string ⟨#[35, 48, 48, 48, 48, 48, 48]⟩, .string tx, .int .i64 (z % 40 + 1), .int .i64 0]) (by simp [results, Try.results6, go_sem]) rfl ⟨rfl, ?_⟩
    exact (((Below.refl _ _).alloc (Nat.le_refl _) _).alloc (by simp) _).alloc (by simp; omega) _
  · have hm : (⟨kd, ⟨a0, a1, a2, a3⟩, ⟨c0, c1, c2, c3⟩, tx, z⟩ : Bx).im = ⟨1 + kd % 3, ⟨a0, a1, a2, a3⟩, ⟨c0, c1, c2, c3⟩, if 100 ≤ kd then ⟨#[]⟩ else hexS, if kd % 3 = 2 then tx else ⟨#[]⟩, if kd % 3 = 2 then z % 40 + 1 else 0⟩ := rfl
    rw [if_pos g2, if_neg g1, if_neg g1] at hm
    rw [hm]
    show Calls _ _ _ _ fun e w' => e = .returned (.agg #[.int .i64 (1 + kd % 3), .int .i64 a0, .int .i64 a1, .int .i64 a2, .int .i64 a3, .int .i64 c0, .int .i64 c1, .int .i64 c2, .int .i64 c3, .string ⟨#[]⟩, .string ⟨#[]⟩, .int .i64 0, .int .i64 0]) ∧ _
    clear hm
    go_enter Try.func6, Try.ntmps6
    go_wp2_with fail
    refine bodyPost_ret (v := .agg #[.int .i64 (1 + kd % 3), .int .i64 a0, .int .i64 a1, .int .i64 a2, .int .i64 a3, .int .i64 c0, .int .i64 c1, .int .i64 c2, .int .i64 c3, .string ⟨#[]⟩, .string ⟨#[]⟩, .int .i64 0, .int .i64 0]) (by simp [results, Try.results6, go_sem]) rfl ⟨rfl, ?_⟩
    exact (((Below.refl _ _).alloc (Nat.le_refl _) _).alloc (by simp) _).alloc (by simp; omega) _
  · have hm : (⟨kd, ⟨a0, a1, a2, a3⟩, ⟨c0, c1, c2, c3⟩, tx, z⟩ : Bx).im = ⟨1 + kd % 3, ⟨a0, a1, a2, a3⟩, ⟨c0, c1, c2, c3⟩, if 100 ≤ kd then ⟨#[]⟩ else hexS, if kd % 3 = 2 then tx else ⟨#[]⟩, if kd % 3 = 2 then z % 40 + 1 else 0⟩ := rfl
    rw [if_neg g2, if_neg g1, if_neg g1] at hm
    rw [hm]
    show Calls _ _ _ _ fun e w' => e = .returned (.agg #[.int .i64 (1 + kd % 3), .int .i64 a0, .int .i64 a1, .int .i64 a2, .int .i64 a3, .int .i64 c0, .int .i64 c1, .int .i64 c2, .int .i64 c3, .string ⟨#[35, 48, 48, 48, 48, 48, 48]⟩, .string ⟨#[]⟩, .int .i64 0, .int .i64 0]) ∧ _
    clear hm
    go_enter Try.func6, Try.ntmps6
    go_wp2_with fail
    refine bodyPost_ret (v := .agg #[.int .i64 (1 + kd % 3), .int .i64 a0, .int .i64 a1, .int .i64 a2, .int .i64 a3, .int .i64 c0, .int .i64 c1, .int .i64 c2, .int .i64 c3, .string ⟨#[35, 48, 48, 48, 48, 48, 48]⟩, .string ⟨#[]⟩, .int .i64 0, .int .i64 0]) (by simp [results, Try.results6, go_sem]) rfl ⟨rfl, ?_⟩
    exact (((Below.refl _ _).alloc (Nat.le_refl _) _).alloc (by simp) _).alloc (by simp; omega) _
end Go.Proofs.Ytifgjccnhbbadaa
