/-
  Cascade: Trim, hex, IsSpace, limit, Lower.
-/
import Derived.Test.YtldembadjgibjaaGreatDoorAa
set_option linter.unusedVariables false
set_option linter.unusedSimpArgs false
namespace Go.Proofs.YtldembadjgibjaaGreatDoor
open Go.RowKit Go.K Go.PlainAid Go.Lib

abbrev wsp : List UInt8 := [9, 10, 12, 13, 32]
abbrev hexd : List UInt8 := [48, 49, 50, 51, 52, 53, 54, 55, 56, 57, 97, 98, 99, 100, 101, 102]
theorem ascii_of {l : List UInt8} (h : l.all (fun b => decide (b.toNat < 128)) = true) : ∀ (j : Nat) b, l[j]? = some b → b.toNat < 128 := by
  intro j b hb
  have := List.all_eq_true.1 h b (List.mem_of_getElem? hb)
  simpa using this
theorem trimSet (l c : List UInt8) (w : World) (hl : l.length ≤ 100000) (hc : c.length ≤ 100) (ha : c.all (fun b => decide (b.toNat < 128)) = true) :
    Calls Tryz.prog 62 #[.string (S l), .string (S c)] w fun e w' => e = .returned (.string (S (Lib.trimS l c))) ∧ Below w.heap.size w w' :=
  Any.strings_Trim_ascii Tryz.lays160 (fun w => by kernel_rfl) (by kernel_rfl) (S l) (S c) w (by rw [S_size]; omega) (by rw [S_size]; omega) (ascii_of ha)
def trimL (l : List UInt8) : List UInt8 := Lib.trimS l wsp
theorem trim_any (l : List UInt8) (w : World) (hl : l.length ≤ 100000) : Calls Tryz.prog 38 #[.string (S l)] w fun e w' => e = .returned (.string (S (trimL l))) ∧ Below w.heap.size w w' := by
  go_enter Tryz.func38, Tryz.ntmps38
  go_wp2_with (go_at_call 62; refine (trimSet l wsp _ hl (by decide) (by decide)).mono ?_; rintro e w1 ⟨rfl, hb⟩)
  exact bodyPost_ret (results_tmp Tryz.results38 _ _ _) rfl ⟨rfl, hb⟩
def hexL (l : List UInt8) : Bool := (Lib.trimS l hexd).isEmpty
theorem hex_any (l : List UInt8) (w : World) (hl : l.length ≤ 100000) : Calls Tryz.prog 114 #[.string (S l)] w fun e w' => e = .returned (.bool (hexL l)) ∧ Below w.heap.size w w' := by
  obtain ⟨t, ht⟩ : ∃ t, Lib.trimS l hexd = t := ⟨_, rfl⟩
  have h := fun w => trimSet l hexd w hl (by decide) (by decide)
  unfold hexL
  simp only [ht] at h ⊢
  have H := Lib.hid h
  clear h
  have hb : (S t).toList.isEmpty = t.isEmpty := by rw [ByteArray.toList_eq]
  cases hq : t.isEmpty with
  | true =>
    rw [hq] at hb
    go_enter Tryz.func114, Tryz.ntmps114
    go_wp2_with (go_at_call 62; refine (H.out _).mono ?_; rintro e w1 ⟨rfl, hb1⟩)
    exact bodyPost_ret (results_tmp Tryz.results114 _ _ _) rfl ⟨by simp [hb, hq], hb1⟩
  | false =>
    rw [hq] at hb
    go_enter Tryz.func114, Tryz.ntmps114
    go_wp2_with (go_at_call 62; refine (H.out _).mono ?_; rintro e w1 ⟨rfl, hb1⟩)
    exact bodyPost_ret (results_tmp Tryz.results114 _ _ _) rfl ⟨by simp [hb, hq], hb1⟩
def spB (c : Int) : Bool := decide (0 ≤ Lib.indexByte wsp c.toNat.toUInt8)
theorem space_any (c : Int) (w : World) : Calls Tryz.prog 98 #[.int .u8 c] w fun e w' => e = .returned (.bool (spB c)) ∧ w' = w := by
  obtain ⟨n, hn⟩ : ∃ n, Lib.indexByte wsp c.toNat.toUInt8 = n := ⟨_, rfl⟩
  have h := fun w => Tryz.strings_IndexByte (S wsp) c w
  unfold spB
  rw [hn]
  have h2 : ∀ w, Calls Tryz.prog 60 #[.string (S wsp), .int .u8 c] w fun e w' => e = .returned (.int .i64 n) ∧ w' = w := by intro w; have := h w; rw [S_list, hn] at this; exact this
  have H := Lib.hid h2
  clear h h2 hn
  go_enter Tryz.func98, Tryz.ntmps98
  go_wp2_with (go_at_call 60; refine (H.out _).mono ?_; rintro e w1 ⟨rfl, rfl⟩)
  exact bodyPost_ret (results_tmp Tryz.results98 _ _ _) rfl ⟨rfl, rfl⟩
def limZ (n lo hi : Int) : Int := min (max n lo) hi
theorem limit_any (n lo hi : Int) (w : World) : Calls Tryz.prog 55 #[.int .i64 n, .int .i64 lo, .int .i64 hi] w fun e w' => e = .returned (.int .i64 (limZ n lo hi)) ∧ w' = w := by
  have m1 : ∀ a b : Int, (if a < b then b else a) = max a b := by intro a b; split <;> omega
  have m2 : ∀ a b : Int, (if b < a then b else a) = min a b := by intro a b; split <;> omega
  go_enter Tryz.func55, Tryz.ntmps55
  go_wp2_with fail
  exact bodyPost_ret (results_tmp Tryz.results55 _ _ _) rfl ⟨rfl, rfl⟩
end Go.Proofs.YtldembadjgibjaaGreatDoor
