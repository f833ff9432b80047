/-
  Cascade: text.Fields; the parts of a colour.
-/
import Derived.Test.YtldembadjgibjaaGreatDoorAf
set_option linter.unusedVariables false
set_option linter.unusedSimpArgs false
namespace Go.Proofs.YtldembadjgibjaaGreatDoor
open Go.RowKit Go.K Go.PlainAid Go.Lib

def spR (x : Nat) : Bool := decide (x < 128) && spB x
theorem spR_any (x : Nat) (hx : x ≤ 1114111) (w : World) : Calls Tryz.prog 97 #[.int .i32 x] w fun e w' => e = .returned (.bool (spR x)) ∧ w' = w := by
  obtain ⟨b, hb⟩ : ∃ b, spB (x : Int) = b := ⟨_, rfl⟩
  by_cases h : x < 128
  · have hI : (x : Int) < 128 := by omega
    have hs : spR x = b := by unfold spR; rw [hb]; simp [h]
    have h2 : ∀ w, Calls Tryz.prog 98 #[.int .u8 x] w fun e w' => e = .returned (.bool b) ∧ w' = w := by intro w; rw [← hb]; exact space_any x w
    have H := Lib.hid h2
    have e8 : IntKind.u8.wrap (x : Int) = (x : Int) := by show (x : Int) % 256 = _; omega
    rw [hs]
    clear hb hs h2
    go_enter Tryz.func97, Tryz.ntmps97
    go_wp2_with (go_at_call 98; refine (H.out _).mono ?_; rintro e w1 ⟨rfl, rfl⟩)
    exact bodyPost_ret (results_tmp Tryz.results97 _ _ _) rfl ⟨rfl, rfl⟩
  · have hI : ¬ (x : Int) < 128 := by omega
    have hs : spR x = false := by unfold spR; simp [h]
    rw [hs]
    clear hb hs
    go_enter Tryz.func97, Tryz.ntmps97
    go_wp2_with fail
    exact bodyPost_ret (results_tmp Tryz.results97 _ _ _) rfl ⟨rfl, rfl⟩
theorem spR_grows (w : World) : PredGrows Tryz.prog 97 #[] spR w := by
  intro W x hx hb
  exact (spR_any x hx W).mono fun e w' ⟨h1, h2⟩ => ⟨h1, by rw [h2]; exact Below.refl _ _⟩
/-- the fields of a text, as the program's text.Fields parts it -/
def fldL (l : List UInt8) : List ByteArray := Lib.goFieldsP spR (S l)
theorem fields_any (l : List UInt8) (hl : l.length ≤ 100000) (w : World) : Calls Tryz.prog 65 #[.string (S l)] w fun e w' => ∃ A, e = .returned (.slice (some ⟨A, 0, none⟩) (fldL l).length (fldL l).length) ∧ w.heap.size ≤ A ∧ w'.ownsRow w.heap.size 9 1 (.slice (some ⟨A, 0, none⟩) (fldL l).length (fldL l).length) (fldL l).length ((fldL l).map Value.string) ∧ Below w.heap.size w w' := by
  have h := Tryz.strings_FieldsFunc_grows 97 #[] (enters_of Tryz.func97 (by kernel_rfl) rfl) spR (S l) w (by rw [S_size]; omega) (spR_grows w)
  obtain ⟨f, hf⟩ : ∃ f, Lib.goFieldsP spR (S l) = f := ⟨_, rfl⟩
  unfold fldL
  rw [hf] at h ⊢
  have H := Lib.hid h
  clear h hf hl
  go_enter Tryz.func65, Tryz.ntmps65
  go_wp2_with (go_at_call 85; refine H.out.mono ?_; rintro e w1 ⟨A, rfl, hA, ho, hb⟩)
  exact bodyPost_ret (results_tmp Tryz.results65 _ _ _) rfl ⟨A, rfl, hA, ho, hb⟩
end Go.Proofs.YtldembadjgibjaaGreatDoor
