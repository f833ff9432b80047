/-
  Same: results that read alike.
-/
import Derived.Test.YtcglnjklnlejmaaSr
set_option linter.unusedVariables false
set_option linter.unusedSimpArgs false
namespace Go.Proofs.Ytcglnjklnlejmaa
open Go.RowKit Go.K Go.K.Sr

set_option maxRecDepth 100000 in
set_option maxHeartbeats 1000000 in
theorem sameR_any (id err : Int) (v : ByteArray) (ok : Bool) (l : List ByteArray) (w : World) {s1 s2 : Option Addr} {c1 c2 : Nat} (h1 : Rd w 1 s1 l.length (strs l)) (h2 : Rd w 1 s2 l.length (strs l)) (hn : l.length ≤ 100000) :
    Calls Try.prog 21 #[.agg #[.int .i64 id, .string v, .bool ok, .slice s1 l.length c1, .int .i64 err], .agg #[.int .i64 id, .string v, .bool ok, .slice s2 l.length c2, .int .i64 err]] w fun e w' => e = .returned (.bool true) ∧ Below w.heap.size w w' := by
  have H1 := Lib.hid h1
  have H2 := Lib.hid h2
  clear h1 h2
  go_enter Try.func21, Try.ntmps21
  go_upto_region 3 with fail
  obtain ⟨W, hW⟩ : ∃ W, (w.alloc (.cells #[.int .i64 id, .string v, .bool ok, .slice s1 l.length c1, .int .i64 err] 49)).alloc (.cells #[.int .i64 id, .string v, .bool ok, .slice s2 l.length c2, .int .i64 err] 49) = W := ⟨_, rfl⟩
  obtain ⟨b, hbz⟩ : ∃ b, w.heap.size = b := ⟨_, rfl⟩
  have HW := Lib.hid (show Below w.heap.size w W by rw [← hW]; exact ((Below.refl _ w).alloc (Nat.le_refl _) _).alloc (by simp) _)
  have KA := ((Blk.new w #[.int .i64 id, .string v, .bool ok, .slice s1 l.length c1, .int .i64 err] 49).alloc (.cells #[.int .i64 id, .string v, .bool ok, .slice s2 l.length c2, .int .i64 err] 49))
  have KB := blk_new (w.alloc (.cells #[.int .i64 id, .string v, .bool ok, .slice s1 l.length c1, .int .i64 err] 49)) #[.int .i64 id, .string v, .bool ok, .slice s2 l.length c2, .int .i64 err] 49 (b + 1) (by simp [hbz])
  rw [hW, hbz] at KA
  rw [hW] at KB
  try simp only [hW, hbz]
  clear hW hbz
  have HKA := Lib.hid KA
  have HKB := Lib.hid KB
  have HR1 := Lib.hid (H1.out.below HW.out)
  have HR2 := Lib.hid (H2.out.below HW.out)
  clear KA KB H1 H2
  go_wp2_with fail
  go_loopg [5] l.length (CRel l.length W)
  case atStart => exact ⟨0, rfl, Nat.zero_le _, rfl, Below.refl _ _⟩
  case round =>
    obtain ⟨k, hg, hk, rfl, hb⟩ := hrel
    have Hg := Lib.hid hg
    have HB := Lib.hid hb
    clear hg hb
    have a3 := (HKA.out.kept (Fr.of_below HB.out) (fun q => q)).cell 3
    have b3 := (HKB.out.kept (Fr.of_below HB.out) (fun q => q)).cell 3
    simp at a3 b3
    by_cases hkn : k < l.length
    · have hkI : (k : Int) < (l.length : Int) := by omega
      have hk0 : (0 : Int) ≤ (k : Int) := by omega
      obtain ⟨g1, o1, rfl, x1⟩ := (HR1.out.below HB.out).addr (by omega)
      obtain ⟨g2, o2, rfl, x2⟩ := (HR2.out.below HB.out).addr (by omega)
      obtain ⟨x, hx⟩ : ∃ x, l[k] = x := ⟨_, rfl⟩
      have y1 := x1 k (.string x) (by simp [strs, hx, hkn])
      have y2 := x2 k (.string x) (by simp [strs, hx, hkn])
      clear x1 x2 hx
      have hw1 : IntKind.i64.wrap ((k : Int) + 1) = (k : Int) + 1 := by rw [IntKind.wrap_i64]; omega
      go_wp2_with go_quiet (fail)
      go_roundg (l.length - (k + 1))
      case measure => have := Hg.out; omega
      case rel => exact ⟨k + 1, rfl, by omega, by simp, ⟨HB.out.os, HB.out.tape, HB.out.output, HB.out.size, HB.out.block⟩⟩
    · obtain rfl : k = l.length := by omega
      go_wp2_with fail
      go_ret
      exact ⟨rfl, HW.out.trans (HB.out.mono HW.out.size)⟩

end Go.Proofs.Ytcglnjklnlejmaa
