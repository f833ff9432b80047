/-
  Cascade: strings as lists of bytes; run, limit, IsSpace, hex, Trim.
-/
import Derived.Test.YtldembadjgibjaaGreatDoorSh
import Derived.Test.YtldembadjgibjaaGreatDoorKb
import Derived.Test.YtldembadjgibjaaGreatDoorKd
import Derived.Test.YtldembadjgibjaaGreatDoorKw
import Derived.Test.YtldembadjgibjaaGreatDoorKp
import Derived.PlainAid
import Derived.Shelf.Strings.SlTrimAscii
import Derived.StillTailTactics
import Derived.BigQuiet
import Derived.Deep.LoopGhost
import Derived.Deep.DeepCutAuto
import Derived.Lib.QuietBelow
set_option linter.unusedVariables false
set_option linter.unusedSimpArgs false
namespace Go.Proofs.YtldembadjgibjaaGreatDoor
open Go.RowKit Go.K Go.PlainAid Go.Lib

abbrev S (l : List UInt8) : ByteArray := ⟨l.toArray⟩
theorem S_size (l : List UInt8) : (S l).size = l.length := List.size_toArray
theorem S_list (l : List UInt8) : (S l).data.toList = l := rfl
theorem bt_S (l : List UInt8) (i : Nat) (x : UInt8) (h : l[i]? = some x) : bt (S l) i = (x.toNat : Int) := by
  have hi := (List.getElem?_eq_some_iff.1 h).1
  unfold bt
  have hs : i < (⟨l.toArray⟩ : ByteArray).size := by show i < l.toArray.size; rw [List.size_toArray]; exact hi
  rw [dif_pos hs]
  have e : (⟨l.toArray⟩ : ByteArray)[i]'hs = x := by
    show l.toArray[i]'(by rw [List.size_toArray]; exact hi) = x
    rw [List.getElem_toArray]
    exact (List.getElem?_eq_some_iff.1 h).2
  rw [e]
theorem S_ext (l : List UInt8) (i j : Nat) : (S l).extract i j = S ((l.drop i).take (j - i)) := by
  apply ByteArray.ext
  rw [ByteArray.data_extract]
  apply Array.ext'
  simp [List.extract_eq_take_drop]
def dg (c : UInt8) : Bool := decide (48 ≤ c.toNat) && decide (c.toNat ≤ 57)
def runL (l : List UInt8) : Nat := (l.takeWhile dg).length
theorem runL_le (l : List UInt8) : runL l ≤ l.length := by
  unfold runL
  exact (List.takeWhile_prefix dg).length_le
theorem runL_dg (l : List UInt8) {k : Nat} (h : k < runL l) : ∃ x, l[k]? = some x ∧ dg x = true := by
  unfold runL at h
  have hp := (List.takeWhile_prefix dg (l := l))
  have hx := List.getElem_mem h
  have hd : dg (l.takeWhile dg)[k] = true := by
    have := List.all_takeWhile (p := dg) (l := l)
    exact (List.all_eq_true.1 this) _ hx
  refine ⟨(l.takeWhile dg)[k], ?_, hd⟩
  obtain ⟨t, ht⟩ := hp
  conv => lhs; rw [← ht]
  rw [List.getElem?_append_left h]
  exact List.getElem?_eq_getElem _
theorem runL_stop (l : List UInt8) (h : runL l < l.length) : ∃ x, l[runL l]? = some x ∧ dg x = false := by
  refine ⟨l[runL l], List.getElem?_eq_getElem h, ?_⟩
  unfold runL at h ⊢
  induction l with
  | nil => simp at h
  | cons a l ih =>
    by_cases ha : dg a = true
    · simp only [List.takeWhile_cons, ha, if_true, List.length_cons, List.getElem_cons_succ] at h ⊢
      exact ih (by omega)
    · have ha' : dg a = false := by simpa using ha
      simp [List.takeWhile_cons, ha']
set_option maxHeartbeats 2000000 in
theorem run_any (l : List UInt8) (hl : l.length ≤ 100000) (w : World) : Calls Tryz.prog 138 #[.string (S l)] w fun e w' => e = .returned (.int .i64 (runL l : Nat)) ∧ w' = w := by
  have hgb := get_bt (S l)
  have hsz := S_size l
  have hle := runL_le l
  obtain ⟨s, hs⟩ : ∃ s, S l = s := ⟨_, rfl⟩
  rw [hs] at hgb hsz
  show Calls Tryz.prog 138 #[.string (S l)] w _
  rw [hs]
  have HS := Lib.hid hs
  have HZ := Lib.hid hsz
  clear hs hsz
  go_enter Tryz.func138, Tryz.ntmps138
  go_wp2_with fail
  go_loopg [3] (runL l) (fun g v wr => ∃ k : Nat, g = runL l - k ∧ k ≤ runL l ∧ v = .int .i64 k ∧ wr = w)
  case atStart => exact ⟨0, rfl, Nat.zero_le _, rfl, rfl⟩
  case round =>
    obtain ⟨k, hg, hk, rfl, hw⟩ := hrel
    subst hw
    have Hg := Lib.hid hg
    clear hg
    have hk1 : IntKind.i64.wrap ((k : Int) + 1) = (k : Int) + 1 := by simp [IntKind.wrap, IntKind.bits, IntKind.signed, Int.bmod]; omega
    by_cases hkn : k < runL l
    · have hkI : (k : Int) < (s.size : Int) := by have := HZ.out; omega
      obtain ⟨x, hx, hd⟩ := runL_dg l hkn
      have hb : bt s k = (x.toNat : Int) := by rw [← HS.out]; exact bt_S l k x hx
      unfold dg at hd
      simp only [Bool.and_eq_true, decide_eq_true_eq] at hd
      have h1 : (48 : Int) ≤ bt s k := by omega
      have h2 : bt s k ≤ 57 := by omega
      clear hb hx hd
      go_wp2_with fail
      go_roundg (runL l - (k + 1))
      case measure => have := Hg.out; omega
      case rel => exact ⟨k + 1, rfl, by omega, by rw [Int.natCast_add]; rfl, rfl⟩
    · have hke : k = runL l := by omega
      by_cases hlt : k < l.length
      · have hkI : (k : Int) < (s.size : Int) := by have := HZ.out; omega
        obtain ⟨x, hx, hd⟩ := runL_stop l (hke ▸ hlt)
        rw [← hke] at hx
        have hb : bt s k = (x.toNat : Int) := by rw [← HS.out]; exact bt_S l k x hx
        have HKE := Lib.hid hke
        by_cases h1 : (48 : Int) ≤ bt s k
        · have h2 : ¬ bt s k ≤ 57 := by
            intro h2
            unfold dg at hd
            simp only [Bool.and_eq_false_iff, decide_eq_false_iff_not] at hd
            omega
          clear hb hx hd hke
          go_wp2_with fail
          exact bodyPost_ret (results_tmp Tryz.results138 _ _ _) rfl ⟨by rw [HKE.out]; rfl, rfl⟩
        · clear hb hx hd hke
          go_wp2_with fail
          exact bodyPost_ret (results_tmp Tryz.results138 _ _ _) rfl ⟨by rw [HKE.out]; rfl, rfl⟩
      · have hkI : ¬ (k : Int) < (s.size : Int) := by have := HZ.out; omega
        have HKE := Lib.hid hke
        clear hke
        go_wp2_with fail
        exact bodyPost_ret (results_tmp Tryz.results138 _ _ _) rfl ⟨by rw [HKE.out]; rfl, rfl⟩
end Go.Proofs.YtldembadjgibjaaGreatDoor
