/-
  HitCaret: Len, Repair, Slice.
-/
import Derived.Test.YtfjjgebfeklnhaaDoorPk
set_option linter.unusedVariables false
set_option linter.unusedSimpArgs false
namespace Go.Proofs.YtfjjgebfeklnhaaDoor
open Go.RowKit Go.K Go.Lib

/-- the library's two tables of UTF-8 lie as its text lays them -/
def Tabs (w : World) : Prop := Lib.Utf8Tabs (Tryd.laysValid_ren.g 3) (Tryd.laysValid_ren.g 4) w
theorem count_c (s : ByteArray) (w : World) (hs : s.size ≤ 1000) : Calls Tryd.prog 23 #[.string s] w fun e w' => e = .returned (.int .i64 (runeCount s)) ∧ Below w.heap.size w w' := by
  refine (Tryd.utf8_RuneCountInString s w (by omega)).mono ?_
  rintro e w' ⟨rfl, pos, rfl⟩
  exact ⟨rfl, (Below.refl _ _).alloc (Nat.le_refl _) _⟩
theorem valid_c (s : ByteArray) (w : World) (hs : s.size ≤ 1000) (hT : Tabs w) : Calls Tryd.prog 20 #[.string s] w fun e w' => e = .returned (.bool (validD s.data.toList)) ∧ Below w.heap.size w w' :=
  Any.utf8_ValidString Tryd.laysValid s w (by omega) hT
theorem len_any (s : ByteArray) (w : World) (hs : s.size ≤ 1000) : Calls Tryd.prog 10 #[.string s] w fun e w' => e = .returned (.int .i64 (runeCount s)) ∧ Below w.heap.size w w' := by
  have H := Lib.hid (count_c s w hs)
  go_enter Tryd.func10, Tryd.ntmps10
  go_wp2_with (go_at_call 23; refine H.out.mono ?_; rintro e w' ⟨rfl, hb⟩)
  exact bodyPost_ret (results_tmp Tryd.results10 _ _ _) rfl ⟨rfl, hb⟩
theorem valid_all (s : ByteArray) (h : ∀ i, i < runeCount s → ¬ ((Utf8.decode s (posAt s i)).1 = 65533 ∧ (Utf8.decode s (posAt s i)).2 = 1)) : validD s.data.toList = true := by
  have key : ∀ k i, i + k = runeCount s → validD (s.data.toList.drop (posAt s i)) = true := by
    intro k
    induction k with
    | zero =>
      intro i hi
      obtain rfl : i = runeCount s := by omega
      rw [posAt_n, List.drop_of_length_le (by rw [Array.length_toList]; exact Nat.le_refl _)]
      rfl
    | succ k ih =>
      intro i hi
      have hp := posAt_in s (show i < runeCount s by omega)
      have hne : s.data.toList.drop (posAt s i) ≠ [] := by
        intro e
        have := congrArg List.length e
        rw [List.length_drop, Array.length_toList] at this
        have e2 : s.data.size = s.size := rfl
        simp only [List.length_nil] at this
        omega
      rw [validD_step _ hne, decodeL_drop, if_neg (h i (by omega)), List.drop_drop, ← posAt_succ hp]
      exact ih (i + 1) (by omega)
  have := key (runeCount s) 0 (by omega)
  simpa [posAt] using this
/-- a rune's own encoding is at least as long as what it was read from; a byte that begins none becomes three -/
theorem cells_ge (s : ByteArray) (p : Nat) (h : p < s.size) : (Utf8.decode s p).2 ≤ (runeCells ((Utf8.decode s p).1 : Nat)).length ∧ ((Utf8.decode s p).1 = 65533 ∧ (Utf8.decode s p).2 = 1 → (runeCells ((Utf8.decode s p).1 : Nat)).length = 3) ∧ (runeCells ((Utf8.decode s p).1 : Nat)).length ≤ 4 ∧ ((Utf8.decode s p).1 : Int) ≤ 1114111 := by
  have hb : ∀ k, (s.get! k).toNat < 256 := fun k => (s.get! k).toNat_lt
  have b0 := hb p
  have b1 := hb (p + 1)
  have b2 := hb (p + 2)
  have b3 := hb (p + 3)
  rw [decode_at]
  generalize (s.get! p).toNat = x0 at *
  generalize (s.get! (p + 1)).toNat = x1 at *
  generalize (s.get! (p + 2)).toNat = x2 at *
  generalize (s.get! (p + 3)).toNat = x3 at *
  generalize s.size - p = n
  clear hb
  simp only [runeCells, List.length_map, encodeRuneZ, decodeN]
  (repeat' split) <;> simp_all <;> omega
/-- a valid string stays as it is; any other one becomes longer -/
def RepPost (s : ByteArray) (w : World) (e : Ending) (w' : World) : Prop :=
  ∃ t : ByteArray, e = .returned (.string t) ∧ (validD s.data.toList = true → t = s) ∧ (validD s.data.toList = false → s.size < t.size) ∧ Below w.heap.size w w'
def RpRel (s : ByteArray) (w1 w' : World) : Prop := ∃ (j : Nat) (l : List UInt8), j ≤ runeCount s ∧ IsBuilderF 58 5 w1.heap.size w1.heap.size (Lib.byteCells l) w' ∧ w'.heap[w1.heap.size + 1]? = some (.stringIter s (posAt s j)) ∧ Below w1.heap.size w1 w' ∧
  posAt s j ≤ l.length ∧ (posAt s j < l.length ∨ ∀ i, i < j → ¬ ((Utf8.decode s (posAt s i)).1 = 65533 ∧ (Utf8.decode s (posAt s i)).2 = 1)) ∧ l.length ≤ 4 * j
theorem World.iter_heap' (w1 : World) (s : ByteArray) : ((w1.alloc (.cells #[.pointer none, .slice none 0 0] 58)).iter s 0).heap[w1.heap.size + 1]? = some (.stringIter s 0) := by
  have := (Go.MapKept.heap_alloc (w1.alloc (.cells #[.pointer none, .slice none 0 0] 58)) (.stringIter s 0)).1
  rw [World.size_alloc] at this
  exact this
set_option maxRecDepth 100000 in
set_option maxHeartbeats 4000000 in
theorem repair_any (s : ByteArray) (w : World) (hs : s.size ≤ 1000) (hT : Tabs w) : Calls Tryd.prog 9 #[.string s] w (RepPost s w) := by
  obtain ⟨v, hv⟩ : ∃ v, validD s.data.toList = v := ⟨_, rfl⟩
  have HV := Lib.hid (valid_c s w hs hT)
  rw [hv] at HV
  cases v with
  | true =>
    have HVV := Lib.hid hv
    clear hv
    go_enter Tryd.func9, Tryd.ntmps9
    go_wp2_with (go_at_call 20; refine HV.out.mono ?_; rintro e w' ⟨rfl, hb⟩)
    exact bodyPost_ret (results_tmp Tryd.results9 _ _ _) rfl ⟨s, rfl, fun _ => rfl, fun h => (by rw [HVV.out] at h; cases h), hb⟩
  | false =>
    have HVV := Lib.hid hv
    clear hv
    go_enter Tryd.func9, Tryd.ntmps9
    go_wp2_with (go_at_call 20; refine HV.out.mono ?_; rintro e w1 ⟨rfl, hb⟩)
    have h0 : RpRel s w1 ((w1.alloc (.cells #[.pointer none, .slice none 0 0] 58)).iter s 0) :=
      ⟨0, [], Nat.zero_le _, (IsBuilderF.of (fresh_isBuilder 58 5 w1)).alloc _, World.iter_heap' w1 s, ((Below.refl _ _).alloc (Nat.le_refl _) _).alloc (by simp) _, Nat.le_refl _, .inr (fun i hi => absurd hi (Nat.not_lt_zero _)), Nat.le_refl _⟩
    have HB1 := Lib.hid hb
    have H0 := Lib.hid h0
    clear hb h0
    obtain ⟨W0, hW0⟩ : ∃ W0, (w1.alloc (.cells #[.pointer none, .slice none 0 0] 58)).iter s 0 = W0 := ⟨_, rfl⟩
    rw [hW0] at H0 ⊢
    clear hW0
    go_loopw [5] (fun _ w' => RpRel s w1 w') (fun _ w' => s.size - w'.iterPos (w1.heap.size + 1))
    case atStart => exact H0.out
    case round =>
      obtain ⟨j, l, hj, hB, hit, hbl, h1, h2, h3⟩ := hrel
      have HBW := Lib.hid hB
      have HIT := Lib.hid hit
      have HBL := Lib.hid hbl
      have H2 := Lib.hid h2
      have hn := runeCount_le s
      clear hB hbl h2
      by_cases hp : posAt s j < s.size
      · have hnx : ∀ ty, (Instr.next (.pointer (some ⟨w1.heap.size + 1, 0, none⟩)) true ty).run Tryd.prog wr = _ := fun ty => run_next_any_at wr _ s (posAt s j) ty hit hp
        obtain ⟨c1, c2, c3, c4⟩ := cells_ge s (posAt s j) hp
        have hl := posAt_lt hp
        have HS2 := Lib.hid (posAt_succ hp)
        have hin := in_of_pos s hp
        have hbl2 := below_iterAt HBL.out (Nat.le_succ _) s (posAt s j + (Utf8.decode s (posAt s j)).2)
        have HBL2 := Lib.hid hbl2
        have HIT2 := Lib.hid (iterAt_heap wr _ s (posAt s j) (posAt s j + (Utf8.decode s (posAt s j)).2) hit)
        have HWR := Lib.hid (write_rune w1.heap.size w1.heap.size (Lib.byteCells l) ((Utf8.decode s (posAt s j)).1 : Nat) (by omega) (by omega) _ (HBW.out.iterAt hit (posAt s j + (Utf8.decode s (posAt s j)).2)) (by rw [Lib.byteCells_length]; omega) HBL2.out.size)
        clear hit hbl2
        go_wp2_with (go_at_call 21; refine HWR.out.mono ?_; rintro e w5 ⟨rfl, hA, hb5, hk5⟩)
        go_roundw
        case rel =>
          refine ⟨j + 1, l ++ encodeRune ((Utf8.decode s (posAt s j)).1 : Nat), by omega, .inr (by rw [Lib.byteCells_append, Lib.byteCells_encodeRune]; exact hA), by rw [HS2.out]; exact hk5.iter HIT2.out (by omega), HBL2.out.trans hb5, ?_, ?_, ?_⟩
          all_goals have hle : (encodeRune ((Utf8.decode s (posAt s j)).1 : Nat)).length = (runeCells ((Utf8.decode s (posAt s j)).1 : Nat)).length := by rw [← Lib.byteCells_encodeRune, Lib.byteCells_length]
          · rw [List.length_append, hle, HS2.out]; omega
          · rw [List.length_append, hle, HS2.out]
            rcases H2.out with q | q
            · left; omega
            · by_cases qb : (Utf8.decode s (posAt s j)).1 = 65533 ∧ (Utf8.decode s (posAt s j)).2 = 1
              · left; have := c2 qb; omega
              · right
                intro i hi
                rcases Nat.lt_or_ge i j with g | g
                · exact q i g
                · obtain rfl : i = j := by omega
                  exact qb
          · rw [List.length_append, hle]; omega
        case measure =>
          have e1 : w5.iterPos (w1.heap.size + 1) = posAt s j + (Utf8.decode s (posAt s j)).2 := by
            unfold World.iterPos
            rw [hk5.iter HIT2.out (by omega)]
          have e2 : wr.iterPos (w1.heap.size + 1) = posAt s j := by
            unfold World.iterPos
            rw [HIT.out]
          simp only [e1, e2, ← HS2.out]
          omega
      · have hnx : ∀ ty, (Instr.next (.pointer (some ⟨w1.heap.size + 1, 0, none⟩)) true ty).run Tryd.prog wr = _ := fun ty => run_next_end_at wr _ s (posAt s j) ty hit hp
        have HSR := Lib.hid (Tryd.Builder_String_any_k w1.heap.size w1.heap.size l wr HBW.out HBL.out.size)
        have HJ := Lib.hid (at_end s hj hp)
        have HLT : s.size < l.length := by
          rcases H2.out with q | q
          · have := posAt_n s; rw [← HJ.out] at this; omega
          · exfalso
            have := valid_all s (fun i hi => q i (by rw [HJ.out]; exact hi))
            rw [HVV.out] at this
            cases this
        go_wp2_with (go_at_call 22; refine HSR.out.mono ?_; rintro e w5 ⟨rfl, hA, hb5, hk5⟩)
        refine bodyPost_ret (results_tmp Tryd.results9 _ _ _) rfl ⟨⟨l.toArray⟩, rfl, fun h => (by rw [HVV.out] at h; cases h), fun _ => ?_, HB1.out.trans ((HBL.out.trans hb5).mono HB1.out.size)⟩
        show s.size < (l.toArray).size
        rw [List.size_toArray]
        exact HLT
def stS (s : ByteArray) (j : Nat) : Int := if j = 0 then s.size else 0
set_option maxRecDepth 100000 in
set_option maxHeartbeats 4000000 in
theorem slice_any (s : ByteArray) (t : Nat) (w : World) (hs : s.size ≤ 1000) (hT : Tabs w) (hv : validD s.data.toList = true) (ht : t ≤ runeCount s) :
    Calls Tryd.prog 13 #[.string s, .int .i64 0, .int .i64 (t : Nat)] w fun e w' => e = .returned (.string (pre s t)) ∧ Below w.heap.size w w' := by
  have m1 : ∀ a b : Int, (if a < b then b else a) = max a b := by intro a b; split <;> omega
  by_cases h0 : t = 0
  · subst h0
    have hp : pre s 0 = ⟨#[]⟩ := by
      unfold pre posAt
      rw [ByteArray.extract_same]
      rfl
    rw [hp]
    go_enter Tryd.func13, Tryd.ntmps13
    go_wp2_with fail
    exact bodyPost_ret (results_tmp Tryd.results13 _ _ _) rfl ⟨rfl, Below.refl _ _⟩
  · have htp : (0 : Int) < (t : Int) := by omega
    have HRP := Lib.hid (repair_any s w hs hT)
    have HV := Lib.hid hv
    have hz : 0 < s.size := by have := posAt_in s (show 0 < runeCount s by omega); simpa [posAt] using this
    clear hv
    go_enter Tryd.func13, Tryd.ntmps13
    go_wp2_with (go_at_call 9; refine HRP.out.mono ?_; rintro e w1 ⟨s', rfl, hs1, -, hb⟩; obtain rfl := hs1 HV.out; have HB1 := Lib.hid hb; clear hb hs1)
    go_loopw [7, 8, 9] (fun v7 v8 v9 w' => ∃ j : Nat, j ≤ runeCount s' ∧ j ≤ t ∧ w' = w1.iter s' (posAt s' j) ∧ v7 = .int .i64 (stS s' j) ∧ v8 = .int .i64 (s'.size : Nat) ∧ v9 = .int .i64 (j : Nat)) (fun _ _ _ w' => s'.size - w'.iterPos w1.heap.size)
    case atStart => exact ⟨0, Nat.zero_le _, Nat.zero_le _, rfl, rfl, rfl, rfl⟩
    case round =>
      obtain ⟨j, hj, hjt, rfl, rfl, rfl, rfl⟩ := hrel
      have hn := runeCount_le s'
      by_cases hp : posAt s' j < s'.size
      · have hnx : ∀ ty, (Instr.next (.pointer (some ⟨w1.heap.size, 0, none⟩)) true ty).run Tryd.prog (w1.iter s' (posAt s' j)) = _ := fun ty => run_next_any w1 s' (posAt s' j) ty hp
        have hl := posAt_lt hp
        have HS2 := Lib.hid (posAt_succ hp)
        have hin := in_of_pos s' hp
        by_cases hj0 : j = 0
        · subst hj0
          have hne : ¬ (0 : Int) = (t : Int) := by omega
          go_wp2_with fail
          go_roundw
          case rel => exact ⟨1, by omega, by omega, by rw [HS2.out], rfl, rfl, rfl⟩
          case measure => simp; rw [← HS2.out]; omega
        · have hne : ¬ (j : Int) = 0 := by omega
          have hst : stS s' j = 0 := by unfold stS; rw [if_neg hj0]
          rw [hst]
          by_cases hjt2 : j = t
          · subst hjt2
            have hple := posAt_le s' j
            go_wp2_with fail
            refine bodyPost_ret (results_tmp Tryd.results13 _ _ _) rfl ⟨?_, HB1.out.trans (((Below.refl _ _).alloc (Nat.le_refl _) _).mono HB1.out.size)⟩
            rfl
          · have hne2 : ¬ (j : Int) = (t : Int) := by omega
            go_wp2_with fail
            go_roundw
            case rel => exact ⟨j + 1, by omega, by omega, by rw [HS2.out], by unfold stS; rw [if_neg (by omega)], rfl, rfl⟩
            case measure => simp; rw [← HS2.out]; omega
      · have hnx : ∀ ty, (Instr.next (.pointer (some ⟨w1.heap.size, 0, none⟩)) true ty).run Tryd.prog (w1.iter s' (posAt s' j)) = _ := fun ty => run_next_end w1 s' (posAt s' j) ty hp
        have HJ := Lib.hid (at_end s' hj hp)
        have hst : stS s' j = 0 := by unfold stS; rw [if_neg (by have := HJ.out; omega)]
        rw [hst]
        go_wp2_with fail
        have e1 : t = runeCount s' := by have := HJ.out; omega
        exact bodyPost_ret (results_tmp Tryd.results13 _ _ _) rfl ⟨by rw [e1, pre_all]; rfl, HB1.out.trans (((Below.refl _ _).alloc (Nat.le_refl _) _).mono HB1.out.size)⟩
end Go.Proofs.YtfjjgebfeklnhaaDoor
