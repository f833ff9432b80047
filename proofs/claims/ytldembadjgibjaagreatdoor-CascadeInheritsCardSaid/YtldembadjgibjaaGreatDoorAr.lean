/-
  Cascade: Repair.
-/
import Derived.Test.YtldembadjgibjaaGreatDoorAl
set_option linter.unusedVariables false
set_option linter.unusedSimpArgs false
namespace Go.Proofs.YtldembadjgibjaaGreatDoor
open Go.RowKit Go.K Go.Lib

/-- a rune's own encoding is at least as long as what it was read from; a byte that begins none becomes three -/
theorem cells_ge (s : ByteArray) (p : Nat) (h : p < s.size) : (Utf8.decode s p).2 ≤ (runeCells ((Utf8.decode s p).1 : Nat)).length ∧ ((Utf8.decode s p).1 = 65533 ∧ (Utf8.decode s p).2 = 1 → (runeCells ((Utf8.decode s p).1 : Nat)).length = 3) ∧ (runeCells ((Utf8.decode s p).1 : Nat)).length ≤ 4 ∧ ((Utf8.decode s p).1 : Int) ≤ 1114111 := by
  have hb : ∀ k, (s.get! k).toNat < 256 := fun k => (s.get! k).toNat_lt
  have b0 := hb p
  have b1 := hb (p + 1)
  have b2 := hb (p + 2)
  have b3 := hb (p + 3)
  rw [decode_at]
  generalize (s.get! p).toNat = x0 at *
  generalize (s.get! (p + 1)).toNat = x1 at *
  generalize (s.get! (p + 2)).toNat = x2 at *
  generalize (s.get! (p + 3)).toNat = x3 at *
  generalize s.size - p = n
  clear hb
  simp only [runeCells, List.length_map, encodeRuneZ, decodeN]
  (repeat' split) <;> simp_all <;> omega
/-- what Repair makes of the first j runes -/
def repL (s : ByteArray) (j : Nat) : List UInt8 := (List.range j).flatMap fun i => encodeRune ((Utf8.decode s (posAt s i)).1 : Nat)
theorem repL_succ (s : ByteArray) (j : Nat) : repL s (j + 1) = repL s j ++ encodeRune ((Utf8.decode s (posAt s j)).1 : Nat) := by
  unfold repL
  rw [List.range_succ, List.flatMap_append]
  simp
def repairM (s : List UInt8) : List UInt8 := if validD s = true then s else repL (S s) (runeCount (S s))
def Tabs (w : World) : Prop := Lib.Utf8Tabs (Tryz.laysValid_ren.g 3) (Tryz.laysValid_ren.g 4) w
theorem valid_c (s : ByteArray) (w : World) (hs : s.size ≤ 10000) (hT : Tabs w) : Calls Tryz.prog 72 #[.string s] w fun e w' => e = .returned (.bool (validD s.data.toList)) ∧ Below w.heap.size w w' :=
  Any.utf8_ValidString Tryz.laysValid s w (by omega) hT
def RpRel (s : ByteArray) (w1 w' : World) : Prop := ∃ (j : Nat), j ≤ runeCount s ∧ IsBuilderF 93 5 w1.heap.size w1.heap.size (Lib.byteCells (repL s j)) w' ∧ w'.heap[w1.heap.size + 1]? = some (.stringIter s (posAt s j)) ∧ Below w1.heap.size w1 w' ∧ (repL s j).length ≤ 4 * j
theorem World.iter_heap' (w1 : World) (s : ByteArray) : ((w1.alloc (.cells #[.pointer none, .slice none 0 0] 93)).iter s 0).heap[w1.heap.size + 1]? = some (.stringIter s 0) := by
  have := (Go.MapKept.heap_alloc (w1.alloc (.cells #[.pointer none, .slice none 0 0] 93)) (.stringIter s 0)).1
  rw [World.size_alloc] at this
  exact this
def rpS (s : ByteArray) : ByteArray := if validD s.data.toList = true then s else ⟨(repL s (runeCount s)).toArray⟩
set_option maxRecDepth 100000 in
set_option maxHeartbeats 4000000 in
theorem repair_s (s : ByteArray) (w : World) (hs : s.size ≤ 10000) (hT : Tabs w) : Calls Tryz.prog 42 #[.string s] w fun e w' => e = .returned (.string (rpS s)) ∧ Below w.heap.size w w' := by
  obtain ⟨v, hv⟩ : ∃ v, validD s.data.toList = v := ⟨_, rfl⟩
  have HV := Lib.hid (valid_c s w hs hT)
  rw [hv] at HV
  unfold rpS
  rw [hv]
  cases v with
  | true =>
    clear hv
    go_enter Tryz.func42, Tryz.ntmps42
    go_wp2_with (go_at_call 72; refine HV.out.mono ?_; rintro e w' ⟨rfl, hb⟩)
    exact bodyPost_ret (results_tmp Tryz.results42 _ _ _) rfl ⟨rfl, hb⟩
  | false =>
    rw [if_neg (by decide)]
    obtain ⟨RES, hRES⟩ : ∃ r : ByteArray, (⟨(repL s (runeCount s)).toArray⟩ : ByteArray) = r := ⟨_, rfl⟩
    rw [hRES]
    have HRES := Lib.hid hRES
    clear hv hRES
    go_enter Tryz.func42, Tryz.ntmps42
    go_wp2_with (go_at_call 72; refine HV.out.mono ?_; rintro e w1 ⟨rfl, hb⟩)
    have h0 : RpRel s w1 ((w1.alloc (.cells #[.pointer none, .slice none 0 0] 93)).iter s 0) :=
      ⟨0, Nat.zero_le _, (IsBuilderF.of (fresh_isBuilder 93 5 w1)).alloc _, World.iter_heap' w1 s, ((Below.refl _ _).alloc (Nat.le_refl _) _).alloc (by simp) _, Nat.le_refl _⟩
    have HB1 := Lib.hid hb
    have H0 := Lib.hid h0
    clear hb h0
    obtain ⟨W0, hW0⟩ : ∃ W0, (w1.alloc (.cells #[.pointer none, .slice none 0 0] 93)).iter s 0 = W0 := ⟨_, rfl⟩
    rw [hW0] at H0 ⊢
    clear hW0
    go_loopw [5] (fun _ w' => RpRel s w1 w') (fun _ w' => s.size - w'.iterPos (w1.heap.size + 1))
    case atStart => exact H0.out
    case round =>
      obtain ⟨j, hj, hB, hit, hbl, h3⟩ := hrel
      have HBW := Lib.hid hB
      have HIT := Lib.hid hit
      have HBL := Lib.hid hbl
      have hn := runeCount_le s
      clear hB hbl
      by_cases hp : posAt s j < s.size
      · have hnx : ∀ ty, (Instr.next (.pointer (some ⟨w1.heap.size + 1, 0, none⟩)) true ty).run Tryz.prog wr = _ := fun ty => run_next_any_at wr _ s (posAt s j) ty hit hp
        obtain ⟨c1, c2, c3, c4⟩ := cells_ge s (posAt s j) hp
        have hl := posAt_lt hp
        have HS2 := Lib.hid (posAt_succ hp)
        have hin := in_of_pos s hp
        have hbl2 := below_iterAt HBL.out (Nat.le_succ _) s (posAt s j + (Utf8.decode s (posAt s j)).2)
        have HBL2 := Lib.hid hbl2
        have HIT2 := Lib.hid (iterAt_heap wr _ s (posAt s j) (posAt s j + (Utf8.decode s (posAt s j)).2) hit)
        have HWR := Lib.hid (write_rune w1.heap.size w1.heap.size (Lib.byteCells (repL s j)) ((Utf8.decode s (posAt s j)).1 : Nat) (by omega) (by omega) _ (HBW.out.iterAt hit (posAt s j + (Utf8.decode s (posAt s j)).2)) (by rw [Lib.byteCells_length]; omega) HBL2.out.size)
        clear hit hbl2
        go_wp2_with (go_at_call 73; refine HWR.out.mono ?_; rintro e w5 ⟨rfl, hA, hb5, hk5⟩)
        go_roundw
        case rel =>
          refine ⟨j + 1, by omega, .inr (by rw [repL_succ, Lib.byteCells_append, Lib.byteCells_encodeRune]; exact hA), by rw [HS2.out]; exact hk5.iter HIT2.out (by omega), HBL2.out.trans hb5, ?_⟩
          have hle : (encodeRune ((Utf8.decode s (posAt s j)).1 : Nat)).length = (runeCells ((Utf8.decode s (posAt s j)).1 : Nat)).length := by rw [← Lib.byteCells_encodeRune, Lib.byteCells_length]
          rw [repL_succ, List.length_append, hle]; omega
        case measure =>
          have e1 : w5.iterPos (w1.heap.size + 1) = posAt s j + (Utf8.decode s (posAt s j)).2 := by
            unfold World.iterPos
            rw [hk5.iter HIT2.out (by omega)]
          have e2 : wr.iterPos (w1.heap.size + 1) = posAt s j := by
            unfold World.iterPos
            rw [HIT.out]
          simp only [e1, e2, ← HS2.out]
          omega
      · have hnx : ∀ ty, (Instr.next (.pointer (some ⟨w1.heap.size + 1, 0, none⟩)) true ty).run Tryz.prog wr = _ := fun ty => run_next_end_at wr _ s (posAt s j) ty hit hp
        have HSR := Lib.hid (Tryz.Builder_String_any_k w1.heap.size w1.heap.size (repL s j) wr HBW.out HBL.out.size)
        have HJ := Lib.hid (at_end s hj hp)
        go_wp2_with (go_at_call 45; refine HSR.out.mono ?_; rintro e w5 ⟨rfl, hA, hb5, hk5⟩)
        exact bodyPost_ret (results_tmp Tryz.results42 _ _ _) rfl ⟨by rw [← HRES.out, ← HJ.out]; rfl, HB1.out.trans ((HBL.out.trans hb5).mono HB1.out.size)⟩
theorem repair_any (s : List UInt8) (w : World) (hs : s.length ≤ 10000) (hT : Tabs w) : Calls Tryz.prog 42 #[.string (S s)] w fun e w' => e = .returned (.string (S (repairM s))) ∧ Below w.heap.size w w' := by
  have h := repair_s (S s) w (by rw [S_size]; exact hs) hT
  have e : rpS (S s) = S (repairM s) := by
    unfold rpS repairM
    rw [S_list]
    split <;> rfl
  rwa [e] at h
theorem repL_len (s : ByteArray) : ∀ j, j ≤ runeCount s → (repL s j).length ≤ 4 * j := by
  intro j
  induction j with
  | zero => intro _; exact Nat.le_refl _
  | succ j ih =>
    intro hj
    have hp := posAt_in s (show j < runeCount s by omega)
    obtain ⟨c1, c2, c3, c4⟩ := cells_ge s (posAt s j) hp
    have hle : (encodeRune ((Utf8.decode s (posAt s j)).1 : Nat)).length = (runeCells ((Utf8.decode s (posAt s j)).1 : Nat)).length := by rw [← Lib.byteCells_encodeRune, Lib.byteCells_length]
    have := ih (by omega)
    rw [repL_succ, List.length_append, hle]; omega
theorem repairM_len (s : List UInt8) : (repairM s).length ≤ 4 * s.length := by
  unfold repairM
  split
  · omega
  · have h1 := repL_len (S s) (runeCount (S s)) (Nat.le_refl _)
    have h2 := runeCount_le (S s)
    rw [S_size] at h2
    omega
end Go.Proofs.YtldembadjgibjaaGreatDoor
