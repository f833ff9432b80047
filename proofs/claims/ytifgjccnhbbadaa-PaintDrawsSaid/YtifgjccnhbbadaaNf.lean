/-
  PaintDraws: the chapter's Repair.
-/
import Derived.Test.YtifgjccnhbbadaaNe
import Derived.Lib.AppendStr
import Derived.Laws.BytesString
import Derived.Laws.IdiomStrings
import Derived.Laws.AppendOwn
set_option linter.unusedVariables false
set_option linter.unusedSimpArgs false
namespace Go.Proofs.Ytifgjccnhbbadaa
open Go.RowKit Go.K Go.PlainAid Go.Lib

theorem infoU8 : (Try.prog.info? 5).map (fun i => (i.zero, i.size, i.bytes)) = some (some (.int .u8 0), 1, 1) := by kernel_rfl
def RpRel (s : ByteArray) (w0 : World) (g : Nat) (v3 v4 : Value) (wr : World) : Prop :=
  ∃ j : Nat, g = runeCount s - j ∧ j ≤ runeCount s ∧ v4 = .int .i64 (posAt s j : Nat) ∧ wr.ownsRow w0.heap.size 5 1 v3 (enc s j).length (Lib.byteCells (enc s j)) ∧ Below w0.heap.size w0 wr
theorem back_nil {P : Program} (w : World) (src dst e : TypeId) (c : Nat)
    (hs : P.underlying src = some (.slice e)) (he : P.underlying e = some (.int .u8)) (hd : P.underlying dst = some .string) :
    (convert src dst (.slice none 0 c)).run P w = .ok (.string ⟨#[]⟩) w := by
  rw [run_convert_bytes_string w src dst e none 0 c hs he hd]
  unfold Conv.bytesToString
  simp [Sem.run_pure, Sem.run_bind, Result.andThen]
  rfl
theorem own_string {w : World} {B : Nat} {v : Value} {l : List UInt8} (h : w.ownsRow B 5 1 v l.length (Lib.byteCells l)) : (convert 74 9 v).run Try.prog w = .ok (.string ⟨l.toArray⟩) w := by
  rcases h.2 with ⟨hv, h0⟩ | ⟨g, cap, cur, hv, _⟩
  · have : l = [] := List.length_eq_zero_iff.1 h0
    subst this
    rw [hv]
    exact back_nil w 74 9 5 0 Try.underlying74 Try.underlying5 Try.underlying9
  · have hg : v.ownBlock = some g := by rw [hv]; simp [Value.ownBlock]
    have hc := h.cells hg
    rw [hv]
    exact run_convert_bytes_back w 74 9 5 ⟨g, 0, none⟩ cap l Try.underlying74 Try.underlying5 Try.underlying9 (fun j hj => hc j _ (by unfold Lib.byteCells; rw [List.getElem?_map, List.getElem?_eq_getElem hj]; rfl))
theorem own_slice {w : World} {B : Nat} {v : Value} {n : Nat} {xs : List Value} (h : w.ownsRow B 5 1 v n xs) : ∃ s c, v = .slice s n c := by
  rcases h.2 with ⟨hv, h0⟩ | ⟨g, cap, cur, hv, _⟩
  · exact ⟨none, 0, by rw [hv, h0]⟩
  · exact ⟨_, _, hv⟩
set_option maxRecDepth 100000 in
set_option maxHeartbeats 2000000 in
theorem repair_any (s : ByteArray) (w : World) (hs : s.size ≤ 200) : Calls Try.prog 22 #[.string s] w fun e w' => e = .returned (.string (repS s)) ∧ Below w.heap.size w w' := by
  obtain ⟨i0, hi, hz0, hz1, hz2⟩ := info_parts infoU8
  have hnc := runeCount_le s
  go_enter Try.func22, Try.ntmps22
  go_wp2_with fail
  go_loopg [3, 4] (runeCount s) (RpRel s w)
  case atStart => exact ⟨0, rfl, Nat.zero_le _, rfl, ⟨rfl, .inl ⟨rfl, rfl⟩⟩, Below.refl _ _⟩
  case round =>
    obtain ⟨j, hg, hj, rfl, hown, hb⟩ := hrel
    have Hg := Lib.hid hg
    have HO := Lib.hid hown
    have HB := Lib.hid hb
    clear hg hown hb
    have hel := enc_len s j
    by_cases hp : posAt s j < s.size
    · have hpI : (posAt s j : Int) < (s.size : Int) := by omega
      have hsz := size_any s (posAt s j) wr hp (by omega)
      rw [size_decode s _ hp] at hsz
      have hin := in_of_pos s hp
      have hps := posAt_succ hp
      have hwl := width_le s _ hp
      by_cases hbad : badAt s (posAt s j)
      · rw [if_pos hbad] at hsz
        have HSZ := Lib.hid hsz
        have hw1 := wrapS (a := (posAt s j : Int) + 1) (by omega) (by omega)
        have hn : enc s (j + 1) = enc s j ++ [239, 191, 189] := by
          rw [enc]
          unfold rn
          rw [hbad.1]
          rfl
        have HN := Lib.hid hn
        have hp1 : ((posAt s (j + 1) : Nat) : Int) = (posAt s j : Int) + 1 := by rw [hps, hbad.2]; omega
        have HP1 := Lib.hid hp1
        clear hsz hn hp1 hps hbad hwl
        go_wp2_with (first
          | (go_at_call 31; refine HSZ.out.mono ?_; rintro e w' ⟨rfl, hw'⟩; rw [hw']; clear hw')
          | (at_builtin; refine wpList_append_own _ rfl _ _ 74 rfl w.heap.size 5 i0 (.int .u8 0) 1 1 Try.underlying74 hi hz0 hz1 hz2 rfl (by decide) _ _ _ rfl (HO.out.alloc _) ⟨wr.heap.size, 0, none⟩ 3 3 [.int .u8 239, .int .u8 191, .int .u8 189] rfl rfl ?c1 ?c2 ?c3 ?c4 ?c5 ?_))
        case c1 =>
          intro j u hj
          match j, hj with
          | 0, hj => simp at hj; subst hj; simp [Addr.add]
          | 1, hj => simp at hj; subst hj; simp [Addr.add]
          | 2, hj => simp at hj; subst hj; simp [Addr.add]
        case c2 => intro u hu; simp at hu; rcases hu with rfl | rfl | rfl <;> rfl
        case c3 => unfold maxLen; omega
        case c4 => omega
        case c5 => have := HB.out.size; simp; omega
        intro v' w2 hown' hgrow _
        have HO2 := Lib.hid hown'
        have HB2 := Lib.hid ((HB.out.alloc HB.out.size _).grown hgrow (by have := HB.out.size; simp; omega) (fun k hk => (HO.out.lt k hk).1))
        clear hown' hgrow
        go_wp2_with fail
        go_roundg (runeCount s - (j + 1))
        case measure => have := Hg.out; omega
        case rel => exact ⟨j + 1, rfl, by omega, by rw [HP1.out], by rw [HN.out, List.length_append, Lib.byteCells_append]; exact HO2.out, HB2.out⟩
      · rw [if_neg hbad] at hsz
        have HSZ := Lib.hid hsz
        obtain ⟨k, hk⟩ : ∃ k, (Utf8.decode s (posAt s j)).2 = k := ⟨_, rfl⟩
        have hk1 := decode_width_pos s _ hp
        rw [hk] at HSZ hwl hps hk1
        have hw1 := wrapS (a := (posAt s j : Int) + k) (by omega) (by omega)
        have hseg := seg_enc s _ hp hbad
        rw [hk] at hseg
        have hn : enc s (j + 1) = enc s j ++ (s.extract (posAt s j) (posAt s j + k)).data.toList := by
          rw [enc, ByteArray.data_extract, Array.toList_extract, List.extract_eq_take_drop]
          unfold rn
          rw [← hseg, Nat.add_sub_cancel_left]
        have HN := Lib.hid hn
        have hp1 : ((posAt s (j + 1) : Nat) : Int) = (posAt s j : Int) + k := by rw [hps]; omega
        have HP1 := Lib.hid hp1
        have hkne : ¬ (k : Int) = 0 := by omega
        have hxs : (s.extract (posAt s j) (posAt s j + k)).size = k := by simp [ByteArray.size_extract]; omega
        have HXS := Lib.hid hxs
        have hsl : ((posAt s j : Int) + k) ≤ (s.size : Int) := by omega
        clear hsz hn hp1 hps hbad hk hseg hxs
        go_wp2_with (first
          | (go_at_call 31; refine HSZ.out.mono ?_; rintro e w' ⟨rfl, hw'⟩; rw [hw']; clear hw')
          | (at_builtin; go_loud (refine wpList_append_own_string _ rfl _ _ 74 9 rfl w.heap.size 5 i0 Try.underlying74 Try.underlying9 hi hz0 hz1 hz2 _ _ _ rfl HO.out (s.extract (posAt s j) (posAt s j + k)) rfl ?d3 ?d4 ?d5 ?_)))
        case d3 => rw [HXS.out]; unfold maxLen; omega
        case d4 => rw [HXS.out]; omega
        case d5 => have := HB.out.size; simp; omega
        intro v' w2 hown' hgrow _
        have HO2 := Lib.hid hown'
        have HB2 := Lib.hid (HB.out.grown hgrow (by have := HB.out.size; simp; omega) (fun k hk => (HO.out.lt k hk).1))
        clear hown' hgrow
        go_wp2_with fail
        go_roundg (runeCount s - (j + 1))
        case measure => have := Hg.out; omega
        case rel => exact ⟨j + 1, rfl, by omega, by rw [HP1.out], by rw [HN.out, List.length_append, Lib.byteCells_append]; have := HO2.out; rw [strCells_eq] at this; have hk : (s.extract (posAt s j) (posAt s j + k)).data.toList.length = (s.extract (posAt s j) (posAt s j + k)).size := Array.length_toList; rw [hk, HXS.out]; exact this, HB2.out⟩
    · have hpI : ¬ (posAt s j : Int) < (s.size : Int) := by omega
      have hje := at_end s hj hp
      have HJ := Lib.hid hje
      have hcv0 := own_string HO.out
      rw [HJ.out] at hcv0
      have HCV := Lib.hid hcv0
      clear hje hcv0
      go_wp2_with fail
      rw [HCV.out]
      simp only [Result.andThen]
      rw [Oper.upon_value]
      go_wp2_with fail
      exact bodyPost_ret (results_tmp Try.results22 _ _ _) rfl ⟨rfl, HB.out⟩
end Go.Proofs.Ytifgjccnhbbadaa
