/-
  Cascade: expand.
-/
import Derived.Test.YtldembadjgibjaaGreatDoorAn
import Derived.Test.YtldembadjgibjaaGreatDoorAg
import Derived.Lib.SliceRun
set_option linter.unusedVariables false
set_option linter.unusedSimpArgs false
namespace Go.Proofs.YtldembadjgibjaaGreatDoor
open Go.RowKit Go.K Go.PlainAid Go.Lib

theorem own_of_row {w w' : World} {e sz : Nat} {v : Value} {n : Nat} {xs : List Value} (h : w'.ownsRow w.heap.size e sz v n xs) (hb : Below w.heap.size w w') (h1 : ∀ u ∈ xs, u.oneCell' = true) : ∃ s c, v = .slice s n c ∧ K.Own w w' e sz s n c xs := by
  rcases h.2 with ⟨hv, h0⟩ | ⟨g, cap, cur, hv, hg, hh, c1, c2, c3, c4⟩
  · subst h0
    have hx : xs = [] := List.eq_nil_of_length_eq_zero (by simpa using h.1)
    subst hx
    exact ⟨none, 0, hv, Own.nil hb e sz⟩
  · exact ⟨_, cap, hv, ⟨h.1, h1, .inr ⟨g, 0, cur, rfl, hh, c1, c2, by omega, by simpa using c4⟩⟩, hb, by intro k hk; simp [rowOf] at hk; omega⟩
/-- text.Fields: the words -/
def fldU (l : List UInt8) : List (List UInt8) := (fldL l).map (·.data.toList)
theorem fldU_v (l : List UInt8) : (fldL l).map Value.string = (fldU l).map vS := by
  unfold fldU
  rw [List.map_map]
  rfl
theorem spans_len (p : Nat → Bool) (s : ByteArray) : ∀ (f pos : Nat) (st : Option Nat) (acc : List (Nat × Nat)), (Lib.spansFromP p s f pos st acc).1.length ≤ acc.length + f := by
  intro f
  induction f with
  | zero => intro pos st acc; exact Nat.le_refl _
  | succ f ih =>
    intro pos st acc
    unfold Lib.spansFromP
    split
    · split
      · cases st with
        | some a => exact Nat.le_trans (ih _ _ _) (by simp; omega)
        | none => exact Nat.le_trans (ih _ _ _) (by omega)
      · cases st with
        | some a => exact Nat.le_trans (ih _ _ _) (by omega)
        | none => exact Nat.le_trans (ih _ _ _) (by omega)
    · simp
theorem fldL_len (l : List UInt8) : (fldL l).length ≤ l.length + 1 := by
  unfold fldL Lib.goFieldsP Lib.spansOfP Lib.closeSpans
  rw [List.length_map]
  have h := spans_len spR (S l) (S l).size 0 none []
  rw [S_size] at h ⊢
  simp only [List.length_nil, Nat.zero_add] at h
  split
  · simp; omega
  · omega
theorem fldU_len (l : List UInt8) : (fldU l).length ≤ l.length + 1 := by unfold fldU; rw [List.length_map]; exact fldL_len l
theorem fldU_le (l x : List UInt8) (h : x ∈ fldU l) : x.length ≤ l.length := by
  unfold fldU fldL Lib.goFieldsP at h
  rw [List.map_map] at h
  obtain ⟨p, -, rfl⟩ := List.mem_map.1 h
  show ((S l).extract p.1 p.2).data.toList.length ≤ l.length
  rw [S_ext]
  simp
  omega
def fill1 (l : List (List UInt8)) : List (List UInt8) := l ++ [l.getD (l.length - 2) []]
def fillI : Nat → List (List UInt8) → List (List UInt8)
  | 0, l => l
  | n + 1, l => fillI n (fill1 l)
/-- one to four words as four -/
def fillM (l : List (List UInt8)) : List (List UInt8) := fillI (4 - l.length) l
theorem fill1_len (l : List (List UInt8)) : (fill1 l).length = l.length + 1 := by simp [fill1]
theorem fill_step {l : List (List UInt8)} (h : l.length < 4) : fillM l = fillM (fill1 l) := by
  unfold fillM
  rw [fill1_len, show 4 - l.length = (4 - (l.length + 1)) + 1 from by omega]
  rfl
theorem fill_end {l : List (List UInt8)} (h : l.length = 4) : fillM l = l := by unfold fillM; rw [h]; rfl
theorem fill1_mem {l : List (List UInt8)} (hl : l ≠ []) {x : List UInt8} (h : x ∈ fill1 l) : x ∈ l := by
  unfold fill1 at h
  rcases List.mem_append.1 h with h | h
  · exact h
  · have hp := List.length_pos_iff.2 hl
    rw [List.mem_singleton] at h
    rw [h, List.getD_eq_getElem?_getD, List.getElem?_eq_getElem (by omega)]
    exact List.getElem_mem _
abbrev flexL : List UInt8 := [102, 108, 101, 120]
def expandM (n s : List UInt8) : List De × Bool :=
  if n = flexL then flexM s (fldU s)
  else match sidesM n with
    | none => eachM [n] [s]
    | some ns => if amongL s inhL = true then eachM ns [s, s, s, s]
      else if (fldU s).length < 1 ∨ (fldU s).length > 4 ∨ globs (fldU s) = true then ([], false)
      else eachM ns (fillM (fldU s))
theorem eql_nil (a : Option Addr) (l c : Nat) (w : World) : (binOp .eql 33 (.slice a l c) (.slice none 0 0)).run Tryz.prog w = .ok (.bool a.isNone) w :=
  Go.Lib.run_eql_slice_nil w 33 9 a l c 0 0 Tryz.underlying33
theorem fields_st (s : List UInt8) (hs : s.length ≤ 100000) (w : World) : Calls Tryz.prog 65 #[.string (S s)] w fun e w' => ∃ sl c, e = .returned (.slice sl (fldU s).length c) ∧ K.Own w w' 9 1 sl (fldU s).length c ((fldU s).map vS) := by
  refine (fields_any s hs w).mono ?_
  rintro e w' ⟨A, rfl, hA, ho, hb⟩
  rw [fldU_v] at ho
  obtain ⟨sl, c, hv, hown⟩ := own_of_row ho hb (one_str _)
  have hl : (fldU s).length = (fldL s).length := by unfold fldU; rw [List.length_map]
  rw [← hl] at hown hv
  exact ⟨sl, c, by rw [← hl, hv], hown⟩
set_option maxRecDepth 100000 in
set_option maxHeartbeats 4000000 in
/-- the shorthand flex, and a longhand -/
theorem expand_flex [Inhabited TbBox] (s : List UInt8) (hs : s.length ≤ 50000) (w : World) (E : Env w) : Calls Tryz.prog 41 #[.string (S flexL), .string (S s)] w (DecsPost (flexM s (fldU s)) w) := by
  have hf := fields_st s (by omega) w
  have hxl : ∀ x ∈ fldU s, x.length ≤ 100000 := fun x hx => by have := fldU_le s x hx; omega
  have hfl := flex_any s (by omega) (fldU s) hxl
  obtain ⟨⟨fd, fb⟩, hR⟩ : ∃ R, flexM s (fldU s) = R := ⟨_, rfl⟩
  rw [hR] at hfl ⊢
  have hlen := fldU_len s
  obtain ⟨F, hF⟩ : ∃ F, fldU s = F := ⟨_, rfl⟩
  rw [hF] at hf hfl hlen
  obtain ⟨n, hn⟩ : ∃ n, F.length = n := ⟨_, rfl⟩
  rw [hn] at hf hlen
  have HF := Lib.hid hf
  have HFL := Lib.hid hfl
  have HE := Lib.hid E
  clear hf hfl E hR hF hn hxl
  go_enter Tryz.func41, Tryz.ntmps41
  go_wp2_with (first
    | (go_at_call 65; refine HF.out.mono ?_; rintro e w1 ⟨sl, c, rfl, ho⟩; have HO := Lib.hid ho; clear ho)
    | (go_at_call 66; refine (HFL.out _ _ _ _ HO.out.rc (by omega) (HE.out.below HO.out.bel)).mono ?_; rintro e w2 ⟨s2, c2, rfl, ho2⟩))
  exact bodyPost_ret (v := .tuple #[.slice s2 fd.length c2, .bool fb]) (by simp [results, Tryz.results41, go_sem]) rfl ⟨s2, c2, rfl, own_up HO.out.bel ho2⟩
set_option maxRecDepth 100000 in
set_option maxHeartbeats 4000000 in
theorem expand_one [Inhabited TbBox] (n s : List UInt8) (hn : n.length ≤ 100000) (hs : s.length ≤ 50000) (h1 : ¬ n = flexL) (h2 : sidesM n = none) (w : World) (E : Env w) : Calls Tryz.prog 41 #[.string (S n), .string (S s)] w (DecsPost (eachM [n] [s]) w) := by
  have hf := fields_st s (by omega) w
  have hsd := sides_any n hn
  have he := each_any [n] [s] rfl (by simp) (by intro x hx; rw [List.mem_singleton] at hx; rw [hx]; exact hn) (by intro x hx; rw [List.mem_singleton] at hx; rw [hx]; omega)
  obtain ⟨⟨fd, fb⟩, hR⟩ : ∃ R, eachM [n] [s] = R := ⟨_, rfl⟩
  rw [hR] at he ⊢
  obtain ⟨N, hN⟩ : ∃ n, (fldU s).length = n := ⟨_, rfl⟩
  have hlen := fldU_len s
  rw [hN] at hf hlen
  have hnb := l_beq h1
  have heq := eql_nil
  have HF := Lib.hid hf
  have HSD := Lib.hid (fun w => (hsd w).mono (show ∀ e w', SidesPost n w e w' → Below w.heap.size w w' ∧ e = .returned (.slice none 0 0) from by
    rintro e w' ⟨hb, ⟨-, h⟩ | ⟨l, g, h, -⟩⟩
    · exact ⟨hb, h⟩
    · rw [h2] at h; cases h))
  have HEA := Lib.hid he
  have HE := Lib.hid E
  clear hf hsd he E hR hN h1 h2
  go_enter Tryz.func41, Tryz.ntmps41
  go_wp2_with (first
    | (go_at_call 65; refine HF.out.mono ?_; rintro e w1 ⟨sl, c, rfl, ho⟩; have HO := Lib.hid (St.start w ho.bel); clear ho)
    | (go_at_call 67; refine (HSD.out _).mono ?_; rintro e w2 ⟨hb2, rfl⟩; have H2 := Lib.hid (((HO.out.of_below hb2).new #[vS n] 9).new #[vS s] 9); rw [show (w2.alloc (.cells #[vS n] 9)).heap.size = w2.heap.size + 1 from by simp] at H2; clear hb2)
    | (go_at_call 68; refine (HEA.out _ _ 1 1 _ (rc_blk H2.out.swap.blk.1 1 rfl (by omega) (one_str [n])) (rc_blk H2.out.blk.1 1 rfl (by omega) (one_str [s])) (HE.out.below H2.out.bel)).mono ?_; rintro e w3 ⟨s2, c2, rfl, ho2⟩))
  exact bodyPost_ret (v := .tuple #[.slice s2 fd.length c2, .bool fb]) (by simp [results, Tryz.results41, go_sem]) rfl ⟨s2, c2, rfl, own_up H2.out.bel ho2⟩
set_option maxRecDepth 100000 in
set_option maxHeartbeats 4000000 in
theorem expand_glob [Inhabited TbBox] (n s : List UInt8) (ns : List (List UInt8)) (hn : n.length ≤ 100000) (hs : s.length ≤ 50000) (h1 : ¬ n = flexL) (h2 : sidesM n = some ns) (h3 : amongL s inhL = true) (w : World) (E : Env w) : Calls Tryz.prog 41 #[.string (S n), .string (S s)] w (DecsPost (eachM ns [s, s, s, s]) w) := by
  have hf := fields_st s (by omega) w
  have hsd := sides_any n hn
  obtain ⟨hn4, hnx⟩ := sides_len h2
  have he := each_any ns [s, s, s, s] (by rw [hn4]; rfl) (by omega) (by intro x hx; have := hnx x hx; omega) (by intro x hx; simp only [List.mem_cons, List.not_mem_nil, or_false, or_self] at hx; rw [hx]; omega)
  obtain ⟨⟨fd, fb⟩, hR⟩ : ∃ R, eachM ns [s, s, s, s] = R := ⟨_, rfl⟩
  rw [hR] at he ⊢
  rw [hn4] at he
  obtain ⟨N, hN⟩ : ∃ n, (fldU s).length = n := ⟨_, rfl⟩
  have hlen := fldU_len s
  rw [hN] at hf hlen
  have hnb := l_beq h1
  have heq := eql_nil
  have hi := inh_any s
  simp only [h3] at hi
  have HF := Lib.hid hf
  have HSD := Lib.hid (fun w => (hsd w).mono (show ∀ e w', SidesPost n w e w' → Below w.heap.size w w' ∧ ∃ g, e = .returned (.slice (some ⟨g, 0, none⟩) 4 4) ∧ Rc w' 1 (some ⟨g, 0, none⟩) 4 4 (ns.map vS) from by
    rintro e w' ⟨hb, ⟨h, -⟩ | ⟨l, g, h, e, -, hr⟩⟩
    · rw [h2] at h; cases h
    · rw [h2] at h; cases h; exact ⟨hb, g, e, hr⟩))
  have HEA := Lib.hid he
  have HI := Lib.hid hi
  have HE := Lib.hid E
  clear hf hsd he E hR hN h1 h2 hi h3 hn4 hnx
  go_enter Tryz.func41, Tryz.ntmps41
  go_wp2_with (first
    | (go_at_call 65; refine HF.out.mono ?_; rintro e w1 ⟨sl, c, rfl, ho⟩; have HO := Lib.hid (St.start w ho.bel); clear ho)
    | (go_at_call 67; refine (HSD.out _).mono ?_; rintro e w2 ⟨hb2, g, rfl, hr⟩; have H2 := Lib.hid (HO.out.of_below hb2); have HRC := Lib.hid hr; clear hb2 hr)
    | (go_at_call 69; refine (HI.out _ (HE.out.below H2.out.bel)).mono ?_; rintro e w3 ⟨rfl, hb3⟩; have H3 := Lib.hid ((H2.out.of_below hb3).new #[vS s, vS s, vS s, vS s] 9); have HRC3 := Lib.hid (HRC.out.below (hb3.alloc hb3.size (.cells #[vS s, vS s, vS s, vS s] 9))); clear hb3)
    | (go_at_call 68; refine (HEA.out _ _ 4 4 _ HRC3.out (rc_blk H3.out.blk.1 4 rfl (by omega) (one_str [s, s, s, s])) (HE.out.below H3.out.bel)).mono ?_; rintro e w4 ⟨s2, c2, rfl, ho2⟩))
  exact bodyPost_ret (v := .tuple #[.slice s2 fd.length c2, .bool fb]) (by simp [results, Tryz.results41, go_sem]) rfl ⟨s2, c2, rfl, own_up H3.out.bel ho2⟩
end Go.Proofs.YtldembadjgibjaaGreatDoor
