/-
  Cascade: expand, one to four words.
-/
import Derived.Test.YtldembadjgibjaaGreatDoorAo
set_option linter.unusedVariables false
set_option linter.unusedSimpArgs false
namespace Go.Proofs.YtldembadjgibjaaGreatDoor
open Go.RowKit Go.K Go.PlainAid Go.Lib

set_option maxRecDepth 100000 in
set_option maxHeartbeats 4000000 in
theorem expand_bad [Inhabited TbBox] (n s : List UInt8) (ns : List (List UInt8)) (hn : n.length ≤ 100000) (hs : s.length ≤ 50000) (h1 : ¬ n = flexL) (h2 : sidesM n = some ns) (h3 : amongL s inhL = false)
    (h4 : (fldU s).length < 1 ∨ (fldU s).length > 4 ∨ globs (fldU s) = true) (w : World) (E : Env w) : Calls Tryz.prog 41 #[.string (S n), .string (S s)] w (DecsPost (([], false) : List De × Bool) w) := by
  have hf := fields_st s (by omega) w
  have hsd := sides_any n hn
  have hgl := globs_any (fldU s)
  have hlen := fldU_len s
  have hnb := l_beq h1
  have heq := eql_nil
  have hi := inh_any s
  simp only [h3] at hi
  obtain ⟨F, hF⟩ : ∃ F, fldU s = F := ⟨_, rfl⟩
  rw [hF] at hf hgl hlen h4
  obtain ⟨N, hN⟩ : ∃ n, F.length = n := ⟨_, rfl⟩
  rw [hN] at hf hlen h4 hgl
  have HGL := Lib.hid hgl
  have HF := Lib.hid hf
  have HSD := Lib.hid (fun w => (hsd w).mono (show ∀ e w', SidesPost n w e w' → Below w.heap.size w w' ∧ ∃ g, e = .returned (.slice (some ⟨g, 0, none⟩) 4 4) from by
    rintro e w' ⟨hb, ⟨h, -⟩ | ⟨l, g, h, e, -, hr⟩⟩
    · rw [h2] at h; cases h
    · exact ⟨hb, g, e⟩))
  have HI := Lib.hid hi
  have HE := Lib.hid E
  clear hf hsd E hN hF h1 h2 hi h3 hgl
  by_cases hc1 : N = 0
  · subst hc1
    go_enter Tryz.func41, Tryz.ntmps41
    go_wp2_with (first
      | (go_at_call 65; refine HF.out.mono ?_; rintro e w1 ⟨sl, c, rfl, ho⟩; have HO := Lib.hid (St.start w ho.bel); clear ho)
      | (go_at_call 67; refine (HSD.out _).mono ?_; rintro e w2 ⟨hb2, g, rfl⟩; have H2 := Lib.hid (HO.out.of_below hb2); clear hb2)
      | (go_at_call 69; refine (HI.out _ (HE.out.below H2.out.bel)).mono ?_; rintro e w3 ⟨rfl, hb3⟩; have H3 := Lib.hid (H2.out.of_below hb3); clear hb3))
    exact bodyPost_ret (v := .tuple #[.slice none 0 0, .bool false]) (by simp [results, Tryz.results41, go_sem]) rfl ⟨none, 0, rfl, Own.nil H3.out.bel 70 5⟩
  · have c1 : ¬ (N : Int) < 1 := by omega
    have c2 : 0 < N := by omega
    by_cases hc4 : 4 < N
    · have c3 : (4 : Int) < (N : Int) := by omega
      go_enter Tryz.func41, Tryz.ntmps41
      go_wp2_with (first
        | (go_at_call 65; refine HF.out.mono ?_; rintro e w1 ⟨sl, c, rfl, ho⟩; have HO := Lib.hid (St.start w ho.bel); clear ho)
        | (go_at_call 67; refine (HSD.out _).mono ?_; rintro e w2 ⟨hb2, g, rfl⟩; have H2 := Lib.hid (HO.out.of_below hb2); clear hb2)
        | (go_at_call 69; refine (HI.out _ (HE.out.below H2.out.bel)).mono ?_; rintro e w3 ⟨rfl, hb3⟩; have H3 := Lib.hid (H2.out.of_below hb3); clear hb3))
      exact bodyPost_ret (v := .tuple #[.slice none 0 0, .bool false]) (by simp [results, Tryz.results41, go_sem]) rfl ⟨none, 0, rfl, Own.nil H3.out.bel 70 5⟩
    · have c3 : ¬ (4 : Int) < (N : Int) := by omega
      have hg : globs F = true := by rcases h4 with h | h | h; omega; omega; exact h
      rw [hg] at HGL
      clear h4 hg
      go_enter Tryz.func41, Tryz.ntmps41
      go_wp2_with (first
        | (go_at_call 65; refine HF.out.mono ?_; rintro e w1 ⟨sl, c, rfl, ho⟩; have HO := Lib.hid (St.start w ho.bel); have HW := Lib.hid ho.rc; clear ho)
        | (go_at_call 67; refine (HSD.out _).mono ?_; rintro e w2 ⟨hb2, g, rfl⟩; have H2 := Lib.hid (HO.out.of_below hb2); have HW2 := Lib.hid (HW.out.below hb2); clear hb2)
        | (go_at_call 69; refine (HI.out _ (HE.out.below H2.out.bel)).mono ?_; rintro e w3 ⟨rfl, hb3⟩; have H3 := Lib.hid (H2.out.of_below hb3); have HW3 := Lib.hid (HW2.out.below hb3); clear hb3)
        | (go_at_call 70; refine (HGL.out (by omega) _ _ _ HW3.out (HE.out.below H3.out.bel)).mono ?_; rintro e w4 ⟨rfl, hb4⟩; have H4 := Lib.hid (H3.out.of_below hb4); clear hb4))
      exact bodyPost_ret (v := .tuple #[.slice none 0 0, .bool false]) (by simp [results, Tryz.results41, go_sem]) rfl ⟨none, 0, rfl, Own.nil H4.out.bel 70 5⟩
set_option maxRecDepth 100000 in
set_option maxHeartbeats 4000000 in
theorem expand_words [Inhabited TbBox] (n s : List UInt8) (ns : List (List UInt8)) (hn : n.length ≤ 100000) (hs : s.length ≤ 50000) (h1 : ¬ n = flexL) (h2 : sidesM n = some ns) (h3 : amongL s inhL = false)
    (h4 : ¬ ((fldU s).length < 1 ∨ (fldU s).length > 4 ∨ globs (fldU s) = true)) (w : World) (E : Env w) : Calls Tryz.prog 41 #[.string (S n), .string (S s)] w (DecsPost (eachM ns (fillM (fldU s))) w) := by
  have hf := fields_st s (by omega) w
  have hsd := sides_any n hn
  have hgl := globs_any (fldU s)
  have hlen := fldU_len s
  have hnb := l_beq h1
  have heq := eql_nil
  have hi := inh_any s
  simp only [h3] at hi
  have hxl : ∀ x ∈ fldU s, x.length ≤ 100000 := fun x hx => by have := fldU_le s x hx; omega
  obtain ⟨hn4, hnx⟩ := sides_len h2
  obtain ⟨⟨fd, fb⟩, hR⟩ : ∃ R, eachM ns (fillM (fldU s)) = R := ⟨_, rfl⟩
  rw [hR]
  obtain ⟨F, hF⟩ : ∃ F, fldU s = F := ⟨_, rfl⟩
  rw [hF] at hf hgl hlen h4 hxl hR
  obtain ⟨N, hN⟩ : ∃ n, F.length = n := ⟨_, rfl⟩
  rw [hN] at hf hlen h4 hgl
  have hg : globs F = false := by
    cases h : globs F with
    | true => exact absurd (Or.inr (Or.inr h)) h4
    | false => rfl
  rw [hg] at hgl
  have HGL := Lib.hid hgl
  have HF := Lib.hid hf
  have HR := Lib.hid hR
  have HXL := Lib.hid hxl
  have HNN := Lib.hid hN
  have HN4 := Lib.hid hn4
  have HNX := Lib.hid hnx
  have HSD := Lib.hid (fun w => (hsd w).mono (show ∀ e w', SidesPost n w e w' → Below w.heap.size w w' ∧ ∃ g, e = .returned (.slice (some ⟨g, 0, none⟩) 4 4) ∧ w.heap.size ≤ g ∧ Rc w' 1 (some ⟨g, 0, none⟩) 4 4 (ns.map vS) from by
    rintro e w' ⟨hb, ⟨h, -⟩ | ⟨l, g, h, e, hg, hr⟩⟩
    · rw [h2] at h; cases h
    · rw [h2] at h; cases h; exact ⟨hb, g, e, hg, hr⟩))
  have HI := Lib.hid hi
  have HE := Lib.hid E
  have c1 : ¬ (N : Int) < 1 := by omega
  have c2 : 0 < N := by omega
  have c3 : ¬ (4 : Int) < (N : Int) := by omega
  have c4 : N ≤ 4 := by omega
  clear hf hsd E hN hF h1 h2 hi h3 hgl hR hxl hn4 hnx hg h4
  go_enter Tryz.func41, Tryz.ntmps41
  go_wp2_with (first
    | (go_at_call 65; refine HF.out.mono ?_; rintro e w1 ⟨sl, c, rfl, ho⟩; have HO := Lib.hid ((St.start w (Below.refl _ _)).own_new ho); have HW := Lib.hid ho.rc; clear ho)
    | (go_at_call 67; refine (HSD.out _).mono ?_; rintro e w2 ⟨hb2, g, rfl, hg, hr⟩; have H2 := Lib.hid (HO.out.rdr_new hb2 hr (by intro k hk; simp [rowOf] at hk; omega)); have HW2 := Lib.hid (HW.out.below hb2); clear hb2 hr hg)
    | (go_at_call 69; refine (HI.out _ (HE.out.below H2.out.bel)).mono ?_; rintro e w3 ⟨rfl, hb3⟩; have H3 := Lib.hid (H2.out.of_below hb3); have HW3 := Lib.hid (HW2.out.below hb3); clear hb3)
    | (go_at_call 70; refine (HGL.out (by omega) _ _ _ HW3.out (HE.out.below H3.out.bel)).mono ?_; rintro e w4 ⟨rfl, hb4⟩; have H4 := Lib.hid (H3.out.of_below hb4); clear hb4))
  go_loopg [8, 6] (4 - N) (fun q v8 v6 wr => ∃ (k : Nat) (cur : List (List UInt8)) (s' : Option Addr) (c' : Nat), q = 4 - k ∧ 1 ≤ k ∧ k ≤ 4 ∧ v8 = .int .i64 (k : Int) ∧ v6 = .slice s' k c' ∧ cur.length = k ∧ fillM F = fillM cur ∧ (∀ x ∈ cur, x ∈ F) ∧ St w wr [As.row 9 1 s' k c' (cur.map vS), As.rdr 1 (some ⟨g, 0, none⟩) 4 4 (ns.map vS)])
  case atStart => exact ⟨N, F, sl, c, rfl, c2, c4, rfl, rfl, HNN.out, rfl, fun x hx => hx, H4.out.swap⟩
  case round =>
    obtain ⟨k, cur, s', c', hq, hk1, hk4, rfl, rfl, hcl, hfm, hmem, hS⟩ := hrel
    have HQ := Lib.hid hq
    have HCL := Lib.hid hcl
    have HFM := Lib.hid hfm
    have HMEM := Lib.hid hmem
    have HS := Lib.hid hS
    clear hq hcl hfm hmem hS c1 c2 c3 c4 hnb heq
    by_cases hkn : k < 4
    · have k1 : (k : Int) < 4 := by omega
      have g1 := wrapS (a := (k : Int) + 1) (by omega) (by omega)
      have g2 := wrapS (a := (k : Int) - 2) (by omega) (by omega)
      have m1 : ∀ a b : Int, (if a < b then b else a) = max a b := fun a b => by omega
      obtain ⟨j, hj⟩ : ∃ j, k - 2 = j := ⟨_, rfl⟩
      have m2 : max (0 : Int) ((k : Int) - 2) = (j : Int) := by omega
      have j0 : (0 : Int) ≤ (j : Int) := by omega
      have jk : (j : Int) < (k : Int) := by omega
      have jn : j < k := by omega
      obtain ⟨x, hx⟩ : ∃ x, cur[j]? = some x := ⟨_, List.getElem?_eq_getElem (by rw [HCL.out]; exact jn)⟩
      obtain ⟨ga, oa, rfl, hca⟩ := HS.out.sl.rd.addr (by omega)
      have cx := hca j (vS x) (by rw [List.getElem?_map, hx]; rfl)
      have HJ := Lib.hid hj
      have HX := Lib.hid hx
      clear hj hx hca
      go_wp2_with (refine st_push rfl (.tmp 58) (.tmp 65) rfl el9 (HS.out.alloc (.cells #[vS x] 9)) rfl #[vS x] (Blk.new wr #[vS x] 9) rfl rfl (one_str [x]) (by omega) (by decide) ?_; intro s7 c7 W7 HW7; have H7 := Lib.hid HW7; clear HW7)
      go_roundg (4 - (k + 1))
      case measure => have := HQ.out; omega
      case rel =>
        have e1 : cur.getD (cur.length - 2) [] = x := by rw [HCL.out, HJ.out, List.getD_eq_getElem?_getD, HX.out]; rfl
        have e2 : fill1 cur = cur ++ [x] := by unfold fill1; rw [e1]
        exact ⟨k + 1, fill1 cur, s7, c7, rfl, by omega, by omega, by rw [Int.natCast_add]; rfl, rfl, by rw [fill1_len, HCL.out], by rw [HFM.out, fill_step (by rw [HCL.out]; exact hkn)], fun y hy => HMEM.out y (fill1_mem (by intro h; have := HCL.out; rw [h] at this; simp at this; omega) hy), by rw [e2, List.map_append]; exact H7.out⟩
    · have hke : k = 4 := by omega
      subst hke
      have hfm := HFM.out
      rw [fill_end HCL.out] at hfm
      have hr := HR.out
      rw [hfm] at hr
      have he := each_any ns cur (by rw [HN4.out, HCL.out]) (by rw [HN4.out]; decide) (fun x hx => by have := HNX.out x hx; omega) (fun x hx => HXL.out x (HMEM.out x hx))
      rw [HN4.out, HCL.out, hr] at he
      have HEA := Lib.hid he
      clear he hr hfm
      go_wp2_with (go_at_call 68; refine (HEA.out _ _ 4 _ _ HS.out.swap.rc HS.out.sl.rc (HE.out.below HS.out.bel)).mono ?_; rintro e w5 ⟨s2, c2, rfl, ho2⟩)
      exact bodyPost_ret (v := .tuple #[.slice s2 fd.length c2, .bool fb]) (by simp [results, Tryz.results41, go_sem]) rfl ⟨s2, c2, rfl, own_up HS.out.bel ho2⟩
theorem expand_any [Inhabited TbBox] (n s : List UInt8) (hn : n.length ≤ 100000) (hs : s.length ≤ 50000) (w : World) (E : Env w) : Calls Tryz.prog 41 #[.string (S n), .string (S s)] w (DecsPost (expandM n s) w) := by
  unfold expandM
  by_cases h1 : n = flexL
  · rw [if_pos h1, h1]; exact expand_flex s hs w E
  rw [if_neg h1]
  cases h2 : sidesM n with
  | none => exact expand_one n s hn hs h1 h2 w E
  | some ns =>
    simp only
    cases h3 : amongL s inhL with
    | true => exact expand_glob n s ns hn hs h1 h2 h3 w E
    | false =>
      simp only [Bool.false_eq_true, if_false]
      by_cases h4 : (fldU s).length < 1 ∨ (fldU s).length > 4 ∨ globs (fldU s) = true
      · rw [if_pos h4]; exact expand_bad n s ns hn hs h1 h2 h3 h4 w E
      · rw [if_neg h4]; exact expand_words n s ns hn hs h1 h2 h3 h4 w E
end Go.Proofs.YtldembadjgibjaaGreatDoor
