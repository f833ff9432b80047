/-
  Cascade: word, number, length of the computer.
-/
import Derived.Test.YtldembadjgibjaaGreatDoorAy
set_option linter.unusedVariables false
set_option linter.unusedSimpArgs false
namespace Go.Proofs.YtldembadjgibjaaGreatDoor
open Go.RowKit Go.K Go.PlainAid Go.Lib Go.Maps Go.WideMaps

def idxM (words u : List UInt8) : Int := Lib.idxOfS ((Lib.fields words).map S) (S u)
def wdM (lk : Lk) (s words : List UInt8) (p st : Int) (inh : Bool) : Int :=
  if (getM lk s).2 = 1 ∨ ((getM lk s).2 = 0 ∧ inh = true) then p else if (getM lk s).2 = 3 then idxM words (getM lk s).1.wd else st
def numM (lk : Lk) (s : List UInt8) (per p st : Int) : Int :=
  if (getM lk s).2 = 1 then p else if (getM lk s).2 = 3 then (getM lk s).1.nm.tdiv per else st
def lenM (sz : Int) (v : Va) : Int × Int :=
  if v.kd = 3 then (1, limZ (v.nm.tdiv 1000) (-1048576) 1048576)
  else if v.kd = 4 then (1, limZ ((sz * v.nm).tdiv 1000) (-1048576) 1048576)
  else if v.kd = 5 then (2, limZ (v.nm.tdiv 10) (-10000000) 10000000) else (0, 0)
def longM (lk : Lk) (sz : Int) (s : List UInt8) (p st : Int × Int) : Int × Int :=
  if (getM lk s).2 = 1 then p else if (getM lk s).2 = 3 then lenM sz (getM lk s).1 else st
/-- the words of a list, then the place of one of them -/
theorem fields_c [Inhabited TbBox] (words : List UInt8) (hl : words.length ≤ 1000) (ha : words.all (fun b => decide (b.toNat < 128)) = true) (w : World) (E : Env w) : Calls Tryz.prog 58 #[.string (S words)] w fun e w' => e = .returned (.slice (some ⟨w.heap.size, 0, none⟩) (Lib.fields words).length (Lib.fields words).length) ∧ w' = w.alloc (.cells ((Lib.fields words).map vS).toArray 9) := by
  have h := Tryz.strings_Fields (S words) w (by rw [S_size]; omega) (ascii_of ha) E.asc
  rw [S_list] at h
  exact h
theorem index_c (F : List (List UInt8)) (hF : F.length ≤ 1000) (u : List UInt8) (w : World) (b : Nat) (h : Blk w b (F.map vS).toArray 9) : Calls Tryz.prog 57 #[.slice (some ⟨b, 0, none⟩) F.length F.length, .string (S u)] w fun e w' => e = .returned (.int .i64 (Lib.idxOfS (F.map S) (S u))) ∧ w' = w := by
  have hc := Tryz.slices_Index_string b 0 F.length F.length (F.map S) (S u) w (by simp) (by omega) (fun j hj => by
    rw [Nat.zero_add, h.cell]
    simp at hj
    simp [hj])
  rwa [show (F.map S).take F.length = F.map S from by rw [← List.length_map (f := S)]; exact List.take_length] at hc
theorem tdv (a c : Int) (hc : 0 < c) : a.tdiv c = if 0 ≤ a then a / c else -((-a) / c) := by
  split
  · exact Int.tdiv_eq_ediv_of_nonneg (by assumption)
  · rename_i h
    have h2 : (-a).tdiv c = (-a) / c := Int.tdiv_eq_ediv_of_nonneg (by omega)
    rw [Int.neg_tdiv] at h2
    omega
theorem tdv_lo (a : Int) (h0 : -1048999999 ≤ a) (h1 : a ≤ 1048999999) : -1048999999 ≤ a.tdiv 1000 := by
  rw [tdv a 1000 (by decide)]; split <;> omega
theorem tdv_hi (a : Int) (h0 : -1048999999 ≤ a) (h1 : a ≤ 1048999999) : a.tdiv 1000 ≤ 1048999999 := by
  rw [tdv a 1000 (by decide)]; split <;> omega
set_option maxRecDepth 100000 in
set_option maxHeartbeats 4000000 in
theorem number_any {w : World} {bc bm n : Nat} {sz : Int} {lk : Lk} (C : Comp w bc bm n sz lk) (s : List UInt8) (hs : s.length ≤ 100000) (per p st : Int) (hper : per = 1 ∨ per = 1000) (hv : VOk (getM lk s).1) :
    Calls Tryz.prog 33 #[.pointer (some ⟨bc, 0, none⟩), .string (S s), .int .i64 per, .int .i64 p, .int .i64 st] w fun e w' => e = .returned (.int .i64 (numM lk s per p st)) ∧ Below w.heap.size w w' := by
  have hg := get_any C s hs
  obtain ⟨⟨⟨gk, gn, gw⟩, gh⟩, hG⟩ : ∃ g, getM lk s = g := ⟨_, rfl⟩
  rw [hG] at hg
  simp only [Va.cells] at hg

  unfold numM
  rw [hG] at hv ⊢
  have hn0 := hv.n0
  have hn1 := hv.n1
  simp only at hn0 hn1 ⊢
  have HG := Lib.hid hg
  clear hg hG C hv
  by_cases h1 : gh = 1
  · subst h1
    rw [if_pos rfl]
    go_enter Tryz.func33, Tryz.ntmps33
    go_wp2_with (go_at_call 34; refine HG.out.mono ?_; rintro e w1 ⟨rfl, hb1⟩; have H1 := Lib.hid ((St.start w hb1).new #[.int .i64 gk, .int .i64 gn, .string (S gw)] 68); clear hb1)
    exact bodyPost_ret (results_tmp Tryz.results33 _ _ _) rfl ⟨rfl, H1.out.bel⟩
  rw [if_neg h1]
  have b1 : (gh == 1) = false := by rw [beq_eq_false_iff_ne]; exact h1
  by_cases h3 : gh = 3
  · subst h3
    rw [if_pos rfl]
    clear h1 b1
    have hq : ∀ a : Int, -1048999999 ≤ a → a ≤ 1048999999 → a.tdiv 1 = a ∧ -1048999999 ≤ a.tdiv 1000 ∧ a.tdiv 1000 ≤ 1048999999 := fun a h0 h1 => ⟨Int.tdiv_one a, tdv_lo a h0 h1, tdv_hi a h0 h1⟩
    obtain ⟨k1, k2, k3⟩ := hq gn hn0 hn1
    rcases hper with rfl | rfl
    · have g1 := wrapS (a := gn) (by omega) (by omega)
      rw [k1]
      have k4 := k1
      clear hq k2 k3
      go_enter Tryz.func33, Tryz.ntmps33
      go_wp2_with (go_at_call 34; refine HG.out.mono ?_; rintro e w1 ⟨rfl, hb1⟩; have H1 := Lib.hid ((St.start w hb1).new #[.int .i64 gk, .int .i64 gn, .string (S gw)] 68); clear hb1; have c0 := H1.out.cell 0; have c1 := H1.out.cell 1; have c2 := H1.out.cell 2; simp at c0 c1 c2)
      exact bodyPost_ret (results_tmp Tryz.results33 _ _ _) rfl ⟨by first | rfl | simp [k4], H1.out.bel⟩
    · obtain ⟨d, hd⟩ : ∃ d, gn.tdiv 1000 = d := ⟨_, rfl⟩
      rw [hd] at k2 k3
      rw [hd]
      have g1 := wrapS (a := d) (by omega) (by omega)
      clear hq k1
      go_enter Tryz.func33, Tryz.ntmps33
      go_wp2_with (go_at_call 34; refine HG.out.mono ?_; rintro e w1 ⟨rfl, hb1⟩; have H1 := Lib.hid ((St.start w hb1).new #[.int .i64 gk, .int .i64 gn, .string (S gw)] 68); clear hb1; have c0 := H1.out.cell 0; have c1 := H1.out.cell 1; have c2 := H1.out.cell 2; simp at c0 c1 c2)
      exact bodyPost_ret (results_tmp Tryz.results33 _ _ _) rfl ⟨by first | rfl | simp [hd], H1.out.bel⟩
  · rw [if_neg h3]
    have b3 : (gh == 3) = false := by rw [beq_eq_false_iff_ne]; exact h3
    go_enter Tryz.func33, Tryz.ntmps33
    go_wp2_with (go_at_call 34; refine HG.out.mono ?_; rintro e w1 ⟨rfl, hb1⟩; have H1 := Lib.hid ((St.start w hb1).new #[.int .i64 gk, .int .i64 gn, .string (S gw)] 68); clear hb1)
    exact bodyPost_ret (results_tmp Tryz.results33 _ _ _) rfl ⟨rfl, H1.out.bel⟩
set_option maxRecDepth 100000 in
set_option maxHeartbeats 4000000 in
theorem word_any [Inhabited TbBox] {w : World} {bc bm n : Nat} {sz : Int} {lk : Lk} (C : Comp w bc bm n sz lk) (E : Env w) (s words : List UInt8) (hs : s.length ≤ 100000) (hwl : words.length ≤ 1000) (hwa : words.all (fun b => decide (b.toNat < 128)) = true) (hwf : (Lib.fields words).length ≤ 1000) (p st : Int) (inh : Bool) :
    Calls Tryz.prog 31 #[.pointer (some ⟨bc, 0, none⟩), .string (S s), .string (S words), .int .i64 p, .int .i64 st, .bool inh] w fun e w' => e = .returned (.int .i64 (wdM lk s words p st inh)) ∧ Below w.heap.size w w' := by
  have hg := get_any C s hs
  obtain ⟨⟨⟨gk, gn, gw⟩, gh⟩, hG⟩ : ∃ g, getM lk s = g := ⟨_, rfl⟩
  rw [hG] at hg
  simp only [Va.cells] at hg

  unfold wdM
  rw [hG]
  simp only
  have HG := Lib.hid hg
  have HE := Lib.hid E
  clear hg hG C E
  by_cases h1 : gh = 1
  · subst h1
    rw [if_pos (Or.inl rfl)]
    go_enter Tryz.func31, Tryz.ntmps31
    go_wp2_with (go_at_call 34; refine HG.out.mono ?_; rintro e w1 ⟨rfl, hb1⟩; have H1 := Lib.hid ((St.start w hb1).new #[.int .i64 gk, .int .i64 gn, .string (S gw)] 68); clear hb1)
    exact bodyPost_ret (results_tmp Tryz.results31 _ _ _) rfl ⟨rfl, H1.out.bel⟩
  have b1 : (gh == 1) = false := by rw [beq_eq_false_iff_ne]; exact h1
  by_cases h0 : gh = 0
  · subst h0
    clear b1 h1
    cases inh with
    | true =>
      rw [if_pos (Or.inr ⟨rfl, rfl⟩)]
      go_enter Tryz.func31, Tryz.ntmps31
      go_wp2_with (go_at_call 34; refine HG.out.mono ?_; rintro e w1 ⟨rfl, hb1⟩; have H1 := Lib.hid ((St.start w hb1).new #[.int .i64 gk, .int .i64 gn, .string (S gw)] 68); clear hb1)
      exact bodyPost_ret (results_tmp Tryz.results31 _ _ _) rfl ⟨rfl, H1.out.bel⟩
    | false =>
      rw [if_neg (by decide), if_neg (by decide)]
      go_enter Tryz.func31, Tryz.ntmps31
      go_wp2_with (go_at_call 34; refine HG.out.mono ?_; rintro e w1 ⟨rfl, hb1⟩; have H1 := Lib.hid ((St.start w hb1).new #[.int .i64 gk, .int .i64 gn, .string (S gw)] 68); clear hb1)
      exact bodyPost_ret (results_tmp Tryz.results31 _ _ _) rfl ⟨rfl, H1.out.bel⟩
  have b0 : (gh == 0) = false := by rw [beq_eq_false_iff_ne]; exact h0
  rw [if_neg (by rintro (h | ⟨h, -⟩); exact h1 h; exact h0 h)]
  by_cases h3 : gh = 3
  · subst h3
    rw [if_pos rfl]
    unfold idxM
    clear h0 h1 b0 b1
    go_enter Tryz.func31, Tryz.ntmps31
    go_upto_region 5 with (go_at_call 34; refine HG.out.mono ?_; rintro e w1 ⟨rfl, hb1⟩; have H1 := Lib.hid ((St.start w hb1).new #[.int .i64 gk, .int .i64 gn, .string (S gw)] 68); clear hb1; have c0 := H1.out.cell 0; have c1 := H1.out.cell 1; have c2 := H1.out.cell 2; simp at c0 c1 c2)
    obtain ⟨b13, hb13⟩ : ∃ b, w1.heap.size = b := ⟨_, rfl⟩
    obtain ⟨W, hW⟩ : ∃ z, w1.alloc (.cells #[.int .i64 gk, .int .i64 gn, .string (S gw)] 68) = z := ⟨_, rfl⟩
    rw [hW, hb13] at H1
    rw [hW]
    simp only [hb13]
    clear hW hb13 c0 c1 c2
    have hS : St w W.drew [As.cells b13 #[.int .i64 gk, .int .i64 gn, .string (S gw)] 68] := H1.out.drew
    refine wp_region_held (S := fun w' : World => St w w' [As.cells b13 #[.int .i64 gk, .int .i64 gn, .string (S gw)] 68]) (by kernel_rfl) ?_
    change wpAnyH _ _ _ _ _ _ _ _ (World.drew _)
    refine' wpAnyH_take (i := 0) (v := .string (S words)) rfl (by kernel_rfl) (by kernel_rfl) (by kernel_rfl) (fun _ _ _ h => h) (Or.inl ⟨by rfl, ?hy0⟩) hS ?rest0
    case hy0 => (intro w' hSw; have k0 := hSw.cell 0; have k1 := hSw.cell 1; have k2 := hSw.cell 2; simp at k0 k1 k2; go_simp; try with_reducible rfl)
    try simp only [Act.put, List.getElem_toArray, List.getElem_cons_zero, List.getElem_cons_succ, List.setIfInBounds_toArray, List.set_cons_zero, List.set_cons_succ]
    refine' wpAnyH_take (i := 2) (v := .pointer (some ⟨b13, 2, none⟩)) rfl (by kernel_rfl) (by kernel_rfl) (by kernel_rfl) (fun _ _ _ h => h) (Or.inl ⟨by rfl, ?hy2⟩) hS ?rest2
    case hy2 => (intro w' hSw; have k0 := hSw.cell 0; have k1 := hSw.cell 1; have k2 := hSw.cell 2; simp at k0 k1 k2; go_simp; try with_reducible rfl)
    try simp only [Act.put, List.getElem_toArray, List.getElem_cons_zero, List.getElem_cons_succ, List.setIfInBounds_toArray, List.set_cons_zero, List.set_cons_succ]
    refine' wpAnyH_take (i := 3) (v := .string (S gw)) rfl (by kernel_rfl) (by kernel_rfl) (by kernel_rfl) (fun _ _ _ h => h) (Or.inl ⟨by rfl, ?hy3⟩) hS ?rest3
    case hy3 => (intro w' hSw; have k0 := hSw.cell 0; have k1 := hSw.cell 1; have k2 := hSw.cell 2; simp at k0 k1 k2; go_simp; try with_reducible rfl)
    try simp only [Act.put, List.getElem_toArray, List.getElem_cons_zero, List.getElem_cons_succ, List.setIfInBounds_toArray, List.set_cons_zero, List.set_cons_succ]
    clear hS
    refine held1 (i := 1) rfl (by kernel_rfl) ?_
    apply hstep_callR (fields_c words hwl hwa _ (HE.out.below H1.out.drew.bel))
    case hg => rfl
    case ho => rfl
    case hf => exact Tryz.func58
    case hn => kernel_rfl
    case hb => kernel_rfl
    case ha => kernel_rfl
    rintro e w3 ⟨rfl, hw3⟩
    have H3 := Lib.hid (H1.out.drew.new ((Lib.fields words).map vS).toArray 9)
    rw [← hw3] at H3
    have hS3 : St w w3 [As.cells b13 #[.int .i64 gk, .int .i64 gn, .string (S gw)] 68] := H3.out.drop
    refine ⟨_, rfl, hS3, ?_⟩
    try simp only [Act.put, List.getElem_toArray, List.getElem_cons_zero, List.getElem_cons_succ, List.setIfInBounds_toArray, List.set_cons_zero, List.set_cons_succ]
    refine held1 (i := 4) rfl (by kernel_rfl) ?_
    apply hstep_callR (index_c (Lib.fields words) hwf gw w3 _ H3.out.blk.1)
    case hg => rfl
    case ho => rfl
    case hf => exact Tryz.func57
    case hn => kernel_rfl
    case hb => kernel_rfl
    case ha => kernel_rfl
    rintro e w4 ⟨rfl, hw4⟩
    rw [hw4]
    refine ⟨_, rfl, hS3, ?_⟩
    try simp only [Act.put, List.getElem_toArray, List.getElem_cons_zero, List.getElem_cons_succ, List.setIfInBounds_toArray, List.set_cons_zero, List.set_cons_succ]
    have hS := hS3
    refine' wpAnyH_take (i := 5) (v := .int .i64 (Lib.idxOfS ((Lib.fields words).map S) (S gw))) rfl (by kernel_rfl) (by kernel_rfl) (by kernel_rfl) (fun _ _ _ h => h) (Or.inl ⟨by rfl, ?hyz5⟩) hS ?restz5
    case hyz5 => (intro w' hSw; have k0 := hSw.cell 0; have k1 := hSw.cell 1; have k2 := hSw.cell 2; simp at k0 k1 k2; go_simp; try with_reducible rfl)
    try simp only [Act.put, List.getElem_toArray, List.getElem_cons_zero, List.getElem_cons_succ, List.setIfInBounds_toArray, List.set_cons_zero, List.set_cons_succ]
    refine wpAnyH_done (by kernel_rfl) ?_ _
    go_wp2_with fail
    exact bodyPost_ret (results_tmp Tryz.results31 _ _ _) rfl ⟨rfl, hS3.bel⟩
  · rw [if_neg h3]
    have b3 : (gh == 3) = false := by rw [beq_eq_false_iff_ne]; exact h3
    go_enter Tryz.func31, Tryz.ntmps31
    go_wp2_with (go_at_call 34; refine HG.out.mono ?_; rintro e w1 ⟨rfl, hb1⟩; have H1 := Lib.hid ((St.start w hb1).new #[.int .i64 gk, .int .i64 gn, .string (S gw)] 68); clear hb1)
    exact bodyPost_ret (results_tmp Tryz.results31 _ _ _) rfl ⟨rfl, H1.out.bel⟩
end Go.Proofs.YtldembadjgibjaaGreatDoor
