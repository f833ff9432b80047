/-
  Cascade: part, sides, ContainsFunc.
-/
import Derived.Test.YtldembadjgibjaaGreatDoorAk
set_option linter.unusedVariables false
set_option linter.unusedSimpArgs false
namespace Go.Proofs.YtldembadjgibjaaGreatDoor
open Go.RowKit Go.K Go.PlainAid Go.Lib

theorem inh_any [Inhabited TbBox] (u : List UInt8) (w : World) (E : Env w) : Calls Tryz.prog 69 #[.string (S u), .string (S inhL)] w fun e w' => e = .returned (.bool (amongL u inhL)) ∧ Below w.heap.size w w' := among_any u inhL (by decide) (by decide) (by decide +kernel) w E
def partM (n v : List UInt8) : Bool := (parseM n v).2 == 0 && !amongL v inhL
set_option maxRecDepth 100000 in
set_option maxHeartbeats 4000000 in
theorem part_any [Inhabited TbBox] (n v : List UInt8) (hn : n.length ≤ 100000) (hv : v.length ≤ 100000) (w : World) (E : Env w) :
    Calls Tryz.prog 99 #[.string (S n), .string (S v)] w fun e w' => e = .returned (.bool (partM n v)) ∧ Below w.heap.size w w' := by
  have hp := parse_any n v hn hv w E
  obtain ⟨pm, hpm⟩ : ∃ p, partM n v = p := ⟨_, rfl⟩
  rw [hpm]
  unfold partM at hpm
  obtain ⟨⟨⟨kd, nm, wd⟩, er⟩, hq⟩ : ∃ p, parseM n v = p := ⟨_, rfl⟩
  rw [hq] at hp hpm
  have hi := inh_any v
  obtain ⟨am, ha⟩ : ∃ a, amongL v inhL = a := ⟨_, rfl⟩
  rw [ha] at hpm
  simp only [ha] at hi
  simp only [Va.cells] at hp hpm
  have HP := Lib.hid hp
  have HI := Lib.hid hi
  have HE := Lib.hid E
  have HPM := Lib.hid hpm
  have H0 := Lib.hid (St.start w (Below.refl _ w))
  clear hp hi hq ha hpm E
  by_cases her : er = 0
  · subst her
    go_enter Tryz.func99, Tryz.ntmps99
    go_wp2_with (first
      | (go_at_call 53; refine HP.out.mono ?_; rintro e w1 ⟨rfl, hb1⟩; have H1 := Lib.hid ((H0.out.of_below hb1).alloc (.cells #[.int .i64 kd, .int .i64 nm, .string (S wd)] 68)); clear hb1)
      | (go_at_call 69; refine (HI.out _ (HE.out.below H1.out.bel)).mono ?_; rintro e w2 ⟨rfl, hb2⟩; have H2 := Lib.hid (H1.out.of_below hb2); clear hb2))
    exact bodyPost_ret (results_tmp Tryz.results99 _ _ _) rfl ⟨by rw [← HPM.out]; rfl, H2.out.bel⟩
  · have herb : (er == 0) = false := by simpa using her
    go_enter Tryz.func99, Tryz.ntmps99
    go_wp2_with (first
      | (go_at_call 53; refine HP.out.mono ?_; rintro e w1 ⟨rfl, hb1⟩; have H1 := Lib.hid ((H0.out.of_below hb1).alloc (.cells #[.int .i64 kd, .int .i64 nm, .string (S wd)] 68)); clear hb1))
    exact bodyPost_ret (results_tmp Tryz.results99 _ _ _) rfl ⟨by rw [← HPM.out]; simp [herb], H1.out.bel⟩
abbrev topL : List UInt8 := [45, 116, 111, 112]
abbrev rightL : List UInt8 := [45, 114, 105, 103, 104, 116]
abbrev bottomL : List UInt8 := [45, 98, 111, 116, 116, 111, 109]
abbrev leftL : List UInt8 := [45, 108, 101, 102, 116]
abbrev marginL : List UInt8 := [109, 97, 114, 103, 105, 110]
abbrev paddingL : List UInt8 := [112, 97, 100, 100, 105, 110, 103]
abbrev bwL : List UInt8 := [98, 111, 114, 100, 101, 114, 45, 119, 105, 100, 116, 104]
abbrev bwF : List (List UInt8) := [[98, 111, 114, 100, 101, 114, 45, 116, 111, 112, 45, 119, 105, 100, 116, 104], [98, 111, 114, 100, 101, 114, 45, 114, 105, 103, 104, 116, 45, 119, 105, 100, 116, 104], [98, 111, 114, 100, 101, 114, 45, 98, 111, 116, 116, 111, 109, 45, 119, 105, 100, 116, 104], [98, 111, 114, 100, 101, 114, 45, 108, 101, 102, 116, 45, 119, 105, 100, 116, 104]]
def sidesM (n : List UInt8) : Option (List (List UInt8)) :=
  if n = marginL ∨ n = paddingL then some [n ++ topL, n ++ rightL, n ++ bottomL, n ++ leftL]
  else if n = bwL then some bwF else none
theorem sides_len {n : List UInt8} {l : List (List UInt8)} (h : sidesM n = some l) : l.length = 4 ∧ ∀ x ∈ l, x.length ≤ 100 := by
  unfold sidesM at h
  split at h
  · rename_i q
    cases h
    refine ⟨rfl, ?_⟩
    rcases q with rfl | rfl <;> decide
  · split at h
    · cases h; exact ⟨rfl, by decide⟩
    · cases h
theorem rc_built (w : World) (cs : Array Value) (e : TypeId) (m : Nat) (hl : cs.size = m) (hm : m ≤ 1000) (h1 : ∀ u ∈ cs.toList, u.oneCell' = true) : Rc (w.alloc (.cells cs e)) 1 (some ⟨w.heap.size, 0, none⟩) m m cs.toList :=
  ⟨rd_built w cs e 1 m (by omega) h1, Nat.le_refl _, by omega, fun h => by cases h⟩
theorem one_str (l : List (List UInt8)) : ∀ u ∈ l.map vS, u.oneCell' = true := by
  intro u hu
  obtain ⟨x, -, rfl⟩ := List.mem_map.1 hu
  rfl
def SidesPost (n : List UInt8) (w : World) (e : Ending) (w' : World) : Prop := Below w.heap.size w w' ∧
  ((sidesM n = none ∧ e = .returned (.slice none 0 0)) ∨ ∃ l g, sidesM n = some l ∧ e = .returned (.slice (some ⟨g, 0, none⟩) 4 4) ∧ w.heap.size ≤ g ∧ Rc w' 1 (some ⟨g, 0, none⟩) 4 4 (l.map vS))
set_option maxRecDepth 100000 in
set_option maxHeartbeats 4000000 in
theorem sides_any (n : List UInt8) (hn : n.length ≤ 100000) (w : World) : Calls Tryz.prog 67 #[.string (S n)] w (SidesPost n w) := by
  have q1 : ∀ a, S a ++ ({ data := #[45, 116, 111, 112] } : ByteArray) = S (a ++ topL) := fun a => S_app a topL
  have q2 : ∀ a, S a ++ ({ data := #[45, 114, 105, 103, 104, 116] } : ByteArray) = S (a ++ rightL) := fun a => S_app a rightL
  have q3 : ∀ a, S a ++ ({ data := #[45, 98, 111, 116, 116, 111, 109] } : ByteArray) = S (a ++ bottomL) := fun a => S_app a bottomL
  have q4 : ∀ a, S a ++ ({ data := #[45, 108, 101, 102, 116] } : ByteArray) = S (a ++ leftL) := fun a => S_app a leftL
  have Q1 := Lib.hid q1
  have Q2 := Lib.hid q2
  have Q3 := Lib.hid q3
  have Q4 := Lib.hid q4
  clear q1 q2 q3 q4
  have two : n = marginL ∨ n = paddingL → Calls Tryz.prog 67 #[.string (S n)] w (SidesPost n w) := by
    intro h
    rcases h with rfl | rfl
    · go_enter Tryz.func67, Tryz.ntmps67
      go_wp2_with fail
      rw [Q1.out, Q2.out, Q3.out, Q4.out]
      exact bodyPost_ret (results_tmp Tryz.results67 _ _ _) rfl ⟨(Below.refl _ _).alloc (Nat.le_refl _) _, .inr ⟨[marginL ++ topL, marginL ++ rightL, marginL ++ bottomL, marginL ++ leftL], w.heap.size, rfl, rfl, Nat.le_refl _, rc_built w _ 9 4 rfl (by omega) (one_str [marginL ++ topL, marginL ++ rightL, marginL ++ bottomL, marginL ++ leftL])⟩⟩
    · go_enter Tryz.func67, Tryz.ntmps67
      go_wp2_with fail
      rw [Q1.out, Q2.out, Q3.out, Q4.out]
      exact bodyPost_ret (results_tmp Tryz.results67 _ _ _) rfl ⟨(Below.refl _ _).alloc (Nat.le_refl _) _, .inr ⟨[paddingL ++ topL, paddingL ++ rightL, paddingL ++ bottomL, paddingL ++ leftL], w.heap.size, rfl, rfl, Nat.le_refl _, rc_built w _ 9 4 rfl (by omega) (one_str [paddingL ++ topL, paddingL ++ rightL, paddingL ++ bottomL, paddingL ++ leftL])⟩⟩
  by_cases h1 : n = marginL
  · exact two (.inl h1)
  by_cases h2 : n = paddingL
  · exact two (.inr h2)
  clear two
  by_cases h3 : n = bwL
  · subst h3
    go_enter Tryz.func67, Tryz.ntmps67
    go_wp2_with fail
    exact bodyPost_ret (results_tmp Tryz.results67 _ _ _) rfl ⟨(Below.refl _ _).alloc (Nat.le_refl _) _, .inr ⟨_, w.heap.size, rfl, rfl, Nat.le_refl _, rc_built w _ 9 4 rfl (by omega) (one_str bwF)⟩⟩
  · have e1 := l_beq h1
    have e2 := l_beq h2
    have e3 := l_beq h3
    go_enter Tryz.func67, Tryz.ntmps67
    go_wp2_with fail
    exact bodyPost_ret (results_tmp Tryz.results67 _ _ _) rfl ⟨Below.refl _ _, .inl ⟨by unfold sidesM; rw [if_neg (by rintro (h | h); exact h1 h; exact h2 h), if_neg h3], rfl⟩⟩
set_option maxRecDepth 100000 in
theorem glob_any [Inhabited TbBox] (u : List UInt8) (w : World) (E : Env w) : Calls Tryz.prog 71 #[.string (S u)] w fun e w' => e = .returned (.bool (amongL u inhL)) ∧ Below w.heap.size w w' := by
  have HI := Lib.hid (inh_any u w E)
  clear E
  go_enter Tryz.func71, Tryz.ntmps71
  go_wp2_with (go_at_call 69; refine HI.out.mono ?_; rintro e w1 ⟨rfl, hb1⟩)
  exact bodyPost_ret (results_tmp Tryz.results71 _ _ _) rfl ⟨rfl, hb1⟩
def globs (l : List (List UInt8)) : Bool := l.any (fun u => amongL u inhL)
abbrev gF : Value := .func (.func 71) #[] #[]
set_option maxRecDepth 100000 in
set_option maxHeartbeats 4000000 in
theorem index_any [Inhabited TbBox] (l : List (List UInt8)) (hl : l.length ≤ 100000) (s : Option Addr) (c : Nat) (w : World) (hr : Rc w 1 s l.length c (l.map vS)) (E : Env w) :
    Calls Tryz.prog 101 #[.slice s l.length c, gF] w fun e w' => ∃ i : Int, e = .returned (.int .i64 i) ∧ ((globs l = true ∧ 0 ≤ i) ∨ (globs l = false ∧ i = -1)) ∧ Below w.heap.size w w' := by
  obtain ⟨R, hR⟩ : ∃ R, globs l = R := ⟨_, rfl⟩
  rw [hR]
  unfold globs at hR
  obtain ⟨N, hN⟩ : ∃ N, l.length = N := ⟨_, rfl⟩
  rw [hN] at hl hr ⊢
  have hlI : (N : Int) ≤ 100000 := by omega
  have HR := Lib.hid hR
  have HRC := Lib.hid hr
  have HE := Lib.hid E
  have HN := Lib.hid hN
  clear hR hr E hN
  go_enter Tryz.func101, Tryz.ntmps101
  go_wp2_with fail
  go_loopg [8, 5] N (fun g v v5 wr => ∃ k : Nat, g = N - k ∧ k ≤ N ∧ v = .int .i64 (k : Int) ∧ R = (l.drop k).any (fun u => amongL u inhL) ∧ Below w.heap.size w wr)
  case atStart => exact ⟨0, rfl, Nat.zero_le _, rfl, HR.out.symm, Below.refl _ _⟩
  case round =>
    obtain ⟨k, hg, hk, rfl, hd, hb⟩ := hrel
    have HG := Lib.hid hg
    have HD := Lib.hid hd
    have HB := Lib.hid hb
    clear hg hd hb
    by_cases hkn : k < N
    · have hkI : (k : Int) < (N : Int) := by omega
      have hk0 : (0 : Int) ≤ (k : Int) := by omega
      have g1 := wrapS (a := (k : Int) + 1) (by omega) (by omega)
      obtain ⟨x, hx⟩ : ∃ x, l[k]? = some x := ⟨_, List.getElem?_eq_getElem (by rw [HN.out]; exact hkn)⟩
      obtain ⟨ga, oa, rfl, hca⟩ := (HRC.out.below HB.out).rd.addr (by omega)
      have cx := hca k (vS x) (by rw [List.getElem?_map, hx]; rfl)
      have hdr : l.drop k = x :: l.drop (k + 1) := by
        obtain ⟨l1, e1⟩ := List.getElem?_eq_some_iff.1 hx
        rw [List.drop_eq_getElem_cons l1, e1]
      have hd := HD.out
      rw [hdr, List.any_cons] at hd
      have hgl := glob_any x wr (HE.out.below HB.out)
      obtain ⟨am, ha⟩ : ∃ a, amongL x inhL = a := ⟨_, rfl⟩
      rw [ha] at hd hgl
      have HGL := Lib.hid hgl
      have HD2 := Lib.hid hd
      clear hca hdr hx hgl ha hd HD
      go_wp2_with fail
      refine HGL.out.mono ?_
      rintro e w2 ⟨rfl, hb2⟩
      have HB2 := Lib.hid (HB.out.trans (hb2.mono HB.out.size))
      clear hb2
      cases am with
      | true =>
        go_wp2_with fail
        exact bodyPost_ret (results_tmp Tryz.results101 _ _ _) rfl ⟨_, rfl, .inl ⟨by rw [HD2.out]; rfl, hk0⟩, HB2.out⟩
      | false =>
        go_wp2_with fail
        go_roundg (N - (k + 1))
        case measure => have := HG.out; omega
        case rel => exact ⟨k + 1, rfl, by omega, by rw [Int.natCast_add]; rfl, by rw [HD2.out, Bool.false_or], HB2.out⟩
    · have hke : k = N := by omega
      subst hke
      have hd := HD.out
      rw [List.drop_eq_nil_of_le (by rw [HN.out]; exact Nat.le_refl _)] at hd
      clear HD
      have HD2 := Lib.hid hd
      clear hd
      go_wp2_with fail
      exact bodyPost_ret (results_tmp Tryz.results101 _ _ _) rfl ⟨_, rfl, .inr ⟨HD2.out, rfl⟩, HB.out⟩
set_option maxRecDepth 100000 in
set_option maxHeartbeats 4000000 in
theorem globs_any [Inhabited TbBox] (l : List (List UInt8)) (hl : l.length ≤ 100000) (s : Option Addr) (c : Nat) (w : World) (hr : Rc w 1 s l.length c (l.map vS)) (E : Env w) :
    Calls Tryz.prog 70 #[.slice s l.length c, gF] w fun e w' => e = .returned (.bool (globs l)) ∧ Below w.heap.size w w' := by
  have HI := Lib.hid (index_any l hl s c w hr E)
  clear hr E
  go_enter Tryz.func70, Tryz.ntmps70
  go_wp2_with (go_at_call 101; refine HI.out.mono ?_; rintro e w1 ⟨i, rfl, hi, hb1⟩)
  refine bodyPost_ret (results_tmp Tryz.results70 _ _ _) rfl ⟨?_, hb1⟩
  rcases hi with ⟨h1, h2⟩ | ⟨h1, rfl⟩
  · rw [h1]; simp [h2]
  · rw [h1]; rfl
end Go.Proofs.YtldembadjgibjaaGreatDoor
