/-
  Cascade: flex.
-/
import Derived.Test.YtldembadjgibjaaGreatDoorAm
import Derived.Lib.QuietBelow
set_option linter.unusedVariables false
set_option linter.unusedSimpArgs false
namespace Go.Proofs.YtldembadjgibjaaGreatDoor
open Go.RowKit Go.K Go.PlainAid Go.Lib

abbrev fgL : List UInt8 := [102, 108, 101, 120, 45, 103, 114, 111, 119]
abbrev fsL : List UInt8 := [102, 108, 101, 120, 45, 115, 104, 114, 105, 110, 107]
abbrev fbL : List UInt8 := [102, 108, 101, 120, 45, 98, 97, 115, 105, 115]
abbrev oneL : List UInt8 := [49]
abbrev zeroL : List UInt8 := [48]
abbrev zpxL : List UInt8 := [48, 112, 120]
abbrev autoL : List UInt8 := [97, 117, 116, 111]
abbrev noneL : List UInt8 := [110, 111, 110, 101]
abbrev inheritL : List UInt8 := [105, 110, 104, 101, 114, 105, 116]
abbrev initialL : List UInt8 := [105, 110, 105, 116, 105, 97, 108]
def flexN : List (List UInt8) := [fgL, fsL, fbL]
def restM (v l : List (List UInt8)) : List De × Bool := match l with
  | [] => eachM flexN v
  | _ :: _ => ([], false)
def flexR : List (List UInt8) → List De × Bool
  | [] => ([], false)
  | x :: l => if partM fgL x = true then (match l with
      | [] => eachM flexN [x, oneL, zpxL]
      | y :: l2 => if partM fsL y = true then (match l2 with
          | [] => eachM flexN [x, y, zpxL]
          | z :: l3 => if partM fbL z = true then restM [x, y, z] l3 else ([], false))
        else if partM fbL y = true then restM [x, oneL, y] l2 else ([], false))
    else ([], false)
def flexM (s : List UInt8) (l : List (List UInt8)) : List De × Bool :=
  if s = noneL then eachM flexN [zeroL, zeroL, autoL]
  else if s = autoL then eachM flexN [oneL, oneL, autoL]
  else if s = inheritL ∨ s = initialL then eachM flexN [s, s, s]
  else flexR l
def DecsPost (m : List De × Bool) (w : World) (e : Ending) (w' : World) : Prop :=
  ∃ s c, e = .returned (.tuple #[.slice s m.1.length c, .bool m.2]) ∧ K.Own w w' 70 5 s m.1.length c (flat De.cells m.1)
theorem own_up {w W w' : World} {e : TypeId} {sz : Nat} {s : Option Addr} {n c : Nat} {xs : List Value} (hb : Below w.heap.size w W) (o : K.Own W w' e sz s n c xs) : K.Own w w' e sz s n c xs :=
  ⟨o.sl, hb.trans (o.bel.mono hb.size), fun k hk => Nat.le_trans hb.size (o.row k hk)⟩
theorem rc_blk {w : World} {b : Nat} {cs : Array Value} {e : TypeId} (h : Blk w b cs e) (m : Nat) (hl : cs.size = m) (hm : m ≤ 1000) (h1 : ∀ u ∈ cs.toList, u.oneCell' = true) : Rc w 1 (some ⟨b, 0, none⟩) m m cs.toList :=
  ⟨⟨by simp; omega, h1, (fun q => by cases q), fun ad had j u hu => by
    cases had
    rw [Addr.add_lit, Nat.zero_add, h.cell j]
    simpa using hu⟩, Nat.le_refl _, by omega, fun h => by cases h⟩
theorem zero9 : (Tryz.prog.info? 9).map (fun i => (i.zero, i.size, i.bytes)) = some (some (.string ⟨#[]⟩), 1, 16) := by kernel_rfl
theorem el9 : El Tryz.prog 33 9 1 16 := by
  obtain ⟨i, hi, h1, h2, h3⟩ := info_parts zero9
  exact ⟨by kernel_rfl, ⟨i, _, hi, h1, h2, h3, rfl⟩, by decide⟩
theorem each3 [Inhabited TbBox] (a b c : List UInt8) (ha : a.length ≤ 100000) (hb : b.length ≤ 100000) (hc : c.length ≤ 100000) (w0 w : World) (g1 g2 : Nat) (h1 : Blk w g1 #[vS fgL, vS fsL, vS fbL] 9) (h2 : Blk w g2 #[vS a, vS b, vS c] 9) (hbel : Below w0.heap.size w0 w) (E : Env w) :
    Calls Tryz.prog 68 #[.slice (some ⟨g1, 0, none⟩) 3 3, .slice (some ⟨g2, 0, none⟩) 3 3] w (DecsPost (eachM flexN [a, b, c]) w0) := by
  refine (each_any flexN [a, b, c] rfl (by decide) (by decide) (by intro x hx; simp only [List.mem_cons, List.not_mem_nil, or_false] at hx; rcases hx with rfl | rfl | rfl <;> assumption) _ _ 3 3 w (rc_blk h1 3 rfl (by omega) (one_str flexN)) (rc_blk h2 3 rfl (by omega) (one_str [a, b, c])) E).mono ?_
  rintro e w' ⟨s, c, rfl, ho⟩
  exact ⟨s, c, rfl, own_up hbel ho⟩
set_option maxRecDepth 100000 in
set_option maxHeartbeats 4000000 in
theorem flex_none [Inhabited TbBox] (s : List UInt8) (hs : s.length ≤ 100000) (l : List (List UInt8)) (hl : l.length ≤ 100000) (hx : ∀ x ∈ l, x.length ≤ 100000) (sl : Option Addr) (c : Nat) (w : World) (hr : Rc w 1 sl l.length c (l.map vS)) (E : Env w) (h1 : s = noneL) :
    Calls Tryz.prog 66 #[.string (S s), .slice sl l.length c] w (DecsPost (eachM flexN [zeroL, zeroL, autoL]) w) := by
  subst h1
  obtain ⟨⟨fd, fb⟩, hR⟩ : ∃ R, eachM flexN [zeroL, zeroL, autoL] = R := ⟨_, rfl⟩
  rw [hR]
  have HC := Lib.hid (fun (W : World) h1 h2 hb => each3 zeroL zeroL autoL (by first | assumption | decide) (by first | assumption | decide) (by first | assumption | decide) w W w.heap.size (w.heap.size + 1) h1 h2 hb (E.below hb))
  rw [hR] at HC
  have H := Lib.hid (((St.start w (Below.refl _ w)).new #[vS fgL, vS fsL, vS fbL] 9).new #[vS zeroL, vS zeroL, vS autoL] 9)
  rw [show (w.alloc (.cells #[vS fgL, vS fsL, vS fbL] 9)).heap.size = w.heap.size + 1 from by simp] at H
  clear hR hr E
  go_enter Tryz.func66, Tryz.ntmps66
  go_wp2_with (go_at_call 68; refine (HC.out _ H.out.swap.blk.1 H.out.blk.1 H.out.bel).mono ?_; rintro e w1 ⟨s1, c1, rfl, ho⟩)
  exact bodyPost_ret (v := .tuple #[.slice s1 fd.length c1, .bool fb]) (by simp [results, Tryz.results66, go_sem]) rfl ⟨s1, c1, rfl, ho⟩
set_option maxRecDepth 100000 in
set_option maxHeartbeats 4000000 in
theorem flex_auto [Inhabited TbBox] (s : List UInt8) (hs : s.length ≤ 100000) (l : List (List UInt8)) (hl : l.length ≤ 100000) (hx : ∀ x ∈ l, x.length ≤ 100000) (sl : Option Addr) (c : Nat) (w : World) (hr : Rc w 1 sl l.length c (l.map vS)) (E : Env w) (h1 : s = autoL) :
    Calls Tryz.prog 66 #[.string (S s), .slice sl l.length c] w (DecsPost (eachM flexN [oneL, oneL, autoL]) w) := by
  subst h1
  obtain ⟨⟨fd, fb⟩, hR⟩ : ∃ R, eachM flexN [oneL, oneL, autoL] = R := ⟨_, rfl⟩
  rw [hR]
  have HC := Lib.hid (fun (W : World) h1 h2 hb => each3 oneL oneL autoL (by first | assumption | decide) (by first | assumption | decide) (by first | assumption | decide) w W w.heap.size (w.heap.size + 1) h1 h2 hb (E.below hb))
  rw [hR] at HC
  have H := Lib.hid (((St.start w (Below.refl _ w)).new #[vS fgL, vS fsL, vS fbL] 9).new #[vS oneL, vS oneL, vS autoL] 9)
  rw [show (w.alloc (.cells #[vS fgL, vS fsL, vS fbL] 9)).heap.size = w.heap.size + 1 from by simp] at H
  clear hR hr E
  go_enter Tryz.func66, Tryz.ntmps66
  go_wp2_with (go_at_call 68; refine (HC.out _ H.out.swap.blk.1 H.out.blk.1 H.out.bel).mono ?_; rintro e w1 ⟨s1, c1, rfl, ho⟩)
  exact bodyPost_ret (v := .tuple #[.slice s1 fd.length c1, .bool fb]) (by simp [results, Tryz.results66, go_sem]) rfl ⟨s1, c1, rfl, ho⟩
set_option maxRecDepth 100000 in
set_option maxHeartbeats 4000000 in
theorem flex_inherit [Inhabited TbBox] (s : List UInt8) (hs : s.length ≤ 100000) (l : List (List UInt8)) (hl : l.length ≤ 100000) (hx : ∀ x ∈ l, x.length ≤ 100000) (sl : Option Addr) (c : Nat) (w : World) (hr : Rc w 1 sl l.length c (l.map vS)) (E : Env w) (h1 : s = inheritL) :
    Calls Tryz.prog 66 #[.string (S s), .slice sl l.length c] w (DecsPost (eachM flexN [inheritL, inheritL, inheritL]) w) := by
  subst h1
  obtain ⟨⟨fd, fb⟩, hR⟩ : ∃ R, eachM flexN [inheritL, inheritL, inheritL] = R := ⟨_, rfl⟩
  rw [hR]
  have HC := Lib.hid (fun (W : World) h1 h2 hb => each3 inheritL inheritL inheritL (by first | assumption | decide) (by first | assumption | decide) (by first | assumption | decide) w W w.heap.size (w.heap.size + 1) h1 h2 hb (E.below hb))
  rw [hR] at HC
  have H := Lib.hid (((St.start w (Below.refl _ w)).new #[vS fgL, vS fsL, vS fbL] 9).new #[vS inheritL, vS inheritL, vS inheritL] 9)
  rw [show (w.alloc (.cells #[vS fgL, vS fsL, vS fbL] 9)).heap.size = w.heap.size + 1 from by simp] at H
  clear hR hr E
  go_enter Tryz.func66, Tryz.ntmps66
  go_wp2_with (go_at_call 68; refine (HC.out _ H.out.swap.blk.1 H.out.blk.1 H.out.bel).mono ?_; rintro e w1 ⟨s1, c1, rfl, ho⟩)
  exact bodyPost_ret (v := .tuple #[.slice s1 fd.length c1, .bool fb]) (by simp [results, Tryz.results66, go_sem]) rfl ⟨s1, c1, rfl, ho⟩
set_option maxRecDepth 100000 in
set_option maxHeartbeats 4000000 in
theorem flex_initial [Inhabited TbBox] (s : List UInt8) (hs : s.length ≤ 100000) (l : List (List UInt8)) (hl : l.length ≤ 100000) (hx : ∀ x ∈ l, x.length ≤ 100000) (sl : Option Addr) (c : Nat) (w : World) (hr : Rc w 1 sl l.length c (l.map vS)) (E : Env w) (h1 : s = initialL) :
    Calls Tryz.prog 66 #[.string (S s), .slice sl l.length c] w (DecsPost (eachM flexN [initialL, initialL, initialL]) w) := by
  subst h1
  obtain ⟨⟨fd, fb⟩, hR⟩ : ∃ R, eachM flexN [initialL, initialL, initialL] = R := ⟨_, rfl⟩
  rw [hR]
  have HC := Lib.hid (fun (W : World) h1 h2 hb => each3 initialL initialL initialL (by first | assumption | decide) (by first | assumption | decide) (by first | assumption | decide) w W w.heap.size (w.heap.size + 1) h1 h2 hb (E.below hb))
  rw [hR] at HC
  have H := Lib.hid (((St.start w (Below.refl _ w)).new #[vS fgL, vS fsL, vS fbL] 9).new #[vS initialL, vS initialL, vS initialL] 9)
  rw [show (w.alloc (.cells #[vS fgL, vS fsL, vS fbL] 9)).heap.size = w.heap.size + 1 from by simp] at H
  clear hR hr E
  go_enter Tryz.func66, Tryz.ntmps66
  go_wp2_with (go_at_call 68; refine (HC.out _ H.out.swap.blk.1 H.out.blk.1 H.out.bel).mono ?_; rintro e w1 ⟨s1, c1, rfl, ho⟩)
  exact bodyPost_ret (v := .tuple #[.slice s1 fd.length c1, .bool fb]) (by simp [results, Tryz.results66, go_sem]) rfl ⟨s1, c1, rfl, ho⟩
theorem rc_head {w : World} {s : Option Addr} {n c : Nat} {x : List UInt8} {l : List (List UInt8)} (h : Rc w 1 s n c ((x :: l).map vS)) : ∃ g o, s = some ⟨g, o, none⟩ ∧ w.cell? ⟨g, o, none⟩ = some (vS x) := by
  have hn : n = l.length + 1 := by have := h.rd.len; simp at this; omega
  obtain ⟨g, o, q, hc⟩ := h.rd.addr (by omega)
  exact ⟨g, o, q, hc 0 _ rfl⟩
theorem rc_tail {w : World} {s : Option Addr} {n c : Nat} {x : List UInt8} {l : List (List UInt8)} (h : Rc w 1 s n c ((x :: l).map vS)) : ∃ s' m d, n = m + 1 ∧ (∀ k W, (Instr.slice 33 (.slice s n c) (some (.int k 1)) none none).run Tryz.prog W = .ok (.slice s' m d) W) ∧ Rc w 1 s' m d (l.map vS) := by
  have hn : n = l.length + 1 := by have := h.rd.len; simp at this; omega
  obtain ⟨s', h1, h2⟩ := h.cut_l el9 1 (by omega)
  refine ⟨s', n - 1, c - 1, by omega, fun k W => by simpa using h1 k W, by simpa using h2⟩
set_option maxRecDepth 100000 in
set_option maxHeartbeats 4000000 in
theorem fx0 [Inhabited TbBox] (s : List UInt8) (_u : List UInt8) (sl : Option Addr) (n c : Nat) (w : World) (hr : Rc w 1 sl n c (([]).map vS)) (E : Env w) (hn : n ≤ 100000)
    (h1 : ¬ s = noneL) (h2 : ¬ s = autoL) (h3 : ¬ s = inheritL) (h4 : ¬ s = initialL)   :
    Calls Tryz.prog 66 #[.string (S s), .slice sl n c] w (DecsPost ((([], false) : List De × Bool)) w) := by
  have e1 := l_beq h1
  have e2 := l_beq h2
  have e3 := l_beq h3
  have e4 := l_beq h4
  have HE := Lib.hid E
  have H0 := Lib.hid (((St.start w (Below.refl _ w)).new #[vS fgL, vS fsL, vS fbL] 9).new #[vS [], vS oneL, vS zpxL] 9)
  rw [show (w.alloc (.cells #[vS fgL, vS fsL, vS fbL] 9)).heap.size = w.heap.size + 1 from by simp] at H0
  have hz : n = 0 := by have := hr.rd.len; simp at this; omega
  subst hz
  clear hr E h1 h2 h3 h4 
  go_enter Tryz.func66, Tryz.ntmps66
  go_upto_region 11 with fail
  obtain ⟨W0, hW0⟩ : ∃ W, (w.alloc (.cells #[vS fgL, vS fsL, vS fbL] 9)).alloc (.cells #[vS [], vS oneL, vS zpxL] 9) = W := ⟨_, rfl⟩
  rw [hW0] at H0
  rw [hW0]
  clear hW0
  refine wp_region_quiet_below (by kernel_rfl) (by kernel_rfl) ?_
  repeat (go_big_quiet_step (fail))
  refine wpQuiet_nil ?_
  intro _ hw'
  obtain ⟨⟨dq, osq⟩, hw''⟩ := hw'
  obtain ⟨W1, hW⟩ : ∃ w2, Sort.grow (redrawn W0 dq) osq = w2 := ⟨_, rfl⟩
  have hb : Below W0.heap.size W0 W1 := by rw [← hW]; exact below_regrown W0 dq osq
  subst hw''
  rw [show Sort.grow (redrawn W0 (⟨dq, osq⟩ : Regrown).d) (⟨dq, osq⟩ : Regrown).os = W1 from hW]
  have H1 := Lib.hid (H0.out.of_below hb)
  clear hW hb
  go_wp2_with fail
  exact bodyPost_ret (v := .tuple #[.slice none 0 0, .bool false]) (by simp [results, Tryz.results66, go_sem]) rfl ⟨none, 0, rfl, Own.nil H1.out.bel 70 5⟩
set_option maxRecDepth 100000 in
set_option maxHeartbeats 4000000 in
theorem fx1 [Inhabited TbBox] (s : List UInt8) (x : List UInt8) (sl : Option Addr) (n c : Nat) (w : World) (hr : Rc w 1 sl n c ((x :: []).map vS)) (E : Env w) (hn : n ≤ 100000)
    (h1 : ¬ s = noneL) (h2 : ¬ s = autoL) (h3 : ¬ s = inheritL) (h4 : ¬ s = initialL) (hlx : x.length ≤ 100000) (hpfgLx : partM fgL x = false) :
    Calls Tryz.prog 66 #[.string (S s), .slice sl n c] w (DecsPost ((([], false) : List De × Bool)) w) := by
  have e1 := l_beq h1
  have e2 := l_beq h2
  have e3 := l_beq h3
  have e4 := l_beq h4
  have HE := Lib.hid E
  have H0 := Lib.hid (((St.start w (Below.refl _ w)).new #[vS fgL, vS fsL, vS fbL] 9).new #[vS [], vS oneL, vS zpxL] 9)
  rw [show (w.alloc (.cells #[vS fgL, vS fsL, vS fbL] 9)).heap.size = w.heap.size + 1 from by simp] at H0
  obtain ⟨ga0, oa0, rfl, hcx0⟩ := rc_head hr
  obtain ⟨sl1, n1, c1, hn1, hcut1, hr1⟩ := rc_tail hr
  have hz : n1 = 0 := by have := hr1.rd.len; simp at this; omega
  subst hz
  have q0 : (0 : Int) < (n : Int) := by omega
  have qb0 : ((n : Int) == 0) = false := by rw [beq_eq_false_iff_ne]; omega
  have qn0 : 0 < n := by omega
  have HC0 := Lib.hid hcx0
  clear hcx0
  clear hr E h1 h2 h3 h4 hr1 hn1
  go_enter Tryz.func66, Tryz.ntmps66
  go_upto_region 11 with fail
  obtain ⟨W0, hW0⟩ : ∃ W, (w.alloc (.cells #[vS fgL, vS fsL, vS fbL] 9)).alloc (.cells #[vS [], vS oneL, vS zpxL] 9) = W := ⟨_, rfl⟩
  rw [hW0] at H0
  rw [hW0]
  clear hW0
  have k1 := fun d os => cell_regrown (d := d) (os := os) ((H0.out.swap.cell 0).trans (show _ = some (vS fgL) from rfl))
  have k2 := fun d os => cell_regrown (d := d) (os := os) ((H0.out.bel.cell (World.block_lt_of_cell? _ _ HC0.out)).trans HC0.out)
  have cA := Lib.hid (fun d os => Calls.regrown_of (w := W0) (d := d) (os := os) (part_any fgL x (by decide) hlx _ ((HE.out.below H0.out.bel).below (below_regrown W0 d os))))
  rw [hpfgLx] at cA
  refine wp_region_quiet_below (by kernel_rfl) (by kernel_rfl) ?_
  repeat (go_big_quiet_step (first | with_reducible exact cA.out _ _))
  refine wpQuiet_nil ?_
  intro _ hw'
  obtain ⟨⟨dq, osq⟩, hw''⟩ := hw'
  obtain ⟨W1, hW⟩ : ∃ w2, Sort.grow (redrawn W0 dq) osq = w2 := ⟨_, rfl⟩
  have hb : Below W0.heap.size W0 W1 := by rw [← hW]; exact below_regrown W0 dq osq
  subst hw''
  rw [show Sort.grow (redrawn W0 (⟨dq, osq⟩ : Regrown).d) (⟨dq, osq⟩ : Regrown).os = W1 from hW]
  have H1 := Lib.hid (H0.out.of_below hb)
  clear hW hb
  clear k1 k2 cA
  go_wp2_with fail
  exact bodyPost_ret (v := .tuple #[.slice none 0 0, .bool false]) (by simp [results, Tryz.results66, go_sem]) rfl ⟨none, 0, rfl, Own.nil H1.out.bel 70 5⟩
set_option maxRecDepth 100000 in
set_option maxHeartbeats 4000000 in
theorem fx1t [Inhabited TbBox] (s : List UInt8) (x : List UInt8) (t : List (List UInt8)) (ht : t ≠ []) (sl : Option Addr) (n c : Nat) (w : World) (hr : Rc w 1 sl n c ((x :: t).map vS)) (E : Env w) (hn : n ≤ 100000)
    (h1 : ¬ s = noneL) (h2 : ¬ s = autoL) (h3 : ¬ s = inheritL) (h4 : ¬ s = initialL) (hlx : x.length ≤ 100000) (hpfgLx : partM fgL x = false) :
    Calls Tryz.prog 66 #[.string (S s), .slice sl n c] w (DecsPost ((([], false) : List De × Bool)) w) := by
  have e1 := l_beq h1
  have e2 := l_beq h2
  have e3 := l_beq h3
  have e4 := l_beq h4
  have HE := Lib.hid E
  have H0 := Lib.hid (((St.start w (Below.refl _ w)).new #[vS fgL, vS fsL, vS fbL] 9).new #[vS [], vS oneL, vS zpxL] 9)
  rw [show (w.alloc (.cells #[vS fgL, vS fsL, vS fbL] 9)).heap.size = w.heap.size + 1 from by simp] at H0
  obtain ⟨ga0, oa0, rfl, hcx0⟩ := rc_head hr
  obtain ⟨sl1, n1, c1, hn1, hcut1, hr1⟩ := rc_tail hr
  have hz : 0 < n1 := by
    have h1 := hr1.rd.len
    have h2 := List.length_pos_iff.2 ht
    simp at h1; omega
  have q0 : (0 : Int) < (n : Int) := by omega
  have qb0 : ((n : Int) == 0) = false := by rw [beq_eq_false_iff_ne]; omega
  have qn0 : 0 < n := by omega
  have q1 : (0 : Int) < (n1 : Int) := by omega
  have qb1 : ((n1 : Int) == 0) = false := by rw [beq_eq_false_iff_ne]; omega
  have HC0 := Lib.hid hcx0
  clear hcx0
  clear hr E h1 h2 h3 h4 hr1 hn1
  go_enter Tryz.func66, Tryz.ntmps66
  go_upto_region 11 with fail
  obtain ⟨W0, hW0⟩ : ∃ W, (w.alloc (.cells #[vS fgL, vS fsL, vS fbL] 9)).alloc (.cells #[vS [], vS oneL, vS zpxL] 9) = W := ⟨_, rfl⟩
  rw [hW0] at H0
  rw [hW0]
  clear hW0
  have k1 := fun d os => cell_regrown (d := d) (os := os) ((H0.out.swap.cell 0).trans (show _ = some (vS fgL) from rfl))
  have k2 := fun d os => cell_regrown (d := d) (os := os) ((H0.out.bel.cell (World.block_lt_of_cell? _ _ HC0.out)).trans HC0.out)
  have cA := Lib.hid (fun d os => Calls.regrown_of (w := W0) (d := d) (os := os) (part_any fgL x (by decide) hlx _ ((HE.out.below H0.out.bel).below (below_regrown W0 d os))))
  rw [hpfgLx] at cA
  refine wp_region_quiet_below (by kernel_rfl) (by kernel_rfl) ?_
  repeat (go_big_quiet_step (first | with_reducible exact cA.out _ _))
  refine wpQuiet_nil ?_
  intro _ hw'
  obtain ⟨⟨dq, osq⟩, hw''⟩ := hw'
  obtain ⟨W1, hW⟩ : ∃ w2, Sort.grow (redrawn W0 dq) osq = w2 := ⟨_, rfl⟩
  have hb : Below W0.heap.size W0 W1 := by rw [← hW]; exact below_regrown W0 dq osq
  subst hw''
  rw [show Sort.grow (redrawn W0 (⟨dq, osq⟩ : Regrown).d) (⟨dq, osq⟩ : Regrown).os = W1 from hW]
  have H1 := Lib.hid (H0.out.of_below hb)
  clear hW hb
  clear k1 k2 cA
  go_wp2_with fail
  exact bodyPost_ret (v := .tuple #[.slice none 0 0, .bool false]) (by simp [results, Tryz.results66, go_sem]) rfl ⟨none, 0, rfl, Own.nil H1.out.bel 70 5⟩
set_option maxRecDepth 100000 in
set_option maxHeartbeats 4000000 in
theorem fx2 [Inhabited TbBox] (s : List UInt8) (x : List UInt8) (sl : Option Addr) (n c : Nat) (w : World) (hr : Rc w 1 sl n c ((x :: []).map vS)) (E : Env w) (hn : n ≤ 100000)
    (h1 : ¬ s = noneL) (h2 : ¬ s = autoL) (h3 : ¬ s = inheritL) (h4 : ¬ s = initialL) (hlx : x.length ≤ 100000) (hpfgLx : partM fgL x = true) :
    Calls Tryz.prog 66 #[.string (S s), .slice sl n c] w (DecsPost (eachM flexN [x, oneL, zpxL]) w) := by
  have e1 := l_beq h1
  have e2 := l_beq h2
  have e3 := l_beq h3
  have e4 := l_beq h4
  have HE := Lib.hid E
  have H0 := Lib.hid (((St.start w (Below.refl _ w)).new #[vS fgL, vS fsL, vS fbL] 9).new #[vS [], vS oneL, vS zpxL] 9)
  rw [show (w.alloc (.cells #[vS fgL, vS fsL, vS fbL] 9)).heap.size = w.heap.size + 1 from by simp] at H0
  obtain ⟨ga0, oa0, rfl, hcx0⟩ := rc_head hr
  obtain ⟨sl1, n1, c1, hn1, hcut1, hr1⟩ := rc_tail hr
  have hz : n1 = 0 := by have := hr1.rd.len; simp at this; omega
  subst hz
  have q0 : (0 : Int) < (n : Int) := by omega
  have qb0 : ((n : Int) == 0) = false := by rw [beq_eq_false_iff_ne]; omega
  have qn0 : 0 < n := by omega
  have HC0 := Lib.hid hcx0
  clear hcx0
  clear hr E h1 h2 h3 h4 hr1 hn1
  go_enter Tryz.func66, Tryz.ntmps66
  go_upto_region 11 with fail
  obtain ⟨W0, hW0⟩ : ∃ W, (w.alloc (.cells #[vS fgL, vS fsL, vS fbL] 9)).alloc (.cells #[vS [], vS oneL, vS zpxL] 9) = W := ⟨_, rfl⟩
  rw [hW0] at H0
  rw [hW0]
  clear hW0
  have k1 := fun d os => cell_regrown (d := d) (os := os) ((H0.out.swap.cell 0).trans (show _ = some (vS fgL) from rfl))
  have k2 := fun d os => cell_regrown (d := d) (os := os) ((H0.out.bel.cell (World.block_lt_of_cell? _ _ HC0.out)).trans HC0.out)
  have cA := Lib.hid (fun d os => Calls.regrown_of (w := W0) (d := d) (os := os) (part_any fgL x (by decide) hlx _ ((HE.out.below H0.out.bel).below (below_regrown W0 d os))))
  rw [hpfgLx] at cA
  refine wp_region_quiet_below (by kernel_rfl) (by kernel_rfl) ?_
  repeat (go_big_quiet_step (first | with_reducible exact cA.out _ _))
  refine wpQuiet_nil ?_
  intro _ hw'
  obtain ⟨⟨dq, osq⟩, hw''⟩ := hw'
  obtain ⟨W1, hW⟩ : ∃ w2, Sort.grow (redrawn W0 dq) osq = w2 := ⟨_, rfl⟩
  have hb : Below W0.heap.size W0 W1 := by rw [← hW]; exact below_regrown W0 dq osq
  subst hw''
  rw [show Sort.grow (redrawn W0 (⟨dq, osq⟩ : Regrown).d) (⟨dq, osq⟩ : Regrown).os = W1 from hW]
  have H1 := Lib.hid (H0.out.of_below hb)
  clear hW hb
  clear k1 k2 cA
  have d0 := H1.out.cell 0
  have d1 := H1.out.cell 1
  have d2 := H1.out.cell 2
  have f0 := H1.out.free 0
  have cx := (H1.out.bel.cell (World.block_lt_of_cell? _ _ HC0.out)).trans HC0.out
  simp at d0 d1 d2
  go_upto_region 15 with fail
  have H2 := Lib.hid (H1.out.set 0 (vS x))
  simp only [List.setIfInBounds_toArray, List.set_cons_zero, List.set_cons_succ] at H2
  obtain ⟨W2, hW⟩ : ∃ w2, W1.setCell ⟨w.heap.size + 1, 0, none⟩ (vS x) = w2 := ⟨_, rfl⟩
  rw [hW] at H2
  rw [hW]
  clear hW d0 d1 d2 f0 cx
  refine wp_region_quiet_below (by kernel_rfl) (by kernel_rfl) ?_
  repeat (go_big_quiet_step (fail))
  refine wpQuiet_nil ?_
  intro _ hw'
  obtain ⟨⟨dq, osq⟩, hw''⟩ := hw'
  obtain ⟨W3, hW⟩ : ∃ w2, Sort.grow (redrawn W2 dq) osq = w2 := ⟨_, rfl⟩
  have hb : Below W2.heap.size W2 W3 := by rw [← hW]; exact below_regrown W2 dq osq
  subst hw''
  rw [show Sort.grow (redrawn W2 (⟨dq, osq⟩ : Regrown).d) (⟨dq, osq⟩ : Regrown).os = W3 from hW]
  have H3 := Lib.hid (H2.out.of_below hb)
  clear hW hb
  go_upto_region 18 with fail
  refine wp_region_quiet_below (by kernel_rfl) (by kernel_rfl) ?_
  repeat (go_big_quiet_step (fail))
  refine wpQuiet_nil ?_
  intro _ hw'
  obtain ⟨⟨dq, osq⟩, hw''⟩ := hw'
  obtain ⟨W4, hW⟩ : ∃ w2, Sort.grow (redrawn W3 dq) osq = w2 := ⟨_, rfl⟩
  have hb : Below W3.heap.size W3 W4 := by rw [← hW]; exact below_regrown W3 dq osq
  subst hw''
  rw [show Sort.grow (redrawn W3 (⟨dq, osq⟩ : Regrown).d) (⟨dq, osq⟩ : Regrown).os = W4 from hW]
  have H4 := Lib.hid (H3.out.of_below hb)
  clear hW hb
  go_upto_region 21 with fail
  have HF := Lib.hid (each3 x oneL zpxL hlx (by decide) (by decide) w W4 w.heap.size (w.heap.size + 1) H4.out.swap.blk.1 H4.out.blk.1 H4.out.bel (HE.out.below H4.out.bel))
  obtain ⟨⟨fd, fb⟩, hR⟩ : ∃ R, eachM flexN [x, oneL, zpxL] = R := ⟨_, rfl⟩
  rw [hR] at HF
  have HRR := Lib.hid hR
  clear hR
  go_wp2_with (go_at_call 68; refine HF.out.mono ?_; rintro e w1 ⟨s1, c1, rfl, ho⟩)
  refine bodyPost_ret (v := .tuple #[.slice s1 fd.length c1, .bool fb]) (by simp [results, Tryz.results66, go_sem]) rfl ?_
  rw [HRR.out]
  exact ⟨s1, c1, rfl, ho⟩
set_option maxRecDepth 100000 in
set_option maxHeartbeats 4000000 in
theorem fx3 [Inhabited TbBox] (s : List UInt8) (x y : List UInt8) (sl : Option Addr) (n c : Nat) (w : World) (hr : Rc w 1 sl n c ((x :: y :: []).map vS)) (E : Env w) (hn : n ≤ 100000)
    (h1 : ¬ s = noneL) (h2 : ¬ s = autoL) (h3 : ¬ s = inheritL) (h4 : ¬ s = initialL) (hlx : x.length ≤ 100000) (hly : y.length ≤ 100000) (hpfgLx : partM fgL x = true) (hpfsLy : partM fsL y = true) :
    Calls Tryz.prog 66 #[.string (S s), .slice sl n c] w (DecsPost (eachM flexN [x, y, zpxL]) w) := by
  have e1 := l_beq h1
  have e2 := l_beq h2
  have e3 := l_beq h3
  have e4 := l_beq h4
  have HE := Lib.hid E
  have H0 := Lib.hid (((St.start w (Below.refl _ w)).new #[vS fgL, vS fsL, vS fbL] 9).new #[vS [], vS oneL, vS zpxL] 9)
  rw [show (w.alloc (.cells #[vS fgL, vS fsL, vS fbL] 9)).heap.size = w.heap.size + 1 from by simp] at H0
  obtain ⟨ga0, oa0, rfl, hcx0⟩ := rc_head hr
  obtain ⟨sl1, n1, c1, hn1, hcut1, hr1⟩ := rc_tail hr
  obtain ⟨ga1, oa1, rfl, hcx1⟩ := rc_head hr1
  obtain ⟨sl2, n2, c2, hn2, hcut2, hr2⟩ := rc_tail hr1
  have hz : n2 = 0 := by have := hr2.rd.len; simp at this; omega
  subst hz
  have q0 : (0 : Int) < (n : Int) := by omega
  have qb0 : ((n : Int) == 0) = false := by rw [beq_eq_false_iff_ne]; omega
  have qn0 : 0 < n := by omega
  have q1 : (0 : Int) < (n1 : Int) := by omega
  have qb1 : ((n1 : Int) == 0) = false := by rw [beq_eq_false_iff_ne]; omega
  have qn1 : 0 < n1 := by omega
  have HC0 := Lib.hid hcx0
  have HC1 := Lib.hid hcx1
  clear hcx0 hcx1
  clear hr E h1 h2 h3 h4 hr1 hr2 hn1 hn2
  go_enter Tryz.func66, Tryz.ntmps66
  go_upto_region 11 with fail
  obtain ⟨W0, hW0⟩ : ∃ W, (w.alloc (.cells #[vS fgL, vS fsL, vS fbL] 9)).alloc (.cells #[vS [], vS oneL, vS zpxL] 9) = W := ⟨_, rfl⟩
  rw [hW0] at H0
  rw [hW0]
  clear hW0
  have k1 := fun d os => cell_regrown (d := d) (os := os) ((H0.out.swap.cell 0).trans (show _ = some (vS fgL) from rfl))
  have k2 := fun d os => cell_regrown (d := d) (os := os) ((H0.out.bel.cell (World.block_lt_of_cell? _ _ HC0.out)).trans HC0.out)
  have cA := Lib.hid (fun d os => Calls.regrown_of (w := W0) (d := d) (os := os) (part_any fgL x (by decide) hlx _ ((HE.out.below H0.out.bel).below (below_regrown W0 d os))))
  rw [hpfgLx] at cA
  refine wp_region_quiet_below (by kernel_rfl) (by kernel_rfl) ?_
  repeat (go_big_quiet_step (first | with_reducible exact cA.out _ _))
  refine wpQuiet_nil ?_
  intro _ hw'
  obtain ⟨⟨dq, osq⟩, hw''⟩ := hw'
  obtain ⟨W1, hW⟩ : ∃ w2, Sort.grow (redrawn W0 dq) osq = w2 := ⟨_, rfl⟩
  have hb : Below W0.heap.size W0 W1 := by rw [← hW]; exact below_regrown W0 dq osq
  subst hw''
  rw [show Sort.grow (redrawn W0 (⟨dq, osq⟩ : Regrown).d) (⟨dq, osq⟩ : Regrown).os = W1 from hW]
  have H1 := Lib.hid (H0.out.of_below hb)
  clear hW hb
  clear k1 k2 cA
  have d0 := H1.out.cell 0
  have d1 := H1.out.cell 1
  have d2 := H1.out.cell 2
  have f0 := H1.out.free 0
  have cx := (H1.out.bel.cell (World.block_lt_of_cell? _ _ HC0.out)).trans HC0.out
  simp at d0 d1 d2
  go_upto_region 15 with fail
  have H2 := Lib.hid (H1.out.set 0 (vS x))
  simp only [List.setIfInBounds_toArray, List.set_cons_zero, List.set_cons_succ] at H2
  obtain ⟨W2, hW⟩ : ∃ w2, W1.setCell ⟨w.heap.size + 1, 0, none⟩ (vS x) = w2 := ⟨_, rfl⟩
  rw [hW] at H2
  rw [hW]
  clear hW d0 d1 d2 f0 cx
  have k1 := fun d os => cell_regrown (d := d) (os := os) ((H2.out.swap.cell 1).trans (show _ = some (vS fsL) from rfl))
  have k2 := fun d os => cell_regrown (d := d) (os := os) ((H2.out.bel.cell (World.block_lt_of_cell? _ _ HC1.out)).trans HC1.out)
  have cA := Lib.hid (fun d os => Calls.regrown_of (w := W2) (d := d) (os := os) (part_any fsL y (by decide) hly _ ((HE.out.below H2.out.bel).below (below_regrown W2 d os))))
  rw [hpfsLy] at cA
  refine wp_region_quiet_below (by kernel_rfl) (by kernel_rfl) ?_
  repeat (go_big_quiet_step (first | with_reducible exact cA.out _ _))
  refine wpQuiet_nil ?_
  intro _ hw'
  obtain ⟨⟨dq, osq⟩, hw''⟩ := hw'
  obtain ⟨W3, hW⟩ : ∃ w2, Sort.grow (redrawn W2 dq) osq = w2 := ⟨_, rfl⟩
  have hb : Below W2.heap.size W2 W3 := by rw [← hW]; exact below_regrown W2 dq osq
  subst hw''
  rw [show Sort.grow (redrawn W2 (⟨dq, osq⟩ : Regrown).d) (⟨dq, osq⟩ : Regrown).os = W3 from hW]
  have H3 := Lib.hid (H2.out.of_below hb)
  clear hW hb
  clear k1 k2 cA
  have d0 := H3.out.cell 0
  have d1 := H3.out.cell 1
  have d2 := H3.out.cell 2
  have f1 := H3.out.free 1
  have cx := (H3.out.bel.cell (World.block_lt_of_cell? _ _ HC1.out)).trans HC1.out
  simp at d0 d1 d2
  go_upto_region 18 with fail
  have H4 := Lib.hid (H3.out.set 1 (vS y))
  simp only [List.setIfInBounds_toArray, List.set_cons_zero, List.set_cons_succ] at H4
  obtain ⟨W4, hW⟩ : ∃ w2, W3.setCell ⟨w.heap.size + 1, 1, none⟩ (vS y) = w2 := ⟨_, rfl⟩
  rw [hW] at H4
  rw [hW]
  clear hW d0 d1 d2 f1 cx
  refine wp_region_quiet_below (by kernel_rfl) (by kernel_rfl) ?_
  repeat (go_big_quiet_step (fail))
  refine wpQuiet_nil ?_
  intro _ hw'
  obtain ⟨⟨dq, osq⟩, hw''⟩ := hw'
  obtain ⟨W5, hW⟩ : ∃ w2, Sort.grow (redrawn W4 dq) osq = w2 := ⟨_, rfl⟩
  have hb : Below W4.heap.size W4 W5 := by rw [← hW]; exact below_regrown W4 dq osq
  subst hw''
  rw [show Sort.grow (redrawn W4 (⟨dq, osq⟩ : Regrown).d) (⟨dq, osq⟩ : Regrown).os = W5 from hW]
  have H5 := Lib.hid (H4.out.of_below hb)
  clear hW hb
  go_upto_region 21 with fail
  have HF := Lib.hid (each3 x y zpxL hlx hly (by decide) w W5 w.heap.size (w.heap.size + 1) H5.out.swap.blk.1 H5.out.blk.1 H5.out.bel (HE.out.below H5.out.bel))
  obtain ⟨⟨fd, fb⟩, hR⟩ : ∃ R, eachM flexN [x, y, zpxL] = R := ⟨_, rfl⟩
  rw [hR] at HF
  have HRR := Lib.hid hR
  clear hR
  go_wp2_with (go_at_call 68; refine HF.out.mono ?_; rintro e w1 ⟨s1, c1, rfl, ho⟩)
  refine bodyPost_ret (v := .tuple #[.slice s1 fd.length c1, .bool fb]) (by simp [results, Tryz.results66, go_sem]) rfl ?_
  rw [HRR.out]
  exact ⟨s1, c1, rfl, ho⟩
set_option maxRecDepth 100000 in
set_option maxHeartbeats 4000000 in
theorem fx4 [Inhabited TbBox] (s : List UInt8) (x y : List UInt8) (sl : Option Addr) (n c : Nat) (w : World) (hr : Rc w 1 sl n c ((x :: y :: []).map vS)) (E : Env w) (hn : n ≤ 100000)
    (h1 : ¬ s = noneL) (h2 : ¬ s = autoL) (h3 : ¬ s = inheritL) (h4 : ¬ s = initialL) (hlx : x.length ≤ 100000) (hly : y.length ≤ 100000) (hpfgLx : partM fgL x = true) (hpfsLy : partM fsL y = false) (hpfbLy : partM fbL y = true) :
    Calls Tryz.prog 66 #[.string (S s), .slice sl n c] w (DecsPost (eachM flexN [x, oneL, y]) w) := by
  have e1 := l_beq h1
  have e2 := l_beq h2
  have e3 := l_beq h3
  have e4 := l_beq h4
  have HE := Lib.hid E
  have H0 := Lib.hid (((St.start w (Below.refl _ w)).new #[vS fgL, vS fsL, vS fbL] 9).new #[vS [], vS oneL, vS zpxL] 9)
  rw [show (w.alloc (.cells #[vS fgL, vS fsL, vS fbL] 9)).heap.size = w.heap.size + 1 from by simp] at H0
  obtain ⟨ga0, oa0, rfl, hcx0⟩ := rc_head hr
  obtain ⟨sl1, n1, c1, hn1, hcut1, hr1⟩ := rc_tail hr
  obtain ⟨ga1, oa1, rfl, hcx1⟩ := rc_head hr1
  obtain ⟨sl2, n2, c2, hn2, hcut2, hr2⟩ := rc_tail hr1
  have hz : n2 = 0 := by have := hr2.rd.len; simp at this; omega
  subst hz
  have q0 : (0 : Int) < (n : Int) := by omega
  have qb0 : ((n : Int) == 0) = false := by rw [beq_eq_false_iff_ne]; omega
  have qn0 : 0 < n := by omega
  have q1 : (0 : Int) < (n1 : Int) := by omega
  have qb1 : ((n1 : Int) == 0) = false := by rw [beq_eq_false_iff_ne]; omega
  have qn1 : 0 < n1 := by omega
  have HC0 := Lib.hid hcx0
  have HC1 := Lib.hid hcx1
  clear hcx0 hcx1
  clear hr E h1 h2 h3 h4 hr1 hr2 hn1 hn2
  go_enter Tryz.func66, Tryz.ntmps66
  go_upto_region 11 with fail
  obtain ⟨W0, hW0⟩ : ∃ W, (w.alloc (.cells #[vS fgL, vS fsL, vS fbL] 9)).alloc (.cells #[vS [], vS oneL, vS zpxL] 9) = W := ⟨_, rfl⟩
  rw [hW0] at H0
  rw [hW0]
  clear hW0
  have k1 := fun d os => cell_regrown (d := d) (os := os) ((H0.out.swap.cell 0).trans (show _ = some (vS fgL) from rfl))
  have k2 := fun d os => cell_regrown (d := d) (os := os) ((H0.out.bel.cell (World.block_lt_of_cell? _ _ HC0.out)).trans HC0.out)
  have cA := Lib.hid (fun d os => Calls.regrown_of (w := W0) (d := d) (os := os) (part_any fgL x (by decide) hlx _ ((HE.out.below H0.out.bel).below (below_regrown W0 d os))))
  rw [hpfgLx] at cA
  refine wp_region_quiet_below (by kernel_rfl) (by kernel_rfl) ?_
  repeat (go_big_quiet_step (first | with_reducible exact cA.out _ _))
  refine wpQuiet_nil ?_
  intro _ hw'
  obtain ⟨⟨dq, osq⟩, hw''⟩ := hw'
  obtain ⟨W1, hW⟩ : ∃ w2, Sort.grow (redrawn W0 dq) osq = w2 := ⟨_, rfl⟩
  have hb : Below W0.heap.size W0 W1 := by rw [← hW]; exact below_regrown W0 dq osq
  subst hw''
  rw [show Sort.grow (redrawn W0 (⟨dq, osq⟩ : Regrown).d) (⟨dq, osq⟩ : Regrown).os = W1 from hW]
  have H1 := Lib.hid (H0.out.of_below hb)
  clear hW hb
  clear k1 k2 cA
  have d0 := H1.out.cell 0
  have d1 := H1.out.cell 1
  have d2 := H1.out.cell 2
  have f0 := H1.out.free 0
  have cx := (H1.out.bel.cell (World.block_lt_of_cell? _ _ HC0.out)).trans HC0.out
  simp at d0 d1 d2
  go_upto_region 15 with fail
  have H2 := Lib.hid (H1.out.set 0 (vS x))
  simp only [List.setIfInBounds_toArray, List.set_cons_zero, List.set_cons_succ] at H2
  obtain ⟨W2, hW⟩ : ∃ w2, W1.setCell ⟨w.heap.size + 1, 0, none⟩ (vS x) = w2 := ⟨_, rfl⟩
  rw [hW] at H2
  rw [hW]
  clear hW d0 d1 d2 f0 cx
  have k1 := fun d os => cell_regrown (d := d) (os := os) ((H2.out.swap.cell 1).trans (show _ = some (vS fsL) from rfl))
  have k2 := fun d os => cell_regrown (d := d) (os := os) ((H2.out.bel.cell (World.block_lt_of_cell? _ _ HC1.out)).trans HC1.out)
  have cA := Lib.hid (fun d os => Calls.regrown_of (w := W2) (d := d) (os := os) (part_any fsL y (by decide) hly _ ((HE.out.below H2.out.bel).below (below_regrown W2 d os))))
  rw [hpfsLy] at cA
  refine wp_region_quiet_below (by kernel_rfl) (by kernel_rfl) ?_
  repeat (go_big_quiet_step (first | with_reducible exact cA.out _ _))
  refine wpQuiet_nil ?_
  intro _ hw'
  obtain ⟨⟨dq, osq⟩, hw''⟩ := hw'
  obtain ⟨W3, hW⟩ : ∃ w2, Sort.grow (redrawn W2 dq) osq = w2 := ⟨_, rfl⟩
  have hb : Below W2.heap.size W2 W3 := by rw [← hW]; exact below_regrown W2 dq osq
  subst hw''
  rw [show Sort.grow (redrawn W2 (⟨dq, osq⟩ : Regrown).d) (⟨dq, osq⟩ : Regrown).os = W3 from hW]
  have H3 := Lib.hid (H2.out.of_below hb)
  clear hW hb
  clear k1 k2 cA
  go_upto_region 18 with fail
  have k1 := fun d os => cell_regrown (d := d) (os := os) ((H3.out.swap.cell 2).trans (show _ = some (vS fbL) from rfl))
  have k2 := fun d os => cell_regrown (d := d) (os := os) ((H3.out.bel.cell (World.block_lt_of_cell? _ _ HC1.out)).trans HC1.out)
  have cA := Lib.hid (fun d os => Calls.regrown_of (w := W3) (d := d) (os := os) (part_any fbL y (by decide) hly _ ((HE.out.below H3.out.bel).below (below_regrown W3 d os))))
  rw [hpfbLy] at cA
  refine wp_region_quiet_below (by kernel_rfl) (by kernel_rfl) ?_
  repeat (go_big_quiet_step (first | with_reducible exact cA.out _ _))
  refine wpQuiet_nil ?_
  intro _ hw'
  obtain ⟨⟨dq, osq⟩, hw''⟩ := hw'
  obtain ⟨W4, hW⟩ : ∃ w2, Sort.grow (redrawn W3 dq) osq = w2 := ⟨_, rfl⟩
  have hb : Below W3.heap.size W3 W4 := by rw [← hW]; exact below_regrown W3 dq osq
  subst hw''
  rw [show Sort.grow (redrawn W3 (⟨dq, osq⟩ : Regrown).d) (⟨dq, osq⟩ : Regrown).os = W4 from hW]
  have H4 := Lib.hid (H3.out.of_below hb)
  clear hW hb
  clear k1 k2 cA
  have d0 := H4.out.cell 0
  have d1 := H4.out.cell 1
  have d2 := H4.out.cell 2
  have f2 := H4.out.free 2
  have cx := (H4.out.bel.cell (World.block_lt_of_cell? _ _ HC1.out)).trans HC1.out
  simp at d0 d1 d2
  go_upto_region 21 with fail
  have H5 := Lib.hid (H4.out.set 2 (vS y))
  simp only [List.setIfInBounds_toArray, List.set_cons_zero, List.set_cons_succ] at H5
  obtain ⟨W5, hW⟩ : ∃ w2, W4.setCell ⟨w.heap.size + 1, 2, none⟩ (vS y) = w2 := ⟨_, rfl⟩
  rw [hW] at H5
  rw [hW]
  clear hW d0 d1 d2 f2 cx
  have HF := Lib.hid (each3 x oneL y hlx (by decide) hly w W5 w.heap.size (w.heap.size + 1) H5.out.swap.blk.1 H5.out.blk.1 H5.out.bel (HE.out.below H5.out.bel))
  obtain ⟨⟨fd, fb⟩, hR⟩ : ∃ R, eachM flexN [x, oneL, y] = R := ⟨_, rfl⟩
  rw [hR] at HF
  have HRR := Lib.hid hR
  clear hR
  go_wp2_with (go_at_call 68; refine HF.out.mono ?_; rintro e w1 ⟨s1, c1, rfl, ho⟩)
  refine bodyPost_ret (v := .tuple #[.slice s1 fd.length c1, .bool fb]) (by simp [results, Tryz.results66, go_sem]) rfl ?_
  rw [HRR.out]
  exact ⟨s1, c1, rfl, ho⟩
set_option maxRecDepth 100000 in
set_option maxHeartbeats 4000000 in
theorem fx4t [Inhabited TbBox] (s : List UInt8) (x y : List UInt8) (t : List (List UInt8)) (ht : t ≠ []) (sl : Option Addr) (n c : Nat) (w : World) (hr : Rc w 1 sl n c ((x :: y :: t).map vS)) (E : Env w) (hn : n ≤ 100000)
    (h1 : ¬ s = noneL) (h2 : ¬ s = autoL) (h3 : ¬ s = inheritL) (h4 : ¬ s = initialL) (hlx : x.length ≤ 100000) (hly : y.length ≤ 100000) (hpfgLx : partM fgL x = true) (hpfsLy : partM fsL y = false) (hpfbLy : partM fbL y = true) :
    Calls Tryz.prog 66 #[.string (S s), .slice sl n c] w (DecsPost ((([], false) : List De × Bool)) w) := by
  have e1 := l_beq h1
  have e2 := l_beq h2
  have e3 := l_beq h3
  have e4 := l_beq h4
  have HE := Lib.hid E
  have H0 := Lib.hid (((St.start w (Below.refl _ w)).new #[vS fgL, vS fsL, vS fbL] 9).new #[vS [], vS oneL, vS zpxL] 9)
  rw [show (w.alloc (.cells #[vS fgL, vS fsL, vS fbL] 9)).heap.size = w.heap.size + 1 from by simp] at H0
  obtain ⟨ga0, oa0, rfl, hcx0⟩ := rc_head hr
  obtain ⟨sl1, n1, c1, hn1, hcut1, hr1⟩ := rc_tail hr
  obtain ⟨ga1, oa1, rfl, hcx1⟩ := rc_head hr1
  obtain ⟨sl2, n2, c2, hn2, hcut2, hr2⟩ := rc_tail hr1
  have hz : 0 < n2 := by
    have h1 := hr2.rd.len
    have h2 := List.length_pos_iff.2 ht
    simp at h1; omega
  have q0 : (0 : Int) < (n : Int) := by omega
  have qb0 : ((n : Int) == 0) = false := by rw [beq_eq_false_iff_ne]; omega
  have qn0 : 0 < n := by omega
  have q1 : (0 : Int) < (n1 : Int) := by omega
  have qb1 : ((n1 : Int) == 0) = false := by rw [beq_eq_false_iff_ne]; omega
  have qn1 : 0 < n1 := by omega
  have q2 : (0 : Int) < (n2 : Int) := by omega
  have qb2 : ((n2 : Int) == 0) = false := by rw [beq_eq_false_iff_ne]; omega
  have HC0 := Lib.hid hcx0
  have HC1 := Lib.hid hcx1
  clear hcx0 hcx1
  clear hr E h1 h2 h3 h4 hr1 hr2 hn1 hn2
  go_enter Tryz.func66, Tryz.ntmps66
  go_upto_region 11 with fail
  obtain ⟨W0, hW0⟩ : ∃ W, (w.alloc (.cells #[vS fgL, vS fsL, vS fbL] 9)).alloc (.cells #[vS [], vS oneL, vS zpxL] 9) = W := ⟨_, rfl⟩
  rw [hW0] at H0
  rw [hW0]
  clear hW0
  have k1 := fun d os => cell_regrown (d := d) (os := os) ((H0.out.swap.cell 0).trans (show _ = some (vS fgL) from rfl))
  have k2 := fun d os => cell_regrown (d := d) (os := os) ((H0.out.bel.cell (World.block_lt_of_cell? _ _ HC0.out)).trans HC0.out)
  have cA := Lib.hid (fun d os => Calls.regrown_of (w := W0) (d := d) (os := os) (part_any fgL x (by decide) hlx _ ((HE.out.below H0.out.bel).below (below_regrown W0 d os))))
  rw [hpfgLx] at cA
  refine wp_region_quiet_below (by kernel_rfl) (by kernel_rfl) ?_
  repeat (go_big_quiet_step (first | with_reducible exact cA.out _ _))
  refine wpQuiet_nil ?_
  intro _ hw'
  obtain ⟨⟨dq, osq⟩, hw''⟩ := hw'
  obtain ⟨W1, hW⟩ : ∃ w2, Sort.grow (redrawn W0 dq) osq = w2 := ⟨_, rfl⟩
  have hb : Below W0.heap.size W0 W1 := by rw [← hW]; exact below_regrown W0 dq osq
  subst hw''
  rw [show Sort.grow (redrawn W0 (⟨dq, osq⟩ : Regrown).d) (⟨dq, osq⟩ : Regrown).os = W1 from hW]
  have H1 := Lib.hid (H0.out.of_below hb)
  clear hW hb
  clear k1 k2 cA
  have d0 := H1.out.cell 0
  have d1 := H1.out.cell 1
  have d2 := H1.out.cell 2
  have f0 := H1.out.free 0
  have cx := (H1.out.bel.cell (World.block_lt_of_cell? _ _ HC0.out)).trans HC0.out
  simp at d0 d1 d2
  go_upto_region 15 with fail
  have H2 := Lib.hid (H1.out.set 0 (vS x))
  simp only [List.setIfInBounds_toArray, List.set_cons_zero, List.set_cons_succ] at H2
  obtain ⟨W2, hW⟩ : ∃ w2, W1.setCell ⟨w.heap.size + 1, 0, none⟩ (vS x) = w2 := ⟨_, rfl⟩
  rw [hW] at H2
  rw [hW]
  clear hW d0 d1 d2 f0 cx
  have k1 := fun d os => cell_regrown (d := d) (os := os) ((H2.out.swap.cell 1).trans (show _ = some (vS fsL) from rfl))
  have k2 := fun d os => cell_regrown (d := d) (os := os) ((H2.out.bel.cell (World.block_lt_of_cell? _ _ HC1.out)).trans HC1.out)
  have cA := Lib.hid (fun d os => Calls.regrown_of (w := W2) (d := d) (os := os) (part_any fsL y (by decide) hly _ ((HE.out.below H2.out.bel).below (below_regrown W2 d os))))
  rw [hpfsLy] at cA
  refine wp_region_quiet_below (by kernel_rfl) (by kernel_rfl) ?_
  repeat (go_big_quiet_step (first | with_reducible exact cA.out _ _))
  refine wpQuiet_nil ?_
  intro _ hw'
  obtain ⟨⟨dq, osq⟩, hw''⟩ := hw'
  obtain ⟨W3, hW⟩ : ∃ w2, Sort.grow (redrawn W2 dq) osq = w2 := ⟨_, rfl⟩
  have hb : Below W2.heap.size W2 W3 := by rw [← hW]; exact below_regrown W2 dq osq
  subst hw''
  rw [show Sort.grow (redrawn W2 (⟨dq, osq⟩ : Regrown).d) (⟨dq, osq⟩ : Regrown).os = W3 from hW]
  have H3 := Lib.hid (H2.out.of_below hb)
  clear hW hb
  clear k1 k2 cA
  go_upto_region 18 with fail
  have k1 := fun d os => cell_regrown (d := d) (os := os) ((H3.out.swap.cell 2).trans (show _ = some (vS fbL) from rfl))
  have k2 := fun d os => cell_regrown (d := d) (os := os) ((H3.out.bel.cell (World.block_lt_of_cell? _ _ HC1.out)).trans HC1.out)
  have cA := Lib.hid (fun d os => Calls.regrown_of (w := W3) (d := d) (os := os) (part_any fbL y (by decide) hly _ ((HE.out.below H3.out.bel).below (below_regrown W3 d os))))
  rw [hpfbLy] at cA
  refine wp_region_quiet_below (by kernel_rfl) (by kernel_rfl) ?_
  repeat (go_big_quiet_step (first | with_reducible exact cA.out _ _))
  refine wpQuiet_nil ?_
  intro _ hw'
  obtain ⟨⟨dq, osq⟩, hw''⟩ := hw'
  obtain ⟨W4, hW⟩ : ∃ w2, Sort.grow (redrawn W3 dq) osq = w2 := ⟨_, rfl⟩
  have hb : Below W3.heap.size W3 W4 := by rw [← hW]; exact below_regrown W3 dq osq
  subst hw''
  rw [show Sort.grow (redrawn W3 (⟨dq, osq⟩ : Regrown).d) (⟨dq, osq⟩ : Regrown).os = W4 from hW]
  have H4 := Lib.hid (H3.out.of_below hb)
  clear hW hb
  clear k1 k2 cA
  have d0 := H4.out.cell 0
  have d1 := H4.out.cell 1
  have d2 := H4.out.cell 2
  have f2 := H4.out.free 2
  have cx := (H4.out.bel.cell (World.block_lt_of_cell? _ _ HC1.out)).trans HC1.out
  simp at d0 d1 d2
  go_upto_region 21 with fail
  have H5 := Lib.hid (H4.out.set 2 (vS y))
  simp only [List.setIfInBounds_toArray, List.set_cons_zero, List.set_cons_succ] at H5
  obtain ⟨W5, hW⟩ : ∃ w2, W4.setCell ⟨w.heap.size + 1, 2, none⟩ (vS y) = w2 := ⟨_, rfl⟩
  rw [hW] at H5
  rw [hW]
  clear hW d0 d1 d2 f2 cx
  go_wp2_with fail
  exact bodyPost_ret (v := .tuple #[.slice none 0 0, .bool false]) (by simp [results, Tryz.results66, go_sem]) rfl ⟨none, 0, rfl, Own.nil H5.out.bel 70 5⟩
set_option maxRecDepth 100000 in
set_option maxHeartbeats 4000000 in
theorem fx5 [Inhabited TbBox] (s : List UInt8) (x y : List UInt8) (sl : Option Addr) (n c : Nat) (w : World) (hr : Rc w 1 sl n c ((x :: y :: []).map vS)) (E : Env w) (hn : n ≤ 100000)
    (h1 : ¬ s = noneL) (h2 : ¬ s = autoL) (h3 : ¬ s = inheritL) (h4 : ¬ s = initialL) (hlx : x.length ≤ 100000) (hly : y.length ≤ 100000) (hpfgLx : partM fgL x = true) (hpfsLy : partM fsL y = false) (hpfbLy : partM fbL y = false) :
    Calls Tryz.prog 66 #[.string (S s), .slice sl n c] w (DecsPost ((([], false) : List De × Bool)) w) := by
  have e1 := l_beq h1
  have e2 := l_beq h2
  have e3 := l_beq h3
  have e4 := l_beq h4
  have HE := Lib.hid E
  have H0 := Lib.hid (((St.start w (Below.refl _ w)).new #[vS fgL, vS fsL, vS fbL] 9).new #[vS [], vS oneL, vS zpxL] 9)
  rw [show (w.alloc (.cells #[vS fgL, vS fsL, vS fbL] 9)).heap.size = w.heap.size + 1 from by simp] at H0
  obtain ⟨ga0, oa0, rfl, hcx0⟩ := rc_head hr
  obtain ⟨sl1, n1, c1, hn1, hcut1, hr1⟩ := rc_tail hr
  obtain ⟨ga1, oa1, rfl, hcx1⟩ := rc_head hr1
  obtain ⟨sl2, n2, c2, hn2, hcut2, hr2⟩ := rc_tail hr1
  have hz : n2 = 0 := by have := hr2.rd.len; simp at this; omega
  subst hz
  have q0 : (0 : Int) < (n : Int) := by omega
  have qb0 : ((n : Int) == 0) = false := by rw [beq_eq_false_iff_ne]; omega
  have qn0 : 0 < n := by omega
  have q1 : (0 : Int) < (n1 : Int) := by omega
  have qb1 : ((n1 : Int) == 0) = false := by rw [beq_eq_false_iff_ne]; omega
  have qn1 : 0 < n1 := by omega
  have HC0 := Lib.hid hcx0
  have HC1 := Lib.hid hcx1
  clear hcx0 hcx1
  clear hr E h1 h2 h3 h4 hr1 hr2 hn1 hn2
  go_enter Tryz.func66, Tryz.ntmps66
  go_upto_region 11 with fail
  obtain ⟨W0, hW0⟩ : ∃ W, (w.alloc (.cells #[vS fgL, vS fsL, vS fbL] 9)).alloc (.cells #[vS [], vS oneL, vS zpxL] 9) = W := ⟨_, rfl⟩
  rw [hW0] at H0
  rw [hW0]
  clear hW0
  have k1 := fun d os => cell_regrown (d := d) (os := os) ((H0.out.swap.cell 0).trans (show _ = some (vS fgL) from rfl))
  have k2 := fun d os => cell_regrown (d := d) (os := os) ((H0.out.bel.cell (World.block_lt_of_cell? _ _ HC0.out)).trans HC0.out)
  have cA := Lib.hid (fun d os => Calls.regrown_of (w := W0) (d := d) (os := os) (part_any fgL x (by decide) hlx _ ((HE.out.below H0.out.bel).below (below_regrown W0 d os))))
  rw [hpfgLx] at cA
  refine wp_region_quiet_below (by kernel_rfl) (by kernel_rfl) ?_
  repeat (go_big_quiet_step (first | with_reducible exact cA.out _ _))
  refine wpQuiet_nil ?_
  intro _ hw'
  obtain ⟨⟨dq, osq⟩, hw''⟩ := hw'
  obtain ⟨W1, hW⟩ : ∃ w2, Sort.grow (redrawn W0 dq) osq = w2 := ⟨_, rfl⟩
  have hb : Below W0.heap.size W0 W1 := by rw [← hW]; exact below_regrown W0 dq osq
  subst hw''
  rw [show Sort.grow (redrawn W0 (⟨dq, osq⟩ : Regrown).d) (⟨dq, osq⟩ : Regrown).os = W1 from hW]
  have H1 := Lib.hid (H0.out.of_below hb)
  clear hW hb
  clear k1 k2 cA
  have d0 := H1.out.cell 0
  have d1 := H1.out.cell 1
  have d2 := H1.out.cell 2
  have f0 := H1.out.free 0
  have cx := (H1.out.bel.cell (World.block_lt_of_cell? _ _ HC0.out)).trans HC0.out
  simp at d0 d1 d2
  go_upto_region 15 with fail
  have H2 := Lib.hid (H1.out.set 0 (vS x))
  simp only [List.setIfInBounds_toArray, List.set_cons_zero, List.set_cons_succ] at H2
  obtain ⟨W2, hW⟩ : ∃ w2, W1.setCell ⟨w.heap.size + 1, 0, none⟩ (vS x) = w2 := ⟨_, rfl⟩
  rw [hW] at H2
  rw [hW]
  clear hW d0 d1 d2 f0 cx
  have k1 := fun d os => cell_regrown (d := d) (os := os) ((H2.out.swap.cell 1).trans (show _ = some (vS fsL) from rfl))
  have k2 := fun d os => cell_regrown (d := d) (os := os) ((H2.out.bel.cell (World.block_lt_of_cell? _ _ HC1.out)).trans HC1.out)
  have cA := Lib.hid (fun d os => Calls.regrown_of (w := W2) (d := d) (os := os) (part_any fsL y (by decide) hly _ ((HE.out.below H2.out.bel).below (below_regrown W2 d os))))
  rw [hpfsLy] at cA
  refine wp_region_quiet_below (by kernel_rfl) (by kernel_rfl) ?_
  repeat (go_big_quiet_step (first | with_reducible exact cA.out _ _))
  refine wpQuiet_nil ?_
  intro _ hw'
  obtain ⟨⟨dq, osq⟩, hw''⟩ := hw'
  obtain ⟨W3, hW⟩ : ∃ w2, Sort.grow (redrawn W2 dq) osq = w2 := ⟨_, rfl⟩
  have hb : Below W2.heap.size W2 W3 := by rw [← hW]; exact below_regrown W2 dq osq
  subst hw''
  rw [show Sort.grow (redrawn W2 (⟨dq, osq⟩ : Regrown).d) (⟨dq, osq⟩ : Regrown).os = W3 from hW]
  have H3 := Lib.hid (H2.out.of_below hb)
  clear hW hb
  clear k1 k2 cA
  go_upto_region 18 with fail
  have k1 := fun d os => cell_regrown (d := d) (os := os) ((H3.out.swap.cell 2).trans (show _ = some (vS fbL) from rfl))
  have k2 := fun d os => cell_regrown (d := d) (os := os) ((H3.out.bel.cell (World.block_lt_of_cell? _ _ HC1.out)).trans HC1.out)
  have cA := Lib.hid (fun d os => Calls.regrown_of (w := W3) (d := d) (os := os) (part_any fbL y (by decide) hly _ ((HE.out.below H3.out.bel).below (below_regrown W3 d os))))
  rw [hpfbLy] at cA
  refine wp_region_quiet_below (by kernel_rfl) (by kernel_rfl) ?_
  repeat (go_big_quiet_step (first | with_reducible exact cA.out _ _))
  refine wpQuiet_nil ?_
  intro _ hw'
  obtain ⟨⟨dq, osq⟩, hw''⟩ := hw'
  obtain ⟨W4, hW⟩ : ∃ w2, Sort.grow (redrawn W3 dq) osq = w2 := ⟨_, rfl⟩
  have hb : Below W3.heap.size W3 W4 := by rw [← hW]; exact below_regrown W3 dq osq
  subst hw''
  rw [show Sort.grow (redrawn W3 (⟨dq, osq⟩ : Regrown).d) (⟨dq, osq⟩ : Regrown).os = W4 from hW]
  have H4 := Lib.hid (H3.out.of_below hb)
  clear hW hb
  clear k1 k2 cA
  go_upto_region 21 with fail
  go_wp2_with fail
  exact bodyPost_ret (v := .tuple #[.slice none 0 0, .bool false]) (by simp [results, Tryz.results66, go_sem]) rfl ⟨none, 0, rfl, Own.nil H4.out.bel 70 5⟩
set_option maxRecDepth 100000 in
set_option maxHeartbeats 4000000 in
theorem fx5t [Inhabited TbBox] (s : List UInt8) (x y : List UInt8) (t : List (List UInt8)) (ht : t ≠ []) (sl : Option Addr) (n c : Nat) (w : World) (hr : Rc w 1 sl n c ((x :: y :: t).map vS)) (E : Env w) (hn : n ≤ 100000)
    (h1 : ¬ s = noneL) (h2 : ¬ s = autoL) (h3 : ¬ s = inheritL) (h4 : ¬ s = initialL) (hlx : x.length ≤ 100000) (hly : y.length ≤ 100000) (hpfgLx : partM fgL x = true) (hpfsLy : partM fsL y = false) (hpfbLy : partM fbL y = false) :
    Calls Tryz.prog 66 #[.string (S s), .slice sl n c] w (DecsPost ((([], false) : List De × Bool)) w) := by
  have e1 := l_beq h1
  have e2 := l_beq h2
  have e3 := l_beq h3
  have e4 := l_beq h4
  have HE := Lib.hid E
  have H0 := Lib.hid (((St.start w (Below.refl _ w)).new #[vS fgL, vS fsL, vS fbL] 9).new #[vS [], vS oneL, vS zpxL] 9)
  rw [show (w.alloc (.cells #[vS fgL, vS fsL, vS fbL] 9)).heap.size = w.heap.size + 1 from by simp] at H0
  obtain ⟨ga0, oa0, rfl, hcx0⟩ := rc_head hr
  obtain ⟨sl1, n1, c1, hn1, hcut1, hr1⟩ := rc_tail hr
  obtain ⟨ga1, oa1, rfl, hcx1⟩ := rc_head hr1
  obtain ⟨sl2, n2, c2, hn2, hcut2, hr2⟩ := rc_tail hr1
  have hz : 0 < n2 := by
    have h1 := hr2.rd.len
    have h2 := List.length_pos_iff.2 ht
    simp at h1; omega
  have q0 : (0 : Int) < (n : Int) := by omega
  have qb0 : ((n : Int) == 0) = false := by rw [beq_eq_false_iff_ne]; omega
  have qn0 : 0 < n := by omega
  have q1 : (0 : Int) < (n1 : Int) := by omega
  have qb1 : ((n1 : Int) == 0) = false := by rw [beq_eq_false_iff_ne]; omega
  have qn1 : 0 < n1 := by omega
  have q2 : (0 : Int) < (n2 : Int) := by omega
  have qb2 : ((n2 : Int) == 0) = false := by rw [beq_eq_false_iff_ne]; omega
  have HC0 := Lib.hid hcx0
  have HC1 := Lib.hid hcx1
  clear hcx0 hcx1
  clear hr E h1 h2 h3 h4 hr1 hr2 hn1 hn2
  go_enter Tryz.func66, Tryz.ntmps66
  go_upto_region 11 with fail
  obtain ⟨W0, hW0⟩ : ∃ W, (w.alloc (.cells #[vS fgL, vS fsL, vS fbL] 9)).alloc (.cells #[vS [], vS oneL, vS zpxL] 9) = W := ⟨_, rfl⟩
  rw [hW0] at H0
  rw [hW0]
  clear hW0
  have k1 := fun d os => cell_regrown (d := d) (os := os) ((H0.out.swap.cell 0).trans (show _ = some (vS fgL) from rfl))
  have k2 := fun d os => cell_regrown (d := d) (os := os) ((H0.out.bel.cell (World.block_lt_of_cell? _ _ HC0.out)).trans HC0.out)
  have cA := Lib.hid (fun d os => Calls.regrown_of (w := W0) (d := d) (os := os) (part_any fgL x (by decide) hlx _ ((HE.out.below H0.out.bel).below (below_regrown W0 d os))))
  rw [hpfgLx] at cA
  refine wp_region_quiet_below (by kernel_rfl) (by kernel_rfl) ?_
  repeat (go_big_quiet_step (first | with_reducible exact cA.out _ _))
  refine wpQuiet_nil ?_
  intro _ hw'
  obtain ⟨⟨dq, osq⟩, hw''⟩ := hw'
  obtain ⟨W1, hW⟩ : ∃ w2, Sort.grow (redrawn W0 dq) osq = w2 := ⟨_, rfl⟩
  have hb : Below W0.heap.size W0 W1 := by rw [← hW]; exact below_regrown W0 dq osq
  subst hw''
  rw [show Sort.grow (redrawn W0 (⟨dq, osq⟩ : Regrown).d) (⟨dq, osq⟩ : Regrown).os = W1 from hW]
  have H1 := Lib.hid (H0.out.of_below hb)
  clear hW hb
  clear k1 k2 cA
  have d0 := H1.out.cell 0
  have d1 := H1.out.cell 1
  have d2 := H1.out.cell 2
  have f0 := H1.out.free 0
  have cx := (H1.out.bel.cell (World.block_lt_of_cell? _ _ HC0.out)).trans HC0.out
  simp at d0 d1 d2
  go_upto_region 15 with fail
  have H2 := Lib.hid (H1.out.set 0 (vS x))
  simp only [List.setIfInBounds_toArray, List.set_cons_zero, List.set_cons_succ] at H2
  obtain ⟨W2, hW⟩ : ∃ w2, W1.setCell ⟨w.heap.size + 1, 0, none⟩ (vS x) = w2 := ⟨_, rfl⟩
  rw [hW] at H2
  rw [hW]
  clear hW d0 d1 d2 f0 cx
  have k1 := fun d os => cell_regrown (d := d) (os := os) ((H2.out.swap.cell 1).trans (show _ = some (vS fsL) from rfl))
  have k2 := fun d os => cell_regrown (d := d) (os := os) ((H2.out.bel.cell (World.block_lt_of_cell? _ _ HC1.out)).trans HC1.out)
  have cA := Lib.hid (fun d os => Calls.regrown_of (w := W2) (d := d) (os := os) (part_any fsL y (by decide) hly _ ((HE.out.below H2.out.bel).below (below_regrown W2 d os))))
  rw [hpfsLy] at cA
  refine wp_region_quiet_below (by kernel_rfl) (by kernel_rfl) ?_
  repeat (go_big_quiet_step (first | with_reducible exact cA.out _ _))
  refine wpQuiet_nil ?_
  intro _ hw'
  obtain ⟨⟨dq, osq⟩, hw''⟩ := hw'
  obtain ⟨W3, hW⟩ : ∃ w2, Sort.grow (redrawn W2 dq) osq = w2 := ⟨_, rfl⟩
  have hb : Below W2.heap.size W2 W3 := by rw [← hW]; exact below_regrown W2 dq osq
  subst hw''
  rw [show Sort.grow (redrawn W2 (⟨dq, osq⟩ : Regrown).d) (⟨dq, osq⟩ : Regrown).os = W3 from hW]
  have H3 := Lib.hid (H2.out.of_below hb)
  clear hW hb
  clear k1 k2 cA
  go_upto_region 18 with fail
  have k1 := fun d os => cell_regrown (d := d) (os := os) ((H3.out.swap.cell 2).trans (show _ = some (vS fbL) from rfl))
  have k2 := fun d os => cell_regrown (d := d) (os := os) ((H3.out.bel.cell (World.block_lt_of_cell? _ _ HC1.out)).trans HC1.out)
  have cA := Lib.hid (fun d os => Calls.regrown_of (w := W3) (d := d) (os := os) (part_any fbL y (by decide) hly _ ((HE.out.below H3.out.bel).below (below_regrown W3 d os))))
  rw [hpfbLy] at cA
  refine wp_region_quiet_below (by kernel_rfl) (by kernel_rfl) ?_
  repeat (go_big_quiet_step (first | with_reducible exact cA.out _ _))
  refine wpQuiet_nil ?_
  intro _ hw'
  obtain ⟨⟨dq, osq⟩, hw''⟩ := hw'
  obtain ⟨W4, hW⟩ : ∃ w2, Sort.grow (redrawn W3 dq) osq = w2 := ⟨_, rfl⟩
  have hb : Below W3.heap.size W3 W4 := by rw [← hW]; exact below_regrown W3 dq osq
  subst hw''
  rw [show Sort.grow (redrawn W3 (⟨dq, osq⟩ : Regrown).d) (⟨dq, osq⟩ : Regrown).os = W4 from hW]
  have H4 := Lib.hid (H3.out.of_below hb)
  clear hW hb
  clear k1 k2 cA
  go_upto_region 21 with fail
  go_wp2_with fail
  exact bodyPost_ret (v := .tuple #[.slice none 0 0, .bool false]) (by simp [results, Tryz.results66, go_sem]) rfl ⟨none, 0, rfl, Own.nil H4.out.bel 70 5⟩
set_option maxRecDepth 100000 in
set_option maxHeartbeats 4000000 in
theorem fx6 [Inhabited TbBox] (s : List UInt8) (x y z : List UInt8) (sl : Option Addr) (n c : Nat) (w : World) (hr : Rc w 1 sl n c ((x :: y :: z :: []).map vS)) (E : Env w) (hn : n ≤ 100000)
    (h1 : ¬ s = noneL) (h2 : ¬ s = autoL) (h3 : ¬ s = inheritL) (h4 : ¬ s = initialL) (hlx : x.length ≤ 100000) (hly : y.length ≤ 100000) (hlz : z.length ≤ 100000) (hpfgLx : partM fgL x = true) (hpfsLy : partM fsL y = true) (hpfbLz : partM fbL z = true) :
    Calls Tryz.prog 66 #[.string (S s), .slice sl n c] w (DecsPost (eachM flexN [x, y, z]) w) := by
  have e1 := l_beq h1
  have e2 := l_beq h2
  have e3 := l_beq h3
  have e4 := l_beq h4
  have HE := Lib.hid E
  have H0 := Lib.hid (((St.start w (Below.refl _ w)).new #[vS fgL, vS fsL, vS fbL] 9).new #[vS [], vS oneL, vS zpxL] 9)
  rw [show (w.alloc (.cells #[vS fgL, vS fsL, vS fbL] 9)).heap.size = w.heap.size + 1 from by simp] at H0
  obtain ⟨ga0, oa0, rfl, hcx0⟩ := rc_head hr
  obtain ⟨sl1, n1, c1, hn1, hcut1, hr1⟩ := rc_tail hr
  obtain ⟨ga1, oa1, rfl, hcx1⟩ := rc_head hr1
  obtain ⟨sl2, n2, c2, hn2, hcut2, hr2⟩ := rc_tail hr1
  obtain ⟨ga2, oa2, rfl, hcx2⟩ := rc_head hr2
  obtain ⟨sl3, n3, c3, hn3, hcut3, hr3⟩ := rc_tail hr2
  have hz : n3 = 0 := by have := hr3.rd.len; simp at this; omega
  subst hz
  have q0 : (0 : Int) < (n : Int) := by omega
  have qb0 : ((n : Int) == 0) = false := by rw [beq_eq_false_iff_ne]; omega
  have qn0 : 0 < n := by omega
  have q1 : (0 : Int) < (n1 : Int) := by omega
  have qb1 : ((n1 : Int) == 0) = false := by rw [beq_eq_false_iff_ne]; omega
  have qn1 : 0 < n1 := by omega
  have q2 : (0 : Int) < (n2 : Int) := by omega
  have qb2 : ((n2 : Int) == 0) = false := by rw [beq_eq_false_iff_ne]; omega
  have qn2 : 0 < n2 := by omega
  have HC0 := Lib.hid hcx0
  have HC1 := Lib.hid hcx1
  have HC2 := Lib.hid hcx2
  clear hcx0 hcx1 hcx2
  clear hr E h1 h2 h3 h4 hr1 hr2 hr3 hn1 hn2 hn3
  go_enter Tryz.func66, Tryz.ntmps66
  go_upto_region 11 with fail
  obtain ⟨W0, hW0⟩ : ∃ W, (w.alloc (.cells #[vS fgL, vS fsL, vS fbL] 9)).alloc (.cells #[vS [], vS oneL, vS zpxL] 9) = W := ⟨_, rfl⟩
  rw [hW0] at H0
  rw [hW0]
  clear hW0
  have k1 := fun d os => cell_regrown (d := d) (os := os) ((H0.out.swap.cell 0).trans (show _ = some (vS fgL) from rfl))
  have k2 := fun d os => cell_regrown (d := d) (os := os) ((H0.out.bel.cell (World.block_lt_of_cell? _ _ HC0.out)).trans HC0.out)
  have cA := Lib.hid (fun d os => Calls.regrown_of (w := W0) (d := d) (os := os) (part_any fgL x (by decide) hlx _ ((HE.out.below H0.out.bel).below (below_regrown W0 d os))))
  rw [hpfgLx] at cA
  refine wp_region_quiet_below (by kernel_rfl) (by kernel_rfl) ?_
  repeat (go_big_quiet_step (first | with_reducible exact cA.out _ _))
  refine wpQuiet_nil ?_
  intro _ hw'
  obtain ⟨⟨dq, osq⟩, hw''⟩ := hw'
  obtain ⟨W1, hW⟩ : ∃ w2, Sort.grow (redrawn W0 dq) osq = w2 := ⟨_, rfl⟩
  have hb : Below W0.heap.size W0 W1 := by rw [← hW]; exact below_regrown W0 dq osq
  subst hw''
  rw [show Sort.grow (redrawn W0 (⟨dq, osq⟩ : Regrown).d) (⟨dq, osq⟩ : Regrown).os = W1 from hW]
  have H1 := Lib.hid (H0.out.of_below hb)
  clear hW hb
  clear k1 k2 cA
  have d0 := H1.out.cell 0
  have d1 := H1.out.cell 1
  have d2 := H1.out.cell 2
  have f0 := H1.out.free 0
  have cx := (H1.out.bel.cell (World.block_lt_of_cell? _ _ HC0.out)).trans HC0.out
  simp at d0 d1 d2
  go_upto_region 15 with fail
  have H2 := Lib.hid (H1.out.set 0 (vS x))
  simp only [List.setIfInBounds_toArray, List.set_cons_zero, List.set_cons_succ] at H2
  obtain ⟨W2, hW⟩ : ∃ w2, W1.setCell ⟨w.heap.size + 1, 0, none⟩ (vS x) = w2 := ⟨_, rfl⟩
  rw [hW] at H2
  rw [hW]
  clear hW d0 d1 d2 f0 cx
  have k1 := fun d os => cell_regrown (d := d) (os := os) ((H2.out.swap.cell 1).trans (show _ = some (vS fsL) from rfl))
  have k2 := fun d os => cell_regrown (d := d) (os := os) ((H2.out.bel.cell (World.block_lt_of_cell? _ _ HC1.out)).trans HC1.out)
  have cA := Lib.hid (fun d os => Calls.regrown_of (w := W2) (d := d) (os := os) (part_any fsL y (by decide) hly _ ((HE.out.below H2.out.bel).below (below_regrown W2 d os))))
  rw [hpfsLy] at cA
  refine wp_region_quiet_below (by kernel_rfl) (by kernel_rfl) ?_
  repeat (go_big_quiet_step (first | with_reducible exact cA.out _ _))
  refine wpQuiet_nil ?_
  intro _ hw'
  obtain ⟨⟨dq, osq⟩, hw''⟩ := hw'
  obtain ⟨W3, hW⟩ : ∃ w2, Sort.grow (redrawn W2 dq) osq = w2 := ⟨_, rfl⟩
  have hb : Below W2.heap.size W2 W3 := by rw [← hW]; exact below_regrown W2 dq osq
  subst hw''
  rw [show Sort.grow (redrawn W2 (⟨dq, osq⟩ : Regrown).d) (⟨dq, osq⟩ : Regrown).os = W3 from hW]
  have H3 := Lib.hid (H2.out.of_below hb)
  clear hW hb
  clear k1 k2 cA
  have d0 := H3.out.cell 0
  have d1 := H3.out.cell 1
  have d2 := H3.out.cell 2
  have f1 := H3.out.free 1
  have cx := (H3.out.bel.cell (World.block_lt_of_cell? _ _ HC1.out)).trans HC1.out
  simp at d0 d1 d2
  go_upto_region 18 with fail
  have H4 := Lib.hid (H3.out.set 1 (vS y))
  simp only [List.setIfInBounds_toArray, List.set_cons_zero, List.set_cons_succ] at H4
  obtain ⟨W4, hW⟩ : ∃ w2, W3.setCell ⟨w.heap.size + 1, 1, none⟩ (vS y) = w2 := ⟨_, rfl⟩
  rw [hW] at H4
  rw [hW]
  clear hW d0 d1 d2 f1 cx
  have k1 := fun d os => cell_regrown (d := d) (os := os) ((H4.out.swap.cell 2).trans (show _ = some (vS fbL) from rfl))
  have k2 := fun d os => cell_regrown (d := d) (os := os) ((H4.out.bel.cell (World.block_lt_of_cell? _ _ HC2.out)).trans HC2.out)
  have cA := Lib.hid (fun d os => Calls.regrown_of (w := W4) (d := d) (os := os) (part_any fbL z (by decide) hlz _ ((HE.out.below H4.out.bel).below (below_regrown W4 d os))))
  rw [hpfbLz] at cA
  refine wp_region_quiet_below (by kernel_rfl) (by kernel_rfl) ?_
  repeat (go_big_quiet_step (first | with_reducible exact cA.out _ _))
  refine wpQuiet_nil ?_
  intro _ hw'
  obtain ⟨⟨dq, osq⟩, hw''⟩ := hw'
  obtain ⟨W5, hW⟩ : ∃ w2, Sort.grow (redrawn W4 dq) osq = w2 := ⟨_, rfl⟩
  have hb : Below W4.heap.size W4 W5 := by rw [← hW]; exact below_regrown W4 dq osq
  subst hw''
  rw [show Sort.grow (redrawn W4 (⟨dq, osq⟩ : Regrown).d) (⟨dq, osq⟩ : Regrown).os = W5 from hW]
  have H5 := Lib.hid (H4.out.of_below hb)
  clear hW hb
  clear k1 k2 cA
  have d0 := H5.out.cell 0
  have d1 := H5.out.cell 1
  have d2 := H5.out.cell 2
  have f2 := H5.out.free 2
  have cx := (H5.out.bel.cell (World.block_lt_of_cell? _ _ HC2.out)).trans HC2.out
  simp at d0 d1 d2
  go_upto_region 21 with fail
  have H6 := Lib.hid (H5.out.set 2 (vS z))
  simp only [List.setIfInBounds_toArray, List.set_cons_zero, List.set_cons_succ] at H6
  obtain ⟨W6, hW⟩ : ∃ w2, W5.setCell ⟨w.heap.size + 1, 2, none⟩ (vS z) = w2 := ⟨_, rfl⟩
  rw [hW] at H6
  rw [hW]
  clear hW d0 d1 d2 f2 cx
  have HF := Lib.hid (each3 x y z hlx hly hlz w W6 w.heap.size (w.heap.size + 1) H6.out.swap.blk.1 H6.out.blk.1 H6.out.bel (HE.out.below H6.out.bel))
  obtain ⟨⟨fd, fb⟩, hR⟩ : ∃ R, eachM flexN [x, y, z] = R := ⟨_, rfl⟩
  rw [hR] at HF
  have HRR := Lib.hid hR
  clear hR
  go_wp2_with (go_at_call 68; refine HF.out.mono ?_; rintro e w1 ⟨s1, c1, rfl, ho⟩)
  refine bodyPost_ret (v := .tuple #[.slice s1 fd.length c1, .bool fb]) (by simp [results, Tryz.results66, go_sem]) rfl ?_
  rw [HRR.out]
  exact ⟨s1, c1, rfl, ho⟩
set_option maxRecDepth 100000 in
set_option maxHeartbeats 4000000 in
theorem fx6t [Inhabited TbBox] (s : List UInt8) (x y z : List UInt8) (t : List (List UInt8)) (ht : t ≠ []) (sl : Option Addr) (n c : Nat) (w : World) (hr : Rc w 1 sl n c ((x :: y :: z :: t).map vS)) (E : Env w) (hn : n ≤ 100000)
    (h1 : ¬ s = noneL) (h2 : ¬ s = autoL) (h3 : ¬ s = inheritL) (h4 : ¬ s = initialL) (hlx : x.length ≤ 100000) (hly : y.length ≤ 100000) (hlz : z.length ≤ 100000) (hpfgLx : partM fgL x = true) (hpfsLy : partM fsL y = true) (hpfbLz : partM fbL z = true) :
    Calls Tryz.prog 66 #[.string (S s), .slice sl n c] w (DecsPost ((([], false) : List De × Bool)) w) := by
  have e1 := l_beq h1
  have e2 := l_beq h2
  have e3 := l_beq h3
  have e4 := l_beq h4
  have HE := Lib.hid E
  have H0 := Lib.hid (((St.start w (Below.refl _ w)).new #[vS fgL, vS fsL, vS fbL] 9).new #[vS [], vS oneL, vS zpxL] 9)
  rw [show (w.alloc (.cells #[vS fgL, vS fsL, vS fbL] 9)).heap.size = w.heap.size + 1 from by simp] at H0
  obtain ⟨ga0, oa0, rfl, hcx0⟩ := rc_head hr
  obtain ⟨sl1, n1, c1, hn1, hcut1, hr1⟩ := rc_tail hr
  obtain ⟨ga1, oa1, rfl, hcx1⟩ := rc_head hr1
  obtain ⟨sl2, n2, c2, hn2, hcut2, hr2⟩ := rc_tail hr1
  obtain ⟨ga2, oa2, rfl, hcx2⟩ := rc_head hr2
  obtain ⟨sl3, n3, c3, hn3, hcut3, hr3⟩ := rc_tail hr2
  have hz : 0 < n3 := by
    have h1 := hr3.rd.len
    have h2 := List.length_pos_iff.2 ht
    simp at h1; omega
  have q0 : (0 : Int) < (n : Int) := by omega
  have qb0 : ((n : Int) == 0) = false := by rw [beq_eq_false_iff_ne]; omega
  have qn0 : 0 < n := by omega
  have q1 : (0 : Int) < (n1 : Int) := by omega
  have qb1 : ((n1 : Int) == 0) = false := by rw [beq_eq_false_iff_ne]; omega
  have qn1 : 0 < n1 := by omega
  have q2 : (0 : Int) < (n2 : Int) := by omega
  have qb2 : ((n2 : Int) == 0) = false := by rw [beq_eq_false_iff_ne]; omega
  have qn2 : 0 < n2 := by omega
  have q3 : (0 : Int) < (n3 : Int) := by omega
  have qb3 : ((n3 : Int) == 0) = false := by rw [beq_eq_false_iff_ne]; omega
  have HC0 := Lib.hid hcx0
  have HC1 := Lib.hid hcx1
  have HC2 := Lib.hid hcx2
  clear hcx0 hcx1 hcx2
  clear hr E h1 h2 h3 h4 hr1 hr2 hr3 hn1 hn2 hn3
  go_enter Tryz.func66, Tryz.ntmps66
  go_upto_region 11 with fail
  obtain ⟨W0, hW0⟩ : ∃ W, (w.alloc (.cells #[vS fgL, vS fsL, vS fbL] 9)).alloc (.cells #[vS [], vS oneL, vS zpxL] 9) = W := ⟨_, rfl⟩
  rw [hW0] at H0
  rw [hW0]
  clear hW0
  have k1 := fun d os => cell_regrown (d := d) (os := os) ((H0.out.swap.cell 0).trans (show _ = some (vS fgL) from rfl))
  have k2 := fun d os => cell_regrown (d := d) (os := os) ((H0.out.bel.cell (World.block_lt_of_cell? _ _ HC0.out)).trans HC0.out)
  have cA := Lib.hid (fun d os => Calls.regrown_of (w := W0) (d := d) (os := os) (part_any fgL x (by decide) hlx _ ((HE.out.below H0.out.bel).below (below_regrown W0 d os))))
  rw [hpfgLx] at cA
  refine wp_region_quiet_below (by kernel_rfl) (by kernel_rfl) ?_
  repeat (go_big_quiet_step (first | with_reducible exact cA.out _ _))
  refine wpQuiet_nil ?_
  intro _ hw'
  obtain ⟨⟨dq, osq⟩, hw''⟩ := hw'
  obtain ⟨W1, hW⟩ : ∃ w2, Sort.grow (redrawn W0 dq) osq = w2 := ⟨_, rfl⟩
  have hb : Below W0.heap.size W0 W1 := by rw [← hW]; exact below_regrown W0 dq osq
  subst hw''
  rw [show Sort.grow (redrawn W0 (⟨dq, osq⟩ : Regrown).d) (⟨dq, osq⟩ : Regrown).os = W1 from hW]
  have H1 := Lib.hid (H0.out.of_below hb)
  clear hW hb
  clear k1 k2 cA
  have d0 := H1.out.cell 0
  have d1 := H1.out.cell 1
  have d2 := H1.out.cell 2
  have f0 := H1.out.free 0
  have cx := (H1.out.bel.cell (World.block_lt_of_cell? _ _ HC0.out)).trans HC0.out
  simp at d0 d1 d2
  go_upto_region 15 with fail
  have H2 := Lib.hid (H1.out.set 0 (vS x))
  simp only [List.setIfInBounds_toArray, List.set_cons_zero, List.set_cons_succ] at H2
  obtain ⟨W2, hW⟩ : ∃ w2, W1.setCell ⟨w.heap.size + 1, 0, none⟩ (vS x) = w2 := ⟨_, rfl⟩
  rw [hW] at H2
  rw [hW]
  clear hW d0 d1 d2 f0 cx
  have k1 := fun d os => cell_regrown (d := d) (os := os) ((H2.out.swap.cell 1).trans (show _ = some (vS fsL) from rfl))
  have k2 := fun d os => cell_regrown (d := d) (os := os) ((H2.out.bel.cell (World.block_lt_of_cell? _ _ HC1.out)).trans HC1.out)
  have cA := Lib.hid (fun d os => Calls.regrown_of (w := W2) (d := d) (os := os) (part_any fsL y (by decide) hly _ ((HE.out.below H2.out.bel).below (below_regrown W2 d os))))
  rw [hpfsLy] at cA
  refine wp_region_quiet_below (by kernel_rfl) (by kernel_rfl) ?_
  repeat (go_big_quiet_step (first | with_reducible exact cA.out _ _))
  refine wpQuiet_nil ?_
  intro _ hw'
  obtain ⟨⟨dq, osq⟩, hw''⟩ := hw'
  obtain ⟨W3, hW⟩ : ∃ w2, Sort.grow (redrawn W2 dq) osq = w2 := ⟨_, rfl⟩
  have hb : Below W2.heap.size W2 W3 := by rw [← hW]; exact below_regrown W2 dq osq
  subst hw''
  rw [show Sort.grow (redrawn W2 (⟨dq, osq⟩ : Regrown).d) (⟨dq, osq⟩ : Regrown).os = W3 from hW]
  have H3 := Lib.hid (H2.out.of_below hb)
  clear hW hb
  clear k1 k2 cA
  have d0 := H3.out.cell 0
  have d1 := H3.out.cell 1
  have d2 := H3.out.cell 2
  have f1 := H3.out.free 1
  have cx := (H3.out.bel.cell (World.block_lt_of_cell? _ _ HC1.out)).trans HC1.out
  simp at d0 d1 d2
  go_upto_region 18 with fail
  have H4 := Lib.hid (H3.out.set 1 (vS y))
  simp only [List.setIfInBounds_toArray, List.set_cons_zero, List.set_cons_succ] at H4
  obtain ⟨W4, hW⟩ : ∃ w2, W3.setCell ⟨w.heap.size + 1, 1, none⟩ (vS y) = w2 := ⟨_, rfl⟩
  rw [hW] at H4
  rw [hW]
  clear hW d0 d1 d2 f1 cx
  have k1 := fun d os => cell_regrown (d := d) (os := os) ((H4.out.swap.cell 2).trans (show _ = some (vS fbL) from rfl))
  have k2 := fun d os => cell_regrown (d := d) (os := os) ((H4.out.bel.cell (World.block_lt_of_cell? _ _ HC2.out)).trans HC2.out)
  have cA := Lib.hid (fun d os => Calls.regrown_of (w := W4) (d := d) (os := os) (part_any fbL z (by decide) hlz _ ((HE.out.below H4.out.bel).below (below_regrown W4 d os))))
  rw [hpfbLz] at cA
  refine wp_region_quiet_below (by kernel_rfl) (by kernel_rfl) ?_
  repeat (go_big_quiet_step (first | with_reducible exact cA.out _ _))
  refine wpQuiet_nil ?_
  intro _ hw'
  obtain ⟨⟨dq, osq⟩, hw''⟩ := hw'
  obtain ⟨W5, hW⟩ : ∃ w2, Sort.grow (redrawn W4 dq) osq = w2 := ⟨_, rfl⟩
  have hb : Below W4.heap.size W4 W5 := by rw [← hW]; exact below_regrown W4 dq osq
  subst hw''
  rw [show Sort.grow (redrawn W4 (⟨dq, osq⟩ : Regrown).d) (⟨dq, osq⟩ : Regrown).os = W5 from hW]
  have H5 := Lib.hid (H4.out.of_below hb)
  clear hW hb
  clear k1 k2 cA
  have d0 := H5.out.cell 0
  have d1 := H5.out.cell 1
  have d2 := H5.out.cell 2
  have f2 := H5.out.free 2
  have cx := (H5.out.bel.cell (World.block_lt_of_cell? _ _ HC2.out)).trans HC2.out
  simp at d0 d1 d2
  go_upto_region 21 with fail
  have H6 := Lib.hid (H5.out.set 2 (vS z))
  simp only [List.setIfInBounds_toArray, List.set_cons_zero, List.set_cons_succ] at H6
  obtain ⟨W6, hW⟩ : ∃ w2, W5.setCell ⟨w.heap.size + 1, 2, none⟩ (vS z) = w2 := ⟨_, rfl⟩
  rw [hW] at H6
  rw [hW]
  clear hW d0 d1 d2 f2 cx
  go_wp2_with fail
  exact bodyPost_ret (v := .tuple #[.slice none 0 0, .bool false]) (by simp [results, Tryz.results66, go_sem]) rfl ⟨none, 0, rfl, Own.nil H6.out.bel 70 5⟩
set_option maxRecDepth 100000 in
set_option maxHeartbeats 4000000 in
theorem fx7 [Inhabited TbBox] (s : List UInt8) (x y z : List UInt8) (sl : Option Addr) (n c : Nat) (w : World) (hr : Rc w 1 sl n c ((x :: y :: z :: []).map vS)) (E : Env w) (hn : n ≤ 100000)
    (h1 : ¬ s = noneL) (h2 : ¬ s = autoL) (h3 : ¬ s = inheritL) (h4 : ¬ s = initialL) (hlx : x.length ≤ 100000) (hly : y.length ≤ 100000) (hlz : z.length ≤ 100000) (hpfgLx : partM fgL x = true) (hpfsLy : partM fsL y = true) (hpfbLz : partM fbL z = false) :
    Calls Tryz.prog 66 #[.string (S s), .slice sl n c] w (DecsPost ((([], false) : List De × Bool)) w) := by
  have e1 := l_beq h1
  have e2 := l_beq h2
  have e3 := l_beq h3
  have e4 := l_beq h4
  have HE := Lib.hid E
  have H0 := Lib.hid (((St.start w (Below.refl _ w)).new #[vS fgL, vS fsL, vS fbL] 9).new #[vS [], vS oneL, vS zpxL] 9)
  rw [show (w.alloc (.cells #[vS fgL, vS fsL, vS fbL] 9)).heap.size = w.heap.size + 1 from by simp] at H0
  obtain ⟨ga0, oa0, rfl, hcx0⟩ := rc_head hr
  obtain ⟨sl1, n1, c1, hn1, hcut1, hr1⟩ := rc_tail hr
  obtain ⟨ga1, oa1, rfl, hcx1⟩ := rc_head hr1
  obtain ⟨sl2, n2, c2, hn2, hcut2, hr2⟩ := rc_tail hr1
  obtain ⟨ga2, oa2, rfl, hcx2⟩ := rc_head hr2
  obtain ⟨sl3, n3, c3, hn3, hcut3, hr3⟩ := rc_tail hr2
  have hz : n3 = 0 := by have := hr3.rd.len; simp at this; omega
  subst hz
  have q0 : (0 : Int) < (n : Int) := by omega
  have qb0 : ((n : Int) == 0) = false := by rw [beq_eq_false_iff_ne]; omega
  have qn0 : 0 < n := by omega
  have q1 : (0 : Int) < (n1 : Int) := by omega
  have qb1 : ((n1 : Int) == 0) = false := by rw [beq_eq_false_iff_ne]; omega
  have qn1 : 0 < n1 := by omega
  have q2 : (0 : Int) < (n2 : Int) := by omega
  have qb2 : ((n2 : Int) == 0) = false := by rw [beq_eq_false_iff_ne]; omega
  have qn2 : 0 < n2 := by omega
  have HC0 := Lib.hid hcx0
  have HC1 := Lib.hid hcx1
  have HC2 := Lib.hid hcx2
  clear hcx0 hcx1 hcx2
  clear hr E h1 h2 h3 h4 hr1 hr2 hr3 hn1 hn2 hn3
  go_enter Tryz.func66, Tryz.ntmps66
  go_upto_region 11 with fail
  obtain ⟨W0, hW0⟩ : ∃ W, (w.alloc (.cells #[vS fgL, vS fsL, vS fbL] 9)).alloc (.cells #[vS [], vS oneL, vS zpxL] 9) = W := ⟨_, rfl⟩
  rw [hW0] at H0
  rw [hW0]
  clear hW0
  have k1 := fun d os => cell_regrown (d := d) (os := os) ((H0.out.swap.cell 0).trans (show _ = some (vS fgL) from rfl))
  have k2 := fun d os => cell_regrown (d := d) (os := os) ((H0.out.bel.cell (World.block_lt_of_cell? _ _ HC0.out)).trans HC0.out)
  have cA := Lib.hid (fun d os => Calls.regrown_of (w := W0) (d := d) (os := os) (part_any fgL x (by decide) hlx _ ((HE.out.below H0.out.bel).below (below_regrown W0 d os))))
  rw [hpfgLx] at cA
  refine wp_region_quiet_below (by kernel_rfl) (by kernel_rfl) ?_
  repeat (go_big_quiet_step (first | with_reducible exact cA.out _ _))
  refine wpQuiet_nil ?_
  intro _ hw'
  obtain ⟨⟨dq, osq⟩, hw''⟩ := hw'
  obtain ⟨W1, hW⟩ : ∃ w2, Sort.grow (redrawn W0 dq) osq = w2 := ⟨_, rfl⟩
  have hb : Below W0.heap.size W0 W1 := by rw [← hW]; exact below_regrown W0 dq osq
  subst hw''
  rw [show Sort.grow (redrawn W0 (⟨dq, osq⟩ : Regrown).d) (⟨dq, osq⟩ : Regrown).os = W1 from hW]
  have H1 := Lib.hid (H0.out.of_below hb)
  clear hW hb
  clear k1 k2 cA
  have d0 := H1.out.cell 0
  have d1 := H1.out.cell 1
  have d2 := H1.out.cell 2
  have f0 := H1.out.free 0
  have cx := (H1.out.bel.cell (World.block_lt_of_cell? _ _ HC0.out)).trans HC0.out
  simp at d0 d1 d2
  go_upto_region 15 with fail
  have H2 := Lib.hid (H1.out.set 0 (vS x))
  simp only [List.setIfInBounds_toArray, List.set_cons_zero, List.set_cons_succ] at H2
  obtain ⟨W2, hW⟩ : ∃ w2, W1.setCell ⟨w.heap.size + 1, 0, none⟩ (vS x) = w2 := ⟨_, rfl⟩
  rw [hW] at H2
  rw [hW]
  clear hW d0 d1 d2 f0 cx
  have k1 := fun d os => cell_regrown (d := d) (os := os) ((H2.out.swap.cell 1).trans (show _ = some (vS fsL) from rfl))
  have k2 := fun d os => cell_regrown (d := d) (os := os) ((H2.out.bel.cell (World.block_lt_of_cell? _ _ HC1.out)).trans HC1.out)
  have cA := Lib.hid (fun d os => Calls.regrown_of (w := W2) (d := d) (os := os) (part_any fsL y (by decide) hly _ ((HE.out.below H2.out.bel).below (below_regrown W2 d os))))
  rw [hpfsLy] at cA
  refine wp_region_quiet_below (by kernel_rfl) (by kernel_rfl) ?_
  repeat (go_big_quiet_step (first | with_reducible exact cA.out _ _))
  refine wpQuiet_nil ?_
  intro _ hw'
  obtain ⟨⟨dq, osq⟩, hw''⟩ := hw'
  obtain ⟨W3, hW⟩ : ∃ w2, Sort.grow (redrawn W2 dq) osq = w2 := ⟨_, rfl⟩
  have hb : Below W2.heap.size W2 W3 := by rw [← hW]; exact below_regrown W2 dq osq
  subst hw''
  rw [show Sort.grow (redrawn W2 (⟨dq, osq⟩ : Regrown).d) (⟨dq, osq⟩ : Regrown).os = W3 from hW]
  have H3 := Lib.hid (H2.out.of_below hb)
  clear hW hb
  clear k1 k2 cA
  have d0 := H3.out.cell 0
  have d1 := H3.out.cell 1
  have d2 := H3.out.cell 2
  have f1 := H3.out.free 1
  have cx := (H3.out.bel.cell (World.block_lt_of_cell? _ _ HC1.out)).trans HC1.out
  simp at d0 d1 d2
  go_upto_region 18 with fail
  have H4 := Lib.hid (H3.out.set 1 (vS y))
  simp only [List.setIfInBounds_toArray, List.set_cons_zero, List.set_cons_succ] at H4
  obtain ⟨W4, hW⟩ : ∃ w2, W3.setCell ⟨w.heap.size + 1, 1, none⟩ (vS y) = w2 := ⟨_, rfl⟩
  rw [hW] at H4
  rw [hW]
  clear hW d0 d1 d2 f1 cx
  have k1 := fun d os => cell_regrown (d := d) (os := os) ((H4.out.swap.cell 2).trans (show _ = some (vS fbL) from rfl))
  have k2 := fun d os => cell_regrown (d := d) (os := os) ((H4.out.bel.cell (World.block_lt_of_cell? _ _ HC2.out)).trans HC2.out)
  have cA := Lib.hid (fun d os => Calls.regrown_of (w := W4) (d := d) (os := os) (part_any fbL z (by decide) hlz _ ((HE.out.below H4.out.bel).below (below_regrown W4 d os))))
  rw [hpfbLz] at cA
  refine wp_region_quiet_below (by kernel_rfl) (by kernel_rfl) ?_
  repeat (go_big_quiet_step (first | with_reducible exact cA.out _ _))
  refine wpQuiet_nil ?_
  intro _ hw'
  obtain ⟨⟨dq, osq⟩, hw''⟩ := hw'
  obtain ⟨W5, hW⟩ : ∃ w2, Sort.grow (redrawn W4 dq) osq = w2 := ⟨_, rfl⟩
  have hb : Below W4.heap.size W4 W5 := by rw [← hW]; exact below_regrown W4 dq osq
  subst hw''
  rw [show Sort.grow (redrawn W4 (⟨dq, osq⟩ : Regrown).d) (⟨dq, osq⟩ : Regrown).os = W5 from hW]
  have H5 := Lib.hid (H4.out.of_below hb)
  clear hW hb
  clear k1 k2 cA
  go_upto_region 21 with fail
  go_wp2_with fail
  exact bodyPost_ret (v := .tuple #[.slice none 0 0, .bool false]) (by simp [results, Tryz.results66, go_sem]) rfl ⟨none, 0, rfl, Own.nil H5.out.bel 70 5⟩
set_option maxRecDepth 100000 in
set_option maxHeartbeats 4000000 in
theorem fx7t [Inhabited TbBox] (s : List UInt8) (x y z : List UInt8) (t : List (List UInt8)) (ht : t ≠ []) (sl : Option Addr) (n c : Nat) (w : World) (hr : Rc w 1 sl n c ((x :: y :: z :: t).map vS)) (E : Env w) (hn : n ≤ 100000)
    (h1 : ¬ s = noneL) (h2 : ¬ s = autoL) (h3 : ¬ s = inheritL) (h4 : ¬ s = initialL) (hlx : x.length ≤ 100000) (hly : y.length ≤ 100000) (hlz : z.length ≤ 100000) (hpfgLx : partM fgL x = true) (hpfsLy : partM fsL y = true) (hpfbLz : partM fbL z = false) :
    Calls Tryz.prog 66 #[.string (S s), .slice sl n c] w (DecsPost ((([], false) : List De × Bool)) w) := by
  have e1 := l_beq h1
  have e2 := l_beq h2
  have e3 := l_beq h3
  have e4 := l_beq h4
  have HE := Lib.hid E
  have H0 := Lib.hid (((St.start w (Below.refl _ w)).new #[vS fgL, vS fsL, vS fbL] 9).new #[vS [], vS oneL, vS zpxL] 9)
  rw [show (w.alloc (.cells #[vS fgL, vS fsL, vS fbL] 9)).heap.size = w.heap.size + 1 from by simp] at H0
  obtain ⟨ga0, oa0, rfl, hcx0⟩ := rc_head hr
  obtain ⟨sl1, n1, c1, hn1, hcut1, hr1⟩ := rc_tail hr
  obtain ⟨ga1, oa1, rfl, hcx1⟩ := rc_head hr1
  obtain ⟨sl2, n2, c2, hn2, hcut2, hr2⟩ := rc_tail hr1
  obtain ⟨ga2, oa2, rfl, hcx2⟩ := rc_head hr2
  obtain ⟨sl3, n3, c3, hn3, hcut3, hr3⟩ := rc_tail hr2
  have hz : 0 < n3 := by
    have h1 := hr3.rd.len
    have h2 := List.length_pos_iff.2 ht
    simp at h1; omega
  have q0 : (0 : Int) < (n : Int) := by omega
  have qb0 : ((n : Int) == 0) = false := by rw [beq_eq_false_iff_ne]; omega
  have qn0 : 0 < n := by omega
  have q1 : (0 : Int) < (n1 : Int) := by omega
  have qb1 : ((n1 : Int) == 0) = false := by rw [beq_eq_false_iff_ne]; omega
  have qn1 : 0 < n1 := by omega
  have q2 : (0 : Int) < (n2 : Int) := by omega
  have qb2 : ((n2 : Int) == 0) = false := by rw [beq_eq_false_iff_ne]; omega
  have qn2 : 0 < n2 := by omega
  have q3 : (0 : Int) < (n3 : Int) := by omega
  have qb3 : ((n3 : Int) == 0) = false := by rw [beq_eq_false_iff_ne]; omega
  have HC0 := Lib.hid hcx0
  have HC1 := Lib.hid hcx1
  have HC2 := Lib.hid hcx2
  clear hcx0 hcx1 hcx2
  clear hr E h1 h2 h3 h4 hr1 hr2 hr3 hn1 hn2 hn3
  go_enter Tryz.func66, Tryz.ntmps66
  go_upto_region 11 with fail
  obtain ⟨W0, hW0⟩ : ∃ W, (w.alloc (.cells #[vS fgL, vS fsL, vS fbL] 9)).alloc (.cells #[vS [], vS oneL, vS zpxL] 9) = W := ⟨_, rfl⟩
  rw [hW0] at H0
  rw [hW0]
  clear hW0
  have k1 := fun d os => cell_regrown (d := d) (os := os) ((H0.out.swap.cell 0).trans (show _ = some (vS fgL) from rfl))
  have k2 := fun d os => cell_regrown (d := d) (os := os) ((H0.out.bel.cell (World.block_lt_of_cell? _ _ HC0.out)).trans HC0.out)
  have cA := Lib.hid (fun d os => Calls.regrown_of (w := W0) (d := d) (os := os) (part_any fgL x (by decide) hlx _ ((HE.out.below H0.out.bel).below (below_regrown W0 d os))))
  rw [hpfgLx] at cA
  refine wp_region_quiet_below (by kernel_rfl) (by kernel_rfl) ?_
  repeat (go_big_quiet_step (first | with_reducible exact cA.out _ _))
  refine wpQuiet_nil ?_
  intro _ hw'
  obtain ⟨⟨dq, osq⟩, hw''⟩ := hw'
  obtain ⟨W1, hW⟩ : ∃ w2, Sort.grow (redrawn W0 dq) osq = w2 := ⟨_, rfl⟩
  have hb : Below W0.heap.size W0 W1 := by rw [← hW]; exact below_regrown W0 dq osq
  subst hw''
  rw [show Sort.grow (redrawn W0 (⟨dq, osq⟩ : Regrown).d) (⟨dq, osq⟩ : Regrown).os = W1 from hW]
  have H1 := Lib.hid (H0.out.of_below hb)
  clear hW hb
  clear k1 k2 cA
  have d0 := H1.out.cell 0
  have d1 := H1.out.cell 1
  have d2 := H1.out.cell 2
  have f0 := H1.out.free 0
  have cx := (H1.out.bel.cell (World.block_lt_of_cell? _ _ HC0.out)).trans HC0.out
  simp at d0 d1 d2
  go_upto_region 15 with fail
  have H2 := Lib.hid (H1.out.set 0 (vS x))
  simp only [List.setIfInBounds_toArray, List.set_cons_zero, List.set_cons_succ] at H2
  obtain ⟨W2, hW⟩ : ∃ w2, W1.setCell ⟨w.heap.size + 1, 0, none⟩ (vS x) = w2 := ⟨_, rfl⟩
  rw [hW] at H2
  rw [hW]
  clear hW d0 d1 d2 f0 cx
  have k1 := fun d os => cell_regrown (d := d) (os := os) ((H2.out.swap.cell 1).trans (show _ = some (vS fsL) from rfl))
  have k2 := fun d os => cell_regrown (d := d) (os := os) ((H2.out.bel.cell (World.block_lt_of_cell? _ _ HC1.out)).trans HC1.out)
  have cA := Lib.hid (fun d os => Calls.regrown_of (w := W2) (d := d) (os := os) (part_any fsL y (by decide) hly _ ((HE.out.below H2.out.bel).below (below_regrown W2 d os))))
  rw [hpfsLy] at cA
  refine wp_region_quiet_below (by kernel_rfl) (by kernel_rfl) ?_
  repeat (go_big_quiet_step (first | with_reducible exact cA.out _ _))
  refine wpQuiet_nil ?_
  intro _ hw'
  obtain ⟨⟨dq, osq⟩, hw''⟩ := hw'
  obtain ⟨W3, hW⟩ : ∃ w2, Sort.grow (redrawn W2 dq) osq = w2 := ⟨_, rfl⟩
  have hb : Below W2.heap.size W2 W3 := by rw [← hW]; exact below_regrown W2 dq osq
  subst hw''
  rw [show Sort.grow (redrawn W2 (⟨dq, osq⟩ : Regrown).d) (⟨dq, osq⟩ : Regrown).os = W3 from hW]
  have H3 := Lib.hid (H2.out.of_below hb)
  clear hW hb
  clear k1 k2 cA
  have d0 := H3.out.cell 0
  have d1 := H3.out.cell 1
  have d2 := H3.out.cell 2
  have f1 := H3.out.free 1
  have cx := (H3.out.bel.cell (World.block_lt_of_cell? _ _ HC1.out)).trans HC1.out
  simp at d0 d1 d2
  go_upto_region 18 with fail
  have H4 := Lib.hid (H3.out.set 1 (vS y))
  simp only [List.setIfInBounds_toArray, List.set_cons_zero, List.set_cons_succ] at H4
  obtain ⟨W4, hW⟩ : ∃ w2, W3.setCell ⟨w.heap.size + 1, 1, none⟩ (vS y) = w2 := ⟨_, rfl⟩
  rw [hW] at H4
  rw [hW]
  clear hW d0 d1 d2 f1 cx
  have k1 := fun d os => cell_regrown (d := d) (os := os) ((H4.out.swap.cell 2).trans (show _ = some (vS fbL) from rfl))
  have k2 := fun d os => cell_regrown (d := d) (os := os) ((H4.out.bel.cell (World.block_lt_of_cell? _ _ HC2.out)).trans HC2.out)
  have cA := Lib.hid (fun d os => Calls.regrown_of (w := W4) (d := d) (os := os) (part_any fbL z (by decide) hlz _ ((HE.out.below H4.out.bel).below (below_regrown W4 d os))))
  rw [hpfbLz] at cA
  refine wp_region_quiet_below (by kernel_rfl) (by kernel_rfl) ?_
  repeat (go_big_quiet_step (first | with_reducible exact cA.out _ _))
  refine wpQuiet_nil ?_
  intro _ hw'
  obtain ⟨⟨dq, osq⟩, hw''⟩ := hw'
  obtain ⟨W5, hW⟩ : ∃ w2, Sort.grow (redrawn W4 dq) osq = w2 := ⟨_, rfl⟩
  have hb : Below W4.heap.size W4 W5 := by rw [← hW]; exact below_regrown W4 dq osq
  subst hw''
  rw [show Sort.grow (redrawn W4 (⟨dq, osq⟩ : Regrown).d) (⟨dq, osq⟩ : Regrown).os = W5 from hW]
  have H5 := Lib.hid (H4.out.of_below hb)
  clear hW hb
  clear k1 k2 cA
  go_upto_region 21 with fail
  go_wp2_with fail
  exact bodyPost_ret (v := .tuple #[.slice none 0 0, .bool false]) (by simp [results, Tryz.results66, go_sem]) rfl ⟨none, 0, rfl, Own.nil H5.out.bel 70 5⟩
theorem flex_any [Inhabited TbBox] (s : List UInt8) (hs : s.length ≤ 100000) (l : List (List UInt8)) (hx : ∀ x ∈ l, x.length ≤ 100000) (sl : Option Addr) (n c : Nat) (w : World) (hr : Rc w 1 sl n c (l.map vS)) (hn : n ≤ 100000) (E : Env w) :
    Calls Tryz.prog 66 #[.string (S s), .slice sl n c] w (DecsPost (flexM s l) w) := by
  have hnl : l.length = n := by have := hr.rd.len; simpa using this
  unfold flexM
  by_cases h1 : s = noneL
  · rw [if_pos h1]; subst hnl; exact flex_none s hs l hn hx sl c w hr E h1
  rw [if_neg h1]
  by_cases h2 : s = autoL
  · rw [if_pos h2]; subst hnl; exact flex_auto s hs l hn hx sl c w hr E h2
  rw [if_neg h2]
  by_cases h3 : s = inheritL
  · rw [if_pos (Or.inl h3)]; subst hnl; have := flex_inherit s hs l hn hx sl c w hr E h3; rwa [← h3] at this
  by_cases h4 : s = initialL
  · rw [if_pos (Or.inr h4)]; subst hnl; have := flex_initial s hs l hn hx sl c w hr E h4; rwa [← h4] at this
  rw [if_neg (by rintro (h | h); exact h3 h; exact h4 h)]
  clear hnl
  cases l with
  | nil => exact fx0 s [] sl n c w hr E hn h1 h2 h3 h4
  | cons x l =>
    have hX := hx x (by simp)
    cases hp : partM fgL x with
    | false =>
      have q : flexR (x :: l) = (([], false) : List De × Bool) := by simp [flexR, hp]
      rw [q]
      cases l with
      | nil => exact fx1 s x sl n c w hr E hn h1 h2 h3 h4 hX hp
      | cons y l => exact fx1t s x (y :: l) (by simp) sl n c w hr E hn h1 h2 h3 h4 hX hp
    | true =>
      cases l with
      | nil =>
        have q : flexR [x] = eachM flexN [x, oneL, zpxL] := by simp [flexR, hp]
        rw [q]
        exact fx2 s x sl n c w hr E hn h1 h2 h3 h4 hX hp
      | cons y l =>
        have hY := hx y (by simp)
        cases hp2 : partM fsL y with
        | true =>
          cases l with
          | nil =>
            have q : flexR [x, y] = eachM flexN [x, y, zpxL] := by simp [flexR, hp, hp2]
            rw [q]
            exact fx3 s x y sl n c w hr E hn h1 h2 h3 h4 hX hY hp hp2
          | cons z l =>
            have hZ := hx z (by simp)
            cases hp3 : partM fbL z with
            | true =>
              cases l with
              | nil =>
                have q : flexR [x, y, z] = eachM flexN [x, y, z] := by simp [flexR, restM, hp, hp2, hp3]
                rw [q]
                exact fx6 s x y z sl n c w hr E hn h1 h2 h3 h4 hX hY hZ hp hp2 hp3
              | cons u l =>
                have q : flexR (x :: y :: z :: u :: l) = (([], false) : List De × Bool) := by simp [flexR, restM, hp, hp2, hp3]
                rw [q]
                exact fx6t s x y z (u :: l) (by simp) sl n c w hr E hn h1 h2 h3 h4 hX hY hZ hp hp2 hp3
            | false =>
              have q : flexR (x :: y :: z :: l) = (([], false) : List De × Bool) := by simp [flexR, hp, hp2, hp3]
              rw [q]
              cases l with
              | nil => exact fx7 s x y z sl n c w hr E hn h1 h2 h3 h4 hX hY hZ hp hp2 hp3
              | cons u l => exact fx7t s x y z (u :: l) (by simp) sl n c w hr E hn h1 h2 h3 h4 hX hY hZ hp hp2 hp3
        | false =>
          cases hp3 : partM fbL y with
          | true =>
            cases l with
            | nil =>
              have q : flexR [x, y] = eachM flexN [x, oneL, y] := by simp [flexR, restM, hp, hp2, hp3]
              rw [q]
              exact fx4 s x y sl n c w hr E hn h1 h2 h3 h4 hX hY hp hp2 hp3
            | cons u l =>
              have q : flexR (x :: y :: u :: l) = (([], false) : List De × Bool) := by simp [flexR, restM, hp, hp2, hp3]
              rw [q]
              exact fx4t s x y (u :: l) (by simp) sl n c w hr E hn h1 h2 h3 h4 hX hY hp hp2 hp3
          | false =>
            have q : flexR (x :: y :: l) = (([], false) : List De × Bool) := by simp [flexR, hp, hp2, hp3]
            rw [q]
            cases l with
            | nil => exact fx5 s x y sl n c w hr E hn h1 h2 h3 h4 hX hY hp hp2 hp3
            | cons u l => exact fx5t s x y (u :: l) (by simp) sl n c w hr E hn h1 h2 h3 h4 hX hY hp hp2 hp3
end Go.Proofs.YtldembadjgibjaaGreatDoor
