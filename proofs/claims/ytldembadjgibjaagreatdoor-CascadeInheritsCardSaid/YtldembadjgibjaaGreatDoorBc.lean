/-
  Cascade: colors.
-/
import Derived.Test.YtldembadjgibjaaGreatDoorBb
set_option linter.unusedVariables false
set_option linter.unusedSimpArgs false
namespace Go.Proofs.YtldembadjgibjaaGreatDoor
open Go.RowKit Go.K Go.PlainAid Go.Lib Go.Maps Go.WideMaps

def colorL : List UInt8 := [99, 111, 108, 111, 114]
def bcolL : List UInt8 := [98, 111, 114, 100, 101, 114, 45, 99, 111, 108, 111, 114]
def backL : List UInt8 := [98, 97, 99, 107, 103, 114, 111, 117, 110, 100]
abbrev blackL : List UInt8 := [35, 48, 48, 48, 48, 48, 48]
def colM (lk : Lk) (a : List UInt8) : List UInt8 :=
  if (getM lk colorL).2 = 0 ∨ (getM lk colorL).2 = 1 then a else if (getM lk colorL).2 = 3 then (getM lk colorL).1.wd else blackL
def bcM (lk : Lk) (col b : List UInt8) : List UInt8 :=
  if (getM lk bcolL).2 = 1 then b else if (getM lk bcolL).2 = 3 then (getM lk bcolL).1.wd else col
def bgM (lk : Lk) (c x : List UInt8) : List UInt8 :=
  if (getM lk backL).2 = 1 then c else if (getM lk backL).2 = 3 ∧ (getM lk backL).1.kd = 6 then (getM lk backL).1.wd else x
/-- cs' is cs but for the cells D -/
def Up (cs cs' : Array Value) (D : List Nat) : Prop := cs'.size = cs.size ∧ ∀ i, i ∉ D → cs'[i]? = cs[i]?
theorem Up.refl (cs : Array Value) (D : List Nat) : Up cs cs D := ⟨rfl, fun _ _ => rfl⟩
theorem Up.set {cs cs' : Array Value} {D : List Nat} (h : Up cs cs' D) {i : Nat} (hi : i ∈ D) (v : Value) : Up cs (cs'.setIfInBounds i v) D :=
  ⟨by rw [Array.size_setIfInBounds]; exact h.1, fun j hj => by rw [Array.getElem?_setIfInBounds_ne (fun e => hj (by rw [← e]; exact hi))]; exact h.2 j hj⟩
theorem set_at {cs : Array Value} {i : Nat} (h : i < cs.size) (v : Value) : (cs.setIfInBounds i v)[i]? = some v := Array.getElem?_setIfInBounds_self_of_lt h
theorem set_ne {cs : Array Value} {i j : Nat} (h : i ≠ j) (v : Value) : (cs.setIfInBounds i v)[j]? = cs[j]? := Array.getElem?_setIfInBounds_ne h
theorem Up.trans {a b c : Array Value} {D : List Nat} (h : Up a b D) (k : Up b c D) : Up a c D := ⟨k.1.trans h.1, fun i hi => (k.2 i hi).trans (h.2 i hi)⟩
theorem Up.wide {a b : Array Value} {D D' : List Nat} (h : Up a b D) (hd : ∀ i ∈ D, i ∈ D') : Up a b D' := ⟨h.1, fun i hi => h.2 i (fun q => hi (hd i q))⟩
def ColPost (w0 : World) (bo bc bm n : Nat) (sz : Int) (lk : Lk) (L : List As) (cs : Array Value) (b a c x : List UInt8) (e : Ending) (w' : World) : Prop :=
  e = .returned (.tuple #[]) ∧ ∃ cs', Up cs cs' [34, 35, 36] ∧ cs'[34]? = some (vS (bcM lk (colM lk a) b)) ∧ cs'[35]? = some (vS (colM lk a)) ∧ cs'[36]? = some (vS (bgM lk c x)) ∧ St w0 w' (As.cells bo cs' 28 :: As.cells bc #[.map (some bm), .int .i64 sz] 66 :: As.mp 9 sK vV sOk bm n lk :: L)
set_option maxRecDepth 100000 in
set_option maxHeartbeats 8000000 in
theorem colors_st {w0 w : World} {L : List As} {bc bm bo n : Nat} {sz : Int} {lk : Lk} {cs : Array Value} (hcs : cs.size = 53) (a b c x : List UInt8) (hx : cs[36]? = some (vS x)) (h : St w0 w (As.cells bo cs 28 :: As.cells bc #[.map (some bm), .int .i64 sz] 66 :: As.mp 9 sK vV sOk bm n lk :: L))
    (pa : Array Value) (P34 : pa[34]? = some (vS b)) (P35 : pa[35]? = some (vS a)) (P36 : pa[36]? = some (vS c)) :
    Calls Tryz.prog 29 #[.pointer (some ⟨bc, 0, none⟩), .pointer (some ⟨bo, 0, none⟩), .agg pa] w (ColPost w0 bo bc bm n sz lk L cs b a c x) := by
  have hg1 := fun (w : World) (C : Comp w bc bm n sz lk) => get_any C colorL (by decide)
  have hg2 := fun (w : World) (C : Comp w bc bm n sz lk) => get_any C bcolL (by decide)
  have hg3 := fun (w : World) (C : Comp w bc bm n sz lk) => get_any C backL (by decide)
  unfold ColPost
  obtain ⟨col, hcol⟩ : ∃ z, colM lk a = z := ⟨_, rfl⟩
  rw [hcol]
  obtain ⟨bcl, hbcl⟩ : ∃ z, bcM lk col b = z := ⟨_, rfl⟩
  rw [hbcl]
  obtain ⟨bgl, hbgl⟩ : ∃ z, bgM lk c x = z := ⟨_, rfl⟩
  rw [hbgl]
  unfold colM at hcol
  unfold bcM at hbcl
  unfold bgM at hbgl
  obtain ⟨⟨⟨gk, gn, gw⟩, gh⟩, hG⟩ : ∃ g, getM lk colorL = g := ⟨_, rfl⟩
  obtain ⟨⟨⟨hk, hn, hw⟩, hh⟩, hH⟩ : ∃ g, getM lk bcolL = g := ⟨_, rfl⟩
  obtain ⟨⟨⟨ik, iN, iw⟩, ih⟩, hI⟩ : ∃ g, getM lk backL = g := ⟨_, rfl⟩
  simp only [hG] at hg1 hcol
  simp only [hH] at hg2 hbcl
  simp only [hI] at hg3 hbgl
  simp only [Va.cells] at hg1 hg2 hg3
  have HG1 := Lib.hid hg1
  have HG2 := Lib.hid hg2
  have HG3 := Lib.hid hg3
  have HCOL := Lib.hid hcol
  have HBCL := Lib.hid hbcl
  have HBGL := Lib.hid hbgl
  have HP34 := Lib.hid P34
  have HP35 := Lib.hid P35
  have HP36 := Lib.hid P36
  have HX := Lib.hid hx
  have HSZ := Lib.hid hcs
  obtain ⟨y35, hy35⟩ : ∃ x, cs[35]? = some x := ⟨_, Array.getElem?_eq_getElem (by omega)⟩
  have H0 := Lib.hid (h.new pa 28)
  have d35 := H0.out.swap.cell 35
  rw [hy35] at d35
  have f35 := H0.out.swap.free 35
  clear hg1 hg2 hg3 hcol hbcl hbgl P34 P35 P36 hx hcs hy35 hG hH hI h
  go_enter Tryz.func29, Tryz.ntmps29
  go_upto_region 2 with fail
  have H1 := Lib.hid (H0.out.swap.set 35 (vS blackL))
  obtain ⟨bp, hbp⟩ : ∃ z, w.heap.size = z := ⟨_, rfl⟩
  obtain ⟨W1, hW1⟩ : ∃ z, (w.alloc (.cells pa 28)).setCell ⟨bo, 35, none⟩ (vS blackL) = z := ⟨_, rfl⟩
  rw [hbp, hW1] at H1
  rw [show (w.alloc (.cells pa 28)).setCell ⟨bo, 35, none⟩ (.string ⟨#[35, 48, 48, 48, 48, 48, 48]⟩) = W1 from hW1]
  try simp only [hbp]
  clear hbp hW1 H0 d35 f35
  have U1 : Up cs (cs.setIfInBounds 35 (vS blackL)) [34, 35, 36] := (Up.refl cs [34, 35, 36]).set (by decide) _
  have K35 : (cs.setIfInBounds 35 (vS blackL))[35]? = some (vS blackL) := set_at (by rw [HSZ.out]; decide) _
  have K36 : (cs.setIfInBounds 35 (vS blackL))[36]? = some (vS x) := (set_ne (by decide) _).trans HX.out
  obtain ⟨cs1, hcs1⟩ : ∃ z, cs.setIfInBounds 35 (vS blackL) = z := ⟨_, rfl⟩
  rw [hcs1] at H1 U1 K35 K36
  clear hcs1
  have UU1 := Lib.hid U1
  have KK35 := Lib.hid K35
  have KK36 := Lib.hid K36
  clear U1 K35 K36
  have HCA := Lib.hid (Comp.of (bc := bc) (bm := bm) H1.out (.tail _ (.tail _ (.head _))) (.tail _ (.tail _ (.tail _ (.head _)))))
  go_upto_block 0 with (go_at_call 34; refine (HG1.out _ HCA.out).mono ?_; rintro e w2 ⟨rfl, hb2⟩; have H2 := Lib.hid ((H1.out.of_below hb2).new #[.int .i64 gk, .int .i64 gn, .string (S gw)] 68).swap; clear hb2)
  obtain ⟨b6, hb6⟩ : ∃ z, w2.heap.size = z := ⟨_, rfl⟩
  obtain ⟨W2, hW2⟩ : ∃ z, w2.alloc (.cells #[.int .i64 gk, .int .i64 gn, .string (S gw)] 68) = z := ⟨_, rfl⟩
  rw [hb6, hW2] at H2
  try rw [hW2]
  try simp only [hb6]
  clear hb6 hW2 H1 HCA
  go_cut [21, 29] (fun _ _ wx => ∃ cs2, Up cs cs2 [34, 35, 36] ∧ cs2[35]? = some (vS col) ∧ cs2[36]? = some (vS x) ∧ St w0 wx (As.cells bo cs2 28 :: As.cells b6 #[.int .i64 gk, .int .i64 gn, .string (S gw)] 68 :: As.cells bp pa 28 :: As.cells bc #[.map (some bm), .int .i64 sz] 66 :: As.mp 9 sK vV sOk bm n lk :: L))
  case first =>
    have d35 := H2.out.cell 35
    rw [KK35.out] at d35
    have f35 := H2.out.free 35
    have x2 := H2.out.swap.cell 2
    have q35 := (H2.out.blkm (.tail _ (.tail _ (.head _)))).cell 35
    rw [HP35.out] at q35
    simp at x2
    have hsz1 : 35 < cs1.size := by rw [UU1.out.1, HSZ.out]; decide
    have HS1 := Lib.hid hsz1
    clear hsz1
    by_cases k01 : gh = 0 ∨ gh = 1
    · have e : a = col := by have := HCOL.out; rwa [if_pos k01] at this
      have E0 := Lib.hid e
      clear e
      rcases k01 with rfl | rfl
      · go_wp2_with fail
        go_meet
        rw [← E0.out]; exact ⟨_, UU1.out.set (by decide) _, set_at HS1.out _, (set_ne (by decide) _).trans KK36.out, H2.out.set 35 _⟩
      · go_wp2_with fail
        go_meet
        rw [← E0.out]; exact ⟨_, UU1.out.set (by decide) _, set_at HS1.out _, (set_ne (by decide) _).trans KK36.out, H2.out.set 35 _⟩
    have e0 := HCOL.out
    rw [if_neg k01] at e0
    have n0 : (gh == 0) = false := by rw [beq_eq_false_iff_ne]; exact fun q => k01 (.inl q)
    have n1 : (gh == 1) = false := by rw [beq_eq_false_iff_ne]; exact fun q => k01 (.inr q)
    clear k01
    by_cases k3 : gh = 3
    · subst k3
      rw [if_pos rfl] at e0
      have E0 := Lib.hid e0
      clear e0 n0 n1
      go_wp2_with fail
      go_meet
      rw [← E0.out]; exact ⟨_, UU1.out.set (by decide) _, set_at HS1.out _, (set_ne (by decide) _).trans KK36.out, H2.out.set 35 _⟩
    · rw [if_neg k3] at e0
      have n3 : (gh == 3) = false := by rw [beq_eq_false_iff_ne]; exact k3
      have E0 := Lib.hid e0
      clear e0 k3
      go_wp2_with fail
      go_meet
      rw [← E0.out]; exact ⟨_, UU1.out, KK35.out, KK36.out, H2.out⟩
  case rest =>
    obtain ⟨cs2, u2, k35, k36, h3⟩ := hcut
    have U2 := Lib.hid u2
    have KK35 := Lib.hid k35
    have KK36 := Lib.hid k36
    have H3 := Lib.hid (h3.swap.drop)
    clear u2 k36 h3 H2 UU1 HCOL HG1
    have hz2 : cs2.size = 53 := by rw [U2.out.1]; exact HSZ.out
    obtain ⟨y34, hy34⟩ : ∃ x, cs2[34]? = some x := ⟨_, Array.getElem?_eq_getElem (by omega)⟩
    have d35 := H3.out.cell 35
    rw [k35] at d35
    have d34 := H3.out.cell 34
    rw [hy34] at d34
    have f34 := H3.out.free 34
    have HZ2 := Lib.hid hz2
    clear k35 hy34 hz2
    go_upto_region 10 with fail
    have U3 := Lib.hid (U2.out.set (i := 34) (by decide) (vS col))
    have J34 := Lib.hid (set_at (cs := cs2) (i := 34) (by rw [HZ2.out]; decide) (vS col))
    have J35 := Lib.hid ((set_ne (cs := cs2) (i := 34) (j := 35) (by decide) (vS col)).trans KK35.out)
    have J36 := Lib.hid ((set_ne (cs := cs2) (i := 34) (j := 36) (by decide) (vS col)).trans KK36.out)
    have H4 := Lib.hid (H3.out.set 34 (vS col))
    obtain ⟨W4, hW4⟩ : ∃ z, wc.setCell ⟨bo, 34, none⟩ (vS col) = z := ⟨_, rfl⟩
    obtain ⟨cs3, hcs3⟩ : ∃ z, cs2.setIfInBounds 34 (vS col) = z := ⟨_, rfl⟩
    rw [hW4, hcs3] at H4
    rw [hcs3] at U3 J34 J35 J36
    rw [hW4]
    clear hW4 hcs3 d34 d35 f34 H3 U2 KK35 KK36 HZ2
    have HCA := Lib.hid (Comp.of (bc := bc) (bm := bm) H4.out (.tail _ (.tail _ (.head _))) (.tail _ (.tail _ (.tail _ (.head _)))))
    go_upto_block 1 with (go_at_call 34; refine (HG2.out _ HCA.out).mono ?_; rintro e w5 ⟨rfl, hb5⟩; have H5 := Lib.hid ((H4.out.of_below hb5).new #[.int .i64 hk, .int .i64 hn, .string (S hw)] 68).swap; clear hb5)
    obtain ⟨b8, hb8⟩ : ∃ z, w5.heap.size = z := ⟨_, rfl⟩
    obtain ⟨W5, hW5⟩ : ∃ z, w5.alloc (.cells #[.int .i64 hk, .int .i64 hn, .string (S hw)] 68) = z := ⟨_, rfl⟩
    rw [hb8, hW5] at H5
    try rw [hW5]
    try simp only [hb8]
    clear hb8 hW5 H4 HCA
    go_cut [49, 56] (fun _ _ wx => ∃ cs4, Up cs cs4 [34, 35, 36] ∧ cs4[34]? = some (vS bcl) ∧ cs4[35]? = some (vS col) ∧ cs4[36]? = some (vS x) ∧ St w0 wx (As.cells bo cs4 28 :: As.cells b8 #[.int .i64 hk, .int .i64 hn, .string (S hw)] 68 :: As.cells bp pa 28 :: As.cells bc #[.map (some bm), .int .i64 sz] 66 :: As.mp 9 sK vV sOk bm n lk :: L))
    case first =>
      have d34 := H5.out.cell 34
      rw [J34.out] at d34
      have f34 := H5.out.free 34
      have x2 := H5.out.swap.cell 2
      have q34 := (H5.out.blkm (.tail _ (.tail _ (.head _)))).cell 34
      rw [HP34.out] at q34
      simp at x2
      have hsz1 : 34 < cs3.size := by rw [U3.out.1, HSZ.out]; decide
      have HS1 := Lib.hid hsz1
      clear hsz1
      have e0 := HBCL.out
      by_cases k1 : hh = 1
      · subst k1
        rw [if_pos rfl] at e0
        have E0 := Lib.hid e0
        clear e0
        go_wp2_with fail
        go_meet
        rw [← E0.out]; exact ⟨_, U3.out.set (by decide) _, set_at HS1.out _, (set_ne (by decide) _).trans J35.out, (set_ne (by decide) _).trans J36.out, H5.out.set 34 _⟩
      rw [if_neg k1] at e0
      have n1 : (hh == 1) = false := by rw [beq_eq_false_iff_ne]; exact k1
      by_cases k3 : hh = 3
      · subst k3
        rw [if_pos rfl] at e0
        have E0 := Lib.hid e0
        clear e0 k1 n1
        go_wp2_with fail
        go_meet
        rw [← E0.out]; exact ⟨_, U3.out.set (by decide) _, set_at HS1.out _, (set_ne (by decide) _).trans J35.out, (set_ne (by decide) _).trans J36.out, H5.out.set 34 _⟩
      · rw [if_neg k3] at e0
        have n3 : (hh == 3) = false := by rw [beq_eq_false_iff_ne]; exact k3
        have E0 := Lib.hid e0
        clear e0 k1 k3
        go_wp2_with fail
        go_meet
        rw [← E0.out]; exact ⟨_, U3.out, J34.out, J35.out, J36.out, H5.out⟩
    case rest =>
      obtain ⟨cs4, u4, k34, k35, k36, h6⟩ := hcut
      have U4 := Lib.hid u4
      have J34 := Lib.hid k34
      have J35 := Lib.hid k35
      have J36 := Lib.hid k36
      have H6 := Lib.hid (h6.swap.drop)
      clear u4 k34 k35 k36 h6 H5 U3 HBCL HG2
      have HCA := Lib.hid (Comp.of (bc := bc) (bm := bm) H6.out (.tail _ (.tail _ (.head _))) (.tail _ (.tail _ (.tail _ (.head _)))))
      go_upto_block 2 with (go_at_call 34; refine (HG3.out _ HCA.out).mono ?_; rintro e w7 ⟨rfl, hb7⟩; have H7 := Lib.hid ((H6.out.of_below hb7).new #[.int .i64 ik, .int .i64 iN, .string (S iw)] 68).swap; clear hb7)
      obtain ⟨b10, hb10⟩ : ∃ z, w7.heap.size = z := ⟨_, rfl⟩
      obtain ⟨W7, hW7⟩ : ∃ z, w7.alloc (.cells #[.int .i64 ik, .int .i64 iN, .string (S iw)] 68) = z := ⟨_, rfl⟩
      rw [hb10, hW7] at H7
      try rw [hW7]
      try simp only [hb10]
      clear hb10 hW7 H6 HCA
      have d36 := H7.out.cell 36
      rw [J36.out] at d36
      have f36 := H7.out.free 36
      have x0 := H7.out.swap.cell 0
      have x2 := H7.out.swap.cell 2
      have q36 := (H7.out.blkm (.tail _ (.tail _ (.head _)))).cell 36
      rw [HP36.out] at q36
      simp at x0 x2
      have hsz1 : 36 < cs4.size := by rw [U4.out.1, HSZ.out]; decide
      have HS1 := Lib.hid hsz1
      clear hsz1
      have e0 := HBGL.out
      by_cases k1 : ih = 1
      · subst k1
        rw [if_pos rfl] at e0
        have E0 := Lib.hid e0
        clear e0
        go_wp2_with fail
        refine ⟨rfl, _, results_none rfl _ _ _, rfl, ?_⟩
        rw [← E0.out]; exact ⟨_, U4.out.set (by decide) _, (set_ne (by decide) _).trans J34.out, (set_ne (by decide) _).trans J35.out, set_at HS1.out _, ((H7.out.set 36 _).swap.drop).swap.drop⟩
      rw [if_neg k1] at e0
      have n1 : (ih == 1) = false := by rw [beq_eq_false_iff_ne]; exact k1
      by_cases k3 : ih = 3
      · subst k3
        clear k1 n1
        by_cases k6 : ik = 6
        · subst k6
          rw [if_pos ⟨rfl, rfl⟩] at e0
          have E0 := Lib.hid e0
          clear e0
          go_wp2_with fail
          refine ⟨rfl, _, results_none rfl _ _ _, rfl, ?_⟩
          rw [← E0.out]; exact ⟨_, U4.out.set (by decide) _, (set_ne (by decide) _).trans J34.out, (set_ne (by decide) _).trans J35.out, set_at HS1.out _, ((H7.out.set 36 _).swap.drop).swap.drop⟩
        · rw [if_neg (fun h => k6 h.2)] at e0
          have n6 : (ik == 6) = false := by rw [beq_eq_false_iff_ne]; exact k6
          have E0 := Lib.hid e0
          clear e0 k6
          go_wp2_with fail
          refine ⟨rfl, _, results_none rfl _ _ _, rfl, ?_⟩
          rw [← E0.out]; exact ⟨_, U4.out, J34.out, J35.out, J36.out, (H7.out.swap.drop).swap.drop⟩
      · rw [if_neg (fun h => k3 h.1)] at e0
        have n3 : (ih == 3) = false := by rw [beq_eq_false_iff_ne]; exact k3
        have E0 := Lib.hid e0
        clear e0 k1 k3
        go_wp2_with fail
        refine ⟨rfl, _, results_none rfl _ _ _, rfl, ?_⟩
        rw [← E0.out]; exact ⟨_, U4.out, J34.out, J35.out, J36.out, (H7.out.swap.drop).swap.drop⟩
end Go.Proofs.YtldembadjgibjaaGreatDoor
