/-
  Cascade: apply.
-/
import Derived.Test.YtldembadjgibjaaGreatDoorBe
set_option linter.unusedVariables false
set_option linter.unusedSimpArgs false
namespace Go.Proofs.YtldembadjgibjaaGreatDoor
open Go.RowKit Go.K Go.PlainAid Go.Lib Go.Maps Go.WideMaps

abbrev displayS : List UInt8 := [100, 105, 115, 112, 108, 97, 121]
abbrev positionS : List UInt8 := [112, 111, 115, 105, 116, 105, 111, 110]
abbrev leftS : List UInt8 := [108, 101, 102, 116]
abbrev topS : List UInt8 := [116, 111, 112]
abbrev widthS : List UInt8 := [119, 105, 100, 116, 104]
abbrev heightS : List UInt8 := [104, 101, 105, 103, 104, 116]
abbrev minwidthS : List UInt8 := [109, 105, 110, 45, 119, 105, 100, 116, 104]
abbrev maxwidthS : List UInt8 := [109, 97, 120, 45, 119, 105, 100, 116, 104]
abbrev textalignS : List UInt8 := [116, 101, 120, 116, 45, 97, 108, 105, 103, 110]
abbrev whitespaceS : List UInt8 := [119, 104, 105, 116, 101, 45, 115, 112, 97, 99, 101]
abbrev verticalalignS : List UInt8 := [118, 101, 114, 116, 105, 99, 97, 108, 45, 97, 108, 105, 103, 110]
abbrev flexdirectionS : List UInt8 := [102, 108, 101, 120, 45, 100, 105, 114, 101, 99, 116, 105, 111, 110]
abbrev flexwrapS : List UInt8 := [102, 108, 101, 120, 45, 119, 114, 97, 112]
abbrev flexgrowS : List UInt8 := [102, 108, 101, 120, 45, 103, 114, 111, 119]
abbrev flexshrinkS : List UInt8 := [102, 108, 101, 120, 45, 115, 104, 114, 105, 110, 107]
abbrev flexbasisS : List UInt8 := [102, 108, 101, 120, 45, 98, 97, 115, 105, 115]
abbrev orderS : List UInt8 := [111, 114, 100, 101, 114]
abbrev zindexS : List UInt8 := [122, 45, 105, 110, 100, 101, 120]
abbrev overflowS : List UInt8 := [111, 118, 101, 114, 102, 108, 111, 119]
abbrev visibilityS : List UInt8 := [118, 105, 115, 105, 98, 105, 108, 105, 116, 121]
abbrev displayW : List UInt8 := ([110, 111, 110, 101, 32, 98, 108, 111, 99, 107, 32, 105, 110, 108, 105, 110, 101, 32, 105, 110, 108, 105, 110, 101, 45, 98, 108, 111, 99, 107, 32, 102, 108, 101, 120, 32, 116, 97, 98, 108, 101, 32, 116, 97].append [98, 108, 101, 45, 114, 111, 119, 32, 116, 97, 98, 108, 101, 45, 99, 101, 108, 108, 32, 108, 105, 115, 116, 45, 105, 116, 101, 109, 32, 116, 97, 98, 108, 101, 45, 114, 111, 119, 45, 103, 114, 111, 117, 112])
abbrev positionW : List UInt8 := [115, 116, 97, 116, 105, 99, 32, 114, 101, 108, 97, 116, 105, 118, 101, 32, 97, 98, 115, 111, 108, 117, 116, 101]
abbrev textalignW : List UInt8 := [108, 101, 102, 116, 32, 99, 101, 110, 116, 101, 114, 32, 114, 105, 103, 104, 116]
abbrev whitespaceW : List UInt8 := [110, 111, 114, 109, 97, 108, 32, 110, 111, 119, 114, 97, 112, 32, 112, 114, 101]
abbrev verticalalignW : List UInt8 := [116, 111, 112, 32, 109, 105, 100, 100, 108, 101, 32, 98, 111, 116, 116, 111, 109]
abbrev flexdirectionW : List UInt8 := [114, 111, 119, 32, 99, 111, 108, 117, 109, 110]
abbrev flexwrapW : List UInt8 := [110, 111, 119, 114, 97, 112, 32, 119, 114, 97, 112]
abbrev overflowW : List UInt8 := [118, 105, 115, 105, 98, 108, 101, 32, 104, 105, 100, 100, 101, 110, 32, 115, 99, 114, 111, 108, 108]
abbrev visibilityW : List UInt8 := [118, 105, 115, 105, 98, 108, 101, 32, 104, 105, 100, 100, 101, 110]

/-- a style: whole numbers, texts, truth values by their place -/
structure Sty where
  I : Nat → Int
  T : Nat → List UInt8
  B : Nat → Bool
def Sty.at (p : Sty) (i : Nat) : Value := if i = 34 ∨ i = 35 ∨ i = 36 then vS (p.T i) else if i = 43 ∨ i = 50 then .bool (p.B i) else .int .i64 (p.I i)
def Sty.cells (p : Sty) : List Value := (List.range 53).map p.at
theorem Sty.len (p : Sty) : p.cells.length = 53 := by simp [Sty.cells]
theorem Sty.get (p : Sty) (i : Nat) (h : i < 53) : p.cells[i]? = some (p.at i) := by
  unfold Sty.cells
  rw [List.getElem?_map, List.getElem?_range h]
  rfl
theorem Sty.one (p : Sty) : ∀ v ∈ p.cells, v.oneCell' = true := by
  intro v hv
  obtain ⟨i, -, rfl⟩ := List.mem_map.1 hv
  unfold Sty.at
  repeat' split
  all_goals rfl
def fixM (d q : Int) : Int := if q = 2 ∧ (d = 2 ∨ d = 3 ∨ d = 6 ∨ d = 7 ∨ d = 9) then 1 else d
def zaM (lk : Lk) (b : Bool) : Bool := if (getM lk zindexS).2 = 1 then b else if (getM lk zindexS).2 = 3 then (getM lk zindexS).1.kd == 1 else true
/-- the style that the values lk give under the parent's style p -/
def applyM (lk : Lk) (p : Sty) : Sty where
  I := fun i => match i with
    | 0 => fixM (wdM lk displayS displayW (p.I 0) 2 false) (wdM lk positionS positionW (p.I 1) 0 false)
    | 1 => wdM lk positionS positionW (p.I 1) 0 false
    | 2 => (longM lk (fontM lk (p.I 37)) leftS (p.I 2, p.I 3) (0, 0)).1
    | 3 => (longM lk (fontM lk (p.I 37)) leftS (p.I 2, p.I 3) (0, 0)).2
    | 4 => (longM lk (fontM lk (p.I 37)) topS (p.I 4, p.I 5) (0, 0)).1
    | 5 => (longM lk (fontM lk (p.I 37)) topS (p.I 4, p.I 5) (0, 0)).2
    | 6 => (longM lk (fontM lk (p.I 37)) widthS (p.I 6, p.I 7) (0, 0)).1
    | 7 => (longM lk (fontM lk (p.I 37)) widthS (p.I 6, p.I 7) (0, 0)).2
    | 8 => (longM lk (fontM lk (p.I 37)) heightS (p.I 8, p.I 9) (0, 0)).1
    | 9 => (longM lk (fontM lk (p.I 37)) heightS (p.I 8, p.I 9) (0, 0)).2
    | 10 => (longM lk (fontM lk (p.I 37)) minwidthS (p.I 10, p.I 11) (1, 0)).1
    | 11 => (longM lk (fontM lk (p.I 37)) minwidthS (p.I 10, p.I 11) (1, 0)).2
    | 12 => (longM lk (fontM lk (p.I 37)) maxwidthS (p.I 12, p.I 13) (0, 0)).1
    | 13 => (longM lk (fontM lk (p.I 37)) maxwidthS (p.I 12, p.I 13) (0, 0)).2
    | 39 => wdM lk textalignS textalignW (p.I 39) 0 true
    | 40 => wdM lk whitespaceS whitespaceW (p.I 40) 0 true
    | 41 => wdM lk verticalalignS verticalalignW (p.I 41) 0 false
    | 42 => wdM lk flexdirectionS flexdirectionW (p.I 42) 0 false
    | 44 => numM lk flexgrowS 1 (p.I 44) 0
    | 45 => numM lk flexshrinkS 1 (p.I 45) 1000
    | 46 => (longM lk (fontM lk (p.I 37)) flexbasisS (p.I 46, p.I 47) (0, 0)).1
    | 47 => (longM lk (fontM lk (p.I 37)) flexbasisS (p.I 46, p.I 47) (0, 0)).2
    | 48 => numM lk orderS 1000 (p.I 48) 0
    | 49 => numM lk zindexS 1000 (p.I 49) 0
    | 51 => wdM lk overflowS overflowW (p.I 51) 0 false
    | 52 => wdM lk visibilityS visibilityW (p.I 52) 0 true
    | 14 => (mgM lk (fontM lk (p.I 37)) p.I 0).1
    | 15 => (mgM lk (fontM lk (p.I 37)) p.I 0).2
    | 22 => (pdM lk (fontM lk (p.I 37)) p.I 0).1
    | 23 => (pdM lk (fontM lk (p.I 37)) p.I 0).2
    | 30 => bdM lk (fontM lk (p.I 37)) p.I 0
    | 16 => (mgM lk (fontM lk (p.I 37)) p.I 1).1
    | 17 => (mgM lk (fontM lk (p.I 37)) p.I 1).2
    | 24 => (pdM lk (fontM lk (p.I 37)) p.I 1).1
    | 25 => (pdM lk (fontM lk (p.I 37)) p.I 1).2
    | 31 => bdM lk (fontM lk (p.I 37)) p.I 1
    | 18 => (mgM lk (fontM lk (p.I 37)) p.I 2).1
    | 19 => (mgM lk (fontM lk (p.I 37)) p.I 2).2
    | 26 => (pdM lk (fontM lk (p.I 37)) p.I 2).1
    | 27 => (pdM lk (fontM lk (p.I 37)) p.I 2).2
    | 32 => bdM lk (fontM lk (p.I 37)) p.I 2
    | 20 => (mgM lk (fontM lk (p.I 37)) p.I 3).1
    | 21 => (mgM lk (fontM lk (p.I 37)) p.I 3).2
    | 28 => (pdM lk (fontM lk (p.I 37)) p.I 3).1
    | 29 => (pdM lk (fontM lk (p.I 37)) p.I 3).2
    | 33 => bdM lk (fontM lk (p.I 37)) p.I 3
    | 37 => fontM lk (p.I 37)
    | 38 => lineM lk (fontM lk (p.I 37)) (p.I 38)
    | _ => 0
  T := fun i => match i with
    | 34 => bcM lk (colM lk (p.T 35)) (p.T 34)
    | 35 => colM lk (p.T 35)
    | _ => bgM lk (p.T 36) []
  B := fun i => match i with
    | 43 => (wdM lk flexwrapS flexwrapW (if p.B 43 = true then 1 else 0) 0 false) == 1
    | _ => zaM lk (p.B 50)
/-- what is known of the cells -/
structure Kn (cs : Array Value) (K : List (Nat × Value)) : Prop where
  size : cs.size = 53
  at_ : ∀ q ∈ K, cs[q.1]? = some q.2
theorem Kn.put {cs : Array Value} {K : List (Nat × Value)} (h : Kn cs K) {i : Nat} (hi : i < 53) (v : Value) (hn : ∀ q ∈ K, q.1 ≠ i) : Kn (cs.setIfInBounds i v) ((i, v) :: K) := by
  refine ⟨by rw [Array.size_setIfInBounds]; exact h.size, fun q hq => ?_⟩
  rcases List.mem_cons.1 hq with rfl | hq
  · exact set_at (by rw [h.size]; exact hi) v
  · rw [set_ne (fun e => hn q hq e.symm) v]; exact h.at_ q hq
theorem Kn.some {cs : Array Value} {K : List (Nat × Value)} (h : Kn cs K) {i : Nat} (hi : i < 53) : ∃ x, cs[i]? = some x := ⟨_, Array.getElem?_eq_getElem (by rw [h.size]; exact hi)⟩
theorem getM_ok {lk : Lk} (hv : ∀ s v, lk s = some v → VOk v) : ∀ s, VOk (getM lk s).1 := by
  intro s
  unfold getM
  cases e : lk s with
  | none => exact ⟨by decide, by decide, by decide, by decide, Nat.zero_le _⟩
  | some v => exact hv s v e
theorem size28 : (Tryz.prog.info? 28).map (·.size) = some 53 := by kernel_rfl
set_option maxRecDepth 100000 in
set_option maxHeartbeats 8000000 in
theorem apply_any [Inhabited TbBox] (ds : List De) (hds : ∀ d ∈ ds, DOk d) (hlen : ds.length ≤ 100000) (sd : Option Addr) (cd kb m : Nat) (hm : m ≤ 100000) (w0 w : World) (L : List As) (h : St w0 w (As.kn kb m :: L)) (E : Env w0)
    (hrk : ∀ w', St w0 w' L → Rc w' 5 sd ds.length cd (flat De.cells ds)) (p : Sty) (ha0 : 0 ≤ p.I 37) (ha1 : p.I 37 ≤ 1000000) :
    Calls Tryz.prog 14 #[.slice sd ds.length cd, .agg p.cells.toArray, .map (some kb)] w fun e w' => e = .returned (.agg (applyM (lkOf ds) p).cells.toArray) ∧ ∃ m', m' ≤ m + ds.length ∧ St w0 w' (As.kn kb m' :: L) := by
  have hvk := lkOf_ok ds hds
  have HVK := Lib.hid hvk
  have hp := p.get
  have hpl := p.len
  obtain ⟨pl, hplq⟩ : ∃ z, p.cells = z := ⟨_, rfl⟩
  rw [hplq] at hp hpl ⊢
  have HP := Lib.hid hp
  have HPL := Lib.hid hpl
  obtain ⟨R, hR⟩ : ∃ z, applyM (lkOf ds) p = z := ⟨_, rfl⟩
  rw [hR]
  have HR := Lib.hid hR
  obtain ⟨pa, hpa⟩ : ∃ z, pl.toArray = z := ⟨_, rfl⟩
  rw [hpa]
  have HPA := Lib.hid hpa
  clear hvk hp hpl hplq hR hpa
  have HDS := Lib.hid hds
  have HE := Lib.hid E
  obtain ⟨N, hN⟩ : ∃ n, ds.length = n := ⟨_, rfl⟩
  rw [hN] at hlen hrk ⊢
  have HN := Lib.hid hN
  have HRK := Lib.hid hrk
  have hNI : (N : Int) ≤ 100000 := by omega
  have h1 := mp_new sK vV sOk (k := 9) ((h.new pa 28).new z28 28)
  rw [World.size_alloc, World.size_alloc] at h1
  have h2 := h1.new #[.map (some (w.heap.size + 1 + 1)), .int .i64 0] 66
  have H2 := Lib.hid h2
  have hmm := @run_makeMap Tryz.prog
  clear h h1 h2 hds E hrk hN
  go_enter Tryz.func14, Tryz.ntmps14
  go_upto_region 2 with fail
  obtain ⟨bp, hbp⟩ : ∃ z, w.heap.size = z := ⟨_, rfl⟩
  obtain ⟨Z, hZ⟩ : ∃ z, z28 = z := ⟨_, rfl⟩
  obtain ⟨W2, hW2⟩ : ∃ z, (((w.alloc (.cells pa 28)).alloc (.cells z28 28)).alloc (.map #[] 0)).alloc (.cells #[.map (some (w.heap.size + 1 + 1)), .int .i64 0] 66) = z := ⟨_, rfl⟩
  have hsz3 : (((w.alloc (.cells pa 28)).alloc (.cells z28 28)).alloc (.map #[] 0)).heap.size = bp + 3 := by simp [hbp]
  have hsz2 : ((w.alloc (.cells pa 28)).alloc (.cells z28 28)).heap.size = bp + 2 := by simp [hbp]
  change Code.wp _ _ _ _ ((((w.alloc (.cells pa 28)).alloc (.cells z28 28)).alloc (.map #[] 0)).alloc (.cells #[.map (some (w.heap.size + 1 + 1)), .int .i64 0] 66))
  have H2' := H2.out
  rw [hW2, hsz3] at H2'
  rw [hW2]
  simp only [hbp] at H2' ⊢
  have e1 : bp + 1 + 1 = bp + 2 := rfl
  have e2 : bp + 1 + 1 + 1 = bp + 3 := rfl
  rw [hZ] at H2'
  try simp only [e1, e2] at H2' ⊢
  have H3 := Lib.hid (show St w0 W2 (As.kn kb m :: As.mp 9 sK vV sOk (bp + 2) 0 (fun _ => none) :: As.cells (bp + 3) #[.map (some (bp + 2)), .int .i64 0] 66 :: As.cells (bp + 1) Z 28 :: As.cells bp pa 28 :: L) from St.sh [_, _, _, _, _] [4, 1, 0, 2, 3] (by decide) H2')
  have HZ := Lib.hid hZ
  clear H2 H2' hW2 hsz3 hsz2 hbp hZ e1 e2
  obtain ⟨b6, hb6⟩ : ∃ z, bp + 1 = z := ⟨_, rfl⟩
  obtain ⟨bm, hbm⟩ : ∃ z, bp + 2 = z := ⟨_, rfl⟩
  obtain ⟨bc, hbc⟩ : ∃ z, bp + 3 = z := ⟨_, rfl⟩
  rw [hb6, hbm, hbc] at H3
  simp only [hb6, hbm, hbc]
  clear hb6 hbm hbc hmm
  go_wp2_with fail
  go_loopg [20, 9] N (fun g v20 v9 wr => ∃ (k n m' : Nat), g = N - k ∧ k ≤ N ∧ v20 = .int .i64 (k : Int) ∧ n ≤ k ∧ m' ≤ m + k ∧ St w0 wr (As.kn kb m' :: As.mp 9 sK vV sOk bm n (lkOf (ds.take k)) :: As.cells bc #[.map (some bm), .int .i64 0] 66 :: As.cells b6 Z 28 :: As.cells bp pa 28 :: L))
  case atStart => exact ⟨0, 0, m, rfl, Nat.zero_le _, rfl, Nat.le_refl _, Nat.le_refl _, H3.out⟩
  case round =>
    obtain ⟨k, n, m', hg, hkN, rfl, hnk, hmk, hS⟩ := hrel
    have HG := Lib.hid hg
    have HS := Lib.hid hS
    clear hg hS H3
    by_cases hkn : k < N
    · have hkI : (k : Int) < (N : Int) := by omega
      have hk0 : (0 : Int) ≤ (k : Int) := by omega
      have g1 := wrapS (a := (k : Int) + 1) (by omega) (by omega)
      obtain ⟨d, hd⟩ : ∃ x, ds[k]? = some x := ⟨_, List.getElem?_eq_getElem (by rw [HN.out]; exact hkn)⟩
      have hrd := (HRK.out _ HS.out.drop.drop.drop.drop.drop).rd
      obtain ⟨gx, ox, rfl, -⟩ := hrd.addr (by omega)
      obtain ⟨c0, c1, c2, c3, c4⟩ := atD hrd hd
      have hok := HDS.out d (List.mem_of_getElem? hd)
      have hlk : lkOf (ds.take (k + 1)) = putD (lkOf (ds.take k)) d := by
        unfold lkOf
        rw [List.take_add_one, hd, List.foldl_append]
        rfl
      have HLK := Lib.hid hlk
      have HOK := Lib.hid hok
      have hva := fun w H => valid_st d hok kb m' (by omega) w0 w (As.cells wr.heap.size d.cells.toArray 70 :: As.mp 9 sK vV sOk bm n (lkOf (ds.take k)) :: As.cells bc #[.map (some bm), .int .i64 0] 66 :: As.cells b6 Z 28 :: As.cells bp pa 28 :: L) H HE.out
      have H4 := Lib.hid ((HS.out.new d.cells.toArray 70).swap)
      obtain ⟨vb, hvb⟩ : ∃ b, vM d = b := ⟨_, rfl⟩
      rw [hvb] at hva
      unfold putD at hlk
      rw [hvb] at hlk
      have HLK2 := Lib.hid hlk
      have HVA := Lib.hid hva
      clear hd hrd hok hlk hva hvb
      obtain ⟨dn, ⟨dk, dm, dw⟩, di⟩ := d
      simp only [De.cells] at H4 HVA c0 c1 c2 c3 c4
      have HKEY := Lib.hid (keyOf_string_mk (P := Tryz.prog) Tryz.underlying9 (s := S dn) (by rw [S_size]; have := HOK.out.nl; simp only at this; unfold maxLen; omega))
      cases vb with
      | false =>
        go_wp2_with (go_at_call 27; refine (HVA.out _ H4.out).mono ?_; rintro e w5 ⟨rfl, m2, hm2, h5⟩; have H5 := Lib.hid h5; clear h5)
        go_roundg (N - (k + 1))
        case measure => have := HG.out; omega
        case rel =>
          have e := HLK2.out
          rw [if_neg (by decide)] at e
          exact ⟨k + 1, n, m2, rfl, by omega, by rw [Int.natCast_add]; rfl, by omega, by omega, by rw [e]; exact H5.out.swap.drop⟩
      | true =>
        go_upto_region 6 with (go_at_call 27; refine (HVA.out _ H4.out).mono ?_; rintro e w5 ⟨rfl, m2, hm2, h5⟩; have H5 := Lib.hid h5; clear h5)
        obtain ⟨b9, hb9⟩ : ∃ z, wr.heap.size = z := ⟨_, rfl⟩
        rw [hb9] at H5
        try simp only [hb9]
        clear hb9 H4 c0 c1 c2 c3 c4 HVA
        have x0 := H5.out.swap.cell 0
        have x1 := H5.out.swap.cell 1
        have x2 := H5.out.swap.cell 2
        have x3 := H5.out.swap.cell 3
        have y0 := (H5.out.blkm (.tail _ (.tail _ (.tail _ (.head _))))).cell 0
        simp at x0 x1 x2 x3 y0
        go_still_tail 8, (by kernel_rfl)
        change wpList _ _ _ _ _ w5.drew
        have H6 := Lib.hid H5.out.drew
        obtain ⟨W6, hW6⟩ : ∃ z, w5.drew = z := ⟨_, rfl⟩
        rw [hW6] at H6
        rw [hW6]
        obtain ⟨D, ho, hl⟩ := St.mpI H6.out (.tail _ (.tail _ (.head _)))
        have HO := Lib.hid ho
        have HL := Lib.hid hl
        clear hW6 x0 x1 x2 x3 y0 H5 ho hl
        go_wp2_with (first
          | (at_mapUpdate; refine wpList_mapUpdate_own _ rfl _ _ _ 64 rfl 9 68 key9T Tryz.underlying64 heldR bm n D rfl HO.out (by unfold maxLen; omega) (.string (S dn)) (.agg #[.int .i64 dk, .int .i64 dm, vS dw]) (sK dn) rfl rfl HKEY.out (.held (vV ⟨dk, dm, dw⟩)) [] rfl ?_; intro w7 ho7 hg7)
          | fail)
        go_roundg (N - (k + 1))
        case measure => have := HG.out; omega
        case rel =>
          have e : lkOf (ds.take (k + 1)) = (fun s => if s = dn then some (⟨dk, dm, dw⟩ : Va) else lkOf (ds.take k) s) := by have := HLK2.out; simpa using this
          have hmi : MIs 9 sK vV sOk bm (n + 1) (fun s => if s = dn then some (⟨dk, dm, dw⟩ : Va) else lkOf (ds.take k) s) w7 :=
            ⟨_, ho7, HL.out.put HO.out.isMap sK_key (fun a b _ _ h => sK_inj h) HOK.out.nl _⟩
          have h8 := mp_put (St.sh [_, _, _] [2, 0, 1] (by decide) H6.out) hg7 hmi
          exact ⟨k + 1, n + 1, m2, rfl, by omega, by rw [Int.natCast_add]; rfl, by omega, by omega, by rw [e]; exact (St.sh [_, _, _] [2, 1, 0] (by decide) h8).drop⟩
    · have hke : k = N := by omega
      subst hke
      have htk : ds.take k = ds := List.take_of_length_le (Nat.le_of_eq HN.out)
      have hs := HS.out
      rw [htk] at hs
      obtain ⟨lk, hlk⟩ : ∃ z, lkOf ds = z := ⟨_, rfl⟩
      rw [hlk] at hs HVK HR
      have HS2 := Lib.hid (St.sh [_, _] [1, 0] (by decide) hs)
      clear hs htk HS hlk HDS HRK HG
      go_upto_region 9 with fail
      obtain ⟨bo, hbo⟩ : ∃ z, wr.heap.size = z := ⟨_, rfl⟩
      obtain ⟨W1, hW1⟩ : ∃ z, wr.alloc (.cells z28 28) = z := ⟨_, rfl⟩
      have h1 := HS2.out.new z28 28
      rw [hbo, hW1] at h1
      change Code.wp _ _ _ _ (wr.alloc (.cells z28 28))
      rw [hW1]
      simp only [hbo]
      obtain ⟨cz, hcz⟩ : ∃ z, z28 = z := ⟨_, rfl⟩
      have hcs : cz.size = 53 := by rw [← hcz]; rfl
      have hc36 : cz[36]? = some (vS []) := by rw [← hcz]; rfl
      rw [hcz] at h1
      have H1 := Lib.hid (show St w0 W1 (As.cells bo cz 28 :: As.cells bc #[.map (some bm), .int .i64 0] 66 :: As.mp 9 sK vV sOk bm n lk :: As.kn kb m' :: As.cells b6 Z 28 :: As.cells bp pa 28 :: L) from St.sh [_, _, _, _] [0, 3, 1, 2] (by decide) h1)
      clear h1 hW1 hbo hcz HS2
      have q37 : pa[37]? = some (.int .i64 (p.I 37)) := by rw [← HPA.out, List.getElem?_toArray]; exact HP.out 37 (by decide)
      have q38 : pa[38]? = some (.int .i64 (p.I 38)) := by rw [← HPA.out, List.getElem?_toArray]; exact HP.out 38 (by decide)
      have q34 : pa[34]? = some (vS (p.T 34)) := by rw [← HPA.out, List.getElem?_toArray]; exact HP.out 34 (by decide)
      have q35 : pa[35]? = some (vS (p.T 35)) := by rw [← HPA.out, List.getElem?_toArray]; exact HP.out 35 (by decide)
      have q36 : pa[36]? = some (vS (p.T 36)) := by rw [← HPA.out, List.getElem?_toArray]; exact HP.out 36 (by decide)
      have qbx : ∀ i, 14 ≤ i → i < 34 → pa[i]? = some (.int .i64 (p.I i)) := by
        intro i h1 h2
        rw [← HPA.out, List.getElem?_toArray, HP.out i (by omega)]
        unfold Sty.at
        rw [if_neg (by omega), if_neg (by omega)]
      have hin := fontM_in lk (p.I 37) ha0 ha1
      have hfo := fun w h => fonts_st (w0 := w0) (w := w) (L := As.kn kb m' :: As.cells b6 Z 28 :: As.cells bp pa 28 :: L) (bc := bc) (bm := bm) (bo := bo) (n := n) (sz0 := 0) (lk := lk) (cs := cz) hcs h pa (p.I 37) (p.I 38) q37 q38 ha0 ha1 HVK.out
      obtain ⟨fs, hfs⟩ : ∃ z, fontM lk (p.I 37) = z := ⟨_, rfl⟩
      obtain ⟨lh, hlh⟩ : ∃ z, lineM lk fs (p.I 38) = z := ⟨_, rfl⟩
      simp only [hfs] at hfo hin
      simp only [hlh] at hfo
      have U1 : Up cz ((cz.setIfInBounds 37 (.int .i64 fs)).setIfInBounds 38 (.int .i64 lh)) [37, 38] := ((Up.refl cz [37, 38]).set (by decide) _).set (by decide) _
      have K1 : ((cz.setIfInBounds 37 (.int .i64 fs)).setIfInBounds 38 (.int .i64 lh))[37]? = some (.int .i64 fs) := (set_ne (by decide) _).trans (set_at (by omega) _)
      have K2 : ((cz.setIfInBounds 37 (.int .i64 fs)).setIfInBounds 38 (.int .i64 lh))[38]? = some (.int .i64 lh) := set_at (by rw [Array.size_setIfInBounds]; omega) _
      obtain ⟨c1, hc1⟩ : ∃ z, (cz.setIfInBounds 37 (.int .i64 fs)).setIfInBounds 38 (.int .i64 lh) = z := ⟨_, rfl⟩
      rw [hc1] at U1 K1 K2
      simp only [hc1] at hfo
      have z1 : c1.size = 53 := by rw [U1.1]; exact hcs
      have k36 : c1[36]? = some (vS []) := by rw [U1.2 36 (by decide)]; exact hc36
      have hco := fun w h => colors_st (w0 := w0) (w := w) (L := As.kn kb m' :: As.cells b6 Z 28 :: As.cells bp pa 28 :: L) (bc := bc) (bm := bm) (bo := bo) (n := n) (sz := fs) (lk := lk) (cs := c1) z1 (p.T 35) (p.T 34) (p.T 36) [] k36 h pa q34 q35 q36
      obtain ⟨hin0, hin1⟩ := hin
      have hbo := fun w c2 (z2 : c2.size = 53) h => boxes_st (w0 := w0) (w := w) (L := As.kn kb m' :: As.cells b6 Z 28 :: As.cells bp pa 28 :: L) (bc := bc) (bm := bm) (bo := bo) (n := n) (sz := fs) (lk := lk) (cs := c2) z2 h pa p.I qbx hin0 hin1 HVK.out
      have HFO := Lib.hid hfo
      have HCO := Lib.hid hco
      have HBO := Lib.hid hbo
      have HFS := Lib.hid hfs
      have HLH := Lib.hid hlh
      have HK1 := Lib.hid K1
      have HK2 := Lib.hid K2
      have HZ1 := Lib.hid z1
      clear hfo hco hbo hfs hlh K1 K2 U1 k36 hc36 hcs hc1 q34 q35 q36 q37 q38 qbx
      go_upto_region 10 with (first
        | (refine st_load rfl (.tmp 4) rfl pl (show St w0 W1 (As.cells bp pl.toArray 28 :: _) from by rw [HPA.out]; exact St.sh [_, _, _, _, _, _] [5, 0, 1, 2, 3, 4] (by decide) H1.out) (.head _) rfl HPL.out Tryz.underlying28 rfl size28 ?_; rw [HPA.out])
        | (go_at_call 28; refine (HFO.out _ H1.out).mono ?_; rintro e w2 ⟨rfl, h2⟩; have H2 := Lib.hid h2; clear h2))
      go_upto_region 11 with (first
        | (refine st_load rfl (.tmp 4) rfl pl (show St w0 w2 (As.cells bp pl.toArray 28 :: _) from by rw [HPA.out]; exact St.sh [_, _, _, _, _, _] [5, 0, 1, 2, 3, 4] (by decide) H2.out) (.head _) rfl HPL.out Tryz.underlying28 rfl size28 ?_; rw [HPA.out])
        | (go_at_call 29; refine (HCO.out _ H2.out).mono ?_; rintro e w3 ⟨rfl, c2, u2, j34, j35, j36, h3⟩; have H3 := Lib.hid h3; clear h3))
      have U2 := Lib.hid u2
      have z2 : c2.size = 53 := by rw [u2.1]; exact HZ1.out
      have J34 := Lib.hid j34
      have J35 := Lib.hid j35
      have J36 := Lib.hid j36
      have J37 := Lib.hid ((u2.2 37 (by decide)).trans HK1.out)
      have J38 := Lib.hid ((u2.2 38 (by decide)).trans HK2.out)
      have HZ2 := Lib.hid z2
      clear u2 z2 j34 j35 j36 H1 H2 HFO HCO HK1 HK2
      go_upto_region 12 with (first
        | (refine st_load rfl (.tmp 4) rfl pl (show St w0 w3 (As.cells bp pl.toArray 28 :: _) from by rw [HPA.out]; exact St.sh [_, _, _, _, _, _] [5, 0, 1, 2, 3, 4] (by decide) H3.out) (.head _) rfl HPL.out Tryz.underlying28 rfl size28 ?_; rw [HPA.out])
        | (go_at_call 30; refine (HBO.out _ _ HZ2.out H3.out).mono ?_; rintro e w4 ⟨rfl, c3, b3, h4⟩; have H4 := Lib.hid h4; clear h4))
      obtain ⟨K0, hK0⟩ : ∃ K : List (Nat × Value), K = [(34, vS (bcM lk (colM lk (p.T 35)) (p.T 34))), (35, vS (colM lk (p.T 35))), (36, vS (bgM lk (p.T 36) [])), (37, .int .i64 fs), (38, .int .i64 lh), (14, .int .i64 (mgM lk fs p.I 0).1), (15, .int .i64 (mgM lk fs p.I 0).2), (16, .int .i64 (mgM lk fs p.I 1).1), (17, .int .i64 (mgM lk fs p.I 1).2), (18, .int .i64 (mgM lk fs p.I 2).1), (19, .int .i64 (mgM lk fs p.I 2).2), (20, .int .i64 (mgM lk fs p.I 3).1), (21, .int .i64 (mgM lk fs p.I 3).2), (22, .int .i64 (pdM lk fs p.I 0).1), (23, .int .i64 (pdM lk fs p.I 0).2), (24, .int .i64 (pdM lk fs p.I 1).1), (25, .int .i64 (pdM lk fs p.I 1).2), (26, .int .i64 (pdM lk fs p.I 2).1), (27, .int .i64 (pdM lk fs p.I 2).2), (28, .int .i64 (pdM lk fs p.I 3).1), (29, .int .i64 (pdM lk fs p.I 3).2), (30, .int .i64 (bdM lk fs p.I 0)), (31, .int .i64 (bdM lk fs p.I 1)), (32, .int .i64 (bdM lk fs p.I 2)), (33, .int .i64 (bdM lk fs p.I 3))] := ⟨_, rfl⟩
      have hkn0 : Kn c3 K0 := by
        refine ⟨by rw [b3.up.1]; exact HZ2.out, fun q hq => ?_⟩
        rw [hK0] at hq
        simp only [List.mem_cons, List.not_mem_nil, or_false] at hq
        rcases hq with rfl | rfl | rfl | rfl | rfl | rfl | rfl | rfl | rfl | rfl | rfl | rfl | rfl | rfl | rfl | rfl | rfl | rfl | rfl | rfl | rfl | rfl | rfl | rfl | rfl
        · exact (b3.up.2 34 (by decide)).trans J34.out
        · exact (b3.up.2 35 (by decide)).trans J35.out
        · exact (b3.up.2 36 (by decide)).trans J36.out
        · exact (b3.up.2 37 (by decide)).trans J37.out
        · exact (b3.up.2 38 (by decide)).trans J38.out
        · exact (b3.mg 0 (by decide)).1
        · exact (b3.mg 0 (by decide)).2
        · exact (b3.mg 1 (by decide)).1
        · exact (b3.mg 1 (by decide)).2
        · exact (b3.mg 2 (by decide)).1
        · exact (b3.mg 2 (by decide)).2
        · exact (b3.mg 3 (by decide)).1
        · exact (b3.mg 3 (by decide)).2
        · exact (b3.pd 0 (by decide)).1
        · exact (b3.pd 0 (by decide)).2
        · exact (b3.pd 1 (by decide)).1
        · exact (b3.pd 1 (by decide)).2
        · exact (b3.pd 2 (by decide)).1
        · exact (b3.pd 2 (by decide)).2
        · exact (b3.pd 3 (by decide)).1
        · exact (b3.pd 3 (by decide)).2
        · exact b3.bd 0 (by decide)
        · exact b3.bd 1 (by decide)
        · exact b3.bd 2 (by decide)
        · exact b3.bd 3 (by decide)
      have KN0 := Lib.hid hkn0
      have HK0 := Lib.hid hK0
      have hk0n : ∀ q ∈ K0, q.1 ≠ 0 → True := fun _ _ _ => trivial
      clear hkn0 hK0 b3 J34 J35 J36 J37 J38 HZ2 HBO H3 hk0n
      go_upto_region 13 with fail
      obtain ⟨bz, hbz⟩ : ∃ z, w4.heap.size = z := ⟨_, rfl⟩
      have h5 := H4.out.new #[.int .i64 1, .int .i64 0] 24
      obtain ⟨W5, hW5⟩ : ∃ z, w4.alloc (.cells #[.int .i64 1, .int .i64 0] 24) = z := ⟨_, rfl⟩
      rw [hbz, hW5] at h5
      rw [hW5]
      simp only [hbz]
      have H5 := Lib.hid (show St w0 W5 (As.cells bo c3 28 :: As.cells bz #[.int .i64 1, .int .i64 0] 24 :: As.cells bp pa 28 :: As.cells bc #[.map (some bm), .int .i64 fs] 66 :: As.mp 9 sK vV sOk bm n lk :: As.kn kb m' :: As.cells b6 Z 28 :: L) from St.sh [_, _, _, _, _, _, _] [1, 0, 6, 2, 3, 4, 5] (by decide) h5)
      clear h5 hW5 hbz H4
      have Z3 := Lib.hid KN0.out.size
      have hvg := getM_ok HVK.out
      have HVG := Lib.hid hvg
      have HPI := Lib.hid (show ∀ i, i < 53 → pa[i]? = some (p.at i) from fun i hi => by rw [← HPA.out, List.getElem?_toArray]; exact HP.out i hi)
      clear hvg
      have q0 := ((H5.out.blkm (b := bp) (.tail _ (.tail _ (.head _)))).cell 0).trans ((HPI.out 0 (by decide)).trans (show some (p.at 0) = some (.int .i64 (p.I 0)) from rfl))
      obtain ⟨y0, hy0⟩ : ∃ x, c3[0]? = some x := ⟨_, Array.getElem?_eq_getElem (by rw [Z3.out]; decide)⟩
      have hw := word_any (Comp.of (bc := bc) (bm := bm) H5.out (.tail _ (.tail _ (.tail _ (.head _)))) (.tail _ (.tail _ (.tail _ (.tail _ (.head _)))))) (HE.out.below H5.out.bel) displayS displayW (by decide) (by decide) (by decide +kernel) (by decide +kernel) (p.I 0) 2 false
      obtain ⟨x1, hv⟩ : ∃ z, wdM lk displayS displayW (p.I 0) 2 false = z := ⟨_, rfl⟩
      rw [hv] at hw
      have V1 := Lib.hid hv
      have HW := Lib.hid hw
      clear hv hw
      go_upto_region 14 with (go_at_call 31; refine HW.out.mono ?_; rintro e w1 ⟨rfl, hb⟩; have HN2 := Lib.hid (H5.out.of_below hb); clear hb q0; have d0 := HN2.out.cell 0; rw [hy0] at d0; have f0 := HN2.out.free 0)
      have HX1 := Lib.hid ((HN2.out).set 0 (.int .i64 x1))
      obtain ⟨WX1, hW⟩ : ∃ z, (w1).setCell ⟨bo, 0, none⟩ (.int .i64 x1) = z := ⟨_, rfl⟩
      obtain ⟨c11, hc⟩ : ∃ z, (c3).setIfInBounds 0 (.int .i64 x1) = z := ⟨_, rfl⟩
      have N1 := Lib.hid (show ∀ i, i ≠ 0 → c11[i]? = c3[i]? from fun i h0 => by rw [← hc]; exact set_ne (Ne.symm h0) _)
      have A1 := Lib.hid (show c11[0]? = some (.int .i64 x1) from by rw [← hc]; exact set_at (by rw [Z3.out]; decide) _)
      have ZX1 := Lib.hid (show c11.size = 53 from by rw [← hc, Array.size_setIfInBounds]; exact Z3.out)
      rw [hW, hc] at HX1
      rw [hW]
      clear hW hc hy0 d0 f0 HW HN2 H5
      have q0 := ((HX1.out.blkm (b := bp) (.tail _ (.tail _ (.head _)))).cell 1).trans ((HPI.out 1 (by decide)).trans (show some (p.at 1) = some (.int .i64 (p.I 1)) from rfl))
      obtain ⟨y0, hy0⟩ : ∃ x, c11[1]? = some x := ⟨_, Array.getElem?_eq_getElem (by rw [ZX1.out]; decide)⟩
      have hw := word_any (Comp.of (bc := bc) (bm := bm) HX1.out (.tail _ (.tail _ (.tail _ (.head _)))) (.tail _ (.tail _ (.tail _ (.tail _ (.head _)))))) (HE.out.below HX1.out.bel) positionS positionW (by decide) (by decide) (by decide +kernel) (by decide +kernel) (p.I 1) 0 false
      obtain ⟨x2, hv⟩ : ∃ z, wdM lk positionS positionW (p.I 1) 0 false = z := ⟨_, rfl⟩
      rw [hv] at hw
      have V2 := Lib.hid hv
      have HW := Lib.hid hw
      clear hv hw
      go_upto_region 15 with (go_at_call 31; refine HW.out.mono ?_; rintro e w1 ⟨rfl, hb⟩; have HN2 := Lib.hid (HX1.out.of_below hb); clear hb q0; have d0 := HN2.out.cell 1; rw [hy0] at d0; have f0 := HN2.out.free 1)
      have HX2 := Lib.hid ((HN2.out).set 1 (.int .i64 x2))
      obtain ⟨WX2, hW⟩ : ∃ z, (w1).setCell ⟨bo, 1, none⟩ (.int .i64 x2) = z := ⟨_, rfl⟩
      obtain ⟨c12, hc⟩ : ∃ z, (c11).setIfInBounds 1 (.int .i64 x2) = z := ⟨_, rfl⟩
      have N2 := Lib.hid (show ∀ i, i ≠ 1 → c12[i]? = c11[i]? from fun i h0 => by rw [← hc]; exact set_ne (Ne.symm h0) _)
      have A2 := Lib.hid (show c12[1]? = some (.int .i64 x2) from by rw [← hc]; exact set_at (by rw [ZX1.out]; decide) _)
      have ZX2 := Lib.hid (show c12.size = 53 from by rw [← hc, Array.size_setIfInBounds]; exact ZX1.out)
      rw [hW, hc] at HX2
      rw [hW]
      clear hW hc hy0 d0 f0 HW HN2 HX1
      have q0 := ((HX2.out.blkm (b := bp) (.tail _ (.tail _ (.head _)))).cell 2).trans ((HPI.out 2 (by decide)).trans (show some (p.at 2) = some (.int .i64 (p.I 2)) from rfl))
      have q1 := ((HX2.out.blkm (b := bp) (.tail _ (.tail _ (.head _)))).cell 3).trans ((HPI.out 3 (by decide)).trans (show some (p.at 3) = some (.int .i64 (p.I 3)) from rfl))
      obtain ⟨y0, hy0⟩ : ∃ x, c12[2]? = some x := ⟨_, Array.getElem?_eq_getElem (by rw [ZX2.out]; decide)⟩
      obtain ⟨y1, hy1⟩ : ∃ x, c12[3]? = some x := ⟨_, Array.getElem?_eq_getElem (by rw [ZX2.out]; decide)⟩
      have hw := long_any (Comp.of (bc := bc) (bm := bm) HX2.out (.tail _ (.tail _ (.tail _ (.head _)))) (.tail _ (.tail _ (.tail _ (.tail _ (.head _)))))) hin0 hin1 leftS (by decide) (HVG.out _) (p.I 2, p.I 3) (0, 0)
      obtain ⟨⟨x3, x3b⟩, hv⟩ : ∃ z, longM lk fs leftS (p.I 2, p.I 3) (0, 0) = z := ⟨_, rfl⟩
      rw [hv] at hw
      have V3 := Lib.hid hv
      have HW := Lib.hid hw
      clear hv hw
      go_upto_region 16 with (go_at_call 32; refine HW.out.mono ?_; rintro e w1 ⟨rfl, hb⟩; have HN2 := Lib.hid (HX2.out.of_below hb); clear hb q0 q1; have d0 := HN2.out.cell 2; rw [hy0] at d0; have f0 := HN2.out.free 2; have d1 := HN2.out.cell 3; rw [hy1] at d1; have f1 := HN2.out.free 3)
      have HX3 := Lib.hid (((HN2.out).set 2 (.int .i64 x3)).set 3 (.int .i64 x3b))
      obtain ⟨WX3, hW⟩ : ∃ z, ((w1).setCell ⟨bo, 2, none⟩ (.int .i64 x3)).setCell ⟨bo, 3, none⟩ (.int .i64 x3b) = z := ⟨_, rfl⟩
      obtain ⟨c13, hc⟩ : ∃ z, ((c12).setIfInBounds 2 (.int .i64 x3)).setIfInBounds 3 (.int .i64 x3b) = z := ⟨_, rfl⟩
      have N3 := Lib.hid (show ∀ i, i ≠ 2 → i ≠ 3 → c13[i]? = c12[i]? from fun i h0 h1 => by rw [← hc]; exact (set_ne (Ne.symm h1) _).trans (set_ne (Ne.symm h0) _))
      have A3 := Lib.hid (show c13[2]? = some (.int .i64 x3) from by rw [← hc]; exact (set_ne (by decide) _).trans (set_at (by rw [ZX2.out]; decide) _))
      have A3b := Lib.hid (show c13[3]? = some (.int .i64 x3b) from by rw [← hc]; exact set_at (by rw [Array.size_setIfInBounds, ZX2.out]; decide) _)
      have ZX3 := Lib.hid (show c13.size = 53 from by rw [← hc, Array.size_setIfInBounds, Array.size_setIfInBounds]; exact ZX2.out)
      rw [hW, hc] at HX3
      rw [hW]
      clear hW hc hy0 d0 f0 hy1 d1 f1 HW HN2 HX2
      have q0 := ((HX3.out.blkm (b := bp) (.tail _ (.tail _ (.head _)))).cell 4).trans ((HPI.out 4 (by decide)).trans (show some (p.at 4) = some (.int .i64 (p.I 4)) from rfl))
      have q1 := ((HX3.out.blkm (b := bp) (.tail _ (.tail _ (.head _)))).cell 5).trans ((HPI.out 5 (by decide)).trans (show some (p.at 5) = some (.int .i64 (p.I 5)) from rfl))
      obtain ⟨y0, hy0⟩ : ∃ x, c13[4]? = some x := ⟨_, Array.getElem?_eq_getElem (by rw [ZX3.out]; decide)⟩
      obtain ⟨y1, hy1⟩ : ∃ x, c13[5]? = some x := ⟨_, Array.getElem?_eq_getElem (by rw [ZX3.out]; decide)⟩
      have hw := long_any (Comp.of (bc := bc) (bm := bm) HX3.out (.tail _ (.tail _ (.tail _ (.head _)))) (.tail _ (.tail _ (.tail _ (.tail _ (.head _)))))) hin0 hin1 topS (by decide) (HVG.out _) (p.I 4, p.I 5) (0, 0)
      obtain ⟨⟨x4, x4b⟩, hv⟩ : ∃ z, longM lk fs topS (p.I 4, p.I 5) (0, 0) = z := ⟨_, rfl⟩
      rw [hv] at hw
      have V4 := Lib.hid hv
      have HW := Lib.hid hw
      clear hv hw
      go_upto_region 17 with (go_at_call 32; refine HW.out.mono ?_; rintro e w1 ⟨rfl, hb⟩; have HN2 := Lib.hid (HX3.out.of_below hb); clear hb q0 q1; have d0 := HN2.out.cell 4; rw [hy0] at d0; have f0 := HN2.out.free 4; have d1 := HN2.out.cell 5; rw [hy1] at d1; have f1 := HN2.out.free 5)
      have HX4 := Lib.hid (((HN2.out).set 4 (.int .i64 x4)).set 5 (.int .i64 x4b))
      obtain ⟨WX4, hW⟩ : ∃ z, ((w1).setCell ⟨bo, 4, none⟩ (.int .i64 x4)).setCell ⟨bo, 5, none⟩ (.int .i64 x4b) = z := ⟨_, rfl⟩
      obtain ⟨c14, hc⟩ : ∃ z, ((c13).setIfInBounds 4 (.int .i64 x4)).setIfInBounds 5 (.int .i64 x4b) = z := ⟨_, rfl⟩
      have N4 := Lib.hid (show ∀ i, i ≠ 4 → i ≠ 5 → c14[i]? = c13[i]? from fun i h0 h1 => by rw [← hc]; exact (set_ne (Ne.symm h1) _).trans (set_ne (Ne.symm h0) _))
      have A4 := Lib.hid (show c14[4]? = some (.int .i64 x4) from by rw [← hc]; exact (set_ne (by decide) _).trans (set_at (by rw [ZX3.out]; decide) _))
      have A4b := Lib.hid (show c14[5]? = some (.int .i64 x4b) from by rw [← hc]; exact set_at (by rw [Array.size_setIfInBounds, ZX3.out]; decide) _)
      have ZX4 := Lib.hid (show c14.size = 53 from by rw [← hc, Array.size_setIfInBounds, Array.size_setIfInBounds]; exact ZX3.out)
      rw [hW, hc] at HX4
      rw [hW]
      clear hW hc hy0 d0 f0 hy1 d1 f1 HW HN2 HX3
      have q0 := ((HX4.out.blkm (b := bp) (.tail _ (.tail _ (.head _)))).cell 6).trans ((HPI.out 6 (by decide)).trans (show some (p.at 6) = some (.int .i64 (p.I 6)) from rfl))
      have q1 := ((HX4.out.blkm (b := bp) (.tail _ (.tail _ (.head _)))).cell 7).trans ((HPI.out 7 (by decide)).trans (show some (p.at 7) = some (.int .i64 (p.I 7)) from rfl))
      obtain ⟨y0, hy0⟩ : ∃ x, c14[6]? = some x := ⟨_, Array.getElem?_eq_getElem (by rw [ZX4.out]; decide)⟩
      obtain ⟨y1, hy1⟩ : ∃ x, c14[7]? = some x := ⟨_, Array.getElem?_eq_getElem (by rw [ZX4.out]; decide)⟩
      have hw := long_any (Comp.of (bc := bc) (bm := bm) HX4.out (.tail _ (.tail _ (.tail _ (.head _)))) (.tail _ (.tail _ (.tail _ (.tail _ (.head _)))))) hin0 hin1 widthS (by decide) (HVG.out _) (p.I 6, p.I 7) (0, 0)
      obtain ⟨⟨x5, x5b⟩, hv⟩ : ∃ z, longM lk fs widthS (p.I 6, p.I 7) (0, 0) = z := ⟨_, rfl⟩
      rw [hv] at hw
      have V5 := Lib.hid hv
      have HW := Lib.hid hw
      clear hv hw
      go_upto_region 18 with (go_at_call 32; refine HW.out.mono ?_; rintro e w1 ⟨rfl, hb⟩; have HN2 := Lib.hid (HX4.out.of_below hb); clear hb q0 q1; have d0 := HN2.out.cell 6; rw [hy0] at d0; have f0 := HN2.out.free 6; have d1 := HN2.out.cell 7; rw [hy1] at d1; have f1 := HN2.out.free 7)
      have HX5 := Lib.hid (((HN2.out).set 6 (.int .i64 x5)).set 7 (.int .i64 x5b))
      obtain ⟨WX5, hW⟩ : ∃ z, ((w1).setCell ⟨bo, 6, none⟩ (.int .i64 x5)).setCell ⟨bo, 7, none⟩ (.int .i64 x5b) = z := ⟨_, rfl⟩
      obtain ⟨c15, hc⟩ : ∃ z, ((c14).setIfInBounds 6 (.int .i64 x5)).setIfInBounds 7 (.int .i64 x5b) = z := ⟨_, rfl⟩
      have N5 := Lib.hid (show ∀ i, i ≠ 6 → i ≠ 7 → c15[i]? = c14[i]? from fun i h0 h1 => by rw [← hc]; exact (set_ne (Ne.symm h1) _).trans (set_ne (Ne.symm h0) _))
      have A5 := Lib.hid (show c15[6]? = some (.int .i64 x5) from by rw [← hc]; exact (set_ne (by decide) _).trans (set_at (by rw [ZX4.out]; decide) _))
      have A5b := Lib.hid (show c15[7]? = some (.int .i64 x5b) from by rw [← hc]; exact set_at (by rw [Array.size_setIfInBounds, ZX4.out]; decide) _)
      have ZX5 := Lib.hid (show c15.size = 53 from by rw [← hc, Array.size_setIfInBounds, Array.size_setIfInBounds]; exact ZX4.out)
      rw [hW, hc] at HX5
      rw [hW]
      clear hW hc hy0 d0 f0 hy1 d1 f1 HW HN2 HX4
      have q0 := ((HX5.out.blkm (b := bp) (.tail _ (.tail _ (.head _)))).cell 8).trans ((HPI.out 8 (by decide)).trans (show some (p.at 8) = some (.int .i64 (p.I 8)) from rfl))
      have q1 := ((HX5.out.blkm (b := bp) (.tail _ (.tail _ (.head _)))).cell 9).trans ((HPI.out 9 (by decide)).trans (show some (p.at 9) = some (.int .i64 (p.I 9)) from rfl))
      obtain ⟨y0, hy0⟩ : ∃ x, c15[8]? = some x := ⟨_, Array.getElem?_eq_getElem (by rw [ZX5.out]; decide)⟩
      obtain ⟨y1, hy1⟩ : ∃ x, c15[9]? = some x := ⟨_, Array.getElem?_eq_getElem (by rw [ZX5.out]; decide)⟩
      have hw := long_any (Comp.of (bc := bc) (bm := bm) HX5.out (.tail _ (.tail _ (.tail _ (.head _)))) (.tail _ (.tail _ (.tail _ (.tail _ (.head _)))))) hin0 hin1 heightS (by decide) (HVG.out _) (p.I 8, p.I 9) (0, 0)
      obtain ⟨⟨x6, x6b⟩, hv⟩ : ∃ z, longM lk fs heightS (p.I 8, p.I 9) (0, 0) = z := ⟨_, rfl⟩
      rw [hv] at hw
      have V6 := Lib.hid hv
      have HW := Lib.hid hw
      clear hv hw
      go_upto_region 19 with (go_at_call 32; refine HW.out.mono ?_; rintro e w1 ⟨rfl, hb⟩; have HN2 := Lib.hid (HX5.out.of_below hb); clear hb q0 q1; have d0 := HN2.out.cell 8; rw [hy0] at d0; have f0 := HN2.out.free 8; have d1 := HN2.out.cell 9; rw [hy1] at d1; have f1 := HN2.out.free 9)
      have HX6 := Lib.hid (((HN2.out).set 8 (.int .i64 x6)).set 9 (.int .i64 x6b))
      obtain ⟨WX6, hW⟩ : ∃ z, ((w1).setCell ⟨bo, 8, none⟩ (.int .i64 x6)).setCell ⟨bo, 9, none⟩ (.int .i64 x6b) = z := ⟨_, rfl⟩
      obtain ⟨c16, hc⟩ : ∃ z, ((c15).setIfInBounds 8 (.int .i64 x6)).setIfInBounds 9 (.int .i64 x6b) = z := ⟨_, rfl⟩
      have N6 := Lib.hid (show ∀ i, i ≠ 8 → i ≠ 9 → c16[i]? = c15[i]? from fun i h0 h1 => by rw [← hc]; exact (set_ne (Ne.symm h1) _).trans (set_ne (Ne.symm h0) _))
      have A6 := Lib.hid (show c16[8]? = some (.int .i64 x6) from by rw [← hc]; exact (set_ne (by decide) _).trans (set_at (by rw [ZX5.out]; decide) _))
      have A6b := Lib.hid (show c16[9]? = some (.int .i64 x6b) from by rw [← hc]; exact set_at (by rw [Array.size_setIfInBounds, ZX5.out]; decide) _)
      have ZX6 := Lib.hid (show c16.size = 53 from by rw [← hc, Array.size_setIfInBounds, Array.size_setIfInBounds]; exact ZX5.out)
      rw [hW, hc] at HX6
      rw [hW]
      clear hW hc hy0 d0 f0 hy1 d1 f1 HW HN2 HX5
      have q0 := ((HX6.out.blkm (b := bp) (.tail _ (.tail _ (.head _)))).cell 10).trans ((HPI.out 10 (by decide)).trans (show some (p.at 10) = some (.int .i64 (p.I 10)) from rfl))
      have q1 := ((HX6.out.blkm (b := bp) (.tail _ (.tail _ (.head _)))).cell 11).trans ((HPI.out 11 (by decide)).trans (show some (p.at 11) = some (.int .i64 (p.I 11)) from rfl))
      have z0 := (HX6.out.blkm (b := bz) (.tail _ (.head _))).cell 0
      have z1 := (HX6.out.blkm (b := bz) (.tail _ (.head _))).cell 1
      simp at z0 z1
      obtain ⟨y0, hy0⟩ : ∃ x, c16[10]? = some x := ⟨_, Array.getElem?_eq_getElem (by rw [ZX6.out]; decide)⟩
      obtain ⟨y1, hy1⟩ : ∃ x, c16[11]? = some x := ⟨_, Array.getElem?_eq_getElem (by rw [ZX6.out]; decide)⟩
      have hw := long_any (Comp.of (bc := bc) (bm := bm) HX6.out (.tail _ (.tail _ (.tail _ (.head _)))) (.tail _ (.tail _ (.tail _ (.tail _ (.head _)))))) hin0 hin1 minwidthS (by decide) (HVG.out _) (p.I 10, p.I 11) (1, 0)
      obtain ⟨⟨x7, x7b⟩, hv⟩ : ∃ z, longM lk fs minwidthS (p.I 10, p.I 11) (1, 0) = z := ⟨_, rfl⟩
      rw [hv] at hw
      have V7 := Lib.hid hv
      have HW := Lib.hid hw
      clear hv hw
      go_upto_region 20 with (go_at_call 32; refine HW.out.mono ?_; rintro e w1 ⟨rfl, hb⟩; have HN2 := Lib.hid (HX6.out.of_below hb); clear hb q0 q1; have d0 := HN2.out.cell 10; rw [hy0] at d0; have f0 := HN2.out.free 10; have d1 := HN2.out.cell 11; rw [hy1] at d1; have f1 := HN2.out.free 11)
      have HX7 := Lib.hid (((HN2.out).set 10 (.int .i64 x7)).set 11 (.int .i64 x7b))
      obtain ⟨WX7, hW⟩ : ∃ z, ((w1).setCell ⟨bo, 10, none⟩ (.int .i64 x7)).setCell ⟨bo, 11, none⟩ (.int .i64 x7b) = z := ⟨_, rfl⟩
      obtain ⟨c17, hc⟩ : ∃ z, ((c16).setIfInBounds 10 (.int .i64 x7)).setIfInBounds 11 (.int .i64 x7b) = z := ⟨_, rfl⟩
      have N7 := Lib.hid (show ∀ i, i ≠ 10 → i ≠ 11 → c17[i]? = c16[i]? from fun i h0 h1 => by rw [← hc]; exact (set_ne (Ne.symm h1) _).trans (set_ne (Ne.symm h0) _))
      have A7 := Lib.hid (show c17[10]? = some (.int .i64 x7) from by rw [← hc]; exact (set_ne (by decide) _).trans (set_at (by rw [ZX6.out]; decide) _))
      have A7b := Lib.hid (show c17[11]? = some (.int .i64 x7b) from by rw [← hc]; exact set_at (by rw [Array.size_setIfInBounds, ZX6.out]; decide) _)
      have ZX7 := Lib.hid (show c17.size = 53 from by rw [← hc, Array.size_setIfInBounds, Array.size_setIfInBounds]; exact ZX6.out)
      rw [hW, hc] at HX7
      rw [hW]
      clear hW hc hy0 d0 f0 hy1 d1 f1 HW HN2 HX6
      clear z0 z1
      have q0 := ((HX7.out.blkm (b := bp) (.tail _ (.tail _ (.head _)))).cell 12).trans ((HPI.out 12 (by decide)).trans (show some (p.at 12) = some (.int .i64 (p.I 12)) from rfl))
      have q1 := ((HX7.out.blkm (b := bp) (.tail _ (.tail _ (.head _)))).cell 13).trans ((HPI.out 13 (by decide)).trans (show some (p.at 13) = some (.int .i64 (p.I 13)) from rfl))
      obtain ⟨y0, hy0⟩ : ∃ x, c17[12]? = some x := ⟨_, Array.getElem?_eq_getElem (by rw [ZX7.out]; decide)⟩
      obtain ⟨y1, hy1⟩ : ∃ x, c17[13]? = some x := ⟨_, Array.getElem?_eq_getElem (by rw [ZX7.out]; decide)⟩
      have hw := long_any (Comp.of (bc := bc) (bm := bm) HX7.out (.tail _ (.tail _ (.tail _ (.head _)))) (.tail _ (.tail _ (.tail _ (.tail _ (.head _)))))) hin0 hin1 maxwidthS (by decide) (HVG.out _) (p.I 12, p.I 13) (0, 0)
      obtain ⟨⟨x8, x8b⟩, hv⟩ : ∃ z, longM lk fs maxwidthS (p.I 12, p.I 13) (0, 0) = z := ⟨_, rfl⟩
      rw [hv] at hw
      have V8 := Lib.hid hv
      have HW := Lib.hid hw
      clear hv hw
      go_upto_region 21 with (go_at_call 32; refine HW.out.mono ?_; rintro e w1 ⟨rfl, hb⟩; have HN2 := Lib.hid (HX7.out.of_below hb); clear hb q0 q1; have d0 := HN2.out.cell 12; rw [hy0] at d0; have f0 := HN2.out.free 12; have d1 := HN2.out.cell 13; rw [hy1] at d1; have f1 := HN2.out.free 13)
      have HX8 := Lib.hid (((HN2.out).set 12 (.int .i64 x8)).set 13 (.int .i64 x8b))
      obtain ⟨WX8, hW⟩ : ∃ z, ((w1).setCell ⟨bo, 12, none⟩ (.int .i64 x8)).setCell ⟨bo, 13, none⟩ (.int .i64 x8b) = z := ⟨_, rfl⟩
      obtain ⟨c18, hc⟩ : ∃ z, ((c17).setIfInBounds 12 (.int .i64 x8)).setIfInBounds 13 (.int .i64 x8b) = z := ⟨_, rfl⟩
      have N8 := Lib.hid (show ∀ i, i ≠ 12 → i ≠ 13 → c18[i]? = c17[i]? from fun i h0 h1 => by rw [← hc]; exact (set_ne (Ne.symm h1) _).trans (set_ne (Ne.symm h0) _))
      have A8 := Lib.hid (show c18[12]? = some (.int .i64 x8) from by rw [← hc]; exact (set_ne (by decide) _).trans (set_at (by rw [ZX7.out]; decide) _))
      have A8b := Lib.hid (show c18[13]? = some (.int .i64 x8b) from by rw [← hc]; exact set_at (by rw [Array.size_setIfInBounds, ZX7.out]; decide) _)
      have ZX8 := Lib.hid (show c18.size = 53 from by rw [← hc, Array.size_setIfInBounds, Array.size_setIfInBounds]; exact ZX7.out)
      rw [hW, hc] at HX8
      rw [hW]
      clear hW hc hy0 d0 f0 hy1 d1 f1 HW HN2 HX7
      have q0 := ((HX8.out.blkm (b := bp) (.tail _ (.tail _ (.head _)))).cell 39).trans ((HPI.out 39 (by decide)).trans (show some (p.at 39) = some (.int .i64 (p.I 39)) from rfl))
      obtain ⟨y0, hy0⟩ : ∃ x, c18[39]? = some x := ⟨_, Array.getElem?_eq_getElem (by rw [ZX8.out]; decide)⟩
      have hw := word_any (Comp.of (bc := bc) (bm := bm) HX8.out (.tail _ (.tail _ (.tail _ (.head _)))) (.tail _ (.tail _ (.tail _ (.tail _ (.head _)))))) (HE.out.below HX8.out.bel) textalignS textalignW (by decide) (by decide) (by decide +kernel) (by decide +kernel) (p.I 39) 0 true
      obtain ⟨x9, hv⟩ : ∃ z, wdM lk textalignS textalignW (p.I 39) 0 true = z := ⟨_, rfl⟩
      rw [hv] at hw
      have V9 := Lib.hid hv
      have HW := Lib.hid hw
      clear hv hw
      go_upto_region 22 with (go_at_call 31; refine HW.out.mono ?_; rintro e w1 ⟨rfl, hb⟩; have HN2 := Lib.hid (HX8.out.of_below hb); clear hb q0; have d0 := HN2.out.cell 39; rw [hy0] at d0; have f0 := HN2.out.free 39)
      have HX9 := Lib.hid ((HN2.out).set 39 (.int .i64 x9))
      obtain ⟨WX9, hW⟩ : ∃ z, (w1).setCell ⟨bo, 39, none⟩ (.int .i64 x9) = z := ⟨_, rfl⟩
      obtain ⟨c19, hc⟩ : ∃ z, (c18).setIfInBounds 39 (.int .i64 x9) = z := ⟨_, rfl⟩
      have N9 := Lib.hid (show ∀ i, i ≠ 39 → c19[i]? = c18[i]? from fun i h0 => by rw [← hc]; exact set_ne (Ne.symm h0) _)
      have A9 := Lib.hid (show c19[39]? = some (.int .i64 x9) from by rw [← hc]; exact set_at (by rw [ZX8.out]; decide) _)
      have ZX9 := Lib.hid (show c19.size = 53 from by rw [← hc, Array.size_setIfInBounds]; exact ZX8.out)
      rw [hW, hc] at HX9
      rw [hW]
      clear hW hc hy0 d0 f0 HW HN2 HX8
      have q0 := ((HX9.out.blkm (b := bp) (.tail _ (.tail _ (.head _)))).cell 40).trans ((HPI.out 40 (by decide)).trans (show some (p.at 40) = some (.int .i64 (p.I 40)) from rfl))
      obtain ⟨y0, hy0⟩ : ∃ x, c19[40]? = some x := ⟨_, Array.getElem?_eq_getElem (by rw [ZX9.out]; decide)⟩
      have hw := word_any (Comp.of (bc := bc) (bm := bm) HX9.out (.tail _ (.tail _ (.tail _ (.head _)))) (.tail _ (.tail _ (.tail _ (.tail _ (.head _)))))) (HE.out.below HX9.out.bel) whitespaceS whitespaceW (by decide) (by decide) (by decide +kernel) (by decide +kernel) (p.I 40) 0 true
      obtain ⟨x10, hv⟩ : ∃ z, wdM lk whitespaceS whitespaceW (p.I 40) 0 true = z := ⟨_, rfl⟩
      rw [hv] at hw
      have V10 := Lib.hid hv
      have HW := Lib.hid hw
      clear hv hw
      go_upto_region 23 with (go_at_call 31; refine HW.out.mono ?_; rintro e w1 ⟨rfl, hb⟩; have HN2 := Lib.hid (HX9.out.of_below hb); clear hb q0; have d0 := HN2.out.cell 40; rw [hy0] at d0; have f0 := HN2.out.free 40)
      have HX10 := Lib.hid ((HN2.out).set 40 (.int .i64 x10))
      obtain ⟨WX10, hW⟩ : ∃ z, (w1).setCell ⟨bo, 40, none⟩ (.int .i64 x10) = z := ⟨_, rfl⟩
      obtain ⟨c20, hc⟩ : ∃ z, (c19).setIfInBounds 40 (.int .i64 x10) = z := ⟨_, rfl⟩
      have N10 := Lib.hid (show ∀ i, i ≠ 40 → c20[i]? = c19[i]? from fun i h0 => by rw [← hc]; exact set_ne (Ne.symm h0) _)
      have A10 := Lib.hid (show c20[40]? = some (.int .i64 x10) from by rw [← hc]; exact set_at (by rw [ZX9.out]; decide) _)
      have ZX10 := Lib.hid (show c20.size = 53 from by rw [← hc, Array.size_setIfInBounds]; exact ZX9.out)
      rw [hW, hc] at HX10
      rw [hW]
      clear hW hc hy0 d0 f0 HW HN2 HX9
      have q0 := ((HX10.out.blkm (b := bp) (.tail _ (.tail _ (.head _)))).cell 41).trans ((HPI.out 41 (by decide)).trans (show some (p.at 41) = some (.int .i64 (p.I 41)) from rfl))
      obtain ⟨y0, hy0⟩ : ∃ x, c20[41]? = some x := ⟨_, Array.getElem?_eq_getElem (by rw [ZX10.out]; decide)⟩
      have hw := word_any (Comp.of (bc := bc) (bm := bm) HX10.out (.tail _ (.tail _ (.tail _ (.head _)))) (.tail _ (.tail _ (.tail _ (.tail _ (.head _)))))) (HE.out.below HX10.out.bel) verticalalignS verticalalignW (by decide) (by decide) (by decide +kernel) (by decide +kernel) (p.I 41) 0 false
      obtain ⟨x11, hv⟩ : ∃ z, wdM lk verticalalignS verticalalignW (p.I 41) 0 false = z := ⟨_, rfl⟩
      rw [hv] at hw
      have V11 := Lib.hid hv
      have HW := Lib.hid hw
      clear hv hw
      go_upto_region 24 with (go_at_call 31; refine HW.out.mono ?_; rintro e w1 ⟨rfl, hb⟩; have HN2 := Lib.hid (HX10.out.of_below hb); clear hb q0; have d0 := HN2.out.cell 41; rw [hy0] at d0; have f0 := HN2.out.free 41)
      have HX11 := Lib.hid ((HN2.out).set 41 (.int .i64 x11))
      obtain ⟨WX11, hW⟩ : ∃ z, (w1).setCell ⟨bo, 41, none⟩ (.int .i64 x11) = z := ⟨_, rfl⟩
      obtain ⟨c21, hc⟩ : ∃ z, (c20).setIfInBounds 41 (.int .i64 x11) = z := ⟨_, rfl⟩
      have N11 := Lib.hid (show ∀ i, i ≠ 41 → c21[i]? = c20[i]? from fun i h0 => by rw [← hc]; exact set_ne (Ne.symm h0) _)
      have A11 := Lib.hid (show c21[41]? = some (.int .i64 x11) from by rw [← hc]; exact set_at (by rw [ZX10.out]; decide) _)
      have ZX11 := Lib.hid (show c21.size = 53 from by rw [← hc, Array.size_setIfInBounds]; exact ZX10.out)
      rw [hW, hc] at HX11
      rw [hW]
      clear hW hc hy0 d0 f0 HW HN2 HX10
      have q0 := ((HX11.out.blkm (b := bp) (.tail _ (.tail _ (.head _)))).cell 42).trans ((HPI.out 42 (by decide)).trans (show some (p.at 42) = some (.int .i64 (p.I 42)) from rfl))
      obtain ⟨y0, hy0⟩ : ∃ x, c21[42]? = some x := ⟨_, Array.getElem?_eq_getElem (by rw [ZX11.out]; decide)⟩
      have hw := word_any (Comp.of (bc := bc) (bm := bm) HX11.out (.tail _ (.tail _ (.tail _ (.head _)))) (.tail _ (.tail _ (.tail _ (.tail _ (.head _)))))) (HE.out.below HX11.out.bel) flexdirectionS flexdirectionW (by decide) (by decide) (by decide +kernel) (by decide +kernel) (p.I 42) 0 false
      obtain ⟨x12, hv⟩ : ∃ z, wdM lk flexdirectionS flexdirectionW (p.I 42) 0 false = z := ⟨_, rfl⟩
      rw [hv] at hw
      have V12 := Lib.hid hv
      have HW := Lib.hid hw
      clear hv hw
      go_upto_region 25 with (go_at_call 31; refine HW.out.mono ?_; rintro e w1 ⟨rfl, hb⟩; have HN2 := Lib.hid (HX11.out.of_below hb); clear hb q0; have d0 := HN2.out.cell 42; rw [hy0] at d0; have f0 := HN2.out.free 42)
      have HX12 := Lib.hid ((HN2.out).set 42 (.int .i64 x12))
      obtain ⟨WX12, hW⟩ : ∃ z, (w1).setCell ⟨bo, 42, none⟩ (.int .i64 x12) = z := ⟨_, rfl⟩
      obtain ⟨c22, hc⟩ : ∃ z, (c21).setIfInBounds 42 (.int .i64 x12) = z := ⟨_, rfl⟩
      have N12 := Lib.hid (show ∀ i, i ≠ 42 → c22[i]? = c21[i]? from fun i h0 => by rw [← hc]; exact set_ne (Ne.symm h0) _)
      have A12 := Lib.hid (show c22[42]? = some (.int .i64 x12) from by rw [← hc]; exact set_at (by rw [ZX11.out]; decide) _)
      have ZX12 := Lib.hid (show c22.size = 53 from by rw [← hc, Array.size_setIfInBounds]; exact ZX11.out)
      rw [hW, hc] at HX12
      rw [hW]
      clear hW hc hy0 d0 f0 HW HN2 HX11
      have q43 := ((HX12.out.blkm (b := bp) (.tail _ (.tail _ (.head _)))).cell 43).trans ((HPI.out 43 (by decide)).trans (show some (p.at 43) = some (.bool (p.B 43)) from rfl))
      obtain ⟨b43, hb43⟩ : ∃ b, p.B 43 = b := ⟨_, rfl⟩
      rw [hb43] at q43
      have HB43 := Lib.hid hb43
      clear hb43
      go_upto_if 113 with fail
      go_cut [12] (fun v12 wx => v12 = .int .i64 (if b43 = true then 1 else 0) ∧ wx = WX12)
      case' first =>
        cases b43 with
        | true =>
          go_wp2_with fail
          go_meet
          exact ⟨rfl, rfl⟩
        | false =>
          go_wp2_with fail
          go_meet
          exact ⟨rfl, rfl⟩
      obtain ⟨hv12, hwx⟩ := hcut
      subst hv12
      rw [hwx]
      clear hwx q43
      obtain ⟨s43, hs43⟩ : ∃ z : Int, (if b43 = true then 1 else 0) = z := ⟨_, rfl⟩
      rw [hs43]
      have HS43 := Lib.hid hs43
      clear hs43
      obtain ⟨y0, hy0⟩ : ∃ x, c22[43]? = some x := ⟨_, Array.getElem?_eq_getElem (by rw [ZX12.out]; decide)⟩
      have hw := word_any (Comp.of (bc := bc) (bm := bm) HX12.out (.tail _ (.tail _ (.tail _ (.head _)))) (.tail _ (.tail _ (.tail _ (.tail _ (.head _)))))) (HE.out.below HX12.out.bel) flexwrapS flexwrapW (by decide) (by decide) (by decide +kernel) (by decide +kernel) s43 0 false
      obtain ⟨x13, hv⟩ : ∃ z, wdM lk flexwrapS flexwrapW s43 0 false = z := ⟨_, rfl⟩
      rw [hv] at hw
      have V13 := Lib.hid hv
      have HW := Lib.hid hw
      clear hv hw
      go_upto_region 29 with (go_at_call 31; refine HW.out.mono ?_; rintro e w1 ⟨rfl, hb⟩; have HN2 := Lib.hid (HX12.out.of_below hb); clear hb ; have d0 := HN2.out.cell 43; rw [hy0] at d0; have f0 := HN2.out.free 43)
      have HX13 := Lib.hid ((HN2.out).set 43 (.bool (x13 == 1)))
      obtain ⟨WX13, hW⟩ : ∃ z, (w1).setCell ⟨bo, 43, none⟩ (.bool (x13 == 1)) = z := ⟨_, rfl⟩
      obtain ⟨c23, hc⟩ : ∃ z, (c22).setIfInBounds 43 (.bool (x13 == 1)) = z := ⟨_, rfl⟩
      have N13 := Lib.hid (show ∀ i, i ≠ 43 → c23[i]? = c22[i]? from fun i h0 => by rw [← hc]; exact set_ne (Ne.symm h0) _)
      have A13 := Lib.hid (show c23[43]? = some (.bool (x13 == 1)) from by rw [← hc]; exact set_at (by rw [ZX12.out]; decide) _)
      have ZX13 := Lib.hid (show c23.size = 53 from by rw [← hc, Array.size_setIfInBounds]; exact ZX12.out)
      rw [hW, hc] at HX13
      rw [hW]
      clear hW hc hy0 d0 f0 HW HN2 HX12
      have q0 := ((HX13.out.blkm (b := bp) (.tail _ (.tail _ (.head _)))).cell 44).trans ((HPI.out 44 (by decide)).trans (show some (p.at 44) = some (.int .i64 (p.I 44)) from rfl))
      obtain ⟨y0, hy0⟩ : ∃ x, c23[44]? = some x := ⟨_, Array.getElem?_eq_getElem (by rw [ZX13.out]; decide)⟩
      have hw := number_any (Comp.of (bc := bc) (bm := bm) HX13.out (.tail _ (.tail _ (.tail _ (.head _)))) (.tail _ (.tail _ (.tail _ (.tail _ (.head _)))))) flexgrowS (by decide) 1 (p.I 44) 0 (.inl rfl) (HVG.out _)
      obtain ⟨x14, hv⟩ : ∃ z, numM lk flexgrowS 1 (p.I 44) 0 = z := ⟨_, rfl⟩
      rw [hv] at hw
      have V14 := Lib.hid hv
      have HW := Lib.hid hw
      clear hv hw
      go_upto_region 30 with (go_at_call 33; refine HW.out.mono ?_; rintro e w1 ⟨rfl, hb⟩; have HN2 := Lib.hid (HX13.out.of_below hb); clear hb q0; have d0 := HN2.out.cell 44; rw [hy0] at d0; have f0 := HN2.out.free 44)
      have HX14 := Lib.hid ((HN2.out).set 44 (.int .i64 x14))
      obtain ⟨WX14, hW⟩ : ∃ z, (w1).setCell ⟨bo, 44, none⟩ (.int .i64 x14) = z := ⟨_, rfl⟩
      obtain ⟨c24, hc⟩ : ∃ z, (c23).setIfInBounds 44 (.int .i64 x14) = z := ⟨_, rfl⟩
      have N14 := Lib.hid (show ∀ i, i ≠ 44 → c24[i]? = c23[i]? from fun i h0 => by rw [← hc]; exact set_ne (Ne.symm h0) _)
      have A14 := Lib.hid (show c24[44]? = some (.int .i64 x14) from by rw [← hc]; exact set_at (by rw [ZX13.out]; decide) _)
      have ZX14 := Lib.hid (show c24.size = 53 from by rw [← hc, Array.size_setIfInBounds]; exact ZX13.out)
      rw [hW, hc] at HX14
      rw [hW]
      clear hW hc hy0 d0 f0 HW HN2 HX13
      have q0 := ((HX14.out.blkm (b := bp) (.tail _ (.tail _ (.head _)))).cell 45).trans ((HPI.out 45 (by decide)).trans (show some (p.at 45) = some (.int .i64 (p.I 45)) from rfl))
      obtain ⟨y0, hy0⟩ : ∃ x, c24[45]? = some x := ⟨_, Array.getElem?_eq_getElem (by rw [ZX14.out]; decide)⟩
      have hw := number_any (Comp.of (bc := bc) (bm := bm) HX14.out (.tail _ (.tail _ (.tail _ (.head _)))) (.tail _ (.tail _ (.tail _ (.tail _ (.head _)))))) flexshrinkS (by decide) 1 (p.I 45) 1000 (.inl rfl) (HVG.out _)
      obtain ⟨x15, hv⟩ : ∃ z, numM lk flexshrinkS 1 (p.I 45) 1000 = z := ⟨_, rfl⟩
      rw [hv] at hw
      have V15 := Lib.hid hv
      have HW := Lib.hid hw
      clear hv hw
      go_upto_region 31 with (go_at_call 33; refine HW.out.mono ?_; rintro e w1 ⟨rfl, hb⟩; have HN2 := Lib.hid (HX14.out.of_below hb); clear hb q0; have d0 := HN2.out.cell 45; rw [hy0] at d0; have f0 := HN2.out.free 45)
      have HX15 := Lib.hid ((HN2.out).set 45 (.int .i64 x15))
      obtain ⟨WX15, hW⟩ : ∃ z, (w1).setCell ⟨bo, 45, none⟩ (.int .i64 x15) = z := ⟨_, rfl⟩
      obtain ⟨c25, hc⟩ : ∃ z, (c24).setIfInBounds 45 (.int .i64 x15) = z := ⟨_, rfl⟩
      have N15 := Lib.hid (show ∀ i, i ≠ 45 → c25[i]? = c24[i]? from fun i h0 => by rw [← hc]; exact set_ne (Ne.symm h0) _)
      have A15 := Lib.hid (show c25[45]? = some (.int .i64 x15) from by rw [← hc]; exact set_at (by rw [ZX14.out]; decide) _)
      have ZX15 := Lib.hid (show c25.size = 53 from by rw [← hc, Array.size_setIfInBounds]; exact ZX14.out)
      rw [hW, hc] at HX15
      rw [hW]
      clear hW hc hy0 d0 f0 HW HN2 HX14
      have q0 := ((HX15.out.blkm (b := bp) (.tail _ (.tail _ (.head _)))).cell 46).trans ((HPI.out 46 (by decide)).trans (show some (p.at 46) = some (.int .i64 (p.I 46)) from rfl))
      have q1 := ((HX15.out.blkm (b := bp) (.tail _ (.tail _ (.head _)))).cell 47).trans ((HPI.out 47 (by decide)).trans (show some (p.at 47) = some (.int .i64 (p.I 47)) from rfl))
      obtain ⟨y0, hy0⟩ : ∃ x, c25[46]? = some x := ⟨_, Array.getElem?_eq_getElem (by rw [ZX15.out]; decide)⟩
      obtain ⟨y1, hy1⟩ : ∃ x, c25[47]? = some x := ⟨_, Array.getElem?_eq_getElem (by rw [ZX15.out]; decide)⟩
      have hw := long_any (Comp.of (bc := bc) (bm := bm) HX15.out (.tail _ (.tail _ (.tail _ (.head _)))) (.tail _ (.tail _ (.tail _ (.tail _ (.head _)))))) hin0 hin1 flexbasisS (by decide) (HVG.out _) (p.I 46, p.I 47) (0, 0)
      obtain ⟨⟨x16, x16b⟩, hv⟩ : ∃ z, longM lk fs flexbasisS (p.I 46, p.I 47) (0, 0) = z := ⟨_, rfl⟩
      rw [hv] at hw
      have V16 := Lib.hid hv
      have HW := Lib.hid hw
      clear hv hw
      go_upto_region 32 with (go_at_call 32; refine HW.out.mono ?_; rintro e w1 ⟨rfl, hb⟩; have HN2 := Lib.hid (HX15.out.of_below hb); clear hb q0 q1; have d0 := HN2.out.cell 46; rw [hy0] at d0; have f0 := HN2.out.free 46; have d1 := HN2.out.cell 47; rw [hy1] at d1; have f1 := HN2.out.free 47)
      have HX16 := Lib.hid (((HN2.out).set 46 (.int .i64 x16)).set 47 (.int .i64 x16b))
      obtain ⟨WX16, hW⟩ : ∃ z, ((w1).setCell ⟨bo, 46, none⟩ (.int .i64 x16)).setCell ⟨bo, 47, none⟩ (.int .i64 x16b) = z := ⟨_, rfl⟩
      obtain ⟨c26, hc⟩ : ∃ z, ((c25).setIfInBounds 46 (.int .i64 x16)).setIfInBounds 47 (.int .i64 x16b) = z := ⟨_, rfl⟩
      have N16 := Lib.hid (show ∀ i, i ≠ 46 → i ≠ 47 → c26[i]? = c25[i]? from fun i h0 h1 => by rw [← hc]; exact (set_ne (Ne.symm h1) _).trans (set_ne (Ne.symm h0) _))
      have A16 := Lib.hid (show c26[46]? = some (.int .i64 x16) from by rw [← hc]; exact (set_ne (by decide) _).trans (set_at (by rw [ZX15.out]; decide) _))
      have A16b := Lib.hid (show c26[47]? = some (.int .i64 x16b) from by rw [← hc]; exact set_at (by rw [Array.size_setIfInBounds, ZX15.out]; decide) _)
      have ZX16 := Lib.hid (show c26.size = 53 from by rw [← hc, Array.size_setIfInBounds, Array.size_setIfInBounds]; exact ZX15.out)
      rw [hW, hc] at HX16
      rw [hW]
      clear hW hc hy0 d0 f0 hy1 d1 f1 HW HN2 HX15
      have q0 := ((HX16.out.blkm (b := bp) (.tail _ (.tail _ (.head _)))).cell 48).trans ((HPI.out 48 (by decide)).trans (show some (p.at 48) = some (.int .i64 (p.I 48)) from rfl))
      obtain ⟨y0, hy0⟩ : ∃ x, c26[48]? = some x := ⟨_, Array.getElem?_eq_getElem (by rw [ZX16.out]; decide)⟩
      have hw := number_any (Comp.of (bc := bc) (bm := bm) HX16.out (.tail _ (.tail _ (.tail _ (.head _)))) (.tail _ (.tail _ (.tail _ (.tail _ (.head _)))))) orderS (by decide) 1000 (p.I 48) 0 (.inr rfl) (HVG.out _)
      obtain ⟨x17, hv⟩ : ∃ z, numM lk orderS 1000 (p.I 48) 0 = z := ⟨_, rfl⟩
      rw [hv] at hw
      have V17 := Lib.hid hv
      have HW := Lib.hid hw
      clear hv hw
      go_upto_region 33 with (go_at_call 33; refine HW.out.mono ?_; rintro e w1 ⟨rfl, hb⟩; have HN2 := Lib.hid (HX16.out.of_below hb); clear hb q0; have d0 := HN2.out.cell 48; rw [hy0] at d0; have f0 := HN2.out.free 48)
      have HX17 := Lib.hid ((HN2.out).set 48 (.int .i64 x17))
      obtain ⟨WX17, hW⟩ : ∃ z, (w1).setCell ⟨bo, 48, none⟩ (.int .i64 x17) = z := ⟨_, rfl⟩
      obtain ⟨c27, hc⟩ : ∃ z, (c26).setIfInBounds 48 (.int .i64 x17) = z := ⟨_, rfl⟩
      have N17 := Lib.hid (show ∀ i, i ≠ 48 → c27[i]? = c26[i]? from fun i h0 => by rw [← hc]; exact set_ne (Ne.symm h0) _)
      have A17 := Lib.hid (show c27[48]? = some (.int .i64 x17) from by rw [← hc]; exact set_at (by rw [ZX16.out]; decide) _)
      have ZX17 := Lib.hid (show c27.size = 53 from by rw [← hc, Array.size_setIfInBounds]; exact ZX16.out)
      rw [hW, hc] at HX17
      rw [hW]
      clear hW hc hy0 d0 f0 HW HN2 HX16
      have q0 := ((HX17.out.blkm (b := bp) (.tail _ (.tail _ (.head _)))).cell 49).trans ((HPI.out 49 (by decide)).trans (show some (p.at 49) = some (.int .i64 (p.I 49)) from rfl))
      obtain ⟨y0, hy0⟩ : ∃ x, c27[49]? = some x := ⟨_, Array.getElem?_eq_getElem (by rw [ZX17.out]; decide)⟩
      have hw := number_any (Comp.of (bc := bc) (bm := bm) HX17.out (.tail _ (.tail _ (.tail _ (.head _)))) (.tail _ (.tail _ (.tail _ (.tail _ (.head _)))))) zindexS (by decide) 1000 (p.I 49) 0 (.inr rfl) (HVG.out _)
      obtain ⟨x18, hv⟩ : ∃ z, numM lk zindexS 1000 (p.I 49) 0 = z := ⟨_, rfl⟩
      rw [hv] at hw
      have V18 := Lib.hid hv
      have HW := Lib.hid hw
      clear hv hw
      go_upto_region 34 with (go_at_call 33; refine HW.out.mono ?_; rintro e w1 ⟨rfl, hb⟩; have HN2 := Lib.hid (HX17.out.of_below hb); clear hb q0; have d0 := HN2.out.cell 49; rw [hy0] at d0; have f0 := HN2.out.free 49)
      have HX18 := Lib.hid ((HN2.out).set 49 (.int .i64 x18))
      obtain ⟨WX18, hW⟩ : ∃ z, (w1).setCell ⟨bo, 49, none⟩ (.int .i64 x18) = z := ⟨_, rfl⟩
      obtain ⟨c28, hc⟩ : ∃ z, (c27).setIfInBounds 49 (.int .i64 x18) = z := ⟨_, rfl⟩
      have N18 := Lib.hid (show ∀ i, i ≠ 49 → c28[i]? = c27[i]? from fun i h0 => by rw [← hc]; exact set_ne (Ne.symm h0) _)
      have A18 := Lib.hid (show c28[49]? = some (.int .i64 x18) from by rw [← hc]; exact set_at (by rw [ZX17.out]; decide) _)
      have ZX18 := Lib.hid (show c28.size = 53 from by rw [← hc, Array.size_setIfInBounds]; exact ZX17.out)
      rw [hW, hc] at HX18
      rw [hW]
      clear hW hc hy0 d0 f0 HW HN2 HX17
      have q50 := ((HX18.out.blkm (b := bp) (.tail _ (.tail _ (.head _)))).cell 50).trans ((HPI.out 50 (by decide)).trans (show some (p.at 50) = some (.bool (p.B 50)) from rfl))
      obtain ⟨b50, hb50⟩ : ∃ b, p.B 50 = b := ⟨_, rfl⟩
      rw [hb50] at q50
      have HB50 := Lib.hid hb50
      clear hb50
      have hgz := get_any (Comp.of (bc := bc) (bm := bm) HX18.out (.tail _ (.tail _ (.tail _ (.head _)))) (.tail _ (.tail _ (.tail _ (.tail _ (.head _)))))) zindexS (by decide)
      obtain ⟨⟨⟨gk, gn, gw⟩, gh⟩, hG⟩ : ∃ g, getM lk zindexS = g := ⟨_, rfl⟩
      rw [hG] at hgz
      simp only [Va.cells] at hgz
      have HGZ := Lib.hid hgz
      have HGM := Lib.hid hG
      clear hgz hG
      go_upto_block 2 with (go_at_call 34; refine HGZ.out.mono ?_; rintro e w1 ⟨rfl, hb⟩; have HN2 := Lib.hid ((HX18.out.of_below hb).new #[.int .i64 gk, .int .i64 gn, .string (S gw)] 68).swap; clear hb q50)
      obtain ⟨b13, hb13⟩ : ∃ z, w1.heap.size = z := ⟨_, rfl⟩
      obtain ⟨WZ, hWZ⟩ : ∃ z, w1.alloc (.cells #[.int .i64 gk, .int .i64 gn, .string (S gw)] 68) = z := ⟨_, rfl⟩
      rw [hb13, hWZ] at HN2
      try rw [hWZ]
      try simp only [hb13]
      clear hb13 hWZ HX18 HGZ
      obtain ⟨za, hza⟩ : ∃ b, (if gh = 1 then b50 else if gh = 3 then gk == 1 else true) = b := ⟨_, rfl⟩
      have HZA := Lib.hid hza
      clear hza
      obtain ⟨y0, hy0⟩ : ∃ x, c28[50]? = some x := ⟨_, Array.getElem?_eq_getElem (by rw [ZX18.out]; decide)⟩
      go_cut [152, 157] (fun _ _ wx => St w0 wx (As.cells bo (c28.setIfInBounds 50 (.bool za)) 28 :: As.cells b13 #[.int .i64 gk, .int .i64 gn, .string (S gw)] 68 :: As.cells bz #[.int .i64 1, .int .i64 0] 24 :: As.cells bp pa 28 :: As.cells bc #[.map (some bm), .int .i64 fs] 66 :: As.mp 9 sK vV sOk bm n lk :: As.kn kb m' :: As.cells b6 Z 28 :: L))
      case' first =>
        have d0 := HN2.out.cell 50
        rw [hy0] at d0
        have f0 := HN2.out.free 50
        have x0 := HN2.out.swap.cell 0
        simp at x0
        have q50 := ((HN2.out.blkm (b := bp) (.tail _ (.tail _ (.tail _ (.head _))))).cell 50).trans ((HPI.out 50 (by decide)).trans (show some (p.at 50) = some (.bool (p.B 50)) from rfl))
        rw [HB50.out] at q50
        have e0 := HZA.out
        by_cases k1 : gh = 1
        · subst k1
          rw [if_pos rfl] at e0
          have E0 := Lib.hid e0
          clear e0
          go_wp2_with fail
          go_meet
          rw [← E0.out]; exact HN2.out.set 50 _
        rw [if_neg k1] at e0
        have n1 : (gh == 1) = false := by rw [beq_eq_false_iff_ne]; exact k1
        by_cases k3 : gh = 3
        · subst k3
          rw [if_pos rfl] at e0
          have E0 := Lib.hid e0
          clear e0 k1 n1
          go_wp2_with fail
          go_meet
          rw [← E0.out]; exact HN2.out.set 50 _
        · rw [if_neg k3] at e0
          have n3 : (gh == 3) = false := by rw [beq_eq_false_iff_ne]; exact k3
          have E0 := Lib.hid e0
          clear e0 k1 k3
          go_wp2_with fail
          go_meet
          rw [← E0.out]; exact HN2.out.set 50 _
      have HY := Lib.hid hcut.swap.drop
      clear hcut HN2 hy0
      obtain ⟨cY, hc⟩ : ∃ z, c28.setIfInBounds 50 (.bool za) = z := ⟨_, rfl⟩
      have NY := Lib.hid (show ∀ i, i ≠ 50 → cY[i]? = c28[i]? from fun i h0 => by rw [← hc]; exact set_ne (Ne.symm h0) _)
      have AY := Lib.hid (show cY[50]? = some (.bool za) from by rw [← hc]; exact set_at (by rw [ZX18.out]; decide) _)
      have ZY := Lib.hid (show cY.size = 53 from by rw [← hc, Array.size_setIfInBounds]; exact ZX18.out)
      rw [hc] at HY
      clear hc
      have q0 := ((HY.out.blkm (b := bp) (.tail _ (.tail _ (.head _)))).cell 51).trans ((HPI.out 51 (by decide)).trans (show some (p.at 51) = some (.int .i64 (p.I 51)) from rfl))
      obtain ⟨y0, hy0⟩ : ∃ x, cY[51]? = some x := ⟨_, Array.getElem?_eq_getElem (by rw [ZY.out]; decide)⟩
      have hw := word_any (Comp.of (bc := bc) (bm := bm) HY.out (.tail _ (.tail _ (.tail _ (.head _)))) (.tail _ (.tail _ (.tail _ (.tail _ (.head _)))))) (HE.out.below HY.out.bel) overflowS overflowW (by decide) (by decide) (by decide +kernel) (by decide +kernel) (p.I 51) 0 false
      obtain ⟨x19, hv⟩ : ∃ z, wdM lk overflowS overflowW (p.I 51) 0 false = z := ⟨_, rfl⟩
      rw [hv] at hw
      have V19 := Lib.hid hv
      have HW := Lib.hid hw
      clear hv hw
      go_upto_region 42 with (go_at_call 31; refine HW.out.mono ?_; rintro e w1 ⟨rfl, hb⟩; have HN2 := Lib.hid (HY.out.of_below hb); clear hb q0; have d0 := HN2.out.cell 51; rw [hy0] at d0; have f0 := HN2.out.free 51)
      have HX19 := Lib.hid ((HN2.out).set 51 (.int .i64 x19))
      obtain ⟨WX19, hW⟩ : ∃ z, (w1).setCell ⟨bo, 51, none⟩ (.int .i64 x19) = z := ⟨_, rfl⟩
      obtain ⟨c29, hc⟩ : ∃ z, (cY).setIfInBounds 51 (.int .i64 x19) = z := ⟨_, rfl⟩
      have N19 := Lib.hid (show ∀ i, i ≠ 51 → c29[i]? = cY[i]? from fun i h0 => by rw [← hc]; exact set_ne (Ne.symm h0) _)
      have A19 := Lib.hid (show c29[51]? = some (.int .i64 x19) from by rw [← hc]; exact set_at (by rw [ZY.out]; decide) _)
      have ZX19 := Lib.hid (show c29.size = 53 from by rw [← hc, Array.size_setIfInBounds]; exact ZY.out)
      rw [hW, hc] at HX19
      rw [hW]
      clear hW hc hy0 d0 f0 HW HN2 HY
      have q0 := ((HX19.out.blkm (b := bp) (.tail _ (.tail _ (.head _)))).cell 52).trans ((HPI.out 52 (by decide)).trans (show some (p.at 52) = some (.int .i64 (p.I 52)) from rfl))
      obtain ⟨y0, hy0⟩ : ∃ x, c29[52]? = some x := ⟨_, Array.getElem?_eq_getElem (by rw [ZX19.out]; decide)⟩
      have hw := word_any (Comp.of (bc := bc) (bm := bm) HX19.out (.tail _ (.tail _ (.tail _ (.head _)))) (.tail _ (.tail _ (.tail _ (.tail _ (.head _)))))) (HE.out.below HX19.out.bel) visibilityS visibilityW (by decide) (by decide) (by decide +kernel) (by decide +kernel) (p.I 52) 0 true
      obtain ⟨x20, hv⟩ : ∃ z, wdM lk visibilityS visibilityW (p.I 52) 0 true = z := ⟨_, rfl⟩
      rw [hv] at hw
      have V20 := Lib.hid hv
      have HW := Lib.hid hw
      clear hv hw
      go_upto_region 43 with (go_at_call 31; refine HW.out.mono ?_; rintro e w1 ⟨rfl, hb⟩; have HN2 := Lib.hid (HX19.out.of_below hb); clear hb q0; have d0 := HN2.out.cell 52; rw [hy0] at d0; have f0 := HN2.out.free 52)
      have HX20 := Lib.hid ((HN2.out).set 52 (.int .i64 x20))
      obtain ⟨WX20, hW⟩ : ∃ z, (w1).setCell ⟨bo, 52, none⟩ (.int .i64 x20) = z := ⟨_, rfl⟩
      obtain ⟨c30, hc⟩ : ∃ z, (c29).setIfInBounds 52 (.int .i64 x20) = z := ⟨_, rfl⟩
      have N20 := Lib.hid (show ∀ i, i ≠ 52 → c30[i]? = c29[i]? from fun i h0 => by rw [← hc]; exact set_ne (Ne.symm h0) _)
      have A20 := Lib.hid (show c30[52]? = some (.int .i64 x20) from by rw [← hc]; exact set_at (by rw [ZX19.out]; decide) _)
      have ZX20 := Lib.hid (show c30.size = 53 from by rw [← hc, Array.size_setIfInBounds]; exact ZX19.out)
      rw [hW, hc] at HX20
      rw [hW]
      clear hW hc hy0 d0 f0 HW HN2 HX19
      have B0 := ((N20.out 0 (by decide)).trans ((N19.out 0 (by decide)).trans ((NY.out 0 (by decide)).trans ((N18.out 0 (by decide)).trans ((N17.out 0 (by decide)).trans ((N16.out 0 (by decide) (by decide)).trans ((N15.out 0 (by decide)).trans ((N14.out 0 (by decide)).trans ((N13.out 0 (by decide)).trans ((N12.out 0 (by decide)).trans ((N11.out 0 (by decide)).trans ((N10.out 0 (by decide)).trans ((N9.out 0 (by decide)).trans ((N8.out 0 (by decide) (by decide)).trans ((N7.out 0 (by decide) (by decide)).trans ((N6.out 0 (by decide) (by decide)).trans ((N5.out 0 (by decide) (by decide)).trans ((N4.out 0 (by decide) (by decide)).trans ((N3.out 0 (by decide) (by decide)).trans ((N2.out 0 (by decide)).trans A1.out))))))))))))))))))))
      have B1 := ((N20.out 1 (by decide)).trans ((N19.out 1 (by decide)).trans ((NY.out 1 (by decide)).trans ((N18.out 1 (by decide)).trans ((N17.out 1 (by decide)).trans ((N16.out 1 (by decide) (by decide)).trans ((N15.out 1 (by decide)).trans ((N14.out 1 (by decide)).trans ((N13.out 1 (by decide)).trans ((N12.out 1 (by decide)).trans ((N11.out 1 (by decide)).trans ((N10.out 1 (by decide)).trans ((N9.out 1 (by decide)).trans ((N8.out 1 (by decide) (by decide)).trans ((N7.out 1 (by decide) (by decide)).trans ((N6.out 1 (by decide) (by decide)).trans ((N5.out 1 (by decide) (by decide)).trans ((N4.out 1 (by decide) (by decide)).trans ((N3.out 1 (by decide) (by decide)).trans A2.out)))))))))))))))))))
      have LOW := Lib.hid (show ∀ i, i < 53 → i ≠ 0 → c30[i]? = some ((applyM lk p).at i) from by
        intro i hi hi0
        have hcs : i = 1 ∨ i = 2 ∨ i = 3 ∨ i = 4 ∨ i = 5 ∨ i = 6 ∨ i = 7 ∨ i = 8 ∨ i = 9 ∨ i = 10 ∨ i = 11 ∨ i = 12 ∨ i = 13 ∨ i = 14 ∨ i = 15 ∨ i = 16 ∨ i = 17 ∨ i = 18 ∨ i = 19 ∨ i = 20 ∨ i = 21 ∨ i = 22 ∨ i = 23 ∨ i = 24 ∨ i = 25 ∨ i = 26 ∨ i = 27 ∨ i = 28 ∨ i = 29 ∨ i = 30 ∨ i = 31 ∨ i = 32 ∨ i = 33 ∨ i = 34 ∨ i = 35 ∨ i = 36 ∨ i = 37 ∨ i = 38 ∨ i = 39 ∨ i = 40 ∨ i = 41 ∨ i = 42 ∨ i = 43 ∨ i = 44 ∨ i = 45 ∨ i = 46 ∨ i = 47 ∨ i = 48 ∨ i = 49 ∨ i = 50 ∨ i = 51 ∨ i = 52 := by omega
        rcases hcs with rfl | rfl | rfl | rfl | rfl | rfl | rfl | rfl | rfl | rfl | rfl | rfl | rfl | rfl | rfl | rfl | rfl | rfl | rfl | rfl | rfl | rfl | rfl | rfl | rfl | rfl | rfl | rfl | rfl | rfl | rfl | rfl | rfl | rfl | rfl | rfl | rfl | rfl | rfl | rfl | rfl | rfl | rfl | rfl | rfl | rfl | rfl | rfl | rfl | rfl | rfl | rfl
        · exact (((N20.out 1 (by decide)).trans ((N19.out 1 (by decide)).trans ((NY.out 1 (by decide)).trans ((N18.out 1 (by decide)).trans ((N17.out 1 (by decide)).trans ((N16.out 1 (by decide) (by decide)).trans ((N15.out 1 (by decide)).trans ((N14.out 1 (by decide)).trans ((N13.out 1 (by decide)).trans ((N12.out 1 (by decide)).trans ((N11.out 1 (by decide)).trans ((N10.out 1 (by decide)).trans ((N9.out 1 (by decide)).trans ((N8.out 1 (by decide) (by decide)).trans ((N7.out 1 (by decide) (by decide)).trans ((N6.out 1 (by decide) (by decide)).trans ((N5.out 1 (by decide) (by decide)).trans ((N4.out 1 (by decide) (by decide)).trans ((N3.out 1 (by decide) (by decide)).trans A2.out)))))))))))))))))))).trans (by have e1 := V2.out; rw [show (applyM lk p).at 1 = .int .i64 (wdM lk positionS positionW (p.I 1) 0 false) from rfl, e1])
        · exact (((N20.out 2 (by decide)).trans ((N19.out 2 (by decide)).trans ((NY.out 2 (by decide)).trans ((N18.out 2 (by decide)).trans ((N17.out 2 (by decide)).trans ((N16.out 2 (by decide) (by decide)).trans ((N15.out 2 (by decide)).trans ((N14.out 2 (by decide)).trans ((N13.out 2 (by decide)).trans ((N12.out 2 (by decide)).trans ((N11.out 2 (by decide)).trans ((N10.out 2 (by decide)).trans ((N9.out 2 (by decide)).trans ((N8.out 2 (by decide) (by decide)).trans ((N7.out 2 (by decide) (by decide)).trans ((N6.out 2 (by decide) (by decide)).trans ((N5.out 2 (by decide) (by decide)).trans ((N4.out 2 (by decide) (by decide)).trans A3.out))))))))))))))))))).trans (by have e1 := V3.out; have e2 := HFS.out; rw [show (applyM lk p).at 2 = .int .i64 (longM lk (fontM lk (p.I 37)) leftS (p.I 2, p.I 3) (0, 0)).1 from rfl, e2, e1])
        · exact (((N20.out 3 (by decide)).trans ((N19.out 3 (by decide)).trans ((NY.out 3 (by decide)).trans ((N18.out 3 (by decide)).trans ((N17.out 3 (by decide)).trans ((N16.out 3 (by decide) (by decide)).trans ((N15.out 3 (by decide)).trans ((N14.out 3 (by decide)).trans ((N13.out 3 (by decide)).trans ((N12.out 3 (by decide)).trans ((N11.out 3 (by decide)).trans ((N10.out 3 (by decide)).trans ((N9.out 3 (by decide)).trans ((N8.out 3 (by decide) (by decide)).trans ((N7.out 3 (by decide) (by decide)).trans ((N6.out 3 (by decide) (by decide)).trans ((N5.out 3 (by decide) (by decide)).trans ((N4.out 3 (by decide) (by decide)).trans A3b.out))))))))))))))))))).trans (by have e1 := V3.out; have e2 := HFS.out; rw [show (applyM lk p).at 3 = .int .i64 (longM lk (fontM lk (p.I 37)) leftS (p.I 2, p.I 3) (0, 0)).2 from rfl, e2, e1])
        · exact (((N20.out 4 (by decide)).trans ((N19.out 4 (by decide)).trans ((NY.out 4 (by decide)).trans ((N18.out 4 (by decide)).trans ((N17.out 4 (by decide)).trans ((N16.out 4 (by decide) (by decide)).trans ((N15.out 4 (by decide)).trans ((N14.out 4 (by decide)).trans ((N13.out 4 (by decide)).trans ((N12.out 4 (by decide)).trans ((N11.out 4 (by decide)).trans ((N10.out 4 (by decide)).trans ((N9.out 4 (by decide)).trans ((N8.out 4 (by decide) (by decide)).trans ((N7.out 4 (by decide) (by decide)).trans ((N6.out 4 (by decide) (by decide)).trans ((N5.out 4 (by decide) (by decide)).trans A4.out)))))))))))))))))).trans (by have e1 := V4.out; have e2 := HFS.out; rw [show (applyM lk p).at 4 = .int .i64 (longM lk (fontM lk (p.I 37)) topS (p.I 4, p.I 5) (0, 0)).1 from rfl, e2, e1])
        · exact (((N20.out 5 (by decide)).trans ((N19.out 5 (by decide)).trans ((NY.out 5 (by decide)).trans ((N18.out 5 (by decide)).trans ((N17.out 5 (by decide)).trans ((N16.out 5 (by decide) (by decide)).trans ((N15.out 5 (by decide)).trans ((N14.out 5 (by decide)).trans ((N13.out 5 (by decide)).trans ((N12.out 5 (by decide)).trans ((N11.out 5 (by decide)).trans ((N10.out 5 (by decide)).trans ((N9.out 5 (by decide)).trans ((N8.out 5 (by decide) (by decide)).trans ((N7.out 5 (by decide) (by decide)).trans ((N6.out 5 (by decide) (by decide)).trans ((N5.out 5 (by decide) (by decide)).trans A4b.out)))))))))))))))))).trans (by have e1 := V4.out; have e2 := HFS.out; rw [show (applyM lk p).at 5 = .int .i64 (longM lk (fontM lk (p.I 37)) topS (p.I 4, p.I 5) (0, 0)).2 from rfl, e2, e1])
        · exact (((N20.out 6 (by decide)).trans ((N19.out 6 (by decide)).trans ((NY.out 6 (by decide)).trans ((N18.out 6 (by decide)).trans ((N17.out 6 (by decide)).trans ((N16.out 6 (by decide) (by decide)).trans ((N15.out 6 (by decide)).trans ((N14.out 6 (by decide)).trans ((N13.out 6 (by decide)).trans ((N12.out 6 (by decide)).trans ((N11.out 6 (by decide)).trans ((N10.out 6 (by decide)).trans ((N9.out 6 (by decide)).trans ((N8.out 6 (by decide) (by decide)).trans ((N7.out 6 (by decide) (by decide)).trans ((N6.out 6 (by decide) (by decide)).trans A5.out))))))))))))))))).trans (by have e1 := V5.out; have e2 := HFS.out; rw [show (applyM lk p).at 6 = .int .i64 (longM lk (fontM lk (p.I 37)) widthS (p.I 6, p.I 7) (0, 0)).1 from rfl, e2, e1])
        · exact (((N20.out 7 (by decide)).trans ((N19.out 7 (by decide)).trans ((NY.out 7 (by decide)).trans ((N18.out 7 (by decide)).trans ((N17.out 7 (by decide)).trans ((N16.out 7 (by decide) (by decide)).trans ((N15.out 7 (by decide)).trans ((N14.out 7 (by decide)).trans ((N13.out 7 (by decide)).trans ((N12.out 7 (by decide)).trans ((N11.out 7 (by decide)).trans ((N10.out 7 (by decide)).trans ((N9.out 7 (by decide)).trans ((N8.out 7 (by decide) (by decide)).trans ((N7.out 7 (by decide) (by decide)).trans ((N6.out 7 (by decide) (by decide)).trans A5b.out))))))))))))))))).trans (by have e1 := V5.out; have e2 := HFS.out; rw [show (applyM lk p).at 7 = .int .i64 (longM lk (fontM lk (p.I 37)) widthS (p.I 6, p.I 7) (0, 0)).2 from rfl, e2, e1])
        · exact (((N20.out 8 (by decide)).trans ((N19.out 8 (by decide)).trans ((NY.out 8 (by decide)).trans ((N18.out 8 (by decide)).trans ((N17.out 8 (by decide)).trans ((N16.out 8 (by decide) (by decide)).trans ((N15.out 8 (by decide)).trans ((N14.out 8 (by decide)).trans ((N13.out 8 (by decide)).trans ((N12.out 8 (by decide)).trans ((N11.out 8 (by decide)).trans ((N10.out 8 (by decide)).trans ((N9.out 8 (by decide)).trans ((N8.out 8 (by decide) (by decide)).trans ((N7.out 8 (by decide) (by decide)).trans A6.out)))))))))))))))).trans (by have e1 := V6.out; have e2 := HFS.out; rw [show (applyM lk p).at 8 = .int .i64 (longM lk (fontM lk (p.I 37)) heightS (p.I 8, p.I 9) (0, 0)).1 from rfl, e2, e1])
        · exact (((N20.out 9 (by decide)).trans ((N19.out 9 (by decide)).trans ((NY.out 9 (by decide)).trans ((N18.out 9 (by decide)).trans ((N17.out 9 (by decide)).trans ((N16.out 9 (by decide) (by decide)).trans ((N15.out 9 (by decide)).trans ((N14.out 9 (by decide)).trans ((N13.out 9 (by decide)).trans ((N12.out 9 (by decide)).trans ((N11.out 9 (by decide)).trans ((N10.out 9 (by decide)).trans ((N9.out 9 (by decide)).trans ((N8.out 9 (by decide) (by decide)).trans ((N7.out 9 (by decide) (by decide)).trans A6b.out)))))))))))))))).trans (by have e1 := V6.out; have e2 := HFS.out; rw [show (applyM lk p).at 9 = .int .i64 (longM lk (fontM lk (p.I 37)) heightS (p.I 8, p.I 9) (0, 0)).2 from rfl, e2, e1])
        · exact (((N20.out 10 (by decide)).trans ((N19.out 10 (by decide)).trans ((NY.out 10 (by decide)).trans ((N18.out 10 (by decide)).trans ((N17.out 10 (by decide)).trans ((N16.out 10 (by decide) (by decide)).trans ((N15.out 10 (by decide)).trans ((N14.out 10 (by decide)).trans ((N13.out 10 (by decide)).trans ((N12.out 10 (by decide)).trans ((N11.out 10 (by decide)).trans ((N10.out 10 (by decide)).trans ((N9.out 10 (by decide)).trans ((N8.out 10 (by decide) (by decide)).trans A7.out))))))))))))))).trans (by have e1 := V7.out; have e2 := HFS.out; rw [show (applyM lk p).at 10 = .int .i64 (longM lk (fontM lk (p.I 37)) minwidthS (p.I 10, p.I 11) (1, 0)).1 from rfl, e2, e1])
        · exact (((N20.out 11 (by decide)).trans ((N19.out 11 (by decide)).trans ((NY.out 11 (by decide)).trans ((N18.out 11 (by decide)).trans ((N17.out 11 (by decide)).trans ((N16.out 11 (by decide) (by decide)).trans ((N15.out 11 (by decide)).trans ((N14.out 11 (by decide)).trans ((N13.out 11 (by decide)).trans ((N12.out 11 (by decide)).trans ((N11.out 11 (by decide)).trans ((N10.out 11 (by decide)).trans ((N9.out 11 (by decide)).trans ((N8.out 11 (by decide) (by decide)).trans A7b.out))))))))))))))).trans (by have e1 := V7.out; have e2 := HFS.out; rw [show (applyM lk p).at 11 = .int .i64 (longM lk (fontM lk (p.I 37)) minwidthS (p.I 10, p.I 11) (1, 0)).2 from rfl, e2, e1])
        · exact (((N20.out 12 (by decide)).trans ((N19.out 12 (by decide)).trans ((NY.out 12 (by decide)).trans ((N18.out 12 (by decide)).trans ((N17.out 12 (by decide)).trans ((N16.out 12 (by decide) (by decide)).trans ((N15.out 12 (by decide)).trans ((N14.out 12 (by decide)).trans ((N13.out 12 (by decide)).trans ((N12.out 12 (by decide)).trans ((N11.out 12 (by decide)).trans ((N10.out 12 (by decide)).trans ((N9.out 12 (by decide)).trans A8.out)))))))))))))).trans (by have e1 := V8.out; have e2 := HFS.out; rw [show (applyM lk p).at 12 = .int .i64 (longM lk (fontM lk (p.I 37)) maxwidthS (p.I 12, p.I 13) (0, 0)).1 from rfl, e2, e1])
        · exact (((N20.out 13 (by decide)).trans ((N19.out 13 (by decide)).trans ((NY.out 13 (by decide)).trans ((N18.out 13 (by decide)).trans ((N17.out 13 (by decide)).trans ((N16.out 13 (by decide) (by decide)).trans ((N15.out 13 (by decide)).trans ((N14.out 13 (by decide)).trans ((N13.out 13 (by decide)).trans ((N12.out 13 (by decide)).trans ((N11.out 13 (by decide)).trans ((N10.out 13 (by decide)).trans ((N9.out 13 (by decide)).trans A8b.out)))))))))))))).trans (by have e1 := V8.out; have e2 := HFS.out; rw [show (applyM lk p).at 13 = .int .i64 (longM lk (fontM lk (p.I 37)) maxwidthS (p.I 12, p.I 13) (0, 0)).2 from rfl, e2, e1])
        · exact (((N20.out 14 (by decide)).trans ((N19.out 14 (by decide)).trans ((NY.out 14 (by decide)).trans ((N18.out 14 (by decide)).trans ((N17.out 14 (by decide)).trans ((N16.out 14 (by decide) (by decide)).trans ((N15.out 14 (by decide)).trans ((N14.out 14 (by decide)).trans ((N13.out 14 (by decide)).trans ((N12.out 14 (by decide)).trans ((N11.out 14 (by decide)).trans ((N10.out 14 (by decide)).trans ((N9.out 14 (by decide)).trans ((N8.out 14 (by decide) (by decide)).trans ((N7.out 14 (by decide) (by decide)).trans ((N6.out 14 (by decide) (by decide)).trans ((N5.out 14 (by decide) (by decide)).trans ((N4.out 14 (by decide) (by decide)).trans ((N3.out 14 (by decide) (by decide)).trans ((N2.out 14 (by decide)).trans ((N1.out 14 (by decide)).trans (KN0.out.at_ (14, _) (by rw [HK0.out]; exact (.tail _ (.tail _ (.tail _ (.tail _ (.tail _ (.head _)))))))))))))))))))))))))))))).trans (by have e2 := HFS.out; rw [← e2]; rfl)
        · exact (((N20.out 15 (by decide)).trans ((N19.out 15 (by decide)).trans ((NY.out 15 (by decide)).trans ((N18.out 15 (by decide)).trans ((N17.out 15 (by decide)).trans ((N16.out 15 (by decide) (by decide)).trans ((N15.out 15 (by decide)).trans ((N14.out 15 (by decide)).trans ((N13.out 15 (by decide)).trans ((N12.out 15 (by decide)).trans ((N11.out 15 (by decide)).trans ((N10.out 15 (by decide)).trans ((N9.out 15 (by decide)).trans ((N8.out 15 (by decide) (by decide)).trans ((N7.out 15 (by decide) (by decide)).trans ((N6.out 15 (by decide) (by decide)).trans ((N5.out 15 (by decide) (by decide)).trans ((N4.out 15 (by decide) (by decide)).trans ((N3.out 15 (by decide) (by decide)).trans ((N2.out 15 (by decide)).trans ((N1.out 15 (by decide)).trans (KN0.out.at_ (15, _) (by rw [HK0.out]; exact (.tail _ (.tail _ (.tail _ (.tail _ (.tail _ (.tail _ (.head _))))))))))))))))))))))))))))))).trans (by have e2 := HFS.out; rw [← e2]; rfl)
        · exact (((N20.out 16 (by decide)).trans ((N19.out 16 (by decide)).trans ((NY.out 16 (by decide)).trans ((N18.out 16 (by decide)).trans ((N17.out 16 (by decide)).trans ((N16.out 16 (by decide) (by decide)).trans ((N15.out 16 (by decide)).trans ((N14.out 16 (by decide)).trans ((N13.out 16 (by decide)).trans ((N12.out 16 (by decide)).trans ((N11.out 16 (by decide)).trans ((N10.out 16 (by decide)).trans ((N9.out 16 (by decide)).trans ((N8.out 16 (by decide) (by decide)).trans ((N7.out 16 (by decide) (by decide)).trans ((N6.out 16 (by decide) (by decide)).trans ((N5.out 16 (by decide) (by decide)).trans ((N4.out 16 (by decide) (by decide)).trans ((N3.out 16 (by decide) (by decide)).trans ((N2.out 16 (by decide)).trans ((N1.out 16 (by decide)).trans (KN0.out.at_ (16, _) (by rw [HK0.out]; exact (.tail _ (.tail _ (.tail _ (.tail _ (.tail _ (.tail _ (.tail _ (.head _)))))))))))))))))))))))))))))))).trans (by have e2 := HFS.out; rw [← e2]; rfl)
        · exact (((N20.out 17 (by decide)).trans ((N19.out 17 (by decide)).trans ((NY.out 17 (by decide)).trans ((N18.out 17 (by decide)).trans ((N17.out 17 (by decide)).trans ((N16.out 17 (by decide) (by decide)).trans ((N15.out 17 (by decide)).trans ((N14.out 17 (by decide)).trans ((N13.out 17 (by decide)).trans ((N12.out 17 (by decide)).trans ((N11.out 17 (by decide)).trans ((N10.out 17 (by decide)).trans ((N9.out 17 (by decide)).trans ((N8.out 17 (by decide) (by decide)).trans ((N7.out 17 (by decide) (by decide)).trans ((N6.out 17 (by decide) (by decide)).trans ((N5.out 17 (by decide) (by decide)).trans ((N4.out 17 (by decide) (by decide)).trans ((N3.out 17 (by decide) (by decide)).trans ((N2.out 17 (by decide)).trans ((N1.out 17 (by decide)).trans (KN0.out.at_ (17, _) (by rw [HK0.out]; exact (.tail _ (.tail _ (.tail _ (.tail _ (.tail _ (.tail _ (.tail _ (.tail _ (.head _))))))))))))))))))))))))))))))))).trans (by have e2 := HFS.out; rw [← e2]; rfl)
        · exact (((N20.out 18 (by decide)).trans ((N19.out 18 (by decide)).trans ((NY.out 18 (by decide)).trans ((N18.out 18 (by decide)).trans ((N17.out 18 (by decide)).trans ((N16.out 18 (by decide) (by decide)).trans ((N15.out 18 (by decide)).trans ((N14.out 18 (by decide)).trans ((N13.out 18 (by decide)).trans ((N12.out 18 (by decide)).trans ((N11.out 18 (by decide)).trans ((N10.out 18 (by decide)).trans ((N9.out 18 (by decide)).trans ((N8.out 18 (by decide) (by decide)).trans ((N7.out 18 (by decide) (by decide)).trans ((N6.out 18 (by decide) (by decide)).trans ((N5.out 18 (by decide) (by decide)).trans ((N4.out 18 (by decide) (by decide)).trans ((N3.out 18 (by decide) (by decide)).trans ((N2.out 18 (by decide)).trans ((N1.out 18 (by decide)).trans (KN0.out.at_ (18, _) (by rw [HK0.out]; exact (.tail _ (.tail _ (.tail _ (.tail _ (.tail _ (.tail _ (.tail _ (.tail _ (.tail _ (.head _)))))))))))))))))))))))))))))))))).trans (by have e2 := HFS.out; rw [← e2]; rfl)
        · exact (((N20.out 19 (by decide)).trans ((N19.out 19 (by decide)).trans ((NY.out 19 (by decide)).trans ((N18.out 19 (by decide)).trans ((N17.out 19 (by decide)).trans ((N16.out 19 (by decide) (by decide)).trans ((N15.out 19 (by decide)).trans ((N14.out 19 (by decide)).trans ((N13.out 19 (by decide)).trans ((N12.out 19 (by decide)).trans ((N11.out 19 (by decide)).trans ((N10.out 19 (by decide)).trans ((N9.out 19 (by decide)).trans ((N8.out 19 (by decide) (by decide)).trans ((N7.out 19 (by decide) (by decide)).trans ((N6.out 19 (by decide) (by decide)).trans ((N5.out 19 (by decide) (by decide)).trans ((N4.out 19 (by decide) (by decide)).trans ((N3.out 19 (by decide) (by decide)).trans ((N2.out 19 (by decide)).trans ((N1.out 19 (by decide)).trans (KN0.out.at_ (19, _) (by rw [HK0.out]; exact (.tail _ (.tail _ (.tail _ (.tail _ (.tail _ (.tail _ (.tail _ (.tail _ (.tail _ (.tail _ (.head _))))))))))))))))))))))))))))))))))).trans (by have e2 := HFS.out; rw [← e2]; rfl)
        · exact (((N20.out 20 (by decide)).trans ((N19.out 20 (by decide)).trans ((NY.out 20 (by decide)).trans ((N18.out 20 (by decide)).trans ((N17.out 20 (by decide)).trans ((N16.out 20 (by decide) (by decide)).trans ((N15.out 20 (by decide)).trans ((N14.out 20 (by decide)).trans ((N13.out 20 (by decide)).trans ((N12.out 20 (by decide)).trans ((N11.out 20 (by decide)).trans ((N10.out 20 (by decide)).trans ((N9.out 20 (by decide)).trans ((N8.out 20 (by decide) (by decide)).trans ((N7.out 20 (by decide) (by decide)).trans ((N6.out 20 (by decide) (by decide)).trans ((N5.out 20 (by decide) (by decide)).trans ((N4.out 20 (by decide) (by decide)).trans ((N3.out 20 (by decide) (by decide)).trans ((N2.out 20 (by decide)).trans ((N1.out 20 (by decide)).trans (KN0.out.at_ (20, _) (by rw [HK0.out]; exact (.tail _ (.tail _ (.tail _ (.tail _ (.tail _ (.tail _ (.tail _ (.tail _ (.tail _ (.tail _ (.tail _ (.head _)))))))))))))))))))))))))))))))))))).trans (by have e2 := HFS.out; rw [← e2]; rfl)
        · exact (((N20.out 21 (by decide)).trans ((N19.out 21 (by decide)).trans ((NY.out 21 (by decide)).trans ((N18.out 21 (by decide)).trans ((N17.out 21 (by decide)).trans ((N16.out 21 (by decide) (by decide)).trans ((N15.out 21 (by decide)).trans ((N14.out 21 (by decide)).trans ((N13.out 21 (by decide)).trans ((N12.out 21 (by decide)).trans ((N11.out 21 (by decide)).trans ((N10.out 21 (by decide)).trans ((N9.out 21 (by decide)).trans ((N8.out 21 (by decide) (by decide)).trans ((N7.out 21 (by decide) (by decide)).trans ((N6.out 21 (by decide) (by decide)).trans ((N5.out 21 (by decide) (by decide)).trans ((N4.out 21 (by decide) (by decide)).trans ((N3.out 21 (by decide) (by decide)).trans ((N2.out 21 (by decide)).trans ((N1.out 21 (by decide)).trans (KN0.out.at_ (21, _) (by rw [HK0.out]; exact (.tail _ (.tail _ (.tail _ (.tail _ (.tail _ (.tail _ (.tail _ (.tail _ (.tail _ (.tail _ (.tail _ (.tail _ (.head _))))))))))))))))))))))))))))))))))))).trans (by have e2 := HFS.out; rw [← e2]; rfl)
        · exact (((N20.out 22 (by decide)).trans ((N19.out 22 (by decide)).trans ((NY.out 22 (by decide)).trans ((N18.out 22 (by decide)).trans ((N17.out 22 (by decide)).trans ((N16.out 22 (by decide) (by decide)).trans ((N15.out 22 (by decide)).trans ((N14.out 22 (by decide)).trans ((N13.out 22 (by decide)).trans ((N12.out 22 (by decide)).trans ((N11.out 22 (by decide)).trans ((N10.out 22 (by decide)).trans ((N9.out 22 (by decide)).trans ((N8.out 22 (by decide) (by decide)).trans ((N7.out 22 (by decide) (by decide)).trans ((N6.out 22 (by decide) (by decide)).trans ((N5.out 22 (by decide) (by decide)).trans ((N4.out 22 (by decide) (by decide)).trans ((N3.out 22 (by decide) (by decide)).trans ((N2.out 22 (by decide)).trans ((N1.out 22 (by decide)).trans (KN0.out.at_ (22, _) (by rw [HK0.out]; exact (.tail _ (.tail _ (.tail _ (.tail _ (.tail _ (.tail _ (.tail _ (.tail _ (.tail _ (.tail _ (.tail _ (.tail _ (.tail _ (.head _)))))))))))))))))))))))))))))))))))))).trans (by have e2 := HFS.out; rw [← e2]; rfl)
        · exact (((N20.out 23 (by decide)).trans ((N19.out 23 (by decide)).trans ((NY.out 23 (by decide)).trans ((N18.out 23 (by decide)).trans ((N17.out 23 (by decide)).trans ((N16.out 23 (by decide) (by decide)).trans ((N15.out 23 (by decide)).trans ((N14.out 23 (by decide)).trans ((N13.out 23 (by decide)).trans ((N12.out 23 (by decide)).trans ((N11.out 23 (by decide)).trans ((N10.out 23 (by decide)).trans ((N9.out 23 (by decide)).trans ((N8.out 23 (by decide) (by decide)).trans ((N7.out 23 (by decide) (by decide)).trans ((N6.out 23 (by decide) (by decide)).trans ((N5.out 23 (by decide) (by decide)).trans ((N4.out 23 (by decide) (by decide)).trans ((N3.out 23 (by decide) (by decide)).trans ((N2.out 23 (by decide)).trans ((N1.out 23 (by decide)).trans (KN0.out.at_ (23, _) (by rw [HK0.out]; exact (.tail _ (.tail _ (.tail _ (.tail _ (.tail _ (.tail _ (.tail _ (.tail _ (.tail _ (.tail _ (.tail _ (.tail _ (.tail _ (.tail _ (.head _))))))))))))))))))))))))))))))))))))))).trans (by have e2 := HFS.out; rw [← e2]; rfl)
        · exact (((N20.out 24 (by decide)).trans ((N19.out 24 (by decide)).trans ((NY.out 24 (by decide)).trans ((N18.out 24 (by decide)).trans ((N17.out 24 (by decide)).trans ((N16.out 24 (by decide) (by decide)).trans ((N15.out 24 (by decide)).trans ((N14.out 24 (by decide)).trans ((N13.out 24 (by decide)).trans ((N12.out 24 (by decide)).trans ((N11.out 24 (by decide)).trans ((N10.out 24 (by decide)).trans ((N9.out 24 (by decide)).trans ((N8.out 24 (by decide) (by decide)).trans ((N7.out 24 (by decide) (by decide)).trans ((N6.out 24 (by decide) (by decide)).trans ((N5.out 24 (by decide) (by decide)).trans ((N4.out 24 (by decide) (by decide)).trans ((N3.out 24 (by decide) (by decide)).trans ((N2.out 24 (by decide)).trans ((N1.out 24 (by decide)).trans (KN0.out.at_ (24, _) (by rw [HK0.out]; exact (.tail _ (.tail _ (.tail _ (.tail _ (.tail _ (.tail _ (.tail _ (.tail _ (.tail _ (.tail _ (.tail _ (.tail _ (.tail _ (.tail _ (.tail _ (.head _)))))))))))))))))))))))))))))))))))))))).trans (by have e2 := HFS.out; rw [← e2]; rfl)
        · exact (((N20.out 25 (by decide)).trans ((N19.out 25 (by decide)).trans ((NY.out 25 (by decide)).trans ((N18.out 25 (by decide)).trans ((N17.out 25 (by decide)).trans ((N16.out 25 (by decide) (by decide)).trans ((N15.out 25 (by decide)).trans ((N14.out 25 (by decide)).trans ((N13.out 25 (by decide)).trans ((N12.out 25 (by decide)).trans ((N11.out 25 (by decide)).trans ((N10.out 25 (by decide)).trans ((N9.out 25 (by decide)).trans ((N8.out 25 (by decide) (by decide)).trans ((N7.out 25 (by decide) (by decide)).trans ((N6.out 25 (by decide) (by decide)).trans ((N5.out 25 (by decide) (by decide)).trans ((N4.out 25 (by decide) (by decide)).trans ((N3.out 25 (by decide) (by decide)).trans ((N2.out 25 (by decide)).trans ((N1.out 25 (by decide)).trans (KN0.out.at_ (25, _) (by rw [HK0.out]; exact (.tail _ (.tail _ (.tail _ (.tail _ (.tail _ (.tail _ (.tail _ (.tail _ (.tail _ (.tail _ (.tail _ (.tail _ (.tail _ (.tail _ (.tail _ (.tail _ (.head _))))))))))))))))))))))))))))))))))))))))).trans (by have e2 := HFS.out; rw [← e2]; rfl)
        · exact (((N20.out 26 (by decide)).trans ((N19.out 26 (by decide)).trans ((NY.out 26 (by decide)).trans ((N18.out 26 (by decide)).trans ((N17.out 26 (by decide)).trans ((N16.out 26 (by decide) (by decide)).trans ((N15.out 26 (by decide)).trans ((N14.out 26 (by decide)).trans ((N13.out 26 (by decide)).trans ((N12.out 26 (by decide)).trans ((N11.out 26 (by decide)).trans ((N10.out 26 (by decide)).trans ((N9.out 26 (by decide)).trans ((N8.out 26 (by decide) (by decide)).trans ((N7.out 26 (by decide) (by decide)).trans ((N6.out 26 (by decide) (by decide)).trans ((N5.out 26 (by decide) (by decide)).trans ((N4.out 26 (by decide) (by decide)).trans ((N3.out 26 (by decide) (by decide)).trans ((N2.out 26 (by decide)).trans ((N1.out 26 (by decide)).trans (KN0.out.at_ (26, _) (by rw [HK0.out]; exact (.tail _ (.tail _ (.tail _ (.tail _ (.tail _ (.tail _ (.tail _ (.tail _ (.tail _ (.tail _ (.tail _ (.tail _ (.tail _ (.tail _ (.tail _ (.tail _ (.tail _ (.head _)))))))))))))))))))))))))))))))))))))))))).trans (by have e2 := HFS.out; rw [← e2]; rfl)
        · exact (((N20.out 27 (by decide)).trans ((N19.out 27 (by decide)).trans ((NY.out 27 (by decide)).trans ((N18.out 27 (by decide)).trans ((N17.out 27 (by decide)).trans ((N16.out 27 (by decide) (by decide)).trans ((N15.out 27 (by decide)).trans ((N14.out 27 (by decide)).trans ((N13.out 27 (by decide)).trans ((N12.out 27 (by decide)).trans ((N11.out 27 (by decide)).trans ((N10.out 27 (by decide)).trans ((N9.out 27 (by decide)).trans ((N8.out 27 (by decide) (by decide)).trans ((N7.out 27 (by decide) (by decide)).trans ((N6.out 27 (by decide) (by decide)).trans ((N5.out 27 (by decide) (by decide)).trans ((N4.out 27 (by decide) (by decide)).trans ((N3.out 27 (by decide) (by decide)).trans ((N2.out 27 (by decide)).trans ((N1.out 27 (by decide)).trans (KN0.out.at_ (27, _) (by rw [HK0.out]; exact (.tail _ (.tail _ (.tail _ (.tail _ (.tail _ (.tail _ (.tail _ (.tail _ (.tail _ (.tail _ (.tail _ (.tail _ (.tail _ (.tail _ (.tail _ (.tail _ (.tail _ (.tail _ (.head _))))))))))))))))))))))))))))))))))))))))))).trans (by have e2 := HFS.out; rw [← e2]; rfl)
        · exact (((N20.out 28 (by decide)).trans ((N19.out 28 (by decide)).trans ((NY.out 28 (by decide)).trans ((N18.out 28 (by decide)).trans ((N17.out 28 (by decide)).trans ((N16.out 28 (by decide) (by decide)).trans ((N15.out 28 (by decide)).trans ((N14.out 28 (by decide)).trans ((N13.out 28 (by decide)).trans ((N12.out 28 (by decide)).trans ((N11.out 28 (by decide)).trans ((N10.out 28 (by decide)).trans ((N9.out 28 (by decide)).trans ((N8.out 28 (by decide) (by decide)).trans ((N7.out 28 (by decide) (by decide)).trans ((N6.out 28 (by decide) (by decide)).trans ((N5.out 28 (by decide) (by decide)).trans ((N4.out 28 (by decide) (by decide)).trans ((N3.out 28 (by decide) (by decide)).trans ((N2.out 28 (by decide)).trans ((N1.out 28 (by decide)).trans (KN0.out.at_ (28, _) (by rw [HK0.out]; exact (.tail _ (.tail _ (.tail _ (.tail _ (.tail _ (.tail _ (.tail _ (.tail _ (.tail _ (.tail _ (.tail _ (.tail _ (.tail _ (.tail _ (.tail _ (.tail _ (.tail _ (.tail _ (.tail _ (.head _)))))))))))))))))))))))))))))))))))))))))))).trans (by have e2 := HFS.out; rw [← e2]; rfl)
        · exact (((N20.out 29 (by decide)).trans ((N19.out 29 (by decide)).trans ((NY.out 29 (by decide)).trans ((N18.out 29 (by decide)).trans ((N17.out 29 (by decide)).trans ((N16.out 29 (by decide) (by decide)).trans ((N15.out 29 (by decide)).trans ((N14.out 29 (by decide)).trans ((N13.out 29 (by decide)).trans ((N12.out 29 (by decide)).trans ((N11.out 29 (by decide)).trans ((N10.out 29 (by decide)).trans ((N9.out 29 (by decide)).trans ((N8.out 29 (by decide) (by decide)).trans ((N7.out 29 (by decide) (by decide)).trans ((N6.out 29 (by decide) (by decide)).trans ((N5.out 29 (by decide) (by decide)).trans ((N4.out 29 (by decide) (by decide)).trans ((N3.out 29 (by decide) (by decide)).trans ((N2.out 29 (by decide)).trans ((N1.out 29 (by decide)).trans (KN0.out.at_ (29, _) (by rw [HK0.out]; exact (.tail _ (.tail _ (.tail _ (.tail _ (.tail _ (.tail _ (.tail _ (.tail _ (.tail _ (.tail _ (.tail _ (.tail _ (.tail _ (.tail _ (.tail _ (.tail _ (.tail _ (.tail _ (.tail _ (.tail _ (.head _))))))))))))))))))))))))))))))))))))))))))))).trans (by have e2 := HFS.out; rw [← e2]; rfl)
        · exact (((N20.out 30 (by decide)).trans ((N19.out 30 (by decide)).trans ((NY.out 30 (by decide)).trans ((N18.out 30 (by decide)).trans ((N17.out 30 (by decide)).trans ((N16.out 30 (by decide) (by decide)).trans ((N15.out 30 (by decide)).trans ((N14.out 30 (by decide)).trans ((N13.out 30 (by decide)).trans ((N12.out 30 (by decide)).trans ((N11.out 30 (by decide)).trans ((N10.out 30 (by decide)).trans ((N9.out 30 (by decide)).trans ((N8.out 30 (by decide) (by decide)).trans ((N7.out 30 (by decide) (by decide)).trans ((N6.out 30 (by decide) (by decide)).trans ((N5.out 30 (by decide) (by decide)).trans ((N4.out 30 (by decide) (by decide)).trans ((N3.out 30 (by decide) (by decide)).trans ((N2.out 30 (by decide)).trans ((N1.out 30 (by decide)).trans (KN0.out.at_ (30, _) (by rw [HK0.out]; exact (.tail _ (.tail _ (.tail _ (.tail _ (.tail _ (.tail _ (.tail _ (.tail _ (.tail _ (.tail _ (.tail _ (.tail _ (.tail _ (.tail _ (.tail _ (.tail _ (.tail _ (.tail _ (.tail _ (.tail _ (.tail _ (.head _)))))))))))))))))))))))))))))))))))))))))))))).trans (by have e2 := HFS.out; rw [← e2]; rfl)
        · exact (((N20.out 31 (by decide)).trans ((N19.out 31 (by decide)).trans ((NY.out 31 (by decide)).trans ((N18.out 31 (by decide)).trans ((N17.out 31 (by decide)).trans ((N16.out 31 (by decide) (by decide)).trans ((N15.out 31 (by decide)).trans ((N14.out 31 (by decide)).trans ((N13.out 31 (by decide)).trans ((N12.out 31 (by decide)).trans ((N11.out 31 (by decide)).trans ((N10.out 31 (by decide)).trans ((N9.out 31 (by decide)).trans ((N8.out 31 (by decide) (by decide)).trans ((N7.out 31 (by decide) (by decide)).trans ((N6.out 31 (by decide) (by decide)).trans ((N5.out 31 (by decide) (by decide)).trans ((N4.out 31 (by decide) (by decide)).trans ((N3.out 31 (by decide) (by decide)).trans ((N2.out 31 (by decide)).trans ((N1.out 31 (by decide)).trans (KN0.out.at_ (31, _) (by rw [HK0.out]; exact (.tail _ (.tail _ (.tail _ (.tail _ (.tail _ (.tail _ (.tail _ (.tail _ (.tail _ (.tail _ (.tail _ (.tail _ (.tail _ (.tail _ (.tail _ (.tail _ (.tail _ (.tail _ (.tail _ (.tail _ (.tail _ (.tail _ (.head _))))))))))))))))))))))))))))))))))))))))))))))).trans (by have e2 := HFS.out; rw [← e2]; rfl)
        · exact (((N20.out 32 (by decide)).trans ((N19.out 32 (by decide)).trans ((NY.out 32 (by decide)).trans ((N18.out 32 (by decide)).trans ((N17.out 32 (by decide)).trans ((N16.out 32 (by decide) (by decide)).trans ((N15.out 32 (by decide)).trans ((N14.out 32 (by decide)).trans ((N13.out 32 (by decide)).trans ((N12.out 32 (by decide)).trans ((N11.out 32 (by decide)).trans ((N10.out 32 (by decide)).trans ((N9.out 32 (by decide)).trans ((N8.out 32 (by decide) (by decide)).trans ((N7.out 32 (by decide) (by decide)).trans ((N6.out 32 (by decide) (by decide)).trans ((N5.out 32 (by decide) (by decide)).trans ((N4.out 32 (by decide) (by decide)).trans ((N3.out 32 (by decide) (by decide)).trans ((N2.out 32 (by decide)).trans ((N1.out 32 (by decide)).trans (KN0.out.at_ (32, _) (by rw [HK0.out]; exact (.tail _ (.tail _ (.tail _ (.tail _ (.tail _ (.tail _ (.tail _ (.tail _ (.tail _ (.tail _ (.tail _ (.tail _ (.tail _ (.tail _ (.tail _ (.tail _ (.tail _ (.tail _ (.tail _ (.tail _ (.tail _ (.tail _ (.tail _ (.head _)))))))))))))))))))))))))))))))))))))))))))))))).trans (by have e2 := HFS.out; rw [← e2]; rfl)
        · exact (((N20.out 33 (by decide)).trans ((N19.out 33 (by decide)).trans ((NY.out 33 (by decide)).trans ((N18.out 33 (by decide)).trans ((N17.out 33 (by decide)).trans ((N16.out 33 (by decide) (by decide)).trans ((N15.out 33 (by decide)).trans ((N14.out 33 (by decide)).trans ((N13.out 33 (by decide)).trans ((N12.out 33 (by decide)).trans ((N11.out 33 (by decide)).trans ((N10.out 33 (by decide)).trans ((N9.out 33 (by decide)).trans ((N8.out 33 (by decide) (by decide)).trans ((N7.out 33 (by decide) (by decide)).trans ((N6.out 33 (by decide) (by decide)).trans ((N5.out 33 (by decide) (by decide)).trans ((N4.out 33 (by decide) (by decide)).trans ((N3.out 33 (by decide) (by decide)).trans ((N2.out 33 (by decide)).trans ((N1.out 33 (by decide)).trans (KN0.out.at_ (33, _) (by rw [HK0.out]; exact (.tail _ (.tail _ (.tail _ (.tail _ (.tail _ (.tail _ (.tail _ (.tail _ (.tail _ (.tail _ (.tail _ (.tail _ (.tail _ (.tail _ (.tail _ (.tail _ (.tail _ (.tail _ (.tail _ (.tail _ (.tail _ (.tail _ (.tail _ (.tail _ (.head _))))))))))))))))))))))))))))))))))))))))))))))))).trans (by have e2 := HFS.out; rw [← e2]; rfl)
        · exact (((N20.out 34 (by decide)).trans ((N19.out 34 (by decide)).trans ((NY.out 34 (by decide)).trans ((N18.out 34 (by decide)).trans ((N17.out 34 (by decide)).trans ((N16.out 34 (by decide) (by decide)).trans ((N15.out 34 (by decide)).trans ((N14.out 34 (by decide)).trans ((N13.out 34 (by decide)).trans ((N12.out 34 (by decide)).trans ((N11.out 34 (by decide)).trans ((N10.out 34 (by decide)).trans ((N9.out 34 (by decide)).trans ((N8.out 34 (by decide) (by decide)).trans ((N7.out 34 (by decide) (by decide)).trans ((N6.out 34 (by decide) (by decide)).trans ((N5.out 34 (by decide) (by decide)).trans ((N4.out 34 (by decide) (by decide)).trans ((N3.out 34 (by decide) (by decide)).trans ((N2.out 34 (by decide)).trans ((N1.out 34 (by decide)).trans (KN0.out.at_ (34, _) (by rw [HK0.out]; exact (.head _))))))))))))))))))))))))).trans (by rfl)
        · exact (((N20.out 35 (by decide)).trans ((N19.out 35 (by decide)).trans ((NY.out 35 (by decide)).trans ((N18.out 35 (by decide)).trans ((N17.out 35 (by decide)).trans ((N16.out 35 (by decide) (by decide)).trans ((N15.out 35 (by decide)).trans ((N14.out 35 (by decide)).trans ((N13.out 35 (by decide)).trans ((N12.out 35 (by decide)).trans ((N11.out 35 (by decide)).trans ((N10.out 35 (by decide)).trans ((N9.out 35 (by decide)).trans ((N8.out 35 (by decide) (by decide)).trans ((N7.out 35 (by decide) (by decide)).trans ((N6.out 35 (by decide) (by decide)).trans ((N5.out 35 (by decide) (by decide)).trans ((N4.out 35 (by decide) (by decide)).trans ((N3.out 35 (by decide) (by decide)).trans ((N2.out 35 (by decide)).trans ((N1.out 35 (by decide)).trans (KN0.out.at_ (35, _) (by rw [HK0.out]; exact (.tail _ (.head _)))))))))))))))))))))))))).trans (by rfl)
        · exact (((N20.out 36 (by decide)).trans ((N19.out 36 (by decide)).trans ((NY.out 36 (by decide)).trans ((N18.out 36 (by decide)).trans ((N17.out 36 (by decide)).trans ((N16.out 36 (by decide) (by decide)).trans ((N15.out 36 (by decide)).trans ((N14.out 36 (by decide)).trans ((N13.out 36 (by decide)).trans ((N12.out 36 (by decide)).trans ((N11.out 36 (by decide)).trans ((N10.out 36 (by decide)).trans ((N9.out 36 (by decide)).trans ((N8.out 36 (by decide) (by decide)).trans ((N7.out 36 (by decide) (by decide)).trans ((N6.out 36 (by decide) (by decide)).trans ((N5.out 36 (by decide) (by decide)).trans ((N4.out 36 (by decide) (by decide)).trans ((N3.out 36 (by decide) (by decide)).trans ((N2.out 36 (by decide)).trans ((N1.out 36 (by decide)).trans (KN0.out.at_ (36, _) (by rw [HK0.out]; exact (.tail _ (.tail _ (.head _))))))))))))))))))))))))))).trans (by rfl)
        · exact (((N20.out 37 (by decide)).trans ((N19.out 37 (by decide)).trans ((NY.out 37 (by decide)).trans ((N18.out 37 (by decide)).trans ((N17.out 37 (by decide)).trans ((N16.out 37 (by decide) (by decide)).trans ((N15.out 37 (by decide)).trans ((N14.out 37 (by decide)).trans ((N13.out 37 (by decide)).trans ((N12.out 37 (by decide)).trans ((N11.out 37 (by decide)).trans ((N10.out 37 (by decide)).trans ((N9.out 37 (by decide)).trans ((N8.out 37 (by decide) (by decide)).trans ((N7.out 37 (by decide) (by decide)).trans ((N6.out 37 (by decide) (by decide)).trans ((N5.out 37 (by decide) (by decide)).trans ((N4.out 37 (by decide) (by decide)).trans ((N3.out 37 (by decide) (by decide)).trans ((N2.out 37 (by decide)).trans ((N1.out 37 (by decide)).trans (KN0.out.at_ (37, _) (by rw [HK0.out]; exact (.tail _ (.tail _ (.tail _ (.head _)))))))))))))))))))))))))))).trans (by have e2 := HFS.out; rw [show (applyM lk p).at 37 = .int .i64 (fontM lk (p.I 37)) from rfl, e2])
        · exact (((N20.out 38 (by decide)).trans ((N19.out 38 (by decide)).trans ((NY.out 38 (by decide)).trans ((N18.out 38 (by decide)).trans ((N17.out 38 (by decide)).trans ((N16.out 38 (by decide) (by decide)).trans ((N15.out 38 (by decide)).trans ((N14.out 38 (by decide)).trans ((N13.out 38 (by decide)).trans ((N12.out 38 (by decide)).trans ((N11.out 38 (by decide)).trans ((N10.out 38 (by decide)).trans ((N9.out 38 (by decide)).trans ((N8.out 38 (by decide) (by decide)).trans ((N7.out 38 (by decide) (by decide)).trans ((N6.out 38 (by decide) (by decide)).trans ((N5.out 38 (by decide) (by decide)).trans ((N4.out 38 (by decide) (by decide)).trans ((N3.out 38 (by decide) (by decide)).trans ((N2.out 38 (by decide)).trans ((N1.out 38 (by decide)).trans (KN0.out.at_ (38, _) (by rw [HK0.out]; exact (.tail _ (.tail _ (.tail _ (.tail _ (.head _))))))))))))))))))))))))))))).trans (by have e2 := HFS.out; have e1 := HLH.out; rw [show (applyM lk p).at 38 = .int .i64 (lineM lk (fontM lk (p.I 37)) (p.I 38)) from rfl, e2, e1])
        · exact (((N20.out 39 (by decide)).trans ((N19.out 39 (by decide)).trans ((NY.out 39 (by decide)).trans ((N18.out 39 (by decide)).trans ((N17.out 39 (by decide)).trans ((N16.out 39 (by decide) (by decide)).trans ((N15.out 39 (by decide)).trans ((N14.out 39 (by decide)).trans ((N13.out 39 (by decide)).trans ((N12.out 39 (by decide)).trans ((N11.out 39 (by decide)).trans ((N10.out 39 (by decide)).trans A9.out))))))))))))).trans (by have e1 := V9.out; rw [show (applyM lk p).at 39 = .int .i64 (wdM lk textalignS textalignW (p.I 39) 0 true) from rfl, e1])
        · exact (((N20.out 40 (by decide)).trans ((N19.out 40 (by decide)).trans ((NY.out 40 (by decide)).trans ((N18.out 40 (by decide)).trans ((N17.out 40 (by decide)).trans ((N16.out 40 (by decide) (by decide)).trans ((N15.out 40 (by decide)).trans ((N14.out 40 (by decide)).trans ((N13.out 40 (by decide)).trans ((N12.out 40 (by decide)).trans ((N11.out 40 (by decide)).trans A10.out)))))))))))).trans (by have e1 := V10.out; rw [show (applyM lk p).at 40 = .int .i64 (wdM lk whitespaceS whitespaceW (p.I 40) 0 true) from rfl, e1])
        · exact (((N20.out 41 (by decide)).trans ((N19.out 41 (by decide)).trans ((NY.out 41 (by decide)).trans ((N18.out 41 (by decide)).trans ((N17.out 41 (by decide)).trans ((N16.out 41 (by decide) (by decide)).trans ((N15.out 41 (by decide)).trans ((N14.out 41 (by decide)).trans ((N13.out 41 (by decide)).trans ((N12.out 41 (by decide)).trans A11.out))))))))))).trans (by have e1 := V11.out; rw [show (applyM lk p).at 41 = .int .i64 (wdM lk verticalalignS verticalalignW (p.I 41) 0 false) from rfl, e1])
        · exact (((N20.out 42 (by decide)).trans ((N19.out 42 (by decide)).trans ((NY.out 42 (by decide)).trans ((N18.out 42 (by decide)).trans ((N17.out 42 (by decide)).trans ((N16.out 42 (by decide) (by decide)).trans ((N15.out 42 (by decide)).trans ((N14.out 42 (by decide)).trans ((N13.out 42 (by decide)).trans A12.out)))))))))).trans (by have e1 := V12.out; rw [show (applyM lk p).at 42 = .int .i64 (wdM lk flexdirectionS flexdirectionW (p.I 42) 0 false) from rfl, e1])
        · exact (((N20.out 43 (by decide)).trans ((N19.out 43 (by decide)).trans ((NY.out 43 (by decide)).trans ((N18.out 43 (by decide)).trans ((N17.out 43 (by decide)).trans ((N16.out 43 (by decide) (by decide)).trans ((N15.out 43 (by decide)).trans ((N14.out 43 (by decide)).trans A13.out))))))))).trans (by have e1 := V13.out; have e2 := HS43.out; have e3 := HB43.out; rw [show (applyM lk p).at 43 = .bool ((wdM lk flexwrapS flexwrapW (if p.B 43 = true then 1 else 0) 0 false) == 1) from rfl, e3, e2, e1])
        · exact (((N20.out 44 (by decide)).trans ((N19.out 44 (by decide)).trans ((NY.out 44 (by decide)).trans ((N18.out 44 (by decide)).trans ((N17.out 44 (by decide)).trans ((N16.out 44 (by decide) (by decide)).trans ((N15.out 44 (by decide)).trans A14.out)))))))).trans (by have e1 := V14.out; rw [show (applyM lk p).at 44 = .int .i64 (numM lk flexgrowS 1 (p.I 44) 0) from rfl, e1])
        · exact (((N20.out 45 (by decide)).trans ((N19.out 45 (by decide)).trans ((NY.out 45 (by decide)).trans ((N18.out 45 (by decide)).trans ((N17.out 45 (by decide)).trans ((N16.out 45 (by decide) (by decide)).trans A15.out))))))).trans (by have e1 := V15.out; rw [show (applyM lk p).at 45 = .int .i64 (numM lk flexshrinkS 1 (p.I 45) 1000) from rfl, e1])
        · exact (((N20.out 46 (by decide)).trans ((N19.out 46 (by decide)).trans ((NY.out 46 (by decide)).trans ((N18.out 46 (by decide)).trans ((N17.out 46 (by decide)).trans A16.out)))))).trans (by have e1 := V16.out; have e2 := HFS.out; rw [show (applyM lk p).at 46 = .int .i64 (longM lk (fontM lk (p.I 37)) flexbasisS (p.I 46, p.I 47) (0, 0)).1 from rfl, e2, e1])
        · exact (((N20.out 47 (by decide)).trans ((N19.out 47 (by decide)).trans ((NY.out 47 (by decide)).trans ((N18.out 47 (by decide)).trans ((N17.out 47 (by decide)).trans A16b.out)))))).trans (by have e1 := V16.out; have e2 := HFS.out; rw [show (applyM lk p).at 47 = .int .i64 (longM lk (fontM lk (p.I 37)) flexbasisS (p.I 46, p.I 47) (0, 0)).2 from rfl, e2, e1])
        · exact (((N20.out 48 (by decide)).trans ((N19.out 48 (by decide)).trans ((NY.out 48 (by decide)).trans ((N18.out 48 (by decide)).trans A17.out))))).trans (by have e1 := V17.out; rw [show (applyM lk p).at 48 = .int .i64 (numM lk orderS 1000 (p.I 48) 0) from rfl, e1])
        · exact (((N20.out 49 (by decide)).trans ((N19.out 49 (by decide)).trans ((NY.out 49 (by decide)).trans A18.out)))).trans (by have e1 := V18.out; rw [show (applyM lk p).at 49 = .int .i64 (numM lk zindexS 1000 (p.I 49) 0) from rfl, e1])
        · exact (((N20.out 50 (by decide)).trans ((N19.out 50 (by decide)).trans AY.out))).trans (by have e1 := HGM.out; have e2 := HZA.out; have e3 := HB50.out; rw [show (applyM lk p).at 50 = .bool (zaM lk (p.B 50)) from rfl]; unfold zaM; rw [e1, e3, ← e2])
        · exact (((N20.out 51 (by decide)).trans A19.out)).trans (by have e1 := V19.out; rw [show (applyM lk p).at 51 = .int .i64 (wdM lk overflowS overflowW (p.I 51) 0 false) from rfl, e1])
        · exact (A20.out).trans (by have e1 := V20.out; rw [show (applyM lk p).at 52 = .int .i64 (wdM lk visibilityS visibilityW (p.I 52) 0 true) from rfl, e1]))
      have DIS := Lib.hid (show (applyM lk p).at 0 = .int .i64 (fixM x1 x2) from by have e1 := V1.out; have e2 := V2.out; rw [show (applyM lk p).at 0 = .int .i64 (fixM (wdM lk displayS displayW (p.I 0) 2 false) (wdM lk positionS positionW (p.I 1) 0 false)) from rfl, e1, e2])
      have HFI := Lib.hid (show ∀ (cF : Array Value), cF.size = 53 → cF[0]? = some ((applyM lk p).at 0) → (∀ i, i ≠ 0 → cF[i]? = c30[i]?) → cF = R.cells.toArray from by
        intro cF h1 h2 h3
        rw [← HR.out]
        apply Array.ext_getElem?
        intro i
        have et : ((applyM lk p).cells.toArray)[i]? = (applyM lk p).cells[i]? := by simp
        rw [et]
        by_cases hi : i < 53
        · rw [Sty.get _ _ hi]
          by_cases h0 : i = 0
          · rw [h0]; exact h2
          · rw [h3 i h0]; exact LOW.out i hi h0
        · rw [Array.getElem?_eq_none (by omega), List.getElem?_eq_none (by rw [Sty.len]; omega)])
      have d0 := HX20.out.cell 0
      rw [B0] at d0
      have d1 := HX20.out.cell 1
      rw [B1] at d1
      have f0 := HX20.out.free 0
      have hlt := HX20.out.blk.1.lt
      have HB0 := Lib.hid B0
      clear B0 B1
      have hfin : ∀ (W : World) (cF : Array Value) (L2 : List As), cF = R.cells.toArray → St w0 W (As.cells bo cF 28 :: As.cells bz #[.int .i64 1, .int .i64 0] 24 :: As.cells bp pa 28 :: As.cells bc #[.map (some bm), .int .i64 fs] 66 :: As.mp 9 sK vV sOk bm n lk :: As.kn kb m' :: As.cells b6 Z 28 :: L) → St w0 W (As.cells b6 Z 28 :: As.cells bo R.cells.toArray 28 :: As.cells bz #[.int .i64 1, .int .i64 0] 24 :: As.cells bp pa 28 :: As.cells bc #[.map (some bm), .int .i64 fs] 66 :: As.mp 9 sK vV sOk bm n lk :: As.kn kb m' :: L) := by
        intro W cF L2 e h
        rw [e] at h
        exact St.sh [_, _, _, _, _, _, _] [6, 0, 1, 2, 3, 4, 5] (by decide) h
      have HFN := Lib.hid hfin
      clear hfin
      have ZS := Lib.hid (show Z.size = 53 from by rw [← HZ.out]; rfl)
      by_cases k2 : x2 = 2
      · subst k2
        obtain ⟨ct, hct⟩ : ∃ b, ([2, 3, 6, 7, 9] : List Int).contains x1 = b := ⟨_, rfl⟩
        have hcn := fun (w : World) (b : Nat) (h : Blk w b #[.int .i64 2, .int .i64 3, .int .i64 6, .int .i64 7, .int .i64 9] 3) => Tryz.slices_Contains_int b 0 5 5 [2, 3, 6, 7, 9] x1 w (by decide) (by decide) (fun j hj => by
          rw [Nat.zero_add, h.cell]
          have : j = 0 ∨ j = 1 ∨ j = 2 ∨ j = 3 ∨ j = 4 := by simp at hj; omega
          rcases this with rfl | rfl | rfl | rfl | rfl <;> rfl)
        have htk5 : ([2, 3, 6, 7, 9] : List Int).take 5 = [2, 3, 6, 7, 9] := rfl
        simp only [htk5, hct] at hcn
        have HCN := Lib.hid hcn
        have HCT := Lib.hid hct
        clear hcn hct htk5
        cases ct with
        | true =>
          have hfix : fixM x1 2 = 1 := by
            unfold fixM
            rw [if_pos ⟨rfl, by have := HCT.out; simpa using this⟩]
          have HFX := Lib.hid hfix
          clear hfix
          have hcF : c30.setIfInBounds 0 (.int .i64 1) = R.cells.toArray := HFI.out _ (by rw [Array.size_setIfInBounds]; exact ZX20.out) (by rw [DIS.out, HFX.out]; exact set_at (by rw [ZX20.out]; decide) _) (fun i hi => set_ne (Ne.symm hi) _)
          have HQ := Lib.hid (HFN.out _ _ [] hcF ((HX20.out.set 0 (.int .i64 1)).alloc (.cells #[.int .i64 2, .int .i64 3, .int .i64 6, .int .i64 7, .int .i64 9] 3)))
          clear hcF
          go_upto_region 45 with (go_at_call 35; refine (HCN.out _ _ (Blk.new WX20 _ 3)).mono ?_; rintro e w9 ⟨rfl, hw9⟩; rw [hw9]; clear hw9)
          obtain ⟨WQ, hWQ⟩ : ∃ z, (WX20.setCell ⟨bo, 0, none⟩ (.int .i64 1)).alloc (.cells #[.int .i64 2, .int .i64 3, .int .i64 6, .int .i64 7, .int .i64 9] 3) = z := ⟨_, rfl⟩
          rw [hWQ] at HQ
          rw [hWQ]
          clear hWQ d0 d1 f0 hlt
          go_wp2_with (first
            | (refine st_load rfl (.tmp 10) rfl R.cells HQ.out (.tail _ (.head _)) rfl (Sty.len R) Tryz.underlying28 rfl size28 ?_)
            | (refine st_store rfl (.tmp 6) (.tmp 183) rfl HQ.out R.cells rfl rfl ZS.out (Sty.len R) size28 (Sty.one R) ?_; intro W8 HW8; have H8 := Lib.hid HW8; clear HW8)
            | fail)
          refine bodyPost_ret (results_cell_row (P := Tryz.prog) Tryz.results14 _ _ b6 28 R.cells.toArray _ _ rfl H8.out.blk.1 Tryz.underlying28 rfl size28) rfl ⟨rfl, m', by omega, ?_⟩
          exact (St.sh [_, _, _, _, _, _, _] [6, 0, 1, 2, 3, 4, 5] (by decide) H8.out).swap.drop.swap.drop.swap.drop.swap.drop.swap.drop.swap.drop
        | false =>
          have hfix : fixM x1 2 = x1 := by
            unfold fixM
            rw [if_neg (by rintro ⟨-, h⟩; have := HCT.out; simp at this; omega)]
          have HFX := Lib.hid hfix
          clear hfix
          have hcF : c30 = R.cells.toArray := HFI.out c30 ZX20.out (by rw [HB0.out, DIS.out, HFX.out]) (fun _ _ => rfl)
          have HQ := Lib.hid (HFN.out _ _ [] hcF (HX20.out.alloc (.cells #[.int .i64 2, .int .i64 3, .int .i64 6, .int .i64 7, .int .i64 9] 3)))
          clear hcF
          go_upto_region 45 with (go_at_call 35; refine (HCN.out _ _ (Blk.new WX20 _ 3)).mono ?_; rintro e w9 ⟨rfl, hw9⟩; rw [hw9]; clear hw9)
          obtain ⟨WQ, hWQ⟩ : ∃ z, WX20.alloc (.cells #[.int .i64 2, .int .i64 3, .int .i64 6, .int .i64 7, .int .i64 9] 3) = z := ⟨_, rfl⟩
          rw [hWQ] at HQ
          rw [hWQ]
          clear hWQ d0 d1 f0 hlt
          go_wp2_with (first
            | (refine st_load rfl (.tmp 10) rfl R.cells HQ.out (.tail _ (.head _)) rfl (Sty.len R) Tryz.underlying28 rfl size28 ?_)
            | (refine st_store rfl (.tmp 6) (.tmp 183) rfl HQ.out R.cells rfl rfl ZS.out (Sty.len R) size28 (Sty.one R) ?_; intro W8 HW8; have H8 := Lib.hid HW8; clear HW8)
            | fail)
          refine bodyPost_ret (results_cell_row (P := Tryz.prog) Tryz.results14 _ _ b6 28 R.cells.toArray _ _ rfl H8.out.blk.1 Tryz.underlying28 rfl size28) rfl ⟨rfl, m', by omega, ?_⟩
          exact (St.sh [_, _, _, _, _, _, _] [6, 0, 1, 2, 3, 4, 5] (by decide) H8.out).swap.drop.swap.drop.swap.drop.swap.drop.swap.drop.swap.drop
      · have n2 : (x2 == 2) = false := by rw [beq_eq_false_iff_ne]; exact k2
        have hfix : fixM x1 x2 = x1 := by unfold fixM; rw [if_neg (fun h => k2 h.1)]
        have HFX := Lib.hid hfix
        have hcF : c30 = R.cells.toArray := HFI.out c30 ZX20.out (by rw [HB0.out, DIS.out, HFX.out]) (fun _ _ => rfl)
        have HQ := Lib.hid (HFN.out WX20 c30 [] hcF HX20.out)
        clear hfix hcF k2
        go_wp2_with (first
          | (refine st_load rfl (.tmp 10) rfl R.cells HQ.out (.tail _ (.head _)) rfl (Sty.len R) Tryz.underlying28 rfl size28 ?_)
          | (refine st_store rfl (.tmp 6) (.tmp 183) rfl HQ.out R.cells rfl rfl ZS.out (Sty.len R) size28 (Sty.one R) ?_; intro W8 HW8; have H8 := Lib.hid HW8; clear HW8)
          | fail)
        refine bodyPost_ret (results_cell_row (P := Tryz.prog) Tryz.results14 _ _ b6 28 R.cells.toArray _ _ rfl H8.out.blk.1 Tryz.underlying28 rfl size28) rfl ⟨rfl, m', by omega, ?_⟩
        exact (St.sh [_, _, _, _, _, _, _] [6, 0, 1, 2, 3, 4, 5] (by decide) H8.out).swap.drop.swap.drop.swap.drop.swap.drop.swap.drop.swap.drop

end Go.Proofs.YtldembadjgibjaaGreatDoor
