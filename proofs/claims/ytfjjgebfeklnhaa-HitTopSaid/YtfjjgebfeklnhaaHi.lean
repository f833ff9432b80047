/-
  The walk of HitTop.
-/
import Derived.Test.YtfjjgebfeklnhaaHh
set_option linter.unusedVariables false
set_option linter.unusedSimpArgs false
namespace Go.Proofs.Ytfjjgebfeklnhaa
open Go.RowKit Go.K

theorem covering_n {n : Nat} {x y : Int} {L : List GI} (hL : L.length = n) (s : Option Addr) (c : Nat) (w : World) (h : Rd w 13 s n (flat icells L)) (hn : n ≤ 1000000) :
    Calls Try.prog 11 #[.slice s n c, .int .i64 x, .int .i64 y] w (CvPost x y L w) := by subst hL; exact covering_any s c L x y w h hn
theorem at_n {n : Nat} {x y : Int} {L : List GI} (hL : L.length = n) (s : Option Addr) (c : Nat) (w : World) (h : Rd w 13 s n (flat icells L)) (hn : n ≤ 1000000) :
    Calls Try.prog 12 #[.slice s n c, .int .i64 x, .int .i64 y] w (AtPost x y L w) := by subst hL; exact at_any s c L x y w h hn
theorem nodes_n {n : Nat} {x y : Int} {L : List GI} (hL : L.length = n) (s : Option Addr) (c : Nat) (w : World) (h : Rd w 13 s n (flat icells L)) (hn : n ≤ 1000000) :
    Calls Try.prog 13 #[.slice s n c, .int .i64 x, .int .i64 y] w (NdPost x y L w) := by subst hL; exact nodes_any s c L x y w h hn

def wants (H : List GI) (k : Nat) : List Int := ((H.take k).map (·.1.nd)).foldl wStep []
theorem wants_succ (H : List GI) (k : Nat) (hk : k < H.length) (g : GI) (hg : H[k] = g) : wants H (k + 1) = wStep (wants H k) g.1.nd := by
  unfold wants
  rw [List.take_succ_eq_append_getElem hk, hg]
  simp
theorem wants_len (H : List GI) (k : Nat) : (wants H k).length ≤ k := by
  have : ∀ (l : List Int) (o : List Int), (l.foldl wStep o).length ≤ o.length + l.length := by
    intro l
    induction l with
    | nil => intro o; simp
    | cons g l ih =>
      intro o
      have := ih (wStep o g)
      have h1 : (wStep o g).length ≤ o.length + 1 := by unfold wStep; split <;> simp
      simp only [List.foldl_cons, List.length_cons]
      omega
  have h2 := this ((H.take k).map (·.1.nd)) []
  unfold wants
  have h3 : ((H.take k).map (·.1.nd)).length ≤ k := by rw [List.length_map, List.length_take]; omega
  simp only [List.length_nil, Nat.zero_add] at h2
  omega
def TpRel (H : List GI) (w : World) (g : Nat) (v11 v68 : Value) (wr : World) : Prop :=
  ∃ (k : Nat) (s : Option Addr) (c : Nat), g = H.length - k ∧ k ≤ H.length ∧ v68 = .int .i64 k ∧ v11 = .slice s (wants H k).length c ∧ K.Own w wr 3 1 s (wants H k).length c (ints (wants H k))
def CmRel (n : Nat) (w : World) (g : Nat) (v : Value) (wr : World) : Prop :=
  ∃ k : Nat, g = n - k ∧ k ≤ n ∧ v = .int .i64 k ∧ Below w.heap.size w wr
def SnRel (W : List Int) (n : Int) (w : World) (g : Nat) (v14 v83 : Value) (wr : World) : Prop :=
  ∃ k : Nat, g = W.length - k ∧ k ≤ W.length ∧ v83 = .int .i64 k ∧ v14 = .bool (n == 0 || (W.take k).contains n) ∧ wr = w

set_option maxRecDepth 100000 in
set_option maxHeartbeats 1000000 in
theorem top_go (s : Option Addr) (c : Nat) (ls : List GL) (x y : Int) (w : World) (h : Rd w 12 s ls.length (flat lcells ls)) (hn : (ls.length : Int) ≤ 9223372036854775807) :
    Calls Try.prog 3 #[.slice s ls.length c, .int .i64 x, .int .i64 y] w fun e w' => e = .returned (.bool true) ∧ Below w.heap.size w w' := by
  have HR := Lib.hid h
  clear h
  obtain ⟨fb, hfb⟩ : ∃ fb, fewB ls = fb := ⟨_, rfl⟩
  have HF := Lib.hid hfb
  clear hfb
  cases fb with
  | false =>
    go_enter Try.func3, Try.ntmps3
    go_wp2_with (first
      | (go_at_call 8; refine (awake_any _).mono ?_; rintro e wb ⟨rfl, hbb⟩; have HB2 := Lib.hid (HB1.out.trans (hbb.mono HB1.out.size)); clear hbb)
      | (go_at_call 8; refine (awake_any _).mono ?_; rintro e wa ⟨rfl, hba⟩; have HB1 := Lib.hid hba; clear hba)
      | (go_at_call 9; refine (few_any _ _ _ _ (HR.out.below HB1.out) hn).mono ?_; rintro e wb ⟨rfl, rfl⟩; rw [HF.out]))
    go_ret
    exact ⟨rfl, HB2.out⟩
  | true =>
    have hlen : ls.length ≤ 40 := by
      have := HF.out
      unfold fewB at this
      simp only [Bool.and_eq_true, decide_eq_true_eq] at this
      exact this.2
    have hL : (ls.map gOf).length = ls.length := by simp
    obtain ⟨L, hLL⟩ : ∃ L, ls.map gOf = L := ⟨_, rfl⟩
    rw [hLL] at hL
    obtain ⟨H, hH⟩ : ∃ H, hits x y L = H := ⟨_, rfl⟩
    have HH := Lib.hid hH
    have HLL := Lib.hid hLL
    have hCl := cov_len x y L
    have hHl : H.length ≤ ls.length := by
      rw [← hH]
      unfold hits
      refine Nat.le_trans (List.length_filter_le _ _) (by simp [hL])
    rw [hH] at hCl
    have HCC := Lib.hid (cov_hits x y L)
    have HCR := Lib.hid (cov_range x y L)
    have HNH := Lib.hid (nodes_hits x y L)
    have HTH := Lib.hid (top_hits x y L)
    obtain ⟨C, hC⟩ : ∃ C, covD x y L 0 = C := ⟨_, rfl⟩
    have HC := Lib.hid hC
    rw [hC] at HCC HCR hCl
    rw [hH] at HCC HNH HTH
    obtain ⟨tp, htp⟩ : ∃ tp, ((topOf x y L).map (·.1)).getD zIt = tp := ⟨_, rfl⟩
    obtain ⟨ok, hok⟩ : ∃ ok, (topOf x y L).isSome = ok := ⟨_, rfl⟩
    have HTP := Lib.hid htp
    have HOK := Lib.hid hok
    clear hLL hH hC htp hok
    go_enter Try.func3, Try.ntmps3
    go_upto_region 6 with (first
      | (go_at_call 8; refine (awake_any _).mono ?_; rintro e wa ⟨rfl, hba⟩; have HB1 := Lib.hid hba; clear hba)
      | (go_at_call 9; refine (few_any _ _ _ _ (HR.out.below HB1.out) hn).mono ?_; rintro e wb ⟨rfl, rfl⟩; rw [HF.out])
      | (go_at_call 10; refine (items_any _ _ _ _ (HR.out.below HB1.out) (by omega)).mono ?_; rintro e w1 ⟨sI, cI, rfl, hI⟩; rw [HLL.out] at hI; have HI := Lib.hid hI.sl.rd; have HB2 := Lib.hid (HB1.out.trans (hI.bel.mono HB1.out.size)); clear hI HB1)
      | (go_at_call 11; refine (covering_n hL _ _ _ HI.out (by omega)).mono ?_; rintro e w2 ⟨sC, cC, rfl, hCv⟩; rw [HC.out] at hCv ⊢; have HCv := Lib.hid hCv.sl.rd; have HI2 := Lib.hid (HI.out.below hCv.bel); have HB3 := Lib.hid (HB2.out.trans (hCv.bel.mono HB2.out.size)); clear hCv HI HB2)
      | (go_at_call 12; refine (at_n hL _ _ _ HI2.out (by omega)).mono ?_; rintro e w3 ⟨he, hb3⟩; rw [HTP.out, HOK.out] at he; subst he; have HI3 := Lib.hid (HI2.out.below hb3); have HCv3 := Lib.hid (HCv.out.below hb3); have HB4 := Lib.hid (HB3.out.trans (hb3.mono HB3.out.size)); clear hb3 HI2 HB3 HCv))
    have hB5 := Lib.hid (show Below w3.heap.size w3 (w3.alloc (.cells #[.int .i64 tp.kd, .int .i64 tp.r.x, .int .i64 tp.r.y, .int .i64 tp.r.w, .int .i64 tp.r.h, .int .i64 tp.c.x, .int .i64 tp.c.y, .int .i64 tp.c.w, .int .i64 tp.c.h, .string tp.col, .string tp.tx, .int .i64 tp.sz, .int .i64 tp.nd] 32)) from (Below.refl _ _).alloc (Nat.le_refl _) _)
    have HBK := Lib.hid (Blk.new w3 #[.int .i64 tp.kd, .int .i64 tp.r.x, .int .i64 tp.r.y, .int .i64 tp.r.w, .int .i64 tp.r.h, .int .i64 tp.c.x, .int .i64 tp.c.y, .int .i64 tp.c.w, .int .i64 tp.c.h, .string tp.col, .string tp.tx, .int .i64 tp.sz, .int .i64 tp.nd] 32)
    obtain ⟨W5, hW5⟩ : ∃ W5, w3.alloc (.cells #[.int .i64 tp.kd, .int .i64 tp.r.x, .int .i64 tp.r.y, .int .i64 tp.r.w, .int .i64 tp.r.h, .int .i64 tp.c.x, .int .i64 tp.c.y, .int .i64 tp.c.w, .int .i64 tp.c.h, .string tp.col, .string tp.tx, .int .i64 tp.sz, .int .i64 tp.nd] 32) = W5 := ⟨_, rfl⟩
    rw [hW5] at hB5 HBK ⊢
    clear hW5
    have HI5 := Lib.hid (HI3.out.below hB5.out)
    have HC5 := Lib.hid (HCv3.out.below hB5.out)
    have HB5 := Lib.hid (HB4.out.trans (hB5.out.mono HB4.out.size))
    clear hB5 HI3 HCv3 HB4
    obtain ⟨r0, r1, r2, r3, r4, r5, r6, r7, r8, r9, r10, r11, r12, -⟩ := blk13 HBK.out
    go_cut [6, 65] (fun v6 v65 wx => v65 = .bool false ∧ Below W5.heap.size W5 wx)
    case first =>
      cases hHc : H with
      | nil =>
        subst hHc
        have ht := HTH.out
        have e1 := HTP.out
        have e2 := HOK.out
        rw [ht] at e1 e2
        simp only [List.head?_nil, Option.map_none, Option.getD_none, Option.isSome_none] at e1 e2
        subst e1 e2
        simp only [List.length_nil, zIt, R4.zero] at r0 r1 r2 r3 r4 r5 r6 r7 r8 r9 r10 r11 r12 ⊢
        go_quiet (fail)
        go_wp2_with fail
        go_meet
        exact ⟨rfl, below_drewN (Below.refl _ _)⟩
      | cons t rest =>
        subst hHc
        have ht := HTH.out
        have e1 := HTP.out
        have e2 := HOK.out
        rw [ht] at e1 e2
        simp only [List.head?_cons, Option.map_some, Option.getD_some, Option.isSome_some] at e1 e2
        subst e1 e2
        have hcm := HCC.out
        obtain ⟨i0, C', rfl⟩ : ∃ i0 C', C = i0 :: C' := by
          cases C with
          | nil => simp at hcm
          | cons a b => exact ⟨a, b, rfl⟩
        obtain ⟨k0, rfl, hk0⟩ := HCR.out i0 (by simp)
        have hg0 : L[k0] = t := by
          have := (List.cons.inj hcm).1
          simpa [List.getElem?_eq_getElem hk0] using this
        obtain ⟨gC, oC, rfl, -⟩ := HC5.out.addr (by simp)
        obtain ⟨gI, oI, rfl, -⟩ := HI5.out.addr (by omega)
        have hc0 := ints_at HC5.out 0 (by simp) k0 rfl
        rw [Nat.add_zero] at hc0
        obtain ⟨d0, d1, d2, d3, d4, d5, d6, d7, d8, d9, d10, d11, d12⟩ := i_at HI5.out hk0 t hg0
        have hk0I : (k0 : Int) < (ls.length : Int) := by omega
        have hk00 : (0 : Int) ≤ (k0 : Int) := by omega
        have hlr : (0 : Int) < ((rest.length + 1 : Nat) : Int) := by omega
        simp only [List.length_cons] at hHl hCl ⊢
        go_quiet (fail)
        go_wp2_with fail
        go_meet
        exact ⟨rfl, below_drewN (Below.refl _ _)⟩
    case rest =>
      obtain ⟨rfl, hcut⟩ := hcut
      have HI6 := Lib.hid (HI5.out.below hcut)
      have HC6 := Lib.hid (HC5.out.below hcut)
      have HB6 := Lib.hid (HB5.out.trans (hcut.mono HB5.out.size))
      clear hcut r0 r1 r2 r3 r4 r5 r6 r7 r8 r9 r10 r11 r12 HBK HI5 HC5 HB5
      go_wp2_with fail
      go_loopg [11, 68] H.length (TpRel H wc)
      case atStart => exact ⟨0, none, 0, rfl, Nat.zero_le _, rfl, rfl, K.Own.nil (Below.refl _ _) _ _⟩
      case round =>
        obtain ⟨k, so, co, hg, hk, rfl, rfl, hp⟩ := hrel
        have Hg := Lib.hid hg
        have Hp := Lib.hid hp
        have hwl := wants_len H k
        clear hg hp
        by_cases hkn : k < H.length
        · have hri := HI6.out.below Hp.out.bel
          have hrc := HC6.out.below Hp.out.bel
          obtain ⟨gC, oC, rfl, -⟩ := hrc.addr (by omega)
          obtain ⟨gI, oI, rfl, -⟩ := hri.addr (by omega)
          have hkC : k < C.length := by omega
          obtain ⟨ck, hck, hckl⟩ := HCR.out C[k] (List.getElem_mem hkC)
          obtain ⟨hx, hhx⟩ : ∃ hx, H[k] = hx := ⟨_, rfl⟩
          have hLk : L[ck] = hx := by
            rw [← hhx]
            have := List.getElem_of_eq HCC.out (i := k) (by simpa using hkC)
            simpa [hck, List.getElem?_eq_getElem hckl] using this
          have hc0 := ints_at hrc k hkC ck hck
          obtain ⟨-, -, -, -, -, -, -, -, -, -, -, -, d12⟩ := i_at hri hckl hx hLk
          have HSu := Lib.hid (wants_succ H k hkn hx hhx)
          have hkI : (k : Int) < (H.length : Int) := by omega
          have hckI : (ck : Int) < (ls.length : Int) := by omega
          have hck0 : (0 : Int) ≤ (ck : Int) := by omega
          obtain ⟨W, hW⟩ : ∃ W, wants H k = W := ⟨_, rfl⟩
          rw [hW] at Hp HSu hwl
          obtain ⟨nd, hnd⟩ : ∃ nd, hx.1.nd = nd := ⟨_, rfl⟩
          rw [hnd] at d12 HSu
          simp only [hW]
          clear hri hrc hW hhx hLk hnd hck
          go_wp2_with fail
          go_loopg [14, 83] W.length (SnRel W nd wr)
          case atStart => exact ⟨0, rfl, Nat.zero_le _, rfl, by simp, rfl⟩
          case round =>
            obtain ⟨j, hg2, hj, rfl, rfl, rfl⟩ := hrel
            have Hg2 := Lib.hid hg2
            clear hg2
            by_cases hjn : j < W.length
            · obtain ⟨gW, oW, rfl, -⟩ := Hp.out.sl.rd.addr (by omega)
              obtain ⟨v, hv⟩ : ∃ v, W[j] = v := ⟨_, rfl⟩
              have hw0 := ints_at Hp.out.sl.rd j hjn v hv
              have HV := Lib.hid hv
              have hjI : (j : Int) < (W.length : Int) := by omega
              obtain ⟨sn, hsn⟩ : ∃ sn, (nd == 0 || (W.take j).contains nd) = sn := ⟨_, rfl⟩
              have HSN := Lib.hid hsn
              rw [hsn]
              clear hv hsn
              have hstep : (nd == 0 || (W.take (j + 1)).contains nd) = (sn || (v == nd)) := by
                rw [List.take_succ_eq_append_getElem hjn, HV.out, ← HSN.out, List.contains_eq_any_beq, List.contains_eq_any_beq, List.any_append, Bool.or_assoc]
                simp [Bool.beq_comm, BEq.comm]
              have HST := Lib.hid hstep
              clear hstep
              cases sn with
              | true =>
                go_wp2_with fail
                go_roundg (W.length - (j + 1))
                case measure => have := Hg2.out; omega
                case rel => exact ⟨j + 1, rfl, by omega, by simp, by rw [HST.out]; simp, rfl⟩
              | false =>
                go_wp2_with fail
                go_roundg (W.length - (j + 1))
                case measure => have := Hg2.out; omega
                case rel => exact ⟨j + 1, rfl, by omega, by simp, by rw [HST.out]; simp, rfl⟩
            · obtain rfl : j = W.length := by omega
              rw [List.take_length]
              by_cases hsn : (nd == 0 || W.contains nd) = true
              · rw [hsn]
                have he := HSu.out
                unfold wStep at he
                rw [if_pos (by simpa using hsn)] at he
                have HE := Lib.hid he
                clear he hsn
                go_wp2_with fail
                go_roundg (H.length - (k + 1))
                case measure => have := Hg.out; omega
                case rel => exact ⟨k + 1, so, co, rfl, by omega, by simp, by rw [HE.out], by rw [HE.out]; exact Hp.out⟩
              · have hsn' : (nd == 0 || W.contains nd) = false := by simpa using hsn
                rw [hsn']
                have he := HSu.out
                unfold wStep at he
                rw [if_neg (by simpa using hsn)] at he
                have HE := Lib.hid he
                clear he hsn hsn'
                have H3 := Lib.hid (Hp.out.alloc (.cells #[.int .i64 nd] 3))
                have r2 := rd_built_at wr #[.int .i64 nd] 3 1 1 wr.heap.size rfl rfl (by simp [Value.oneCell'])
                go_wp2_with (refine wpList_append_own' rfl (.tmp 98) (.tmp 100) 27 rfl elI so _ co _ rfl H3.out _ 1 _ _ rfl r2 (by omega) (by omega) ?_; intro so' co' w4 p1 p2 p3; have H4 := Lib.hid p1; clear p1 p2 p3)
                go_roundg (H.length - (k + 1))
                case measure => have := Hg.out; omega
                case rel =>
                  refine ⟨k + 1, so', co', rfl, by omega, by simp, by rw [HE.out]; simp, ?_⟩
                  rw [HE.out]
                  simpa [ints] using H4.out
        · obtain rfl : k = H.length := by omega
          have hall : wants H H.length = nodesOf x y L := by
            rw [HNH.out]; unfold wants; rw [List.take_length]
          obtain ⟨M, hM⟩ : ∃ M, nodesOf x y L = M := ⟨_, rfl⟩
          have HM := Lib.hid hM
          rw [hM] at hall
          rw [hall] at Hp hwl
          simp only [hall]
          have HI7 := Lib.hid (HI6.out.below Hp.out.bel)
          clear hM hall
          go_wp2_with (go_at_call 13; refine (nodes_n hL _ _ _ HI7.out (by omega)).mono ?_; rintro e w8 ⟨sG, cG, rfl, hb8, hrG, -⟩; rw [HM.out] at hrG ⊢; have HG := Lib.hid hrG; have HO8 := Lib.hid (Hp.out.to hb8); clear hrG hb8)
          go_loopg [114] M.length (CmRel M.length w8)
          case atStart => exact ⟨0, rfl, Nat.zero_le _, rfl, Below.refl _ _⟩
          case round =>
            obtain ⟨j, hg3, hj, rfl, hb9⟩ := hrel
            have Hg3 := Lib.hid hg3
            have HB9 := Lib.hid hb9
            clear hg3 hb9
            by_cases hjn : j < M.length
            · have h1 := HG.out.below HB9.out
              have h2 := HO8.out.sl.rd.below HB9.out
              obtain ⟨g1, o1, rfl, -⟩ := h1.addr (by omega)
              obtain ⟨g2, o2, rfl, -⟩ := h2.addr (by omega)
              have c1 := ints_at h1 j hjn _ rfl
              have c2 := ints_at h2 j hjn _ rfl
              obtain ⟨v, hv⟩ : ∃ v, M[j] = v := ⟨_, rfl⟩
              rw [hv] at c1 c2
              clear hv h1 h2
              have hjI : (j : Int) < (M.length : Int) := by omega
              go_upto_region 28 with fail
              go_quiet (fail)
              go_wp2_with fail
              go_roundg (M.length - (j + 1))
              case measure => have := Hg3.out; omega
              case rel => exact ⟨j + 1, rfl, by omega, by simp, below_drewN HB9.out⟩
            · go_wp2_with fail
              go_ret
              exact ⟨rfl, HB6.out.trans ((HO8.out.bel.trans (HB9.out.mono HO8.out.bel.size)).mono HB6.out.size)⟩
end Go.Proofs.Ytfjjgebfeklnhaa
