/-
  StoreKeys.
-/
import Derived.Test.YtcglnjklnlejmaaSs
import Derived.Test.YtcglnjklnlejmaaSt
import Derived.Test.YtcglnjklnlejmaaSu
set_option linter.unusedVariables false
set_option linter.unusedSimpArgs false
namespace Go.Proofs.Ytcglnjklnlejmaa
open Go.RowKit Go.K Go.K.Sr

theorem dec_eq (a b : ByteArray) : decide (a = b) = (a.toList == b.toList) := by
  by_cases h : a = b
  · subst h; simp
  · have : a.toList ≠ b.toList := fun e => h (toList_inj e)
    simp [h, this]
def hasP (l : List Pr) (q : ByteArray) : Bool := l.any (fun p => p.k.toList == q.toList)
theorem hasP_succ (l : List Pr) (q : ByteArray) (k : Nat) (hk : k < l.length) (x : Pr) (hx : l[k] = x) : hasP (l.take (k + 1)) q = (hasP (l.take k) q || (x.k.toList == q.toList)) := by
  unfold hasP
  rw [List.take_succ_eq_append_getElem hk, hx, List.any_append]
  simp
theorem asc_chs {S : SS} (h : Asc Ch.k S.cs) (k : Nat) : Asc Ch.k (chs S k) := by
  unfold chs
  split
  · exact h
  · exact List.Pairwise.nil
theorem getS_sign {S : SS} {id : Int} {k : Nat} (hf : fnd id S.txs = some k) (ht : turnB S.txs k = true) (hc : Asc Ch.k S.cs) (q : ByteArray) :
    ∃ v, getS S id q = (v, hasP (content S.pairs (chs S k)) q, 0) := by
  refine ⟨(getV S.pairs (chs S k) q).1, ?_⟩
  have h1 : hasP (content S.pairs (chs S k)) q = (getV S.pairs (chs S k) q).2 := by
    rw [getV_sign q (asc_chs hc k), look_any]
    unfold hasP
    congr 1
    funext p
    exact (dec_eq _ _).symm
  rw [h1]
  unfold getS
  rw [hf]
  simp [ht]
theorem hasP_mem {l : List Pr} {k : Nat} (hk : k < l.length) (x : Pr) (hx : l[k] = x) : hasP l x.k = true := by
  unfold hasP
  rw [List.any_eq_true]
  exact ⟨x, by rw [← hx]; exact List.getElem_mem hk, by simp⟩
def KwRel (l : List Pr) (lo hi : ByteArray) (w : World) (g : Nat) (v18 v95 : Value) (wr : World) : Prop :=
  ∃ (k : Nat) (s : Option Addr) (c : Nat), g = l.length - k ∧ k ≤ l.length ∧ v95 = .int .i64 k ∧ v18 = .slice s (keysL (l.take k) lo hi).length c ∧ K.Own w wr 9 1 s (keysL (l.take k) lo hi).length c (strs (keysL (l.take k) lo hi))
def FdRel (l : List Pr) (q : ByteArray) (w : World) (g : Nat) (v29 v155 : Value) (wr : World) : Prop :=
  ∃ k : Nat, g = l.length - k ∧ k ≤ l.length ∧ v155 = .int .i64 k ∧ v29 = .bool (hasP (l.take k) q) ∧ Below w.heap.size w wr

set_option maxRecDepth 100000 in
set_option maxHeartbeats 20000000 in
theorem keys_go (s : Option Addr) (c : Nat) (ls : List Op') (lo hi : ByteArray) (w0 : World) (h : Rd w0 5 s ls.length (flat opc ls)) (hn : (ls.length : Int) ≤ 9223372036854775807) (hall : ∀ o ∈ ls, o.ok) :
    Calls Try.prog 8 #[.slice s ls.length c, .string lo, .string hi] w0 fun e w' => e = .returned (.bool true) ∧ Below w0.heap.size w0 w' := by
  have HR := Lib.hid h
  clear h
  obtain ⟨fb, hfb⟩ : ∃ fb, fewB ls = fb := ⟨_, rfl⟩
  have HF := Lib.hid hfb
  clear hfb
  cases fb with
  | false =>
    go_enter Try.func8, Try.ntmps8
    go_wp2_with (first
      | (go_at_call 11; refine (fit_any _).mono ?_; rintro e wa ⟨rfl, hba⟩; have HB1 := Lib.hid hba; clear hba)
      | (go_at_call 18; refine (few_any _ _ _ _ (HR.out.below HB1.out) hn).mono ?_; rintro e wb ⟨rfl, hbb⟩; rw [HF.out]; have HB2 := Lib.hid (HB1.out.trans (hbb.mono HB1.out.size)); clear hbb))
    go_ret
    exact ⟨rfl, HB2.out⟩
  | true =>
    have hlen : ls.length ≤ 40 ∧ ∀ o ∈ ls, okOp o := by
      have := HF.out
      unfold fewB at this
      simp only [Bool.and_eq_true, decide_eq_true_eq, List.all_eq_true] at this
      refine ⟨this.2, fun o ho => ⟨hall o ho, ?_⟩⟩
      have h1 := this.1 o ho
      unfold shortO at h1
      simpa using h1
    obtain ⟨hl40, hok⟩ := hlen
    go_enter Try.func8, Try.ntmps8
    go_upto_region 6 with (first
      | (go_at_call 11; refine (fit_any _).mono ?_; rintro e wa ⟨rfl, hba⟩; have HB1 := Lib.hid hba; clear hba)
      | (go_at_call 18; refine (few_any _ _ _ _ (HR.out.below HB1.out) hn).mono ?_; rintro e wb ⟨rfl, hbb⟩; rw [HF.out]; have HB2 := Lib.hid (HB1.out.trans (hbb.mono HB1.out.size)); clear hbb))
    have H0 := Lib.hid (s0_at (St.start w0 HB2.out))
    go_wp2_with fail
    obtain ⟨bs, hbs⟩ : ∃ bs, wb.heap.size = bs := ⟨_, rfl⟩
    rw [hbs] at H0 ⊢
    go_loopg [39] ls.length (TuRel w0 bs ls.length)
    case atStart => exact ⟨0, S0, rfl, Nat.zero_le _, rfl, H0.out, iv0, ids0⟩
    case round =>
      obtain ⟨q, S, hg, hq, rfl, hs, hi, hids⟩ := hrel
      have Hg := Lib.hid hg
      have HS := Lib.hid hs
      have HIV := Lib.hid hi
      have HIDS := Lib.hid hids
      clear hg hs hids H0
      by_cases hqn : q < ls.length
      · have hrd := HR.out.below (by obtain ⟨p, h⟩ := HS.out; exact h.bel)
        obtain ⟨g, off, rfl, -⟩ := hrd.addr (by omega)
        obtain ⟨x, hx⟩ : ∃ x, ls[q] = x := ⟨_, rfl⟩
        obtain ⟨d0, d1, d2, d3, d4⟩ := o_at hrd hqn x hx
        have hxm : x ∈ ls := by rw [← hx]; exact List.getElem_mem hqn
        have hqI : (q : Int) < (ls.length : Int) := by omega
        have HX := Lib.hid hx
        clear hx hrd
        · skip
          go_upto_region 9 with fail
          obtain ⟨b5, hb5⟩ : ∃ b5, wr.heap.size = b5 := ⟨_, rfl⟩
          obtain ⟨p0, hp0⟩ := HS.out
          have hp1 := St.sh [_, _, _, _, _] [1, 2, 3, 4, 0] (by decide) (hp0.new #[.int .u8 x.kd, .int .u8 x.tx, .string x.key, .string x.val, .bool x.wr] 45)
          simp only [List.map_cons, List.map_nil, List.getD_cons_zero, List.getD_cons_succ, List.cons_append, List.nil_append] at hp1
          obtain ⟨W, hW⟩ : ∃ W, wr.alloc (.cells #[.int .u8 x.kd, .int .u8 x.tx, .string x.key, .string x.val, .bool x.wr] 45) = W := ⟨_, rfl⟩
          rw [hW] at hp1
          rw [hb5] at hp1
          try rw [hW]
          try simp only [hb5]
          clear hW hb5
          have HP := Lib.hid (show SAt bs S w0 W _ from ⟨p0, hp1⟩)
          obtain ⟨y0, y1, y2, y3, y4, -⟩ := blk5 (hp1.blkm (b := b5) (.tail _ (.tail _ (.tail _ (.tail _ (.head _))))))
          have y5 := hp1.blk.1.three.2.2.1
          have hS : (fun w' : World => w'.cell? ⟨b5, 0, none⟩ = some (.int .u8 x.kd) ∧ w'.cell? ⟨b5, 1, none⟩ = some (.int .u8 x.tx) ∧ w'.cell? ⟨b5, 2, none⟩ = some (.string x.key) ∧ w'.cell? ⟨b5, 3, none⟩ = some (.string x.val) ∧ w'.cell? ⟨b5, 4, none⟩ = some (.bool x.wr) ∧ w'.cell? ⟨bs, 2, none⟩ = some (.int .i64 S.nx)) W.drew := ⟨y0, y1, y2, y3, y4, y5⟩
          have HPd := Lib.hid (show SAt bs S w0 W.drew _ from ⟨p0, hp1.drew⟩)
          clear hp0 hp1 y0 y1 y2 y3 y4 y5
          refine wpLast.region (S := (fun w' : World => w'.cell? ⟨b5, 0, none⟩ = some (.int .u8 x.kd) ∧ w'.cell? ⟨b5, 1, none⟩ = some (.int .u8 x.tx) ∧ w'.cell? ⟨b5, 2, none⟩ = some (.string x.key) ∧ w'.cell? ⟨b5, 3, none⟩ = some (.string x.val) ∧ w'.cell? ⟨b5, 4, none⟩ = some (.bool x.wr) ∧ w'.cell? ⟨bs, 2, none⟩ = some (.int .i64 S.nx))) (c := 5) (by kernel_rfl) ?_
          refine' wpLast.take_c (i := 0) (v := _) [] rfl (by kernel_rfl) (fun _ _ _ h => h) (by kernel_rfl) _ _ _ _ (by kernel_rfl) (by kernel_rfl) (by kernel_rfl) (Or.inl ⟨by rfl, ?hy0⟩) hS ?rest0
          case hy0 => (intro w' hSw; obtain ⟨k0, k1, k2, k3, k4, k5⟩ := hSw; go_simp; try with_reducible rfl)
          try simp only [Act.put, List.setIfInBounds_toArray, List.set_cons_zero, List.set_cons_succ]
          refine' wpLast.take_c (i := 1) (v := _) [4] rfl (by kernel_rfl) (fun _ _ _ h => h) (by kernel_rfl) _ _ _ _ (by kernel_rfl) (by kernel_rfl) (by kernel_rfl) (Or.inl ⟨by rfl, ?hy1⟩) hS ?rest1
          case hy1 => (intro w' hSw; obtain ⟨k0, k1, k2, k3, k4, k5⟩ := hSw; go_simp; try with_reducible rfl)
          try simp only [Act.put, List.setIfInBounds_toArray, List.set_cons_zero, List.set_cons_succ]
          refine' wpLast.take_c (i := 2) (v := _) [4, 3] rfl (by kernel_rfl) (fun _ _ _ h => h) (by kernel_rfl) _ _ _ _ (by kernel_rfl) (by kernel_rfl) (by kernel_rfl) (Or.inl ⟨by rfl, ?hy2⟩) hS ?rest2
          case hy2 => (intro w' hSw; obtain ⟨k0, k1, k2, k3, k4, k5⟩ := hSw; go_simp; try with_reducible rfl)
          try simp only [Act.put, List.setIfInBounds_toArray, List.set_cons_zero, List.set_cons_succ]
          refine' wpLast.take_c (i := 3) (v := _) [4] rfl (by kernel_rfl) (fun _ _ _ h => h) (by kernel_rfl) _ _ _ _ (by kernel_rfl) (by kernel_rfl) (by kernel_rfl) (Or.inl ⟨by rfl, ?hy3⟩) hS ?rest3
          case hy3 => (intro w' hSw; obtain ⟨k0, k1, k2, k3, k4, k5⟩ := hSw; go_simp; try with_reducible rfl)
          try simp only [Act.put, List.setIfInBounds_toArray, List.set_cons_zero, List.set_cons_succ]
          refine wpLast.one (i := 4) rfl (by kernel_rfl) ?_
          intro K' hK; have HK' := Lib.hid hK; clear hK
          go_simp
          refine (number_any x S.nx _ (hok x hxm).1 hi.nx0 (by have := hi.nx1; omega)).mono ?_
          rintro e w3 ⟨rfl, hb3⟩
          have hS3 : (fun w' : World => w'.cell? ⟨b5, 0, none⟩ = some (.int .u8 x.kd) ∧ w'.cell? ⟨b5, 1, none⟩ = some (.int .u8 x.tx) ∧ w'.cell? ⟨b5, 2, none⟩ = some (.string x.key) ∧ w'.cell? ⟨b5, 3, none⟩ = some (.string x.val) ∧ w'.cell? ⟨b5, 4, none⟩ = some (.bool x.wr) ∧ w'.cell? ⟨bs, 2, none⟩ = some (.int .i64 S.nx)) w3 := by
            obtain ⟨k0, k1, k2, k3, k4, k5⟩ := hS
            exact ⟨(hb3.cell (World.block_lt_of_cell? _ _ k0)).trans k0, (hb3.cell (World.block_lt_of_cell? _ _ k1)).trans k1, (hb3.cell (World.block_lt_of_cell? _ _ k2)).trans k2, (hb3.cell (World.block_lt_of_cell? _ _ k3)).trans k3, (hb3.cell (World.block_lt_of_cell? _ _ k4)).trans k4, (hb3.cell (World.block_lt_of_cell? _ _ k5)).trans k5⟩
          have HP3 := Lib.hid (HPd.out.of_below hb3)
          clear hb3
          refine HK'.out _ _ ⟨fun _ => hS3, ?_⟩
          clear HK' K' hS hS3
          try simp only [Act.put, List.setIfInBounds_toArray, List.set_cons_zero, List.set_cons_succ]
          refine wpLast.one (i := 5) rfl (by kernel_rfl) ?_
          intro K' hK; have HK' := Lib.hid hK; clear hK
          go_simp
          refine (do_st x (numF x S.nx) (hok x hxm).1 (hok x hxm).2 HP3.out hi (by omega)).mono ?_
          rintro e w4 ⟨rs, rc, rfl, h4⟩
          refine HK'.out _ _ ⟨fun h => absurd rfl h, ?_⟩
          clear HK' K'
          try simp only [Act.put, List.setIfInBounds_toArray, List.set_cons_zero, List.set_cons_succ]
          refine wpLast.done (by kernel_rfl) ?_
          have H4 := Lib.hid (sat_drop2 h4)
          clear h4
          obtain ⟨S2, hS2⟩ : ∃ S2, (doS S x (numF x S.nx)).1 = S2 := ⟨_, rfl⟩
          have hi2 := iv_do HIV.out x (numF x S.nx) (hok x hxm).2
          have hd2 := ids_do HIDS.out HIV.out.nx0 x (numF x S.nx)
          rw [hS2] at H4 hi2 hd2
          have HI2 := Lib.hid hi2
          have HD2 := Lib.hid hd2
          clear hi2 hd2 hi HP HPd HP3 HS hS2 d0 d1 d2 d3 d4
          try simp only [List.setIfInBounds_toArray, List.set_cons_zero, List.set_cons_succ]
          generalize (doS S x (numF x S.nx)).2 = RR
          generalize numF x S.nx = nf
          go_wp2_with fail
          go_roundg (ls.length - (q + 1))
          case measure => have := Hg.out; omega
          case rel => exact ⟨q + 1, S2, rfl, by omega, by simp, H4.out, HI2.out, HD2.out⟩
      · obtain rfl : q = ls.length := by omega
        have htl : S.txs.length ≤ 40 := by have := hi.tl; omega
        have hpl : S.pairs.length ≤ 40 := by have := hi.ln; omega
        have hcl : S.cs.length ≤ 40 := by have := hi.ln; omega
        clear hi hqn hq
        obtain ⟨wx, rfl⟩ : ∃ x, x = wr := ⟨_, rfl⟩
        obtain ⟨p, hp⟩ := HS.out
        obtain ⟨-, c1, -⟩ := hp.blk.1.three
        have HP := Lib.hid hp
        clear hp
        go_wp2_with fail
        clear c1
        go_loopg [53] S.txs.length (CRel S.txs.length wx)
        case atStart => exact ⟨0, rfl, Nat.zero_le _, rfl, Below.refl _ _⟩
        case round =>
          obtain ⟨k, hg2, hk, rfl, hb⟩ := hrel
          have Hg2 := Lib.hid hg2
          have HP5 := Lib.hid (HP.out.of_below hb)
          have HB5 := Lib.hid hb
          clear hg2 hb
          by_cases hkn : k < S.txs.length
          · obtain ⟨t, ht⟩ : ∃ t, S.txs[k] = t := ⟨_, rfl⟩
            obtain ⟨g2, o2, hst, -⟩ := HP5.out.swap.sl.rd.addr (by omega)
            have hyl : k < (yz (.slice p.sc S.cs.length p.cc) S.txs).length := by rw [yz_len]; exact hkn
            have hyx := yz_get (.slice p.sc S.cs.length p.cc) S.txs k hkn
            obtain ⟨sq, cq, hvq, -⟩ := chs_rc HP5.out k
            rw [hvq, ht] at hyx
            obtain ⟨d0, d1, d2, d3⟩ := y_at (hst ▸ HP5.out.swap.sl.rd) hyl _ hyx
            simp only at d0 d1 d2 d3
            have hkI : (k : Int) < (S.txs.length : Int) := by omega
            have hk0I : (0 : Int) ≤ (k : Int) := by omega
            have HST := Lib.hid hst
            have hfn : fnd t.id S.txs = some k := by rw [← ht]; exact fnd_self HIDS.out k hkn
            have HE := Lib.hid (show errN (fnd t.id S.txs) = 0 by rw [hfn]; rfl)
            obtain ⟨ok, hok2⟩ : ∃ ok, turnB S.txs k = ok := ⟨_, rfl⟩
            have HT := Lib.hid (show turnE t.id S.txs = ok by unfold turnE; rw [hfn]; exact hok2)
            have hK : ∀ lo hi, keysS S t.id lo hi = if ok = false then ([], 19) else (keysL (content S.pairs (chs S k)) lo hi, 0) := by
              intro lo hi
              unfold keysS
              rw [hfn]
              simp only [hok2]
            have HGS := Lib.hid (fun (e : ok = true) q => getS_sign (q := q) hfn (hok2.trans e) HIV.out.ca)
            have hCA : Asc Pr.k (content S.pairs (chs S k)) := asc_content HIV.out.pa
            have hCL := content_len (chs S k) S.pairs
            have hcl2 : (chs S k).length ≤ S.cs.length := by unfold chs; split <;> simp
            have HFN := Lib.hid hfn
            clear ht hst hyx hvq hfn
            rw [HST.out]
            go_upto_region 14 with fail
            obtain ⟨W1, hW1⟩ : ∃ W1, wr.alloc (.cells #[.int .i64 t.id, .string t.ow, .bool t.wr, .slice sq (chs S k).length cq] 36) = W1 := ⟨_, rfl⟩
            obtain ⟨b11, hb11⟩ : ∃ b11, wr.heap.size = b11 := ⟨_, rfl⟩
            have hBX := blk_new wr #[.int .i64 t.id, .string t.ow, .bool t.wr, .slice sq (chs S k).length cq] 36 b11 hb11
            have HBW := Lib.hid (show Below wr.heap.size wr W1 by rw [← hW1]; exact (Below.refl _ wr).alloc (Nat.le_refl _) _)
            rw [hW1] at hBX
            try simp only [hW1, hb11]
            have HP1 := Lib.hid (HP5.out.of_below HBW.out)
            have HSX := Lib.hid (show SAt bs S w0 W1 [] from ⟨p, HP1.out⟩)
            have HBX := Lib.hid hBX
            have x0 := hBX.cell 0
            simp at x0
            have HB1 := Lib.hid (HB5.out.trans (HBW.out.mono HB5.out.size))
            clear hBX hW1 hb11 d0 d1 d2 d3
            have KA := Lib.hid (keys_st t.id { data := #[] } { data := #[] } HSX.out (by omega) (by omega) (by omega) HIV.out.pa)
            have KB := Lib.hid (fun w' (hb : Below W1.heap.size W1 w') => keys_st t.id lo hi (HSX.out.of_below hb) (by omega) (by omega) (by omega) HIV.out.pa)
            have KR := Lib.hid (fun w' (hb : Below W1.heap.size W1 w') => ready_e bs t.id (.slice p.sc S.cs.length p.cc) S.txs p.st p.ct w' ((HP1.out.of_below hb).blk.1.three.2.1) ((HP1.out.of_below hb).swap.sl) (by omega))
            cases ok with
            | false =>
              have HK1 := Lib.hid (show keysS S t.id { data := #[] } { data := #[] } = ([], 19) by rw [hK]; rfl)
              have HK2 := Lib.hid (show keysS S t.id lo hi = ([], 19) by rw [hK]; rfl)
              clear hK hCA hCL
              go_wp2_with (first
              | (go_at_call 27; (with_reducible refine (KA.out).mono ?_); rintro e w5 ⟨s5, c5, rfl, h5⟩; rw [HK1.out] at h5 ⊢; simp only [List.length_map, List.length_nil] at h5 ⊢; have x0 := (HBX.out.kept (Fr.of_below h5.bel) (fun q => q)).cell 0; simp at x0; have HO5 := Lib.hid h5; have KB2 := Lib.hid (KB.out w5 h5.bel); clear h5)
              | (go_at_call 27; (with_reducible refine (KB2.out).mono ?_); rintro e w6 ⟨s6, c6, rfl, h6⟩; rw [HK2.out] at h6 ⊢; simp only [List.length_nil] at h6 ⊢; clear x0; have x0 := (HBX.out.kept (Fr.of_below (HO5.out.bel.trans (h6.bel.mono HO5.out.bel.size))) (fun q => q)).cell 0; simp at x0; have HO6 := Lib.hid h6; have KR2 := Lib.hid (KR.out w6 (HO5.out.bel.trans (h6.bel.mono HO5.out.bel.size))); clear h6)
              | (go_at_call 26; (with_reducible refine (KR2.out).mono ?_); rintro e w7 ⟨rfl, h7⟩; rw [HT.out, HE.out]; clear x0; have H7 := Lib.hid h7; clear h7))
              try rw [← HST.out]
              go_roundg (S.txs.length - (k + 1))
              case measure => have := Hg2.out; omega
              case rel => exact ⟨k + 1, rfl, by omega, by simp, HB1.out.trans ((HO5.out.bel.trans ((HO6.out.bel.trans (H7.out.mono HO6.out.bel.size)).mono HO5.out.bel.size)).mono HB1.out.size)⟩
            | true =>
              obtain ⟨C, hC⟩ : ∃ C, content S.pairs (chs S k) = C := ⟨_, rfl⟩
              have hK2 : ∀ lo hi, keysS S t.id lo hi = (keysL C lo hi, 0) := by intro lo hi; rw [hK, hC]; rfl
              rw [hC] at hCA hCL
              have HK1 := Lib.hid (show keysS S t.id { data := #[] } { data := #[] } = (C.map (·.k), 0) by rw [hK2, keysL_all])
              have HK2 := Lib.hid (hK2 lo hi)
              have HG := Lib.hid (fun q => (hC ▸ HGS.out rfl q : ∃ v, getS S t.id q = (v, hasP C q, 0)))
              have HCA := Lib.hid hCA
              have hc100 : C.length ≤ 100 := by omega
              clear hK hK2 hC hCA hCL HGS
              go_upto_region 20 with (first
              | (go_at_call 27; (with_reducible refine (KA.out).mono ?_); rintro e w5 ⟨s5, c5, rfl, h5⟩; rw [HK1.out] at h5 ⊢; simp only [List.length_map, List.length_nil] at h5 ⊢; have x0 := (HBX.out.kept (Fr.of_below h5.bel) (fun q => q)).cell 0; simp at x0; have HO5 := Lib.hid h5; have KB2 := Lib.hid (KB.out w5 h5.bel); clear h5)
              | (go_at_call 27; (with_reducible refine (KB2.out).mono ?_); rintro e w6 ⟨s6, c6, rfl, h6⟩; rw [HK2.out] at h6 ⊢; simp only [List.length_nil] at h6 ⊢; clear x0; have x0 := (HBX.out.kept (Fr.of_below (HO5.out.bel.trans (h6.bel.mono HO5.out.bel.size))) (fun q => q)).cell 0; simp at x0; have HO6 := Lib.hid h6; have KR2 := Lib.hid (KR.out w6 (HO5.out.bel.trans (h6.bel.mono HO5.out.bel.size))); clear h6)
              | (go_at_call 26; (with_reducible refine (KR2.out).mono ?_); rintro e w7 ⟨rfl, h7⟩; rw [HT.out, HE.out]; clear x0; have H7 := Lib.hid h7; clear h7))
              have HB7 := Lib.hid (HO5.out.bel.trans ((HO6.out.bel.trans (H7.out.mono HO6.out.bel.size)).mono HO5.out.bel.size))
              have HRA := Lib.hid (HO5.out.rd.below (HO6.out.bel.trans (H7.out.mono HO6.out.bel.size)))
              have HRB := Lib.hid (HO6.out.rd.below H7.out)
              have KG := Lib.hid (fun q w' (hb : Below w7.heap.size w7 w') => get_st t.id q (HSX.out.of_below (HB7.out.trans (hb.mono HB7.out.size))) (by omega) (by omega) (by omega) HIV.out.pa HIV.out.ca)
              go_wp2_with fail
              have x0 := (HBX.out.kept (Fr.of_below HB7.out) (fun q => q)).cell 0
              simp at x0
              go_loopg [18, 95] C.length (KwRel C lo hi w7)
              case atStart => exact ⟨0, none, 0, rfl, Nat.zero_le _, rfl, rfl, K.Own.nil (Below.refl _ _) _ _⟩
              case round =>
                clear x0
                obtain ⟨i, so, co, hg3, hile, rfl, rfl, hp⟩ := hrel
                have Hg3 := Lib.hid hg3
                have HO := Lib.hid hp
                have hkl := keysL_len (C.take i) lo hi
                have htl2 : (C.take i).length ≤ C.length := by rw [List.length_take]; omega
                clear hg3 hp
                have x0 := (HBX.out.kept (Fr.of_below (HB7.out.trans (HO.out.bel.mono HB7.out.size))) (fun q => q)).cell 0
                simp at x0
                by_cases hin : i < C.length
                · obtain ⟨g3, o3, hs5, hw⟩ := (HRA.out.below HO.out.bel).addr (by omega)
                  subst hs5
                  obtain ⟨x, hx⟩ : ∃ x, C[i] = x := ⟨_, rfl⟩
                  have e0 := hw i (.string x.k) (by simp [strs, hx, hin])
                  have hiI : (i : Int) < (C.length : Int) := by omega
                  have hi0I : (0 : Int) ≤ (i : Int) := by omega
                  have HSu := Lib.hid (keysL_succ C lo hi i hin x hx)
                  obtain ⟨vv, hvv⟩ := HG.out x.k
                  rw [hasP_mem hin x hx] at hvv
                  have HGT := Lib.hid hvv
                  obtain ⟨O, hO⟩ : ∃ O, keysL (C.take i) lo hi = O := ⟨_, rfl⟩
                  rw [hO] at HO HSu hkl
                  simp only [hO]
                  obtain ⟨v1, hv1⟩ : ∃ v, Op.bytesLess x.k.toList lo.toList = v := ⟨_, rfl⟩
                  obtain ⟨v2, hv2⟩ : ∃ v, (hi.toList == []) = v := ⟨_, rfl⟩
                  obtain ⟨v3, hv3⟩ : ∃ v, Op.bytesLess x.k.toList hi.toList = v := ⟨_, rfl⟩
                  have hin' : inR lo hi x = (!v1 && (v2 || v3)) := by unfold inR klt; rw [hv1, hv2, hv3]
                  rw [hin'] at HSu
                  clear hvv hO hin'
                  by_cases hi0 : i = 0
                  · have hgt : ¬ (0 : Int) < (i : Int) := by omega
                    clear hw hx hi0
                    rcases (show v1 = true ∨ (v1 = false ∧ v2 = true) ∨ (v1 = false ∧ v2 = false ∧ v3 = true) ∨ (v1 = false ∧ v2 = false ∧ v3 = false) by cases v1 <;> cases v2 <;> cases v3 <;> decide) with rfl | ⟨rfl, rfl⟩ | ⟨rfl, rfl, rfl⟩ | ⟨rfl, rfl, rfl⟩
                    all_goals
                      go_wp2_with (first
                        | (go_at_call 14; (with_reducible refine (KG.out x.k _ HO.out.bel).mono ?_); rintro e w8 ⟨rfl, h8⟩; rw [HGT.out]; have H8 := Lib.hid (HO.out.to h8); have H3a := Lib.hid (H8.out.alloc (.cells #[.string x.k] 9)); have r2 := rd_built_at w8 #[.string x.k] 9 1 1 w8.heap.size rfl rfl (by simp [Value.oneCell']); clear x0 e0 h8)
                        | (refine wpList_append_own' rfl (.tmp 133) (.tmp 135) 47 rfl elS so _ co _ rfl H3a.out _ 1 _ _ rfl r2 (by omega) (by omega) ?_; intro so' co' w4 p1 p2 p3; have H4 := Lib.hid p1; clear p1 p2 p3))
                      go_roundg (C.length - (i + 1))
                      case measure => have := Hg3.out; omega
                      case rel =>
                        have he := HSu.out
                        simp at he
                        first
                          | (refine ⟨i + 1, so', co', rfl, by omega, by simp, by rw [he]; simp, ?_⟩; rw [he]; simpa [strs] using H4.out)
                          | (refine ⟨i + 1, so, co, rfl, by omega, by simp, by rw [he], ?_⟩; rw [he]; exact H8.out)
                  · obtain ⟨j, hj⟩ : ∃ j, i = j + 1 := ⟨i - 1, by omega⟩
                    obtain ⟨y, hy⟩ : ∃ y, C[j]'(by omega) = y := ⟨_, rfl⟩
                    have e1 := hw j (.string y.k) (by simp [strs, hy, show j < C.length by omega])
                    have hgt : (0 : Int) < (i : Int) := by omega
                    have hsub : IntKind.i64.wrap ((i : Int) - 1) = (j : Int) := by rw [IntKind.wrap_i64]; omega
                    have hjI : (j : Int) < (C.length : Int) := by omega
                    have hj0I : (0 : Int) ≤ (j : Int) := by omega
                    have hlt : Op.bytesLess y.k.toList x.k.toList = true := by
                      have := List.pairwise_iff_getElem.1 HCA.out j i (by omega) hin (by omega)
                      rw [hx, hy] at this
                      exact this
                    clear hw hx hi0 hj hy
                    rcases (show v1 = true ∨ (v1 = false ∧ v2 = true) ∨ (v1 = false ∧ v2 = false ∧ v3 = true) ∨ (v1 = false ∧ v2 = false ∧ v3 = false) by cases v1 <;> cases v2 <;> cases v3 <;> decide) with rfl | ⟨rfl, rfl⟩ | ⟨rfl, rfl, rfl⟩ | ⟨rfl, rfl, rfl⟩
                    all_goals
                      go_wp2_with (first
                        | (go_at_call 14; (with_reducible refine (KG.out x.k _ HO.out.bel).mono ?_); rintro e w8 ⟨rfl, h8⟩; rw [HGT.out]; have H8 := Lib.hid (HO.out.to h8); have H3a := Lib.hid (H8.out.alloc (.cells #[.string x.k] 9)); have r2 := rd_built_at w8 #[.string x.k] 9 1 1 w8.heap.size rfl rfl (by simp [Value.oneCell']); clear x0 e0 h8)
                        | (refine wpList_append_own' rfl (.tmp 133) (.tmp 135) 47 rfl elS so _ co _ rfl H3a.out _ 1 _ _ rfl r2 (by omega) (by omega) ?_; intro so' co' w4 p1 p2 p3; have H4 := Lib.hid p1; clear p1 p2 p3))
                      go_roundg (C.length - (i + 1))
                      case measure => have := Hg3.out; omega
                      case rel =>
                        have he := HSu.out
                        simp at he
                        first
                          | (refine ⟨i + 1, so', co', rfl, by omega, by simp, by rw [he]; simp, ?_⟩; rw [he]; simpa [strs] using H4.out)
                          | (refine ⟨i + 1, so, co, rfl, by omega, by simp, by rw [he], ?_⟩; rw [he]; exact H8.out)
                · obtain rfl : i = C.length := by omega
                  rw [List.take_length] at HO
                  simp only [List.take_length]
                  have HB9 := Lib.hid HO.out.bel
                  have HRW := Lib.hid HO.out.rd
                  have HRA9 := Lib.hid (HRA.out.below HO.out.bel)
                  have HRB9 := Lib.hid (HRB.out.below HO.out.bel)
                  obtain ⟨w9, rfl⟩ : ∃ x, x = wr := ⟨_, rfl⟩
                  have HW9 := Lib.hid (HB7.out.trans (HB9.out.mono HB7.out.size))
                  have HT9 := Lib.hid (HB1.out.trans (HW9.out.mono HB1.out.size))
                  have HL9 := Lib.hid (HR.out.below ((HP.out.of_below HT9.out).bel))
                  clear x0 hkl htl2
                  go_wp2_with fail
                  go_loopg [140] ls.length (CRel ls.length w9)
                  case atStart => exact ⟨0, rfl, Nat.zero_le _, rfl, Below.refl _ _⟩
                  case round =>
                    obtain ⟨m, hg4, hm, rfl, hb⟩ := hrel
                    have Hg4 := Lib.hid hg4
                    have HB10 := Lib.hid hb
                    have HW10 := Lib.hid (HW9.out.trans (hb.mono HW9.out.size))
                    clear hg4 hb
                    by_cases hmn : m < ls.length
                    · obtain ⟨g4, o4, hs4, -⟩ := (HL9.out.below HB10.out).addr (by omega)
                      subst hs4
                      obtain ⟨x, hx⟩ : ∃ x, ls[m] = x := ⟨_, rfl⟩
                      obtain ⟨d0, d1, d2, d3, d4⟩ := o_at (HL9.out.below HB10.out) hmn x hx
                      obtain ⟨vv, hvv⟩ := HG.out x.key
                      obtain ⟨f0, hf0⟩ : ∃ f, hasP C x.key = f := ⟨_, rfl⟩
                      rw [hf0] at hvv
                      have HGT := Lib.hid hvv
                      have HF0 := Lib.hid hf0
                      have hmI : (m : Int) < (ls.length : Int) := by omega
                      have hm0I : (0 : Int) ≤ (m : Int) := by omega
                      clear hx hvv hf0
                      go_upto_region 35 with fail
                      obtain ⟨W2, hW2⟩ : ∃ W2, wr.alloc (.cells #[.int .u8 x.kd, .int .u8 x.tx, .string x.key, .string x.val, .bool x.wr] 45) = W2 := ⟨_, rfl⟩
                      obtain ⟨b25, hb25⟩ : ∃ b25, wr.heap.size = b25 := ⟨_, rfl⟩
                      have hBY := blk_new wr #[.int .u8 x.kd, .int .u8 x.tx, .string x.key, .string x.val, .bool x.wr] 45 b25 hb25
                      have HBW2 := Lib.hid (show Below wr.heap.size wr W2 by rw [← hW2]; exact (Below.refl _ wr).alloc (Nat.le_refl _) _)
                      rw [hW2] at hBY
                      try simp only [hW2, hb25]
                      have HBY := Lib.hid hBY
                      have y2 := hBY.cell 2
                      have x0 := (HBX.out.kept (Fr.of_below (HW10.out.trans (HBW2.out.mono HW10.out.size))) (fun q => q)).cell 0
                      simp at x0 y2
                      have HB12 := Lib.hid (HB10.out.trans (HBW2.out.mono HB10.out.size))
                      clear hBY hW2 hb25 d0 d1 d2 d3 d4
                      go_upto_region 36 with (go_at_call 14; (with_reducible refine (KG.out x.key _ (HB9.out.trans (HB12.out.mono HB9.out.size))).mono ?_); rintro e w11 ⟨rfl, h11⟩; rw [HGT.out]; have H11 := Lib.hid h11; clear h11)
                      have HB13 := Lib.hid (HB12.out.trans (H11.out.mono HB12.out.size))
                      clear x0 y2
                      go_wp2_with fail
                      go_loopg [29, 155] C.length (FdRel C x.key w11)
                      case atStart => exact ⟨0, rfl, Nat.zero_le _, rfl, by simp [hasP], Below.refl _ _⟩
                      case round =>
                        obtain ⟨j, hg5, hj, rfl, rfl, hb⟩ := hrel
                        have Hg5 := Lib.hid hg5
                        have HB14 := Lib.hid hb
                        clear hg5 hb
                        have y2 := (HBY.out.kept (Fr.of_below (H11.out.trans (HB14.out.mono H11.out.size))) (fun q => q)).cell 2
                        simp at y2
                        by_cases hjn : j < C.length
                        · obtain ⟨g3, o3, hs5, hw⟩ := (HRA9.out.below (HB13.out.trans (HB14.out.mono HB13.out.size))).addr (by omega)
                          subst hs5
                          obtain ⟨y, hy⟩ : ∃ y, C[j] = y := ⟨_, rfl⟩
                          have e0 := hw j (.string y.k) (by simp [strs, hy, hjn])
                          have hjI : (j : Int) < (C.length : Int) := by omega
                          have hj0I : (0 : Int) ≤ (j : Int) := by omega
                          have hsu := hasP_succ C x.key j hjn y hy
                          obtain ⟨f, hf⟩ : ∃ f, hasP (C.take j) x.key = f := ⟨_, rfl⟩
                          obtain ⟨v1, hv1⟩ : ∃ v, (y.k.toList == x.key.toList) = v := ⟨_, rfl⟩
                          rw [hf, hv1] at hsu
                          have HSu := Lib.hid hsu
                          rw [hf]
                          clear hw hy hsu hf
                          rcases (show f = true ∨ (f = false ∧ v1 = true) ∨ (f = false ∧ v1 = false) by cases f <;> cases v1 <;> decide) with rfl | ⟨rfl, rfl⟩ | ⟨rfl, rfl⟩
                          all_goals
                            go_wp2_with fail
                            go_roundg (C.length - (j + 1))
                            case measure => have := Hg5.out; omega
                            case rel => exact ⟨j + 1, rfl, by omega, by simp, by rw [HSu.out]; rfl, HB14.out⟩
                        · obtain rfl : j = C.length := by omega
                          rw [List.take_length, HF0.out]
                          cases f0
                          all_goals
                            go_wp2_with fail
                            go_roundg (ls.length - (m + 1))
                            case measure => have := Hg4.out; omega
                            case rel => exact ⟨m + 1, rfl, by omega, by simp, HB13.out.trans (HB14.out.mono HB13.out.size)⟩
                    · obtain rfl : m = ls.length := by omega
                      have hkl := keysL_len C lo hi
                      go_wp2_with (go_at_call 21; (with_reducible refine (sameR_any 0 0 { data := #[] } false (keysL C lo hi) wr (HRB9.out.below HB10.out) (HRW.out.below HB10.out) (by omega)).mono ?_); rintro e w12 ⟨rfl, h12⟩; have H12 := Lib.hid h12; clear h12)
                      try rw [← HST.out]
                      go_roundg (S.txs.length - (k + 1))
                      case measure => have := Hg2.out; omega
                      case rel => exact ⟨k + 1, rfl, by omega, by simp, HT9.out.trans ((HB10.out.trans (H12.out.mono HB10.out.size)).mono HT9.out.size)⟩
          · obtain rfl : k = S.txs.length := by omega
            go_wp2_with fail
            go_ret
            exact ⟨rfl, HP5.out.bel⟩

end Go.Proofs.Ytcglnjklnlejmaa
