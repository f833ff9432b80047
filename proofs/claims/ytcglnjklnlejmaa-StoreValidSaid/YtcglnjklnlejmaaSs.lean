/-
  StoreLeave.
-/
import Derived.Test.YtcglnjklnlejmaaSp
import Derived.Test.YtcglnjklnlejmaaSr
set_option linter.unusedVariables false
set_option linter.unusedSimpArgs false
namespace Go.Proofs.Ytcglnjklnlejmaa
open Go.RowKit Go.K Go.K.Sr

theorem infoI : (Try.prog.info? 3).map (fun i => (i.zero, i.size, i.bytes)) = some (some (.int .i64 0), 1, 8) := by kernel_rfl
theorem elI : El Try.prog 57 3 1 8 := by
  obtain ⟨i, hi, h1, h2, h3⟩ := info_parts infoI
  exact ⟨by kernel_rfl, ⟨i, _, hi, h1, h2, h3, rfl⟩, by decide⟩
def ids (l : List Tx) : List Value := l.map (fun t => .int .i64 t.id)
def stay (ow : ByteArray) (l : List Tx) : List Tx := l.filter (fun t => !isOw ow t)
theorem stay_succ (ow : ByteArray) (l : List Tx) (k : Nat) (hk : k < l.length) (x : Tx) (hx : l[k] = x) : stay ow (l.take (k + 1)) = stay ow (l.take k) ++ (if isOw ow x then [] else [x]) := by
  unfold stay
  rw [List.take_succ_eq_append_getElem hk, hx, List.filter_append]
  congr 1
  by_cases h : isOw ow x = true <;> simp [List.filter_cons, h]
theorem stay_len (ow : ByteArray) (l : List Tx) : (stay ow l).length ≤ l.length := List.length_filter_le _ _
def LvRel (S : SS) (ow : ByteArray) (w : World) (g : Nat) (v8 v36 : Value) (wr : World) : Prop :=
  ∃ (k : Nat) (s : Option Addr) (c : Nat), g = S.txs.length - k ∧ k ≤ S.txs.length ∧ v36 = .int .i64 k ∧ v8 = .slice s (stay ow (S.txs.take k)).length c ∧ K.Own w wr 3 1 s (stay ow (S.txs.take k)).length c (ids (stay ow (S.txs.take k)))
theorem leave_twice (S : SS) (ow : ByteArray) : (leaveS (leaveS S ow) ow).txs = (leaveS S ow).txs := by
  show (S.txs.filter _).filter _ = _
  rw [List.filter_filter]
  simp [leaveS]
theorem re_pairs {w : World} {s : Option Addr} (c : Nat) {l : List Pr} (h : Rd w 2 s l.length (flat pcells l)) : Re w (.agg #[.slice s l.length c, .slice none 0 0, .int .i64 0]) ⟨l, [], [], 0⟩ s c none 0 none 0 :=
  ⟨rfl, h, ⟨by simp [flat, yz], by simp [flat, yz], fun _ => by simp [flat, yz], by simp⟩, ⟨by simp [flat], by simp [flat], fun _ => by simp [flat], by simp⟩⟩
theorem sat_own {w0 w w' : World} {L : List As} {b : Nat} {S : SS} {e : TypeId} {sz : Nat} {s : Option Addr} {n c : Nat} {xs : List Value} (h : SAt b S w0 w L) (k : K.Own w w' e sz s n c xs) : SAt b S w0 w' (As.row e sz s n c xs :: L) := by
  obtain ⟨p, h⟩ := h
  have h1 := St.sh [_, _, _, _, _] [1, 2, 3, 4, 0] (by decide) (join_own h k)
  simp only [List.map_cons, List.map_nil, List.getD_cons_zero, List.getD_cons_succ, List.cons_append, List.nil_append] at h1
  exact ⟨p, h1⟩

set_option maxRecDepth 100000 in
set_option maxHeartbeats 1000000 in
theorem leave_go (s : Option Addr) (c : Nat) (ls : List Op') (ow : ByteArray) (w0 : World) (h : Rd w0 5 s ls.length (flat opc ls)) (hn : (ls.length : Int) ≤ 9223372036854775807) (hall : ∀ o ∈ ls, o.ok) :
    Calls Try.prog 9 #[.slice s ls.length c, .string ow] w0 fun e w' => e = .returned (.bool true) ∧ Below w0.heap.size w0 w' := by
  have HR := Lib.hid h
  clear h
  obtain ⟨fb, hfb⟩ : ∃ fb, fewB ls = fb := ⟨_, rfl⟩
  have HF := Lib.hid hfb
  clear hfb
  cases fb with
  | false =>
    go_enter Try.func9, Try.ntmps9
    go_wp2_with (first
      | (go_at_call 11; refine (fit_any _).mono ?_; rintro e wa ⟨rfl, hba⟩; have HB1 := Lib.hid hba; clear hba)
      | (go_at_call 18; refine (few_any _ _ _ _ (HR.out.below HB1.out) hn).mono ?_; rintro e wb ⟨rfl, hbb⟩; rw [HF.out]; have HB2 := Lib.hid (HB1.out.trans (hbb.mono HB1.out.size)); clear hbb))
    go_ret
    exact ⟨rfl, HB2.out⟩
  | true =>
    have hlen : ls.length ≤ 40 ∧ ∀ o ∈ ls, okOp o := by
      have := HF.out
      unfold fewB at this
      simp only [Bool.and_eq_true, decide_eq_true_eq, List.all_eq_true] at this
      refine ⟨this.2, fun o ho => ⟨hall o ho, ?_⟩⟩
      have h1 := this.1 o ho
      unfold shortO at h1
      simpa using h1
    obtain ⟨hl40, hok⟩ := hlen
    go_enter Try.func9, Try.ntmps9
    go_upto_region 6 with (first
      | (go_at_call 11; refine (fit_any _).mono ?_; rintro e wa ⟨rfl, hba⟩; have HB1 := Lib.hid hba; clear hba)
      | (go_at_call 18; refine (few_any _ _ _ _ (HR.out.below HB1.out) hn).mono ?_; rintro e wb ⟨rfl, hbb⟩; rw [HF.out]; have HB2 := Lib.hid (HB1.out.trans (hbb.mono HB1.out.size)); clear hbb))
    have H0 := Lib.hid (s0_at (St.start w0 HB2.out))
    go_wp2_with fail
    obtain ⟨bs, hbs⟩ : ∃ bs, wb.heap.size = bs := ⟨_, rfl⟩
    rw [hbs] at H0 ⊢
    go_loopg [22] ls.length (TuRel w0 bs ls.length)
    case atStart => exact ⟨0, S0, rfl, Nat.zero_le _, rfl, H0.out, iv0, ids0⟩
    case round =>
      obtain ⟨q, S, hg, hq, rfl, hs, hi, hids⟩ := hrel
      have Hg := Lib.hid hg
      have HS := Lib.hid hs
      have HIV := Lib.hid hi
      have HIDS := Lib.hid hids
      clear hg hs hids H0
      by_cases hqn : q < ls.length
      · have hrd := HR.out.below (by obtain ⟨p, h⟩ := HS.out; exact h.bel)
        obtain ⟨g, off, rfl, -⟩ := hrd.addr (by omega)
        obtain ⟨x, hx⟩ : ∃ x, ls[q] = x := ⟨_, rfl⟩
        obtain ⟨d0, d1, d2, d3, d4⟩ := o_at hrd hqn x hx
        have hxm : x ∈ ls := by rw [← hx]; exact List.getElem_mem hqn
        have hqI : (q : Int) < (ls.length : Int) := by omega
        have HX := Lib.hid hx
        clear hx hrd
        · skip
          go_upto_region 9 with fail
          obtain ⟨b5, hb5⟩ : ∃ b5, wr.heap.size = b5 := ⟨_, rfl⟩
          obtain ⟨p0, hp0⟩ := HS.out
          have hp1 := St.sh [_, _, _, _, _] [1, 2, 3, 4, 0] (by decide) (hp0.new #[.int .u8 x.kd, .int .u8 x.tx, .string x.key, .string x.val, .bool x.wr] 45)
          simp only [List.map_cons, List.map_nil, List.getD_cons_zero, List.getD_cons_succ, List.cons_append, List.nil_append] at hp1
          obtain ⟨W, hW⟩ : ∃ W, wr.alloc (.cells #[.int .u8 x.kd, .int .u8 x.tx, .string x.key, .string x.val, .bool x.wr] 45) = W := ⟨_, rfl⟩
          rw [hW] at hp1
          rw [hb5] at hp1
          try rw [hW]
          try simp only [hb5]
          clear hW hb5
          have HP := Lib.hid (show SAt bs S w0 W _ from ⟨p0, hp1⟩)
          obtain ⟨y0, y1, y2, y3, y4, -⟩ := blk5 (hp1.blkm (b := b5) (.tail _ (.tail _ (.tail _ (.tail _ (.head _))))))
          have y5 := hp1.blk.1.three.2.2.1
          have hS : (fun w' : World => w'.cell? ⟨b5, 0, none⟩ = some (.int .u8 x.kd) ∧ w'.cell? ⟨b5, 1, none⟩ = some (.int .u8 x.tx) ∧ w'.cell? ⟨b5, 2, none⟩ = some (.string x.key) ∧ w'.cell? ⟨b5, 3, none⟩ = some (.string x.val) ∧ w'.cell? ⟨b5, 4, none⟩ = some (.bool x.wr) ∧ w'.cell? ⟨bs, 2, none⟩ = some (.int .i64 S.nx)) W.drew := ⟨y0, y1, y2, y3, y4, y5⟩
          have HPd := Lib.hid (show SAt bs S w0 W.drew _ from ⟨p0, hp1.drew⟩)
          clear hp0 hp1 y0 y1 y2 y3 y4 y5
          refine wpLast.region (S := (fun w' : World => w'.cell? ⟨b5, 0, none⟩ = some (.int .u8 x.kd) ∧ w'.cell? ⟨b5, 1, none⟩ = some (.int .u8 x.tx) ∧ w'.cell? ⟨b5, 2, none⟩ = some (.string x.key) ∧ w'.cell? ⟨b5, 3, none⟩ = some (.string x.val) ∧ w'.cell? ⟨b5, 4, none⟩ = some (.bool x.wr) ∧ w'.cell? ⟨bs, 2, none⟩ = some (.int .i64 S.nx))) (c := 5) (by kernel_rfl) ?_
          refine' wpLast.take_c (i := 0) (v := _) [] rfl (by kernel_rfl) (fun _ _ _ h => h) (by kernel_rfl) _ _ _ _ (by kernel_rfl) (by kernel_rfl) (by kernel_rfl) (Or.inl ⟨by rfl, ?hy0⟩) hS ?rest0
          case hy0 => (intro w' hSw; obtain ⟨k0, k1, k2, k3, k4, k5⟩ := hSw; go_simp; try with_reducible rfl)
          try simp only [Act.put, List.setIfInBounds_toArray, List.set_cons_zero, List.set_cons_succ]
          refine' wpLast.take_c (i := 1) (v := _) [4] rfl (by kernel_rfl) (fun _ _ _ h => h) (by kernel_rfl) _ _ _ _ (by kernel_rfl) (by kernel_rfl) (by kernel_rfl) (Or.inl ⟨by rfl, ?hy1⟩) hS ?rest1
          case hy1 => (intro w' hSw; obtain ⟨k0, k1, k2, k3, k4, k5⟩ := hSw; go_simp; try with_reducible rfl)
          try simp only [Act.put, List.setIfInBounds_toArray, List.set_cons_zero, List.set_cons_succ]
          refine' wpLast.take_c (i := 2) (v := _) [4, 3] rfl (by kernel_rfl) (fun _ _ _ h => h) (by kernel_rfl) _ _ _ _ (by kernel_rfl) (by kernel_rfl) (by kernel_rfl) (Or.inl ⟨by rfl, ?hy2⟩) hS ?rest2
          case hy2 => (intro w' hSw; obtain ⟨k0, k1, k2, k3, k4, k5⟩ := hSw; go_simp; try with_reducible rfl)
          try simp only [Act.put, List.setIfInBounds_toArray, List.set_cons_zero, List.set_cons_succ]
          refine' wpLast.take_c (i := 3) (v := _) [4] rfl (by kernel_rfl) (fun _ _ _ h => h) (by kernel_rfl) _ _ _ _ (by kernel_rfl) (by kernel_rfl) (by kernel_rfl) (Or.inl ⟨by rfl, ?hy3⟩) hS ?rest3
          case hy3 => (intro w' hSw; obtain ⟨k0, k1, k2, k3, k4, k5⟩ := hSw; go_simp; try with_reducible rfl)
          try simp only [Act.put, List.setIfInBounds_toArray, List.set_cons_zero, List.set_cons_succ]
          refine wpLast.one (i := 4) rfl (by kernel_rfl) ?_
          intro K' hK; have HK' := Lib.hid hK; clear hK
          go_simp
          refine (number_any x S.nx _ (hok x hxm).1 hi.nx0 (by have := hi.nx1; omega)).mono ?_
          rintro e w3 ⟨rfl, hb3⟩
          have hS3 : (fun w' : World => w'.cell? ⟨b5, 0, none⟩ = some (.int .u8 x.kd) ∧ w'.cell? ⟨b5, 1, none⟩ = some (.int .u8 x.tx) ∧ w'.cell? ⟨b5, 2, none⟩ = some (.string x.key) ∧ w'.cell? ⟨b5, 3, none⟩ = some (.string x.val) ∧ w'.cell? ⟨b5, 4, none⟩ = some (.bool x.wr) ∧ w'.cell? ⟨bs, 2, none⟩ = some (.int .i64 S.nx)) w3 := by
            obtain ⟨k0, k1, k2, k3, k4, k5⟩ := hS
            exact ⟨(hb3.cell (World.block_lt_of_cell? _ _ k0)).trans k0, (hb3.cell (World.block_lt_of_cell? _ _ k1)).trans k1, (hb3.cell (World.block_lt_of_cell? _ _ k2)).trans k2, (hb3.cell (World.block_lt_of_cell? _ _ k3)).trans k3, (hb3.cell (World.block_lt_of_cell? _ _ k4)).trans k4, (hb3.cell (World.block_lt_of_cell? _ _ k5)).trans k5⟩
          have HP3 := Lib.hid (HPd.out.of_below hb3)
          clear hb3
          refine HK'.out _ _ ⟨fun _ => hS3, ?_⟩
          clear HK' K' hS hS3
          try simp only [Act.put, List.setIfInBounds_toArray, List.set_cons_zero, List.set_cons_succ]
          refine wpLast.one (i := 5) rfl (by kernel_rfl) ?_
          intro K' hK; have HK' := Lib.hid hK; clear hK
          go_simp
          refine (do_st x (numF x S.nx) (hok x hxm).1 (hok x hxm).2 HP3.out hi (by omega)).mono ?_
          rintro e w4 ⟨rs, rc, rfl, h4⟩
          refine HK'.out _ _ ⟨fun h => absurd rfl h, ?_⟩
          clear HK' K'
          try simp only [Act.put, List.setIfInBounds_toArray, List.set_cons_zero, List.set_cons_succ]
          refine wpLast.done (by kernel_rfl) ?_
          have H4 := Lib.hid (sat_drop2 h4)
          clear h4
          obtain ⟨S2, hS2⟩ : ∃ S2, (doS S x (numF x S.nx)).1 = S2 := ⟨_, rfl⟩
          have hi2 := iv_do HIV.out x (numF x S.nx) (hok x hxm).2
          have hd2 := ids_do HIDS.out HIV.out.nx0 x (numF x S.nx)
          rw [hS2] at H4 hi2 hd2
          have HI2 := Lib.hid hi2
          have HD2 := Lib.hid hd2
          clear hi2 hd2 hi HP HPd HP3 HS hS2 d0 d1 d2 d3 d4
          try simp only [List.setIfInBounds_toArray, List.set_cons_zero, List.set_cons_succ]
          generalize (doS S x (numF x S.nx)).2 = RR
          generalize numF x S.nx = nf
          go_wp2_with fail
          go_roundg (ls.length - (q + 1))
          case measure => have := Hg.out; omega
          case rel => exact ⟨q + 1, S2, rfl, by omega, by simp, H4.out, HI2.out, HD2.out⟩
      · obtain rfl : q = ls.length := by omega
        have htl : S.txs.length ≤ 40 := by have := hi.tl; omega
        have hpl : S.pairs.length ≤ 40 := by have := hi.ln; omega
        have hcl : S.cs.length ≤ 40 := by have := hi.ln; omega
        clear hi hqn hq
        obtain ⟨wx, rfl⟩ : ∃ x, x = wr := ⟨_, rfl⟩
        obtain ⟨p, hp⟩ := HS.out
        obtain ⟨-, c1, -⟩ := hp.blk.1.three
        have HP := Lib.hid hp
        clear hp HIV HIDS
        go_wp2_with fail
        clear c1
        go_loopg [8, 36] S.txs.length (LvRel S ow wx)
        case atStart => exact ⟨0, none, 0, rfl, Nat.zero_le _, rfl, rfl, K.Own.nil (Below.refl _ _) _ _⟩
        case round =>
          obtain ⟨k, so, co, hg2, hk, rfl, rfl, hp⟩ := hrel
          have Hg2 := Lib.hid hg2
          have HO := Lib.hid hp
          have hkl := stay_len ow (S.txs.take k)
          have htl2 : (S.txs.take k).length ≤ S.txs.length := by rw [List.length_take]; omega
          clear hg2 hp
          have HP5 := Lib.hid (HP.out.of_below HO.out.bel)
          by_cases hkn : k < S.txs.length
          · obtain ⟨t, ht⟩ : ∃ t, S.txs[k] = t := ⟨_, rfl⟩
            obtain ⟨g2, o2, hst, -⟩ := HP5.out.swap.sl.rd.addr (by omega)
            have hyl : k < (yz (.slice p.sc S.cs.length p.cc) S.txs).length := by rw [yz_len]; exact hkn
            have hyx := yz_get (.slice p.sc S.cs.length p.cc) S.txs k hkn
            obtain ⟨sq, cq, hvq, -⟩ := chs_rc HP5.out k
            rw [hvq, ht] at hyx
            obtain ⟨d0, d1, d2, d3⟩ := y_at (hst ▸ HP5.out.swap.sl.rd) hyl _ hyx
            simp only at d0 d1 d2 d3
            have HSu := Lib.hid (stay_succ ow S.txs k hkn t ht)
            have hkI : (k : Int) < (S.txs.length : Int) := by omega
            have hk0I : (0 : Int) ≤ (k : Int) := by omega
            have HST := Lib.hid hst
            obtain ⟨O, hO⟩ : ∃ O, stay ow (S.txs.take k) = O := ⟨_, rfl⟩
            rw [hO] at HO HSu hkl
            simp only [hO]
            obtain ⟨v1, hv1⟩ : ∃ v, (t.ow.toList == ow.toList) = v := ⟨_, rfl⟩
            have hin : isOw ow t = v1 := hv1
            rw [hin] at HSu
            clear ht hst hyx hvq hO hin
            rw [HST.out]
            have H2a := Lib.hid (HO.out.alloc (.cells #[.int .i64 t.id, .string t.ow, .bool t.wr, .slice sq (chs S k).length cq] 36))
            have H3a := Lib.hid (H2a.out.alloc (.cells #[.int .i64 t.id] 3))
            have r2 := rd_built_at (wr.alloc (.cells #[.int .i64 t.id, .string t.ow, .bool t.wr, .slice sq (chs S k).length cq] 36)) #[.int .i64 t.id] 3 1 1 (wr.heap.size + 1) (by simp) rfl (by simp [Value.oneCell'])
            cases v1
            all_goals
              go_wp2_with (refine wpList_append_own' rfl (.tmp 44) (.tmp 47) 57 rfl elI so _ co _ rfl H3a.out _ 1 _ _ rfl r2 (by omega) (by omega) ?_; intro so' co' w4 p1 p2 p3; have H4 := Lib.hid p1; clear p1 p2 p3)
              try rw [← HST.out]
              go_roundg (S.txs.length - (k + 1))
              case measure => have := Hg2.out; omega
              case rel =>
                have he := HSu.out
                simp at he
                first
                  | (refine ⟨k + 1, so', co', rfl, by omega, by simp, by rw [he]; simp, ?_⟩; rw [he]; simpa [ids] using H4.out)
                  | (refine ⟨k + 1, so, co, rfl, by omega, by simp, by rw [he], ?_⟩; rw [he]; exact H2a.out)
          · obtain rfl : k = S.txs.length := by omega
            rw [List.take_length] at HO
            simp only [List.take_length]
            obtain ⟨S', hS'⟩ : ∃ S', leaveS S ow = S' := ⟨_, rfl⟩
            have hsx : stay ow S.txs = S'.txs := by rw [← hS']; rfl
            have hpp : S'.pairs = S.pairs := by rw [← hS']; rfl
            have hll : S'.txs.length ≤ S.txs.length := by rw [← hsx]; exact stay_len _ _
            rw [hsx] at HO
            simp only [hsx]
            have HS' := Lib.hid hS'
            have HPP := Lib.hid hpp
            clear hS' hsx hpp hkl htl2
            obtain ⟨c0, c1, -⟩ := HP5.out.blk.1.three
            have HN := Lib.hid (K.Own.fresh (Below.refl _ wr) 62 2)
            have HRP := Lib.hid ((HP5.out.front2).rc.rd.alloc (.cells #[] 62))
            have hbl : bs < wr.heap.size := World.block_lt_of_cell? _ _ c0
            have hw1 : IntKind.i64.wrap ((S.txs.length : Int) - (S'.txs.length : Int)) = (S.txs.length : Int) - (S'.txs.length : Int) := by rw [IntKind.wrap_i64]; omega
            go_upto_region 20 with (refine wpList_append_own' rfl (.tmp 53) (.tmp 55) 25 rfl elP _ 0 _ _ rfl HN.out _ S.pairs.length _ _ rfl HRP.out (by omega) (by omega) ?_; intro sq cq w2 p1 p2 p3; have HQ := Lib.hid p1; clear p1 p2 p3; try simp only [Nat.zero_add, List.nil_append])
            rw [Nat.zero_add, List.nil_append] at HQ
            have H2 := Lib.hid (sat_own (sat_own (show SAt bs S w0 wx [] from ⟨p, HP.out⟩) HO.out) HQ.out)
            have hz : ((S'.txs.length : Int) - ((leaveS S' ow).txs.length : Int)) = 0 := by rw [← HS'.out, leave_twice]; omega
            have HZ := Lib.hid hz
            clear c0 c1 hz hbl
            go_upto_region 22 with (first
              | (go_at_call 28; refine (leave_st ow H2.out (by omega)).mono ?_; rintro e w3 ⟨rfl, h3⟩; rw [HS'.out] at h3 ⊢; obtain ⟨p3, hp3⟩ := h3; have HP3 := Lib.hid hp3; obtain ⟨c0, c1, -⟩ := hp3.blk.1.three; rw [HPP.out] at c0; have ra := Lib.hid (re_pairs p3.cp (HPP.out ▸ hp3.front2.rc.rd)); have rb := Lib.hid (re_pairs cq (hp3.slm (e := 62) (sz := 2) (s := sq) (n := S.pairs.length) (c := cq) (xs := flat pcells S.pairs) (.tail _ (.tail _ (.tail _ (.tail _ (.head _)))))).rd); clear hp3)
              | (go_at_call 23; (with_reducible refine (same_any _ _ _ _ ra.out rb.out (by show S.pairs.length ≤ 100000; omega) (by simp) (by simp)).mono ?_); rintro e w4 ⟨rfl, h4⟩; have HP4 := Lib.hid (HP3.out.of_below h4); clear c0 c1 h4; obtain ⟨c0, c1, -⟩ := HP4.out.blk.1.three))
            go_wp2_with fail
            go_loopg [84] S'.txs.length (CRel S'.txs.length w4)
            case atStart => exact ⟨0, rfl, Nat.zero_le _, rfl, Below.refl _ _⟩
            case round =>
              clear c0 c1 Hg2
              obtain ⟨k, hg2, hk, rfl, hb⟩ := hrel
              have Hg2 := Lib.hid hg2
              have HP6 := Lib.hid (HP4.out.of_below hb)
              have HB6 := Lib.hid hb
              clear hg2 hb
              by_cases hkn : k < S'.txs.length
              · obtain ⟨t, ht⟩ : ∃ t, S'.txs[k] = t := ⟨_, rfl⟩
                obtain ⟨g2, o2, hst, -⟩ := HP6.out.swap.sl.rd.addr (by omega)
                have hyl : k < (yz (.slice p3.sc S'.cs.length p3.cc) S'.txs).length := by rw [yz_len]; exact hkn
                have hyx := yz_get (.slice p3.sc S'.cs.length p3.cc) S'.txs k hkn
                obtain ⟨sq3, cq3, hvq, -⟩ := chs_rc HP6.out k
                rw [hvq, ht] at hyx
                obtain ⟨d0, d1, d2, d3⟩ := y_at (hst ▸ HP6.out.swap.sl.rd) hyl _ hyx
                simp only at d0 d1 d2 d3
                obtain ⟨g3, o3, hso, hw⟩ := (HP6.out.slm (e := 3) (sz := 1) (s := so) (n := S'.txs.length) (c := co) (xs := ids S'.txs) (.tail _ (.tail _ (.tail _ (.tail _ (.tail _ (.head _))))))).rd.addr (by omega)
                subst hso
                have e0 := hw k (.int .i64 t.id) (by simp [ids, ht, hkn])
                have hkI : (k : Int) < (S'.txs.length : Int) := by omega
                have hk0I : (0 : Int) ≤ (k : Int) := by omega
                have HST := Lib.hid hst
                have hl3 : g3 < wr.heap.size := World.block_lt_of_cell? _ _ e0
                clear ht hst hyx hvq hw
                rw [HST.out]
                go_wp2_with go_quiet (fail)
                try rw [← HST.out]
                go_roundg (S'.txs.length - (k + 1))
                case measure => have := Hg2.out; omega
                case rel => exact ⟨k + 1, rfl, by omega, by simp, by have h := HB6.out.alloc HB6.out.size (.cells #[.int .i64 t.id, .string t.ow, .bool t.wr, .slice sq3 (chs S' k).length cq3] 36); exact ⟨h.os, h.tape, h.output, h.size, h.block⟩⟩
              · obtain rfl : k = S'.txs.length := by omega
                go_wp2_with (go_at_call 28; refine (leave_st ow (show SAt bs S' w0 wr _ from ⟨p3, HP6.out⟩) (by omega)).mono ?_; rintro e w7 ⟨rfl, h7⟩; rw [HZ.out])
                go_ret
                obtain ⟨p7, h7⟩ := h7
                exact ⟨rfl, h7.bel⟩

end Go.Proofs.Ytcglnjklnlejmaa
