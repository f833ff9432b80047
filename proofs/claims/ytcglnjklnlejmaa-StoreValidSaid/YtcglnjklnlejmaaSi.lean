/-
  store.alter, Put, Remove.
-/
import Derived.Test.YtcglnjklnlejmaaSh
set_option linter.unusedVariables false
set_option linter.unusedSimpArgs false
namespace Go.Proofs.Ytcglnjklnlejmaa
open Go.RowKit Go.K Go.K.Sr

def altS (S : SS) (id : Int) (c : Ch) : SS × Int :=
  match fnd id S.txs with
  | none => (S, 6)
  | some k => if turnB S.txs k = false then (S, 19) else match S.txs[k]? with
    | some t => if t.wr = false then (S, 7) else if c.r = false ∧ 1048576 < sizeP (content S.pairs (withC c S.cs)) then (S, 20) else ({ S with cs := withC c S.cs }, 0)
    | none => (S, 0)
theorem cell_al {w : World} {a : Addr} {v : Value} (o : Obj) (h : w.cell? a = some v) : (w.alloc o).cell? a = some v := by rw [World.cell?_alloc_some _ _ _ (by rw [h]; rfl)]; exact h
theorem withC_len (c : Ch) (l : List Ch) : (withC c l).length ≤ l.length + 1 := by
  induction l with
  | nil => simp [withC]
  | cons p l ih =>
    unfold withC
    split
    · simp; omega
    · split <;> simp
theorem set_chs {w0 w : World} {L : List As} {b : Nat} {S : SS} {p : Sp} {t : Tx} {r : List Tx} {g o : Nat} {s4 : Option Addr} {c4 : Nat} {l4 : List Ch} (ht : S.txs = t :: r) (hp : p.st = some ⟨g, o, none⟩) (h : St w0 w (As.rdr 3 s4 l4.length c4 (flat ccells l4) :: sL b S p L)) :
    SAt b { S with cs := l4 } w0 (w.setCell ⟨g, o + 3, none⟩ (.slice s4 l4.length c4)) L := by
  have h1 := St.sh [_, _, _, _, _] [2, 1, 3, 0, 4] (by decide) h
  simp only [List.map_cons, List.map_nil, List.getD_cons_zero, List.getD_cons_succ, List.cons_append, List.nil_append] at h1
  rw [hp] at h1
  have h2 := h1.row_set 3 (by rw [ht]; simp; omega) (.slice s4 l4.length c4) rfl
  have h3 := St.sh [_, _, _, _, _] [4, 1, 0, 2, 3] (by decide) h2
  simp only [List.map_cons, List.map_nil, List.getD_cons_zero, List.getD_cons_succ, List.cons_append, List.nil_append] at h3
  refine ⟨⟨p.sp, p.cp, some ⟨g, o, none⟩, p.ct, s4, c4⟩, ?_⟩
  have h4 := h3.drop
  rw [ht] at h4
  simp only [sL, ht]
  simpa [yz, flat, ycells] using h4

set_option maxRecDepth 100000 in
set_option maxHeartbeats 1000000 in
theorem alter_st {w0 w : World} {L : List As} {b : Nat} {S : SS} (id : Int) (x : Ch) (h : SAt b S w0 w L) (hn : S.txs.length ≤ 100000) (hm : S.pairs.length ≤ 10000) (hc : S.cs.length ≤ 10000) (ha : Asc Pr.k S.pairs) (hac : Asc Ch.k S.cs)
    (hz : sizeP (content S.pairs (withC x S.cs)) ≤ 4611686018427387904) :
    Calls Try.prog 31 #[.pointer (some ⟨b, 0, none⟩), .int .i64 id, .agg #[.string x.k, .string x.v, .bool x.r]] w fun e w' => e = .returned (.int .i64 (altS S id x).2) ∧ SAt b (altS S id x).1 w0 w' L := by
  obtain ⟨p, h⟩ := h
  obtain ⟨-, c1, -⟩ := h.blk.1.three
  have C1 := Lib.hid (cell_al (.cells #[.string x.k, .string x.v, .bool x.r] 59) c1)
  have HSL := Lib.hid (h.swap.sl.alloc (.cells #[.string x.k, .string x.v, .bool x.r] 59))
  have H := Lib.hid h
  clear h c1
  cases hf : fnd id S.txs with
  | none =>
    have e1 : fndI id S.txs = -1 := by unfold fndI; rw [hf]
    have e2 : curE id S.txs = 6 := by unfold curE; rw [hf]
    have e3 : altS S id x = (S, 6) := by unfold altS; rw [hf]
    rw [e3]
    have E1 := Lib.hid e1
    have E2 := Lib.hid e2
    clear hf e1 e2 e3
    go_enter Try.func31, Try.ntmps31
    go_wp2_with (go_at_call 32; refine (current_any b id _ S.txs _ _ _ C1.out HSL.out hn).mono ?_; rintro e w2 ⟨rfl, hb2⟩; rw [E1.out, E2.out]; have H2 := Lib.hid (H.out.alloc (.cells #[.string x.k, .string x.v, .bool x.r] 59)); have H3 := Lib.hid (H2.out.of_below hb2); have hbx := (Blk.new w #[.string x.k, .string x.v, .bool x.r] 59).kept (S := fun _ => False) (Fr.of_below hb2) (fun q => q); have HBX := Lib.hid hbx; obtain ⟨k0, k1, k2, -, -, -⟩ := hbx.three; clear hbx hb2; obtain ⟨c0, c1, c2, -, -, -⟩ := H3.out.blk.1.three)
    go_ret
    exact ⟨rfl, p, H3.out⟩
  | some k =>
    have hk := fnd_lt hf
    have e1 : fndI id S.txs = k := by unfold fndI; rw [hf]
    have E1 := Lib.hid e1
    cases ht : turnB S.txs k with
    | false =>
      have e2 : curE id S.txs = 19 := by unfold curE; rw [hf]; simp [ht]
      have e3 : altS S id x = (S, 19) := by unfold altS; rw [hf]; simp [ht]
      rw [e3]
      have E2 := Lib.hid e2
      clear hf e1 e2 e3 ht
      go_enter Try.func31, Try.ntmps31
      go_wp2_with (go_at_call 32; refine (current_any b id _ S.txs _ _ _ C1.out HSL.out hn).mono ?_; rintro e w2 ⟨rfl, hb2⟩; rw [E1.out, E2.out]; have H2 := Lib.hid (H.out.alloc (.cells #[.string x.k, .string x.v, .bool x.r] 59)); have H3 := Lib.hid (H2.out.of_below hb2); have hbx := (Blk.new w #[.string x.k, .string x.v, .bool x.r] 59).kept (S := fun _ => False) (Fr.of_below hb2) (fun q => q); have HBX := Lib.hid hbx; obtain ⟨k0, k1, k2, -, -, -⟩ := hbx.three; clear hbx hb2; obtain ⟨c0, c1, c2, -, -, -⟩ := H3.out.blk.1.three)
      go_ret
      exact ⟨rfl, p, H3.out⟩
    | true =>
      have e2 : curE id S.txs = 0 := by unfold curE; rw [hf]; simp [ht]
      have E2 := Lib.hid e2
      obtain ⟨t, htt⟩ : ∃ t, S.txs[k] = t := ⟨_, rfl⟩
      have hyl : k < (yz (.slice p.sc S.cs.length p.cc) S.txs).length := by rw [yz_len]; exact hk
      have hyx : (yz (.slice p.sc S.cs.length p.cc) S.txs)[k] = (t, if k = 0 then .slice p.sc S.cs.length p.cc else nilS) := by rw [yz_get _ _ k hk, htt]
      obtain ⟨g, o, hst, -⟩ := HSL.out.rd.addr (by omega)
      have hkI : (k : Int) < (S.txs.length : Int) := by omega
      have hk0I : (0 : Int) ≤ (k : Int) := by omega
      cases hw : t.wr with
      | false =>
        have e3 : altS S id x = (S, 7) := by unfold altS; rw [hf]; simp [ht, List.getElem?_eq_getElem hk, htt, hw]
        rw [e3]
        have HYX := Lib.hid hyx
        have HST := Lib.hid hst
        have HW := Lib.hid hw
        clear hf e1 e2 e3 ht htt hyx hst hw
        go_enter Try.func31, Try.ntmps31
        go_wp2_with (go_at_call 32; refine (current_any b id _ S.txs _ _ _ C1.out HSL.out hn).mono ?_; rintro e w2 ⟨rfl, hb2⟩; rw [E1.out, E2.out]; have H2 := Lib.hid (H.out.alloc (.cells #[.string x.k, .string x.v, .bool x.r] 59)); have H3 := Lib.hid (H2.out.of_below hb2); have hbx := (Blk.new w #[.string x.k, .string x.v, .bool x.r] 59).kept (S := fun _ => False) (Fr.of_below hb2) (fun q => q); have HBX := Lib.hid hbx; obtain ⟨k0, k1, k2, -, -, -⟩ := hbx.three; clear hbx hb2; obtain ⟨c0, c1, c2, -, -, -⟩ := H3.out.blk.1.three; rw [HST.out] at c1; obtain ⟨-, -, d2, -⟩ := y_at (HST.out ▸ H3.out.swap.sl.rd) hyl _ HYX.out; simp only [HW.out] at d2)
        go_ret
        exact ⟨rfl, p, H3.out⟩
      | true =>
        have hk0 : k = 0 := by
          unfold turnB at ht
          rw [List.getElem?_eq_getElem hk, htt] at ht
          simpa [hw] using ht
        subst hk0
        obtain ⟨r, hr⟩ : ∃ r, S.txs = t :: r := by
          cases hl : S.txs with
          | nil => rw [hl] at hk; simp at hk
          | cons a r => exact ⟨r, by simp only [hl] at htt; rw [← htt]; rfl⟩
        obtain ⟨l4, hl4⟩ : ∃ l4, withC x S.cs = l4 := ⟨_, rfl⟩
        obtain ⟨z4, hz4⟩ : ∃ z4, sizeP (content S.pairs l4) = z4 := ⟨_, rfl⟩
        have e3 : altS S id x = if x.r = false ∧ 1048576 < z4 then (S, 20) else ({ S with cs := l4 }, 0) := by unfold altS; rw [hf]; simp [ht, List.getElem?_eq_getElem hk, htt, hw, hl4, hz4]
        have hl4l : l4.length ≤ S.cs.length + 1 := by rw [← hl4]; exact withC_len _ _
        rw [hl4, hz4] at hz
        obtain ⟨R, hRR⟩ : ∃ R, (if x.r = false ∧ 1048576 < z4 then (S, (20 : Int)) else ({ S with cs := l4 }, 0)) = R := ⟨_, rfl⟩
        rw [hRR] at e3
        have HRR := Lib.hid hRR
        rw [e3]
        clear hRR
        simp only [if_true] at hyx
        have HYX := Lib.hid hyx
        have HST := Lib.hid hst
        have HW := Lib.hid hw
        have HL4 := Lib.hid hl4
        have HZ4 := Lib.hid hz4
        have HR := Lib.hid hr
        clear hf e1 e2 e3 ht htt hyx hst hw hl4 hz4 hr
        go_enter Try.func31, Try.ntmps31
        go_upto_region 6 with (go_at_call 32; refine (current_any b id _ S.txs _ _ _ C1.out HSL.out hn).mono ?_; rintro e w2 ⟨rfl, hb2⟩; rw [E1.out, E2.out]; have H2 := Lib.hid (H.out.alloc (.cells #[.string x.k, .string x.v, .bool x.r] 59)); have H3 := Lib.hid (H2.out.of_below hb2); have hbx := (Blk.new w #[.string x.k, .string x.v, .bool x.r] 59).kept (S := fun _ => False) (Fr.of_below hb2) (fun q => q); have HBX := Lib.hid hbx; obtain ⟨k0, k1, k2, -, -, -⟩ := hbx.three; clear hbx hb2; obtain ⟨c0, c1, c2, -, -, -⟩ := H3.out.blk.1.three; rw [HST.out] at c1; obtain ⟨-, -, d2, d3⟩ := y_at (HST.out ▸ H3.out.swap.sl.rd) hyl _ HYX.out; simp only [HW.out, Nat.zero_mul, Nat.add_zero] at d2 d3)
        have HRC := Lib.hid (St.sh [_, _, _, _] [3, 0, 1, 2] (by decide) H3.out.drew).rc
        go_still_tail 9, (by kernel_rfl)
        change wpList _ _ _ _ _ w2.drew
        have HBXd := Lib.hid (show Blk w2.drew w.heap.size #[.string x.k, .string x.v, .bool x.r] 59 from HBX.out)
        clear c0 c1 c2 d2 d3 k0 k1 k2
        go_upto_region 7 with (go_at_call 49; refine (with_any p.sc p.cc S.cs x _ HRC.out.rd HRC.out.nil (by omega) hac).mono ?_; rintro e w4 ⟨s4, c4, rfl, h4⟩; rw [HL4.out] at h4 ⊢; have H4 := Lib.hid (join_rdr H3.out.drew h4); have hbx := HBXd.out.kept (S := fun _ => False) (Fr.of_below h4.bel) (fun q => q); have HBX4 := Lib.hid hbx; clear h4; obtain ⟨k0, k1, k2, -, -, -⟩ := hbx.three; clear hbx)
        have H4s := Lib.hid (St.sh [_, _, _, _, _] [1, 2, 3, 0, 4] (by decide) H4.out)
        obtain ⟨c0, c1, -, -, -, -⟩ := H4s.out.blk.1.three
        rw [HST.out] at c1
        have hrow := (HST.out ▸ H4s.out.swap.sl : Sl w4 36 4 (some ⟨g, o, none⟩) S.txs.length p.ct _)
        obtain ⟨-, -, -, d3⟩ := y_at hrow.rd hyl _ HYX.out
        have f3 := hrow.some_free (o + 3)
        have HRP := Lib.hid (H4s.out.front2).rc
        have HR4 := Lib.hid H4.out.rc
        simp only [Nat.zero_mul, Nat.add_zero] at d3
        clear hrow
        cases hxr : x.r with
        | true =>
          rw [hxr] at k2
          have HXR := Lib.hid hxr
          clear hxr
          go_wp2_with fail
          go_ret
          have hRR := HRR.out
          rw [if_neg (by rw [HXR.out]; simp)] at hRR
          subst hRR
          exact ⟨rfl, set_chs HR.out HST.out H4.out⟩
        | false =>
          rw [hxr] at k2
          have HXR := Lib.hid hxr
          by_cases hzz : 1048576 < z4
          · have HZZ := Lib.hid hzz
            have hzI : (1048576 : Int) < (z4 : Int) := by omega
            clear hxr hzz d3 f3
            go_wp2_with (first
              | (go_at_call 35; refine (content_any p.sp p.cp S.pairs s4 c4 l4 _ HRP.out.rd HRP.out.nil HR4.out.rd (by omega) (by omega) ha).mono ?_; rintro e w5 ⟨s5, c5, rfl, h5⟩; have H5 := Lib.hid (H4s.out.of_below h5.bel); have HR5 := Lib.hid h5.sl.rd; clear h5)
              | (go_at_call 37; refine (size_any s5 c5 _ _ HR5.out (by have := content_len l4 S.pairs; omega) (by rw [HZ4.out]; exact hz)).mono ?_; rintro e w6 ⟨rfl, hb6⟩; rw [HZ4.out]; have H6 := Lib.hid (H5.out.of_below hb6); clear hb6))
            go_ret
            have hRR := HRR.out
            rw [if_pos ⟨HXR.out, HZZ.out⟩] at hRR
            subst hRR
            refine ⟨rfl, p, ?_⟩
            have h7 := St.sh [_, _, _, _, _] [3, 0, 1, 2, 4] (by decide) H6.out
            simp only [List.map_cons, List.map_nil, List.getD_cons_zero, List.getD_cons_succ, List.cons_append, List.nil_append] at h7
            exact h7.drop
          · have HZZ := Lib.hid hzz
            have hzI : (z4 : Int) ≤ 1048576 := by omega
            clear hxr hzz
            go_wp2_with (first
              | (go_at_call 35; refine (content_any p.sp p.cp S.pairs s4 c4 l4 _ HRP.out.rd HRP.out.nil HR4.out.rd (by omega) (by omega) ha).mono ?_; rintro e w5 ⟨s5, c5, rfl, h5⟩; have H5 := Lib.hid (H4.out.of_below h5.bel); have HR5 := Lib.hid h5.sl.rd; clear h5)
              | (go_at_call 37; refine (size_any s5 c5 _ _ HR5.out (by have := content_len l4 S.pairs; omega) (by rw [HZ4.out]; exact hz)).mono ?_; rintro e w6 ⟨rfl, hb6⟩; rw [HZ4.out]; have H6 := Lib.hid (H5.out.of_below hb6); clear hb6; have H6s := Lib.hid (St.sh [_, _, _, _, _] [1, 2, 3, 0, 4] (by decide) H6.out); clear c0 c1 d3 f3; obtain ⟨c0, c1, -, -, -, -⟩ := H6s.out.blk.1.three; rw [HST.out] at c1; have hrow := (HST.out ▸ H6s.out.swap.sl : Sl w6 36 4 (some ⟨g, o, none⟩) S.txs.length p.ct _); obtain ⟨-, -, -, d3⟩ := y_at hrow.rd hyl _ HYX.out; have f3 := hrow.some_free (o + 3); simp only [Nat.zero_mul, Nat.add_zero] at d3; clear hrow))
            go_ret
            have hRR := HRR.out
            rw [if_neg (fun h => HZZ.out h.2)] at hRR
            subst hRR
            exact ⟨rfl, set_chs HR.out HST.out H6.out⟩

set_option maxHeartbeats 400000 in
theorem put_st {w0 w : World} {L : List As} {b : Nat} {S : SS} (id : Int) (k v : ByteArray) (h : SAt b S w0 w L) (hn : S.txs.length ≤ 100000) (hm : S.pairs.length ≤ 10000) (hc : S.cs.length ≤ 10000) (ha : Asc Pr.k S.pairs) (hac : Asc Ch.k S.cs)
    (hz : sizeP (content S.pairs (withC ⟨k, v, false⟩ S.cs)) ≤ 4611686018427387904) :
    Calls Try.prog 13 #[.pointer (some ⟨b, 0, none⟩), .int .i64 id, .string k, .string v] w fun e w' => e = .returned (.int .i64 (altS S id ⟨k, v, false⟩).2) ∧ SAt b (altS S id ⟨k, v, false⟩).1 w0 w' L := by
  go_enter Try.func13, Try.ntmps13
  go_wp2_with (go_at_call 31; refine (alter_st id ⟨k, v, false⟩ h hn hm hc ha hac hz).mono ?_; rintro e w' ⟨rfl, h2⟩)
  go_ret
  exact ⟨rfl, h2⟩
set_option maxHeartbeats 400000 in
theorem remove_st {w0 w : World} {L : List As} {b : Nat} {S : SS} (id : Int) (k : ByteArray) (h : SAt b S w0 w L) (hn : S.txs.length ≤ 100000) (hm : S.pairs.length ≤ 10000) (hc : S.cs.length ≤ 10000) (ha : Asc Pr.k S.pairs) (hac : Asc Ch.k S.cs)
    (hz : sizeP (content S.pairs (withC ⟨k, .empty, true⟩ S.cs)) ≤ 4611686018427387904) :
    Calls Try.prog 17 #[.pointer (some ⟨b, 0, none⟩), .int .i64 id, .string k] w fun e w' => e = .returned (.int .i64 (altS S id ⟨k, .empty, true⟩).2) ∧ SAt b (altS S id ⟨k, .empty, true⟩).1 w0 w' L := by
  go_enter Try.func17, Try.ntmps17
  go_wp2_with (go_at_call 31; refine (alter_st id ⟨k, .empty, true⟩ h hn hm hc ha hac hz).mono ?_; rintro e w' ⟨rfl, h2⟩)
  go_ret
  exact ⟨rfl, h2⟩
end Go.Proofs.Ytcglnjklnlejmaa
