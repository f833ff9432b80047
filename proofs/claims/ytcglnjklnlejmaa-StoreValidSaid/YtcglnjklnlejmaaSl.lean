/-
  store.Leave, Keys.
-/
import Derived.Test.YtcglnjklnlejmaaSk
set_option linter.unusedVariables false
set_option linter.unusedSimpArgs false
namespace Go.Proofs.Ytcglnjklnlejmaa
open Go.RowKit Go.K Go.K.Sr

def headC (ow : ByteArray) (txs : List Tx) (cs : List Ch) : List Ch := match txs with | [] => cs | t :: _ => if isOw ow t then [] else cs
def leaveS (S : SS) (ow : ByteArray) : SS := { S with txs := S.txs.filter (fun t => !isOw ow t), cs := headC ow S.txs S.cs }
def headOut (ow : ByteArray) (txs : List Tx) : Bool := match txs with | [] => false | t :: _ => isOw ow t
theorem yz_kept (cv : Value) (ow : ByteArray) (l : List Tx) : kept (yz cv l) ow l.length = yz (if headOut ow l then nilS else cv) (l.filter (fun t => !isOw ow t)) := by
  unfold kept
  rw [List.take_of_length_le (by rw [yz_len]; omega)]
  have hm : ∀ r : List Tx, (r.map (fun x => (x, nilS))).filter (keepB ow) = (r.filter (fun t => !isOw ow t)).map (fun x => (x, nilS)) := by
    intro r
    rw [List.filter_map]
    rfl
  cases l with
  | nil => rfl
  | cons t r =>
    simp only [yz, headOut, List.filter_cons]
    rw [hm]
    by_cases h : isOw ow t = true
    · simp only [keepB, h, Bool.not_true, Bool.false_eq_true, if_false, if_true]
      cases r.filter (fun t => !isOw ow t) <;> rfl
    · have h' : isOw ow t = false := by simpa using h
      simp [keepB, h', yz]
set_option maxRecDepth 100000 in
set_option maxHeartbeats 1000000 in
theorem leave_st {w0 w : World} {L : List As} {b : Nat} {S : SS} (ow : ByteArray) (h : SAt b S w0 w L) (hn : S.txs.length ≤ 10000) :
    Calls Try.prog 28 #[.pointer (some ⟨b, 0, none⟩), .string ow] w fun e w' => e = .returned (.int .i64 ((S.txs.length : Int) - ((leaveS S ow).txs.length : Int))) ∧ SAt b (leaveS S ow) w0 w' L := by
  obtain ⟨p, h⟩ := h
  have h1 := h.new #[.string ow] 9
  obtain ⟨c0, c1, c2, f0, f1, f2⟩ := h1.swap.blk.1.three
  have hle : (leaveS S ow).txs.length ≤ S.txs.length := List.length_filter_le _ _
  have h2 := St.sh [_, _, _, _, _] [2, 0, 1, 3, 4] (by decide) h1
  simp only [List.map_cons, List.map_nil, List.getD_cons_zero, List.getD_cons_succ, List.cons_append, List.nil_append] at h2
  have hyl := yz_len (.slice p.sc S.cs.length p.cc) S.txs
  have hsl : ∀ x ∈ yz (.slice p.sc S.cs.length p.cc) S.txs, ∃ a n c, x.2 = .slice a n c := by
    intro x hx
    obtain ⟨j, hj, rfl⟩ := List.getElem_of_mem hx
    rw [hyl] at hj
    rw [yz_get _ _ j hj]
    by_cases h0 : j = 0
    · simp only [h0, if_true]; exact ⟨_, _, _, rfl⟩
    · simp only [h0, if_false]; exact ⟨_, _, _, rfl⟩
  have H2 := Lib.hid h2
  have HD := Lib.hid (fun w3 (hb : Below (w.alloc (.cells #[.string ow] 9)).heap.size (w.alloc (.cells #[.string ow] 9)) w3) => delfunc_st (n := S.txs.length) (yz (.slice p.sc S.cs.length p.cc) S.txs) ow (H2.out.of_below hb) hyl hn hsl)
  rw [yz_kept] at HD
  obtain ⟨T2, hT2⟩ : ∃ T2, S.txs.filter (fun t => !isOw ow t) = T2 := ⟨_, rfl⟩
  rw [hT2, yz_len] at HD
  have hT2l : (leaveS S ow).txs.length = T2.length := by unfold leaveS; rw [← hT2]
  rw [hT2l] at hle ⊢
  have HT2 := Lib.hid hT2
  clear h h1 h2 hsl hyl hT2 hT2l c0 c2 f0 f2
  go_enter Try.func28, Try.ntmps28
  go_upto_region 3 with (go_at_call 47; (with_reducible refine (HD.out (w.alloc (.cells #[.string ow] 9)) (Below.refl _ _)).mono ?_); rintro e w5 ⟨s5, c5, rfl, h5⟩; have H5 := Lib.hid (St.sh [_, _, _] [2, 0, 1] (by decide) h5); obtain ⟨z0, z1, z2, zf0, zf1, zf2⟩ := H5.out.blk.1.three; clear h5)
  have h7 := H5.out.set 1 (.slice s5 T2.length c5)
  simp only [List.setIfInBounds_toArray, List.set_cons_zero, List.set_cons_succ] at h7
  have H7 := Lib.hid h7
  obtain ⟨y0, y1, y2, -, -, -⟩ := h7.blk.1.three
  obtain ⟨W7, hW7⟩ : ∃ W7, w5.setCell ⟨b, 1, none⟩ (.slice s5 T2.length c5) = W7 := ⟨_, rfl⟩
  rw [hW7] at H7 y0 y1 y2 ⊢
  have hwr : IntKind.i64.wrap ((S.txs.length : Int) - (T2.length : Int)) = (S.txs.length : Int) - (T2.length : Int) := by rw [IntKind.wrap_i64]; omega
  clear z0 z1 z2 zf0 zf1 zf2 h7 hW7 c1 f1
  go_wp2_with fail
  go_ret
  refine ⟨rfl, ?_⟩
  have h8 := St.sh [_, _, _] [2, 0, 1] (by decide) H7.out
  simp only [List.map_cons, List.map_nil, List.getD_cons_zero, List.getD_cons_succ, List.cons_append, List.nil_append] at h8
  have h9 := h8.drop
  cases hho : headOut ow S.txs with
  | false =>
    rw [hho] at h9
    simp only [Bool.false_eq_true, if_false] at h9
    have hc : headC ow S.txs S.cs = S.cs := by
      unfold headC
      unfold headOut at hho
      cases hl : S.txs with
      | nil => rfl
      | cons t r => rw [hl] at hho; simp only at hho ⊢; rw [hho]; rfl
    refine ⟨⟨p.sp, p.cp, s5, c5, p.sc, p.cc⟩, ?_⟩
    simp only [sL, leaveS, HT2.out, hc]
    exact h9
  | true =>
    rw [hho] at h9
    simp only [if_true] at h9
    have hc : headC ow S.txs S.cs = [] := by
      unfold headC
      unfold headOut at hho
      cases hl : S.txs with
      | nil => rw [hl] at hho; cases hho
      | cons t r => rw [hl] at hho; simp only at hho ⊢; rw [hho]; rfl
    have h10 := St.sh [_, _, _, _] [3, 0, 1, 2] (by decide) h9
    simp only [List.map_cons, List.map_nil, List.getD_cons_zero, List.getD_cons_succ, List.cons_append, List.nil_append] at h10
    have h11 := St.sh [_, _, _, _] [1, 2, 3, 0] (by decide) (h10.drop.rdr_nil 3)
    simp only [List.map_cons, List.map_nil, List.getD_cons_zero, List.getD_cons_succ, List.cons_append, List.nil_append] at h11
    refine ⟨⟨p.sp, p.cp, s5, c5, none, 0⟩, ?_⟩
    simp only [sL, leaveS, HT2.out, hc]
    exact h11

theorem infoS : (Try.prog.info? 9).map (fun i => (i.zero, i.size, i.bytes)) = some (some (.string ByteArray.empty), 1, 16) := by kernel_rfl
theorem elS : El Try.prog 47 9 1 16 := by
  obtain ⟨i, hi, h1, h2, h3⟩ := info_parts infoS
  exact ⟨by kernel_rfl, ⟨i, _, hi, h1, h2, h3, rfl⟩, by decide⟩
def strs (l : List ByteArray) : List Value := l.map Value.string
def inR (lo hi : ByteArray) (p : Pr) : Bool := !klt p.k lo && (hi.toList == [] || klt p.k hi)
def keysL (l : List Pr) (lo hi : ByteArray) : List ByteArray := (l.filter (inR lo hi)).map (·.k)
def keysS (S : SS) (id : Int) (lo hi : ByteArray) : List ByteArray × Int :=
  match fnd id S.txs with
  | none => ([], 6)
  | some k => if turnB S.txs k = false then ([], 19) else (keysL (content S.pairs (chs S k)) lo hi, 0)
theorem keysL_succ (l : List Pr) (lo hi : ByteArray) (k : Nat) (hk : k < l.length) (x : Pr) (hx : l[k] = x) : keysL (l.take (k + 1)) lo hi = keysL (l.take k) lo hi ++ (if inR lo hi x then [x.k] else []) := by
  unfold keysL
  rw [List.take_succ_eq_append_getElem hk, hx, List.filter_append, List.map_append]
  congr 1
  by_cases h : inR lo hi x = true <;> simp [List.filter_cons, h]
theorem keysL_len (l : List Pr) (lo hi : ByteArray) : (keysL l lo hi).length ≤ l.length := by
  unfold keysL
  rw [List.length_map]
  exact List.length_filter_le _ _
theorem own_from {w w5 wr : World} {e : TypeId} {sz : Nat} {s : Option Addr} {n c : Nat} {xs : List Value} (hb : Below w.heap.size w w5) (h : K.Own w5 wr e sz s n c xs) : K.Own w wr e sz s n c xs :=
  ⟨h.sl, hb.trans (h.bel.mono hb.size), fun k hk => Nat.le_trans hb.size (h.row k hk)⟩
def KyRel (l : List Pr) (lo hi : ByteArray) (w : World) (g : Nat) (v12 v38 : Value) (wr : World) : Prop :=
  ∃ (k : Nat) (s : Option Addr) (c : Nat), g = l.length - k ∧ k ≤ l.length ∧ v38 = .int .i64 k ∧ v12 = .slice s (keysL (l.take k) lo hi).length c ∧ K.Own w wr 9 1 s (keysL (l.take k) lo hi).length c (strs (keysL (l.take k) lo hi))
def KyPost (R : List ByteArray × Int) (w : World) (e : Ending) (w' : World) : Prop :=
  ∃ s c, e = .returned (.tuple #[.slice s R.1.length c, .int .i64 R.2]) ∧ K.Own w w' 9 1 s R.1.length c (strs R.1)

set_option maxRecDepth 100000 in
set_option maxHeartbeats 1000000 in
theorem keys_st {w0 w : World} {L : List As} {b : Nat} {S : SS} (id : Int) (lo hi : ByteArray) (h : SAt b S w0 w L) (hn : S.txs.length ≤ 100000) (hm : S.pairs.length ≤ 10000) (hc : S.cs.length ≤ 10000) (ha : Asc Pr.k S.pairs) :
    Calls Try.prog 27 #[.pointer (some ⟨b, 0, none⟩), .int .i64 id, .string lo, .string hi] w (KyPost (keysS S id lo hi) w) := by
  obtain ⟨p, h⟩ := h
  obtain ⟨-, c1, -⟩ := h.blk.1.three
  have C1 := Lib.hid c1
  have HSL := Lib.hid h.swap.sl
  have H := Lib.hid h
  clear h c1
  cases hf : fnd id S.txs with
  | none =>
    have e1 : fndI id S.txs = -1 := by unfold fndI; rw [hf]
    have e2 : curE id S.txs = 6 := by unfold curE; rw [hf]
    have e3 : keysS S id lo hi = ([], 6) := by unfold keysS; rw [hf]
    rw [e3]
    have E1 := Lib.hid e1
    have E2 := Lib.hid e2
    clear hf e1 e2 e3
    go_enter Try.func27, Try.ntmps27
    go_wp2_with (go_at_call 32; refine (current_any b id _ S.txs _ _ _ C1.out HSL.out hn).mono ?_; rintro e w2 ⟨rfl, hb2⟩; rw [E1.out, E2.out]; have H3 := Lib.hid (H.out.of_below hb2); have HB2 := Lib.hid hb2; clear hb2; obtain ⟨c0, c1, c2, f0, -, -⟩ := H3.out.blk.1.three)
    refine bodyPost_ret (v := .tuple #[.slice none 0 0, .int .i64 6]) (by simp [results, Try.results27, go_sem]) rfl ⟨none, 0, rfl, K.Own.nil HB2.out _ _⟩
  | some k =>
    have hk := fnd_lt hf
    have e1 : fndI id S.txs = k := by unfold fndI; rw [hf]
    have E1 := Lib.hid e1
    cases ht : turnB S.txs k with
    | false =>
      have e2 : curE id S.txs = 19 := by unfold curE; rw [hf]; simp [ht]
      have e3 : keysS S id lo hi = ([], 19) := by unfold keysS; rw [hf]; simp [ht]
      rw [e3]
      have E2 := Lib.hid e2
      clear hf e1 e2 e3 ht
      go_enter Try.func27, Try.ntmps27
      go_wp2_with (go_at_call 32; refine (current_any b id _ S.txs _ _ _ C1.out HSL.out hn).mono ?_; rintro e w2 ⟨rfl, hb2⟩; rw [E1.out, E2.out]; have H3 := Lib.hid (H.out.of_below hb2); have HB2 := Lib.hid hb2; clear hb2; obtain ⟨c0, c1, c2, f0, -, -⟩ := H3.out.blk.1.three)
      refine bodyPost_ret (v := .tuple #[.slice none 0 0, .int .i64 19]) (by simp [results, Try.results27, go_sem]) rfl ⟨none, 0, rfl, K.Own.nil HB2.out _ _⟩
    | true =>
      have e2 : curE id S.txs = 0 := by unfold curE; rw [hf]; simp [ht]
      have E2 := Lib.hid e2
      have hyl : k < (yz (.slice p.sc S.cs.length p.cc) S.txs).length := by rw [yz_len]; exact hk
      have hyx := yz_get (.slice p.sc S.cs.length p.cc) S.txs k hk
      obtain ⟨g, o, hst, -⟩ := HSL.out.rd.addr (by omega)
      obtain ⟨sq, cq, hvq, hrq⟩ := chs_rc H.out k
      have hcl2 : (chs S k).length ≤ S.cs.length := by unfold chs; split <;> simp
      have e3 : keysS S id lo hi = (keysL (content S.pairs (chs S k)) lo hi, 0) := by unfold keysS; rw [hf]; simp [ht]
      rw [e3]
      obtain ⟨cl, hcl⟩ : ∃ cl, chs S k = cl := ⟨_, rfl⟩
      rw [hcl] at hvq hrq hcl2 ⊢
      have hcon := content_len cl S.pairs
      obtain ⟨D, hD⟩ : ∃ D, content S.pairs cl = D := ⟨_, rfl⟩
      rw [hD] at hcon ⊢
      have HDD := Lib.hid hD
      have hkI : (k : Int) < (S.txs.length : Int) := by omega
      have hk0I : (0 : Int) ≤ (k : Int) := by omega
      have HYX := Lib.hid hyx
      have HST := Lib.hid hst
      have HVQ := Lib.hid hvq
      have HRQ := Lib.hid hrq
      clear hf e1 e2 e3 ht hyx hst hvq hrq hD
      go_enter Try.func27, Try.ntmps27
      go_upto_region 5 with (go_at_call 32; refine (current_any b id _ S.txs _ _ _ C1.out HSL.out hn).mono ?_; rintro e w2 ⟨rfl, hb2⟩; rw [E1.out, E2.out]; have H3 := Lib.hid (H.out.of_below hb2); have HB2 := Lib.hid hb2; clear hb2; obtain ⟨c0, c1, c2, f0, -, -⟩ := H3.out.blk.1.three; have HR3 := Lib.hid (HRQ.out _ HB2.out); rw [HST.out] at c1; obtain ⟨-, -, -, d3⟩ := y_at (HST.out ▸ H3.out.swap.sl.rd) hyl _ HYX.out; simp only [HVQ.out] at d3)
      have HP3 := Lib.hid (H3.out.drew.front2).rc
      have KP := Lib.hid (show ∀ w' : World, Below w2.heap.size w2 w' → w'.cell? ⟨b, 0, none⟩ = some (.slice p.sp S.pairs.length p.cp) ∧ w'.cell? ⟨b, 1, none⟩ = some (.slice (some ⟨g, o, none⟩) S.txs.length p.ct) ∧ w'.cell? ⟨g, o + k * 4 + 3, none⟩ = some (.slice sq cl.length cq) from
        fun w' h => ⟨(h.cell (World.block_lt_of_cell? _ _ c0)).trans c0, (h.cell (World.block_lt_of_cell? _ _ c1)).trans c1, (h.cell (World.block_lt_of_cell? _ _ d3)).trans d3⟩)
      have hb0 : Below w2.heap.size w2 w2.drew := ⟨rfl, rfl, rfl, Nat.le_refl _, fun _ _ => rfl⟩
      have CC := Lib.hid (content_any p.sp p.cp S.pairs sq cq cl w2.drew HP3.out.rd HP3.out.nil HR3.out.drew.rd (by omega) (by omega) ha)
      go_region_held3 (fun w' => w'.cell? ⟨b, 0, none⟩ = some (.slice p.sp S.pairs.length p.cp) ∧ w'.cell? ⟨b, 1, none⟩ = some (.slice (some ⟨g, o, none⟩) S.txs.length p.ct) ∧ w'.cell? ⟨g, o + k * 4 + 3, none⟩ = some (.slice sq cl.length cq))
        (first | with_reducible exact KP.out _ hb0 | with_reducible exact KP.out _ hbw)
        (first | (go_at_call 35; (with_reducible refine CC.out.mono ?_); rintro e w5 ⟨s5, c5, rfl, h5⟩; rw [HDD.out] at h5 ⊢; have HD5 := Lib.hid h5.sl.rd; have hbw : Below w2.heap.size w2 w5 := ⟨h5.bel.os, h5.bel.tape, h5.bel.output, h5.bel.size, h5.bel.block⟩))
      have HB5 := Lib.hid (HB2.out.trans (hbw.mono HB2.out.size))
      clear h5 c0 c1 c2 f0 d3 hbw hb0
      go_wp2_with fail
      go_loopg [12, 38] D.length (KyRel D lo hi w5)
      case atStart => exact ⟨0, none, 0, rfl, Nat.zero_le _, rfl, rfl, K.Own.nil (Below.refl _ _) _ _⟩
      case round =>
        obtain ⟨q, so, co, hg, hq, rfl, rfl, hp⟩ := hrel
        have Hg := Lib.hid hg
        have Hp := Lib.hid hp
        have hkl := keysL_len (D.take q) lo hi
        have htl : (D.take q).length ≤ D.length := by rw [List.length_take]; omega
        clear hg hp
        by_cases hqn : q < D.length
        · have hrd := HD5.out.below Hp.out.bel
          obtain ⟨g2, o2, rfl, -⟩ := hrd.addr (by omega)
          obtain ⟨x, hx⟩ : ∃ x, D[q] = x := ⟨_, rfl⟩
          obtain ⟨e0, e1⟩ := p_at hrd hqn x hx
          have HSu := Lib.hid (keysL_succ D lo hi q hqn x hx)
          have hqI : (q : Int) < (D.length : Int) := by omega
          obtain ⟨O, hO⟩ : ∃ O, keysL (D.take q) lo hi = O := ⟨_, rfl⟩
          rw [hO] at Hp HSu hkl
          simp only [hO]
          obtain ⟨v1, hv1⟩ : ∃ v, Op.bytesLess x.k.toList lo.toList = v := ⟨_, rfl⟩
          obtain ⟨v2, hv2⟩ : ∃ v, (hi.toList == []) = v := ⟨_, rfl⟩
          obtain ⟨v3, hv3⟩ : ∃ v, Op.bytesLess x.k.toList hi.toList = v := ⟨_, rfl⟩
          have hin : inR lo hi x = (!v1 && (v2 || v3)) := by unfold inR klt; rw [hv1, hv2, hv3]
          rw [hin] at HSu
          have H3a := Lib.hid ((Hp.out.alloc (.cells #[.string x.k, .string x.v] 62)).alloc (.cells #[.string x.k] 9))
          have H2a := Lib.hid (Hp.out.alloc (.cells #[.string x.k, .string x.v] 62))
          have r2 := rd_built_at (wr.alloc (.cells #[.string x.k, .string x.v] 62)) #[.string x.k] 9 1 1 (wr.heap.size + 1) (by simp) rfl (by simp [Value.oneCell'])
          clear hrd hx hO hin
          cases v1 <;> cases v2 <;> cases v3
          all_goals
            go_wp2_with (refine wpList_append_own' rfl (.tmp 56) (.tmp 59) 47 rfl elS so _ co _ rfl H3a.out _ 1 _ _ rfl r2 (by omega) (by omega) ?_; intro so' co' w4 p1 p2 p3; have H4 := Lib.hid p1; clear p1 p2 p3)
            go_roundg (D.length - (q + 1))
            case measure => have := Hg.out; omega
            case rel =>
              have he := HSu.out
              simp at he
              first
                | (refine ⟨q + 1, so', co', rfl, by omega, by simp, by rw [he]; simp, ?_⟩; rw [he]; simpa [strs] using H4.out)
                | (refine ⟨q + 1, so, co, rfl, by omega, by simp, by rw [he], ?_⟩; rw [he]; exact H2a.out)
        · obtain rfl : q = D.length := by omega
          rw [List.take_length] at Hp
          simp only [List.take_length]
          go_wp2_with fail
          refine bodyPost_ret (v := .tuple #[.slice so (keysL D lo hi).length co, .int .i64 0]) (by simp [results, Try.results27, go_sem]) rfl ⟨so, co, rfl, own_from HB5.out Hp.out⟩
end Go.Proofs.Ytcglnjklnlejmaa
