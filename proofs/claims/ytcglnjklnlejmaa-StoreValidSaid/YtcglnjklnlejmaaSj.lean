/-
  store.Get, Commit.
-/
import Derived.Test.YtcglnjklnlejmaaSi
set_option linter.unusedVariables false
set_option linter.unusedSimpArgs false
namespace Go.Proofs.Ytcglnjklnlejmaa
open Go.RowKit Go.K Go.K.Sr

/-- the changes of the transaction with an index -/
def chs (S : SS) (k : Nat) : List Ch := if k = 0 then S.cs else []
def getV (l : List Pr) (cl : List Ch) (k : ByteArray) : ByteArray × Bool :=
  match cl.find? (fun x => decide (x.k = k)) with
  | some c => (c.v, !c.r)
  | none => match l.find? (fun x => decide (x.k = k)) with
    | some p => (p.v, true)
    | none => (.empty, false)
def getS (S : SS) (id : Int) (k : ByteArray) : ByteArray × Bool × Int :=
  match fnd id S.txs with
  | none => (.empty, false, 6)
  | some i => if turnB S.txs i = false then (.empty, false, 19) else ((getV S.pairs (chs S i) k).1, (getV S.pairs (chs S i) k).2, 0)
theorem find_cut {α : Type} {key : α → ByteArray} {k : ByteArray} {l A B : List α} (ha : Asc key l) (h : Cut key k l A B) : l.find? (fun x => decide (key x = k)) = if hasKey key k B then B.head? else none := by
  have hlt := fun b B' hB => Asc.cut_lt ha h b B' hB
  clear ha
  obtain ⟨rfl, h1, h2⟩ := h
  rw [List.find?_append]
  have e1 : A.find? (fun x => decide (key x = k)) = none := by
    rw [List.find?_eq_none]
    intro x hx
    simpa using klt_ne (h1 x hx)
  rw [e1]
  cases B with
  | nil => simp [hasKey]
  | cons b B' =>
    by_cases e : key b = k
    · simp [hasKey, e]
    · simp only [hasKey, e, decide_false, Bool.false_eq_true, if_false, Option.none_or, List.find?_cons]
      rw [List.find?_eq_none]
      intro x hx
      simpa using fun q => klt_ne (hlt b B' rfl x hx) q.symm
theorem below_dn {B n : Nat} {w w2 : World} (h : Below B w w2) : Below B w (w2.drewN n) := ⟨h.os, h.tape, h.output, h.size, h.block⟩
theorem rc_nil (w : World) (sz : Nat) : Rc w sz none 0 0 [] := (Sl.nil w 0 sz).rc
/-- the changes of a transaction, as they lie -/
theorem chs_rc {w0 w : World} {L : List As} {b : Nat} {S : SS} {p : Sp} (h : St w0 w (sL b S p L)) (k : Nat) : ∃ sq cq, (if k = 0 then (.slice p.sc S.cs.length p.cc : Value) else nilS) = .slice sq (chs S k).length cq ∧ ∀ w', Below w.heap.size w w' → Rc w' 3 sq (chs S k).length cq (flat ccells (chs S k)) := by
  by_cases h0 : k = 0
  · subst h0
    have hr := (St.sh [_, _, _, _] [3, 0, 1, 2] (by decide) h).rc
    exact ⟨p.sc, p.cc, rfl, fun w' hb => hr.below hb⟩
  · refine ⟨none, 0, by simp [h0, chs], fun w' _ => ?_⟩
    simp only [chs, h0, if_false]
    exact rc_nil w' 3

def commitS (S : SS) (id : Int) : SS × Int :=
  match fnd id S.txs with
  | none => (S, 6)
  | some k => if turnB S.txs k = false then (S, 19) else (dropS { S with pairs := content S.pairs (chs S k) } k, 0)

set_option maxRecDepth 100000 in
set_option maxHeartbeats 1000000 in
theorem commit_st {w0 w : World} {L : List As} {b : Nat} {S : SS} (id : Int) (h : SAt b S w0 w L) (hn : S.txs.length ≤ 100000) (hm : S.pairs.length ≤ 10000) (hc : S.cs.length ≤ 10000) (ha : Asc Pr.k S.pairs) :
    Calls Try.prog 15 #[.pointer (some ⟨b, 0, none⟩), .int .i64 id] w fun e w' => e = .returned (.int .i64 (commitS S id).2) ∧ SAt b (commitS S id).1 w0 w' L := by
  obtain ⟨p, h⟩ := h
  obtain ⟨-, c1, -⟩ := h.blk.1.three
  have C1 := Lib.hid c1
  have HSL := Lib.hid h.swap.sl
  have H := Lib.hid h
  clear h c1
  cases hf : fnd id S.txs with
  | none =>
    have e1 : fndI id S.txs = -1 := by unfold fndI; rw [hf]
    have e2 : curE id S.txs = 6 := by unfold curE; rw [hf]
    have e3 : commitS S id = (S, 6) := by unfold commitS; rw [hf]
    rw [e3]
    have E1 := Lib.hid e1
    have E2 := Lib.hid e2
    clear hf e1 e2 e3
    go_enter Try.func15, Try.ntmps15
    go_wp2_with (go_at_call 32; refine (current_any b id _ S.txs _ _ _ C1.out HSL.out hn).mono ?_; rintro e w2 ⟨rfl, hb2⟩; rw [E1.out, E2.out]; have H3 := Lib.hid (H.out.of_below hb2); clear hb2; obtain ⟨c0, c1, c2, f0, -, -⟩ := H3.out.blk.1.three)
    go_ret
    exact ⟨rfl, p, H3.out⟩
  | some k =>
    have hk := fnd_lt hf
    have e1 : fndI id S.txs = k := by unfold fndI; rw [hf]
    have E1 := Lib.hid e1
    cases ht : turnB S.txs k with
    | false =>
      have e2 : curE id S.txs = 19 := by unfold curE; rw [hf]; simp [ht]
      have e3 : commitS S id = (S, 19) := by unfold commitS; rw [hf]; simp [ht]
      rw [e3]
      have E2 := Lib.hid e2
      clear hf e1 e2 e3 ht
      go_enter Try.func15, Try.ntmps15
      go_wp2_with (go_at_call 32; refine (current_any b id _ S.txs _ _ _ C1.out HSL.out hn).mono ?_; rintro e w2 ⟨rfl, hb2⟩; rw [E1.out, E2.out]; have H3 := Lib.hid (H.out.of_below hb2); clear hb2; obtain ⟨c0, c1, c2, f0, -, -⟩ := H3.out.blk.1.three)
      go_ret
      exact ⟨rfl, p, H3.out⟩
    | true =>
      have e2 : curE id S.txs = 0 := by unfold curE; rw [hf]; simp [ht]
      have E2 := Lib.hid e2
      have hyl : k < (yz (.slice p.sc S.cs.length p.cc) S.txs).length := by rw [yz_len]; exact hk
      have hyx := yz_get (.slice p.sc S.cs.length p.cc) S.txs k hk
      obtain ⟨g, o, hst, -⟩ := HSL.out.rd.addr (by omega)
      obtain ⟨sq, cq, hvq, hrq⟩ := chs_rc H.out k
      have hcl2 : (chs S k).length ≤ S.cs.length := by unfold chs; split <;> simp
      obtain ⟨cl, hcl⟩ : ∃ cl, chs S k = cl := ⟨_, rfl⟩
      rw [hcl] at hvq hrq hcl2
      have hkI : (k : Int) < (S.txs.length : Int) := by omega
      have hk0I : (0 : Int) ≤ (k : Int) := by omega
      have e3 : commitS S id = (dropS { S with pairs := content S.pairs cl } k, 0) := by unfold commitS; rw [hf]; simp [ht, hcl]
      rw [e3]
      have HYX := Lib.hid hyx
      have HST := Lib.hid hst
      have HVQ := Lib.hid hvq
      have HRQ := Lib.hid hrq
      clear hf e1 e2 e3 ht hyx hst hvq hrq
      go_enter Try.func15, Try.ntmps15
      go_upto_region 4 with (go_at_call 32; refine (current_any b id _ S.txs _ _ _ C1.out HSL.out hn).mono ?_; rintro e w2 ⟨rfl, hb2⟩; rw [E1.out, E2.out]; have H3 := Lib.hid (H.out.of_below hb2); have HR3 := Lib.hid (HRQ.out _ hb2); clear hb2; obtain ⟨c0, c1, c2, f0, -, -⟩ := H3.out.blk.1.three; rw [HST.out] at c1; obtain ⟨-, -, -, d3⟩ := y_at (HST.out ▸ H3.out.swap.sl.rd) hyl _ HYX.out; simp only [HVQ.out] at d3)
      have hS : (fun w' : World => w'.cell? ⟨b, 0, none⟩ = some (.slice p.sp S.pairs.length p.cp) ∧ w'.cell? ⟨b, 1, none⟩ = some (.slice (some ⟨g, o, none⟩) S.txs.length p.ct) ∧ w'.cell? ⟨g, o + k * 4 + 3, none⟩ = some (.slice sq cl.length cq)) w2.drew := ⟨c0, c1, d3⟩
      have HP3 := Lib.hid (H3.out.drew.front2).rc
      clear c0 c1 c2 f0 d3
      refine wpLast.region (S := (fun w' : World => w'.cell? ⟨b, 0, none⟩ = some (.slice p.sp S.pairs.length p.cp) ∧ w'.cell? ⟨b, 1, none⟩ = some (.slice (some ⟨g, o, none⟩) S.txs.length p.ct) ∧ w'.cell? ⟨g, o + k * 4 + 3, none⟩ = some (.slice sq cl.length cq))) (c := 16) (by kernel_rfl) ?_
      refine' wpLast.take (i := 0) (v := _) rfl (by kernel_rfl) (fun _ _ _ h => h) (by kernel_rfl) _ _ _ _ (by kernel_rfl) (by kernel_rfl) (Or.inl ⟨by rfl, ?hy0⟩) hS ?rest0
      case hy0 => (intro w' hSw; obtain ⟨k0, k1, k2⟩ := hSw; go_simp; try with_reducible rfl)
      try simp only [Act.put, List.setIfInBounds_toArray, List.set_cons_zero, List.set_cons_succ]
      refine' wpLast.take (i := 1) (v := _) rfl (by kernel_rfl) (fun _ _ _ h => h) (by kernel_rfl) _ _ _ _ (by kernel_rfl) (by kernel_rfl) (Or.inl ⟨by rfl, ?hy1⟩) hS ?rest1
      case hy1 => (intro w' hSw; obtain ⟨k0, k1, k2⟩ := hSw; go_simp; try with_reducible rfl)
      try simp only [Act.put, List.setIfInBounds_toArray, List.set_cons_zero, List.set_cons_succ]
      refine' wpLast.take (i := 2) (v := _) rfl (by kernel_rfl) (fun _ _ _ h => h) (by kernel_rfl) _ _ _ _ (by kernel_rfl) (by kernel_rfl) (Or.inl ⟨by rfl, ?hy2⟩) hS ?rest2
      case hy2 => (intro w' hSw; obtain ⟨k0, k1, k2⟩ := hSw; go_simp; try with_reducible rfl)
      try simp only [Act.put, List.setIfInBounds_toArray, List.set_cons_zero, List.set_cons_succ]
      refine' wpLast.take (i := 3) (v := _) rfl (by kernel_rfl) (fun _ _ _ h => h) (by kernel_rfl) _ _ _ _ (by kernel_rfl) (by kernel_rfl) (Or.inl ⟨by rfl, ?hy3⟩) hS ?rest3
      case hy3 => (intro w' hSw; obtain ⟨k0, k1, k2⟩ := hSw; go_simp; try with_reducible rfl)
      try simp only [Act.put, List.setIfInBounds_toArray, List.set_cons_zero, List.set_cons_succ]
      refine' wpLast.take (i := 4) (v := _) rfl (by kernel_rfl) (fun _ _ _ h => h) (by kernel_rfl) _ _ _ _ (by kernel_rfl) (by kernel_rfl) (Or.inl ⟨by rfl, ?hy4⟩) hS ?rest4
      case hy4 => (intro w' hSw; obtain ⟨k0, k1, k2⟩ := hSw; go_simp; try with_reducible rfl)
      try simp only [Act.put, List.setIfInBounds_toArray, List.set_cons_zero, List.set_cons_succ]
      refine' wpLast.take (i := 5) (v := _) rfl (by kernel_rfl) (fun _ _ _ h => h) (by kernel_rfl) _ _ _ _ (by kernel_rfl) (by kernel_rfl) (Or.inl ⟨by rfl, ?hy5⟩) hS ?rest5
      case hy5 => (intro w' hSw; obtain ⟨k0, k1, k2⟩ := hSw; go_simp; try with_reducible rfl)
      try simp only [Act.put, List.setIfInBounds_toArray, List.set_cons_zero, List.set_cons_succ]
      refine' wpLast.take (i := 6) (v := _) rfl (by kernel_rfl) (fun _ _ _ h => h) (by kernel_rfl) _ _ _ _ (by kernel_rfl) (by kernel_rfl) (Or.inl ⟨by rfl, ?hy6⟩) hS ?rest6
      case hy6 => (intro w' hSw; obtain ⟨k0, k1, k2⟩ := hSw; go_simp; try with_reducible rfl)
      try simp only [Act.put, List.setIfInBounds_toArray, List.set_cons_zero, List.set_cons_succ]
      refine' wpLast.take (i := 7) (v := _) rfl (by kernel_rfl) (fun _ _ _ h => h) (by kernel_rfl) _ _ _ _ (by kernel_rfl) (by kernel_rfl) (Or.inl ⟨by rfl, ?hy7⟩) hS ?rest7
      case hy7 => (intro w' hSw; obtain ⟨k0, k1, k2⟩ := hSw; go_simp; try with_reducible rfl)
      try simp only [Act.put, List.setIfInBounds_toArray, List.set_cons_zero, List.set_cons_succ]
      refine' wpLast.take (i := 8) (v := _) rfl (by kernel_rfl) (fun _ _ _ h => h) (by kernel_rfl) _ _ _ _ (by kernel_rfl) (by kernel_rfl) (Or.inl ⟨by rfl, ?hy8⟩) hS ?rest8
      case hy8 => (intro w' hSw; obtain ⟨k0, k1, k2⟩ := hSw; go_simp; try with_reducible rfl)
      try simp only [Act.put, List.setIfInBounds_toArray, List.set_cons_zero, List.set_cons_succ]
      refine' wpLast.take (i := 9) (v := _) rfl (by kernel_rfl) (fun _ _ _ h => h) (by kernel_rfl) _ _ _ _ (by kernel_rfl) (by kernel_rfl) (Or.inl ⟨by rfl, ?hy9⟩) hS ?rest9
      case hy9 => (intro w' hSw; obtain ⟨k0, k1, k2⟩ := hSw; go_simp; try with_reducible rfl)
      try simp only [Act.put, List.setIfInBounds_toArray, List.set_cons_zero, List.set_cons_succ]
      refine' wpLast.take (i := 10) (v := _) rfl (by kernel_rfl) (fun _ _ _ h => h) (by kernel_rfl) _ _ _ _ (by kernel_rfl) (by kernel_rfl) (Or.inl ⟨by rfl, ?hy10⟩) hS ?rest10
      case hy10 => (intro w' hSw; obtain ⟨k0, k1, k2⟩ := hSw; go_simp; try with_reducible rfl)
      try simp only [Act.put, List.setIfInBounds_toArray, List.set_cons_zero, List.set_cons_succ]
      refine' wpLast.take (i := 11) (v := _) rfl (by kernel_rfl) (fun _ _ _ h => h) (by kernel_rfl) _ _ _ _ (by kernel_rfl) (by kernel_rfl) (Or.inl ⟨by rfl, ?hy11⟩) hS ?rest11
      case hy11 => (intro w' hSw; obtain ⟨k0, k1, k2⟩ := hSw; go_simp; try with_reducible rfl)
      try simp only [Act.put, List.setIfInBounds_toArray, List.set_cons_zero, List.set_cons_succ]
      refine' wpLast.take (i := 12) (v := _) rfl (by kernel_rfl) (fun _ _ _ h => h) (by kernel_rfl) _ _ _ _ (by kernel_rfl) (by kernel_rfl) (Or.inl ⟨by rfl, ?hy12⟩) hS ?rest12
      case hy12 => (intro w' hSw; obtain ⟨k0, k1, k2⟩ := hSw; go_simp; try with_reducible rfl)
      try simp only [Act.put, List.setIfInBounds_toArray, List.set_cons_zero, List.set_cons_succ]
      refine wpLast.one (i := 13) rfl (by kernel_rfl) ?_
      intro K' hK; have HK' := Lib.hid hK; clear hK
      go_simp
      refine (content_any p.sp p.cp S.pairs sq cq cl _ HP3.out.rd HP3.out.nil HR3.out.drew.rd (by omega) (by omega) ha).mono ?_
      rintro e w5 ⟨s5, c5, rfl, h5⟩
      have hS5 : (fun w' : World => w'.cell? ⟨b, 0, none⟩ = some (.slice p.sp S.pairs.length p.cp) ∧ w'.cell? ⟨b, 1, none⟩ = some (.slice (some ⟨g, o, none⟩) S.txs.length p.ct) ∧ w'.cell? ⟨g, o + k * 4 + 3, none⟩ = some (.slice sq cl.length cq)) w5 := by
        obtain ⟨k0, k1, k2⟩ := hS
        exact ⟨(h5.bel.cell (World.block_lt_of_cell? _ _ k0)).trans k0, (h5.bel.cell (World.block_lt_of_cell? _ _ k1)).trans k1, (h5.bel.cell (World.block_lt_of_cell? _ _ k2)).trans k2⟩
      have H5 := Lib.hid (St.sh [_, _, _, _, _] [1, 2, 0, 4, 3] (by decide) (join_rdr H3.out.drew h5))
      refine HK'.out _ _ ⟨fun _ => hS5, ?_⟩
      clear HK' K' hS h5
      try simp only [Act.put, List.setIfInBounds_toArray, List.set_cons_zero, List.set_cons_succ]
      refine wpLast.one (i := 14) rfl (by kernel_rfl) ?_
      intro K' hK; have HK' := Lib.hid hK; clear hK
      go_simp
      refine HK'.out _ _ ⟨fun _ => hS5, ?_⟩
      clear HK' K'
      try simp only [Act.put, List.setIfInBounds_toArray, List.set_cons_zero, List.set_cons_succ]
      refine wpLast.one (i := 15) rfl (by kernel_rfl) ?_
      intro K' hK; have HK' := Lib.hid hK; clear hK
      go_simp
      refine HK'.out _ _ ⟨fun _ => hS5, ?_⟩
      clear HK' K' hS5
      try simp only [Act.put, List.setIfInBounds_toArray, List.set_cons_zero, List.set_cons_succ]
      obtain ⟨c0, c1, c2, f0, -, -⟩ := H5.out.blk.1.three
      refine wpLast.one (i := 16) rfl (by kernel_rfl) ?_
      intro K' hK; have HK' := Lib.hid hK; clear hK
      go_simp
      refine HK'.out _ _ ⟨fun h => absurd rfl h, ?_⟩
      clear HK' K'
      try simp only [Act.put, List.setIfInBounds_toArray, List.set_cons_zero, List.set_cons_succ]
      refine wpLast.done (by kernel_rfl) ?_
      have h6 := H5.out.set 0 (.slice s5 (content S.pairs cl).length c5)
      simp only [List.setIfInBounds_toArray, List.set_cons_zero, List.set_cons_succ] at h6
      have h7 := St.sh [_, _, _, _, _] [4, 0, 1, 2, 3] (by decide) h6
      simp only [List.map_cons, List.map_nil, List.getD_cons_zero, List.getD_cons_succ, List.cons_append, List.nil_append] at h7
      have H8 := Lib.hid (show SAt b { S with pairs := content S.pairs cl } w0 _ L from ⟨⟨s5, c5, p.st, p.ct, p.sc, p.cc⟩, h7.drop⟩)
      clear h6 h7 c0 c1 c2 f0
      go_wp2_with (go_at_call 36; refine (drop_st k H8.out hk hn).mono ?_; rintro e w9 ⟨rfl, h9⟩)
      go_ret
      exact ⟨rfl, h9⟩


set_option maxRecDepth 100000 in
set_option maxHeartbeats 1000000 in
theorem get_st {w0 w : World} {L : List As} {b : Nat} {S : SS} (id : Int) (key : ByteArray) (h : SAt b S w0 w L) (hn : S.txs.length ≤ 100000) (hm : S.pairs.length ≤ 10000) (hc : S.cs.length ≤ 10000) (ha : Asc Pr.k S.pairs) (hac : Asc Ch.k S.cs) :
    Calls Try.prog 14 #[.pointer (some ⟨b, 0, none⟩), .int .i64 id, .string key] w fun e w' => e = .returned (.tuple #[.string (getS S id key).1, .bool (getS S id key).2.1, .int .i64 (getS S id key).2.2]) ∧ Below w.heap.size w w' := by
  obtain ⟨p, h⟩ := h
  obtain ⟨-, c1, -⟩ := h.blk.1.three
  have C1 := Lib.hid c1
  have HSL := Lib.hid h.swap.sl
  have H := Lib.hid h
  clear h c1
  cases hf : fnd id S.txs with
  | none =>
    have e1 : fndI id S.txs = -1 := by unfold fndI; rw [hf]
    have e2 : curE id S.txs = 6 := by unfold curE; rw [hf]
    have e3 : getS S id key = (.empty, false, 6) := by unfold getS; rw [hf]
    rw [e3]
    have E1 := Lib.hid e1
    have E2 := Lib.hid e2
    clear hf e1 e2 e3
    go_enter Try.func14, Try.ntmps14
    go_wp2_with (go_at_call 32; refine (current_any b id _ S.txs _ _ _ C1.out HSL.out hn).mono ?_; rintro e w2 ⟨rfl, hb2⟩; rw [E1.out, E2.out]; have H3 := Lib.hid (H.out.of_below hb2); have HB2 := Lib.hid hb2; clear hb2; obtain ⟨c0, c1, c2, f0, -, -⟩ := H3.out.blk.1.three)
    refine bodyPost_ret (v := .tuple #[.string .empty, .bool false, .int .i64 6]) (by simp [results, Try.results14, go_sem] <;> rfl) rfl ⟨rfl, HB2.out⟩
  | some k =>
    have hk := fnd_lt hf
    have e1 : fndI id S.txs = k := by unfold fndI; rw [hf]
    have E1 := Lib.hid e1
    cases ht : turnB S.txs k with
    | false =>
      have e2 : curE id S.txs = 19 := by unfold curE; rw [hf]; simp [ht]
      have e3 : getS S id key = (.empty, false, 19) := by unfold getS; rw [hf]; simp [ht]
      rw [e3]
      have E2 := Lib.hid e2
      clear hf e1 e2 e3 ht
      go_enter Try.func14, Try.ntmps14
      go_wp2_with (go_at_call 32; refine (current_any b id _ S.txs _ _ _ C1.out HSL.out hn).mono ?_; rintro e w2 ⟨rfl, hb2⟩; rw [E1.out, E2.out]; have H3 := Lib.hid (H.out.of_below hb2); have HB2 := Lib.hid hb2; clear hb2; obtain ⟨c0, c1, c2, f0, -, -⟩ := H3.out.blk.1.three)
      refine bodyPost_ret (v := .tuple #[.string .empty, .bool false, .int .i64 19]) (by simp [results, Try.results14, go_sem] <;> rfl) rfl ⟨rfl, HB2.out⟩
    | true =>
      have e2 : curE id S.txs = 0 := by unfold curE; rw [hf]; simp [ht]
      have E2 := Lib.hid e2
      have hyl : k < (yz (.slice p.sc S.cs.length p.cc) S.txs).length := by rw [yz_len]; exact hk
      have hyx := yz_get (.slice p.sc S.cs.length p.cc) S.txs k hk
      obtain ⟨g, o, hst, -⟩ := HSL.out.rd.addr (by omega)
      obtain ⟨sq, cq, hvq, hrq⟩ := chs_rc H.out k
      have hcl2 : (chs S k).length ≤ S.cs.length := by unfold chs; split <;> simp
      have hcla : Asc Ch.k (chs S k) := by unfold chs; split; exact hac; exact List.Pairwise.nil
      have e3 : getS S id key = ((getV S.pairs (chs S k) key).1, (getV S.pairs (chs S k) key).2, 0) := by unfold getS; rw [hf]; simp [ht]
      rw [e3]
      obtain ⟨cl, hcl⟩ : ∃ cl, chs S k = cl := ⟨_, rfl⟩
      rw [hcl] at hvq hrq hcl2 hcla ⊢
      obtain ⟨gv, hgv⟩ : ∃ gv, getV S.pairs cl key = gv := ⟨_, rfl⟩
      rw [hgv]
      have hkI : (k : Int) < (S.txs.length : Int) := by omega
      have hk0I : (0 : Int) ≤ (k : Int) := by omega
      have HYX := Lib.hid hyx
      have HST := Lib.hid hst
      have HVQ := Lib.hid hvq
      have HRQ := Lib.hid hrq
      have HGV := Lib.hid hgv
      clear hf e1 e2 e3 ht hyx hst hvq hrq hgv
      go_enter Try.func14, Try.ntmps14
      go_upto_region 5 with (first
        | (go_at_call 32; refine (current_any b id _ S.txs _ _ _ C1.out HSL.out hn).mono ?_; rintro e w2 ⟨rfl, hb2⟩; rw [E1.out, E2.out]; have H3 := Lib.hid (H.out.of_below hb2); have HB2 := Lib.hid hb2; clear hb2; obtain ⟨c0, c1, c2, f0, -, -⟩ := H3.out.blk.1.three; have HR3 := Lib.hid (HRQ.out _ HB2.out); rw [HST.out] at c1; obtain ⟨-, -, -, d3⟩ := y_at (HST.out ▸ H3.out.swap.sl.rd) hyl _ HYX.out; simp only [HVQ.out] at d3)
        | (go_at_call 33; refine (cplace_any sq cq cl key _ HR3.out.rd (by omega) hcla).mono ?_; rintro e w4 ⟨A, B, hcut, rfl, hb4⟩; have HCut := Lib.hid hcut; have H4 := Lib.hid (H3.out.of_below hb4); have HR4 := Lib.hid (HR3.out.below hb4); have HB4 := Lib.hid (HB2.out.trans (hb4.mono HB2.out.size)); clear hcut hb4 c0 c1 c2 f0 d3; obtain ⟨c0, c1, c2, f0, -, -⟩ := H4.out.blk.1.three; rw [HST.out] at c1; obtain ⟨-, -, -, d3⟩ := y_at (HST.out ▸ H4.out.swap.sl.rd) hyl _ HYX.out; simp only [HVQ.out] at d3))
      have hOl : cl.length = A.length + B.length := by rw [HCut.out.eq]; simp
      have hfc := find_cut hcla HCut.out
      obtain ⟨hh, hhk⟩ : ∃ hh, hasKey Ch.k key B = hh := ⟨_, rfl⟩
      have HHK := Lib.hid hhk
      rw [hhk] at hfc ⊢
      clear hhk
      cases hh with
      | true =>
        obtain ⟨bb, B', hBB⟩ : ∃ b B', B = b :: B' := by
          cases B with
          | nil => exact absurd HHK.out (by simp [hasKey])
          | cons b B' => exact ⟨b, B', rfl⟩
        subst hBB
        have hgv2 : gv = (bb.v, !bb.r) := by rw [← HGV.out]; unfold getV; rw [hfc]; rfl
        have HG2 := Lib.hid hgv2
        simp only [List.length_cons] at hOl
        have hAO : A.length < cl.length := by omega
        have hOA : cl[A.length] = bb := by
          have := HCut.out.eq
          subst this
          simp
        obtain ⟨g2, o2, rfl, -⟩ := HR4.out.rd.addr (by omega)
        obtain ⟨e0, e1, e2⟩ := c_at HR4.out.rd hAO bb hOA
        have hAI : (A.length : Int) < (cl.length : Int) := by omega
        have HOl := Lib.hid hOl
        clear hfc hgv2 hOA hOl hAO
        go_upto_region 7 with fail
        go_quiet (fail)
        go_wp2_with fail
        rw [HG2.out]
        refine bodyPost_ret (v := .tuple #[.string bb.v, .bool (!bb.r), .int .i64 0]) (by simp [results, Try.results14, go_sem] <;> rfl) rfl ⟨rfl, below_dn (HB4.out.alloc HB4.out.size _)⟩
      | false =>
        simp only [Bool.false_eq_true, if_false] at hfc
        have HFC := Lib.hid hfc
        have HPR := Lib.hid (H4.out.front2).rc
        clear hfc hOl
        go_upto_region 9 with (go_at_call 34; refine (pplace_any p.sp p.cp S.pairs key _ HPR.out.rd (by omega) ha).mono ?_; rintro e w6 ⟨A2, B2, hcut2, rfl, hb6⟩; have HCut2 := Lib.hid hcut2; have H6 := Lib.hid (H4.out.of_below hb6); have HR6 := Lib.hid (HPR.out.below hb6); have HB6 := Lib.hid (HB4.out.trans (hb6.mono HB4.out.size)); clear hcut2 hb6 c0 c1 c2 f0 d3; obtain ⟨c0, c1, c2, f0, -, -⟩ := H6.out.blk.1.three)
        have hOl : S.pairs.length = A2.length + B2.length := by rw [HCut2.out.eq]; simp
        have hfc := find_cut ha HCut2.out
        obtain ⟨hh, hhk⟩ : ∃ hh, hasKey Pr.k key B2 = hh := ⟨_, rfl⟩
        have HHK2 := Lib.hid hhk
        rw [hhk] at hfc ⊢
        clear hhk
        cases hh with
        | true =>
          obtain ⟨bb, B', hBB⟩ : ∃ b B', B2 = b :: B' := by
            cases B2 with
            | nil => exact absurd HHK2.out (by simp [hasKey])
            | cons b B' => exact ⟨b, B', rfl⟩
          subst hBB
          have hgv2 : gv = (bb.v, true) := by rw [← HGV.out]; unfold getV; rw [HFC.out, hfc]; rfl
          have HG2 := Lib.hid hgv2
          simp only [List.length_cons] at hOl
          have hAO : A2.length < S.pairs.length := by omega
          have hOA : S.pairs[A2.length] = bb := by
            have := HCut2.out.eq
            simp only [this]
            simp
          obtain ⟨g2, o2, hps, -⟩ := HR6.out.rd.addr (by omega)
          rw [hps] at c0
          obtain ⟨e0, e1⟩ := p_at (hps ▸ HR6.out.rd) hAO bb hOA
          have hAI : (A2.length : Int) < (S.pairs.length : Int) := by omega
          have HOl := Lib.hid hOl
          clear hfc hgv2 hOA hOl hAO
          go_wp2_with fail
          rw [HG2.out]
          refine bodyPost_ret (v := .tuple #[.string bb.v, .bool true, .int .i64 0]) (by simp [results, Try.results14, go_sem] <;> rfl) rfl ⟨rfl, HB6.out⟩
        | false =>
          simp only [Bool.false_eq_true, if_false] at hfc
          have hgv2 : gv = (.empty, false) := by rw [← HGV.out]; unfold getV; rw [HFC.out, hfc]
          have HG2 := Lib.hid hgv2
          clear hfc hgv2 hOl
          go_wp2_with fail
          rw [HG2.out]
          refine bodyPost_ret (v := .tuple #[.string .empty, .bool false, .int .i64 0]) (by simp [results, Try.results14, go_sem] <;> rfl) rfl ⟨rfl, HB6.out⟩
end Go.Proofs.Ytcglnjklnlejmaa
