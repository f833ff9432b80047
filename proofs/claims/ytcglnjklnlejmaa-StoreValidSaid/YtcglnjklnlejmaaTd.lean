/-
  The reference: Drop.
-/
import Derived.Test.YtcglnjklnlejmaaTc
import Derived.Test.YtcglnjklnlejmaaSn
set_option linter.unusedVariables false
set_option linter.unusedSimpArgs false
namespace Go.Proofs.Ytcglnjklnlejmaa
open Go.RowKit Go.K Go.K.Sr

theorem er_succ {α : Type} (l : List α) (k i : Nat) (hi : i < l.length) (x : α) (hx : l[i] = x) : (l.take (i + 1)).eraseIdx k = (l.take i).eraseIdx k ++ (if i = k then [] else [x]) := by
  rw [List.take_succ_eq_append_getElem hi, hx]
  have hl : (l.take i).length = i := by rw [List.length_take]; omega
  by_cases h : k < i
  · rw [List.eraseIdx_append_of_lt_length (by omega), if_neg (by omega)]
  · rw [List.eraseIdx_append_of_length_le (by omega), hl, List.eraseIdx_of_length_le (by omega : (l.take i).length ≤ k)]
    by_cases e : i = k
    · subst e; simp
    · rw [if_neg e]
      obtain ⟨m, hm⟩ : ∃ m, k - i = m + 1 := ⟨k - i - 1, by omega⟩
      rw [hm]; rfl
theorem er_len {α : Type} (l : List α) (k : Nat) : (l.eraseIdx k).length ≤ l.length := List.length_eraseIdx_le l k
theorem own_dn {w w1 : World} {e : TypeId} {sz : Nat} {s : Option Addr} {n c : Nat} {xs : List Value} (h : K.Own w w1 e sz s n c xs) (k : Nat) : K.Own w (w1.drewN k) e sz s n c xs :=
  ⟨h.sl.drewN k, ⟨h.bel.os, h.bel.tape, h.bel.output, h.bel.size, h.bel.block⟩, h.row⟩
def NewS (w w' : World) (p p' : Sp) : Prop := ∀ r, (rowOf p'.sp = some r ∨ rowOf p'.st = some r ∨ rowOf p'.sc = some r) → (rowOf p.sp = some r ∨ rowOf p.st = some r ∨ rowOf p.sc = some r) ∨ (w.heap.size ≤ r ∧ r < w'.heap.size)
theorem NewS.refl (w w' : World) (p : Sp) : NewS w w' p p := fun _ h => .inl h
/-- the reference's store, its rows in blocks that are there -/
structure Rw (w : World) (S : SS) (p : Sp) : Prop where
  rf : Rf w S p
  pc : Rc w 2 p.sp S.pairs.length p.cp (flat pcells S.pairs)
  rows : ∀ r, (rowOf p.sp = some r ∨ rowOf p.st = some r ∨ rowOf p.sc = some r) → r < w.heap.size
theorem Rw.kept {F : Nat → Prop} {w w' : World} {S : SS} {p : Sp} (h : Rw w S p) (hf : Fr F w w') (hs : ∀ r, (rowOf p.sp = some r ∨ rowOf p.st = some r ∨ rowOf p.sc = some r) → ¬ F r) : Rw w' S p :=
  ⟨⟨h.rf.eq, h.rf.ps.kept hf (fun k q => hs k (.inl q)), h.rf.ts.kept hf (fun k q => hs k (.inr (.inl q))), h.rf.cs.kept hf (fun k q => hs k (.inr (.inr q)))⟩, h.pc.kept hf (fun k q => hs k (.inl q)), fun r hr => Nat.lt_of_lt_of_le (h.rows r hr) hf.size⟩
theorem Rw.below {w w' : World} {S : SS} {p : Sp} (h : Rw w S p) (hb : Below w.heap.size w w') : Rw w' S p := h.kept (Fr.of_below hb) (fun _ _ q => q)
theorem NewS.from {w w4 w' : World} {p p' : Sp} (h : NewS w4 w' p p') (hs : w.heap.size ≤ w4.heap.size) : NewS w w' p p' := fun r hr => by
  rcases h r hr with q | q
  · exact .inl q
  · exact .inr ⟨Nat.le_trans hs q.1, q.2⟩
theorem NewS.trans {w w1 w2 : World} {p p1 p2 : Sp} (h : NewS w w1 p p1) (k : NewS w1 w2 p1 p2) (h1 : w.heap.size ≤ w1.heap.size) (h2 : w1.heap.size ≤ w2.heap.size) : NewS w w2 p p2 := fun r hr => by
  rcases k r hr with q | q
  · rcases h r q with q | q
    · exact .inl q
    · exact .inr ⟨q.1, Nat.lt_of_lt_of_le q.2 h2⟩
  · exact .inr ⟨Nat.le_trans h1 q.1, q.2⟩
def RsPost (S' : SS) (p : Sp) (w : World) (e : Ending) (w' : World) : Prop := ∃ p', e = .returned (rv p' S') ∧ Rw w' S' p' ∧ NewS w w' p p' ∧ Below w.heap.size w w'
def DrRel (ys : List (Tx × Value)) (k : Nat) (w : World) (g : Nat) (v5 v6 : Value) (wr : World) : Prop :=
  ∃ (i : Nat) (s : Option Addr) (c : Nat), g = ys.length - i ∧ i ≤ ys.length ∧ v6 = .int .i64 i ∧ v5 = .slice s ((ys.take i).eraseIdx k).length c ∧ K.Own w wr 36 4 s ((ys.take i).eraseIdx k).length c (flat ycells ((ys.take i).eraseIdx k))
theorem flat_y1 (x : Tx × Value) : flat ycells [x] = ycells x := by simp [flat]

set_option maxRecDepth 100000 in
set_option maxHeartbeats 2000000 in
theorem drop_ref (S : SS) (p : Sp) (k : Nat) (w : World) (h0 : Rw w S p) (hn : S.txs.length ≤ 100000) (hk : k < S.txs.length) :
    Calls Try.prog 38 #[rv p S, .int .i64 k] w (RsPost (dropS S k) p w) := by
  have HA := Lib.hid h0.rf
  have H00 := Lib.hid h0
  clear h0
  go_enter Try.func38, Try.ntmps38
  go_upto_region 1 with fail
  have h1 := ((St.start w (Below.refl _ w)).new #[.slice p.sp S.pairs.length p.cp, .slice p.st S.txs.length p.ct, .int .i64 S.nx] 43).new #[.slice none 0 0, .slice none 0 0, .int .i64 0] 43
  obtain ⟨W, hW⟩ : ∃ W, (w.alloc (.cells #[.slice p.sp S.pairs.length p.cp, .slice p.st S.txs.length p.ct, .int .i64 S.nx] 43)).alloc (.cells #[.slice none 0 0, .slice none 0 0, .int .i64 0] 43) = W := ⟨_, rfl⟩
  obtain ⟨b, hbz⟩ : ∃ b, w.heap.size = b := ⟨_, rfl⟩
  simp only [World.size_alloc] at h1
  rw [hW, hbz] at h1
  try simp only [World.size_alloc]
  try simp only [hW, hbz]
  have H1 := Lib.hid h1
  have H2 := Lib.hid (HA.out.below h1.bel)
  obtain ⟨ys, hys⟩ : ∃ ys, yz (.slice p.sc S.cs.length p.cc) S.txs = ys := ⟨_, rfl⟩
  have hyl : ys.length = S.txs.length := by rw [← hys]; exact yz_len _ _
  have HYS := Lib.hid hys
  clear h1 hW hys
  go_wp2_with fail
  go_loopg [5, 6] ys.length (DrRel ys k W)
  case atStart => exact ⟨0, none, 0, rfl, Nat.zero_le _, rfl, by simp, by simpa [flat] using K.Own.nil (Below.refl W.heap.size W) 36 4⟩
  case round =>
    obtain ⟨i, so, co, hg, hi, rfl, rfl, hp⟩ := hrel
    have Hg := Lib.hid hg
    have HO := Lib.hid hp
    have HJ := Lib.hid (join_own H1.out hp)
    have hel := er_len (ys.take i) k
    have htl : (ys.take i).length ≤ ys.length := by rw [List.length_take]; omega
    clear hg hp
    have k1 := HJ.out.blkm (b := b) (.tail _ (.tail _ (.head _)))
    obtain ⟨-, c1, -⟩ := k1.three
    by_cases hin : i < ys.length
    · have hiS : i < S.txs.length := by omega
      have HRI := Lib.hid (H2.out.below HO.out.bel)
      have hrd := HRI.out.ts
      rw [HYS.out] at hrd
      obtain ⟨g, o, hst, -⟩ := hrd.addr (by omega)
      obtain ⟨t, ht⟩ : ∃ t, S.txs[i] = t := ⟨_, rfl⟩
      obtain ⟨sq, cq, hvq, -⟩ := HRI.out.row i
      have hyx : ys[i] = (t, .slice sq (chs S i).length cq) := by
        subst ht
        rw [← hvq]
        simp only [← HYS.out]
        exact yz_get _ _ i hiS
      obtain ⟨d0, d1, d2, d3⟩ := y_at (hst ▸ hrd) hin _ hyx
      simp only at d0 d1 d2 d3
      rw [hst] at c1
      have HSu := Lib.hid (er_succ ys k i hin _ hyx)
      have hiI : (i : Int) < (S.txs.length : Int) := by omega
      have hi0I : (0 : Int) ≤ (i : Int) := by omega
      obtain ⟨O, hO⟩ : ∃ O, (ys.take i).eraseIdx k = O := ⟨_, rfl⟩
      rw [hO] at HO HSu hel
      simp only [hO]
      have H3a := Lib.hid (HO.out.alloc (.cells #[.int .i64 t.id, .string t.ow, .bool t.wr, .slice sq (chs S i).length cq] 36))
      have r2 := rd_built_at wr #[.int .i64 t.id, .string t.ow, .bool t.wr, .slice sq (chs S i).length cq] 36 4 1 wr.heap.size rfl rfl (by simp [Value.oneCell'])
      have hgl : g < wr.heap.size := World.block_lt_of_cell? _ _ d0
      have hcb : b < wr.heap.size := World.block_lt_of_cell? _ _ c1
      clear hrd hst ht hyx hvq hO k1 HJ
      by_cases hik : (i : Int) = (k : Int)
      · have hikb : ((i : Int) == (k : Int)) = true := by simp [hik]
        have HIK := Lib.hid (show i = k by omega)
        clear hik
        go_wp2_with fail
        go_roundg (ys.length - (i + 1))
        case measure => have := Hg.out; omega
        case rel =>
          have he := HSu.out
          rw [if_pos HIK.out, List.append_nil] at he
          exact ⟨i + 1, so, co, rfl, by omega, by simp, by rw [he], by rw [he]; exact HO.out⟩
      · have hikb : ((i : Int) == (k : Int)) = false := by simp; omega
        have HIK := Lib.hid (show ¬ i = k by omega)
        clear hik
        go_wp2_with (refine wpList_append_own' rfl (.tmp 17) (.tmp 23) 26 rfl elX so _ co _ rfl H3a.out _ 1 _ _ rfl r2 (by omega) (by omega) ?_; intro so' co' w4 p1 p2 p3; have H4 := Lib.hid p1; clear p1 p2 p3)
        go_roundg (ys.length - (i + 1))
        case measure => have := Hg.out; omega
        case rel =>
          have he := HSu.out
          rw [if_neg HIK.out] at he
          refine ⟨i + 1, so', co', rfl, by omega, by simp, by rw [he]; simp, ?_⟩
          rw [he, flat_append, flat_y1]
          simpa [ycells] using H4.out
    · obtain rfl : i = ys.length := by omega
      obtain ⟨S', hS'⟩ : ∃ S', dropS S k = S' := ⟨_, rfl⟩
      have ht' : S'.txs = S.txs.eraseIdx k := by rw [← hS']; rfl
      have hp' : S'.pairs = S.pairs := by rw [← hS']; rfl
      have hx' : S'.nx = S.nx := by rw [← hS']; rfl
      have hc' : S'.cs = if k = 0 then [] else S.cs := by rw [← hS']; rfl
      have he : ys.eraseIdx k = yz (if k = 0 then nilS else (.slice p.sc S.cs.length p.cc)) S'.txs := by rw [← HYS.out, yz_erase _ _ _ hk, ht']
      have hle : (ys.eraseIdx k).length = S'.txs.length := by rw [he, yz_len]
      rw [List.take_length] at HO HJ
      simp only [List.take_length]
      rw [he, yz_len] at HO HJ
      simp only [hle]
      have HSP := Lib.hid hS'
      have h3 := HJ.out.blkm (b := b) (.tail _ (.tail _ (.head _)))
      have h4 := HJ.out.blkm (b := b + 1) (.tail _ (.head _))
      have hs := St.sh [_, _, _] [2, 1, 0] (by decide) HJ.out
      simp only [List.map_cons, List.map_nil, List.getD_cons_zero, List.getD_cons_succ, List.cons_append, List.nil_append] at hs
      have hs1 := hs.set 1 (.slice so S'.txs.length co)
      simp only [List.setIfInBounds_toArray, List.set_cons_zero, List.set_cons_succ] at hs1
      have hs2 := St.sh [_, _, _] [1, 0, 2] (by decide) hs1
      simp only [List.map_cons, List.map_nil, List.getD_cons_zero, List.getD_cons_succ, List.cons_append, List.nil_append] at hs2
      have hs3 := ((hs2.set 0 (.slice p.sp S.pairs.length p.cp)).set 1 (.slice so S'.txs.length co)).set 2 (.int .i64 S.nx)
      simp only [List.setIfInBounds_toArray, List.set_cons_zero, List.set_cons_succ] at hs3
      obtain ⟨W9, hW9⟩ : ∃ W9, (((wr.setCell ⟨b, 1, none⟩ (.slice so S'.txs.length co)).setCell ⟨b + 1, 0, none⟩ (.slice p.sp S.pairs.length p.cp)).setCell ⟨b + 1, 1, none⟩ (.slice so S'.txs.length co)).setCell ⟨b + 1, 2, none⟩ (.int .i64 S.nx) = W9 := ⟨_, rfl⟩
      rw [hW9] at hs3
      have HS3 := Lib.hid hs3
      have HS' := Lib.hid (show S'.txs = S.txs.eraseIdx k ∧ S'.pairs = S.pairs ∧ S'.nx = S.nx ∧ S'.cs = (if k = 0 then [] else S.cs) from ⟨ht', hp', hx', hc'⟩)
      obtain ⟨c0, c1, c2, f0, f1, f2⟩ := h3.three
      obtain ⟨e0, e1, e2, j0, j1, j2⟩ := h4.three
      have HW9 := Lib.hid hW9
      clear hs hs1 hs2 hs3 h3 h4 hW9 hS' ht' hp' hx' hc' he hle
      go_wp2_with fail
      rw [HW9.out]
      obtain ⟨t0, t1, t2, -⟩ := HS3.out.blk.1.three
      refine bodyPost_ret (v := .agg #[.slice p.sp S.pairs.length p.cp, .slice so S'.txs.length co, .int .i64 S.nx]) (by simp [results, Try.results38, go_sem, t0, t1, t2]) rfl ?_
      show RsPost (dropS S k) p w _ _
      rw [HSP.out]
      obtain ⟨ht', hp', hx', hc'⟩ := HS'.out
      have hsl := HS3.out.slm (.tail _ (.tail _ (.head _)))
      have hw := H00.out.below HS3.out.bel
      refine ⟨⟨p.sp, p.cp, so, co, if k = 0 then none else p.sc, if k = 0 then 0 else p.cc⟩, by rw [← hp', ← hx'], ⟨⟨rfl, ?_, ?_, ?_⟩, ?_, ?_⟩, ?_, HS3.out.bel⟩
      · rw [hp']; exact hw.rf.ps
      · have := hsl.rd
        by_cases h0 : k = 0
        · simp only [h0, if_true] at this hc' ⊢
          rw [hc']
          exact this
        · simp only [h0, if_false] at this hc' ⊢
          rw [hc']
          exact this
      · by_cases h0 : k = 0
        · simp only [h0, if_true] at hc' ⊢
          rw [hc']
          exact ⟨by simp [flat], by simp [flat], fun _ => by simp [flat], by simp⟩
        · simp only [h0, if_false] at hc' ⊢
          rw [hc']
          exact hw.rf.cs
      · rw [hp']; exact hw.pc
      · intro r hr
        rcases hr with q | q | q
        · exact hw.rows r (.inl q)
        · exact hsl.lt r q
        · by_cases h0 : k = 0
          · simp only [h0, if_true] at q; cases q
          · simp only [h0, if_false] at q; exact hw.rows r (.inr (.inr q))
      · intro r hr
        rcases hr with q | q | q
        · exact .inl (.inl q)
        · refine .inr ⟨Nat.le_trans H1.out.bel.size (HO.out.row r q), hsl.lt r q⟩
        · by_cases h0 : k = 0
          · simp only [h0, if_true] at q; cases q
          · simp only [h0, if_false] at q; exact .inl (.inr (.inr q))

end Go.Proofs.Ytcglnjklnlejmaa
