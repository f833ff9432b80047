/-
  layout.All: the fragments with their rectangles, one after the other.
-/
import Derived.Test.YtfjjgebfeklnhaaIe
import Derived.Test.YtfjjgebfeklnhaaKg
set_option linter.unusedVariables false
set_option linter.unusedSimpArgs false
namespace Go.Proofs.Ytfjjgebfeklnhaa
open Go.RowKit Go.Shelf Go.K

attribute [local go_sem] Oper.semAt_some

theorem room_of_none {F : Fence} (hd : F.depth = none) (k : Nat) : F.room k := fun d h => by rw [hd] at h; cases h
theorem RoundIn_anyDepth {F : Fence} (hd : F.depth = none) {m m' : Nat} {P : Program} {l : Nat} {f : FuncId} {tmps : Array Value} {assign body : Code} {w : World} {R : Ending → World → Prop}
    (h : RoundIn F m P l f tmps assign body w R) : RoundIn F m' P l f tmps assign body w R := ⟨h.1, fun c cs _ => h.2 c cs (room_of_none hd _)⟩
theorem YieldAt_anyDepth {F : Fence} (hd : F.depth = none) {m : Nat} (m' : Nat) {P : Program} {l : Nat} {args : Array Value} {W : World} {R : Ending → World → Prop} (h : YieldAt F m P l args W R) : YieldAt F m' P l args W R := by
  obtain ⟨fn, tmps, assign, body, hy, hR⟩ := h
  exact ⟨fn, tmps, assign, body, hy, RoundIn_anyDepth hd hR⟩

theorem blk_cells {w : World} {t : Ft} (h : FtAt w t) : ∀ k, t.blk k → ∃ o, w.heap[k]? = some o ∧ o.isCells = true := by
  induction h with
  | mk a ks h0 h1 h2 ih =>
    intro k hb
    cases hb with
    | here _ _ hr hn =>
      have hne := flat_cons hn
      cases hs : a.s with
      | none => rw [hs] at hr; cases hr
      | some ad =>
        rw [hs] at hr
        obtain ⟨u, hu⟩ : ∃ u, (flat fc ks)[0]? = some u := by
          cases hf : flat fc ks with
          | nil => exact absurd hf hne
          | cons u r => exact ⟨u, rfl⟩
        obtain ⟨o, ho, hc⟩ := cells_of_cell (h1.cells ad hs 0 u hu)
        have hb : (ad.add 0).block = ad.block := by unfold Addr.add; split <;> rfl
        rw [hb] at ho
        have : ad.block = k := by simpa [rowOf] using hr
        rw [← this]
        exact ⟨o, ho, hc⟩
    | kid _ _ x hx hb => exact ih x hx k hb
theorem FtAt.ck {S : Nat → Prop} {W W' : World} {t : Ft} (h : FtAt W t) (hk : CK S W W') (hS : ∀ k, t.blk k → ¬ S k) : FtAt W' t := h.hold (fun k hb => by
  obtain ⟨o, ho, hc⟩ := blk_cells h k hb
  rw [hk.keep k o ho hc (hS k hb), ho])

abbrev enc2 (x : Ft × R4) : Array Value := #[rv x.2, .agg (fc x.1).toArray]
theorem bxsL_take (X Y : Int) (ks : List Ft) (k : Nat) (hk : k < ks.length) : bxsL X Y (ks.take (k + 1)) = bxsL X Y (ks.take k) ++ bxs X Y ks[k] := by
  rw [List.take_succ_eq_append_getElem hk, bxsL_app]
  simp [bxsL]
theorem bxsL_take_pre (X Y : Int) (ks : List Ft) (k : Nat) : bxsL X Y (ks.take k) <+: bxsL X Y ks := by
  refine ⟨bxsL X Y (ks.drop k), ?_⟩
  rw [← bxsL_app, List.take_append_drop]
theorem blkc67 {w : World} {b : Nat} {t : TypeId} (a : Fa) (n : Nat) (h : Blk w b (fv a n).toArray t) : w.rangeAt b 0 (fv a n) := h.range

set_option maxRecDepth 100000 in
set_option maxHeartbeats 2000000 in
theorem all_in (F : Fence) (hd : F.depth = none) (h45 : F.fn 45) (hro : F.round = none) (l n1 N : Nat) (S : Nat → Prop) (hS1 : ∀ k, S k → k < n1) (J Jx : List (Ft × R4) → World → Prop) (hJ : AbidesFrom n1 J)
    (hY : ∀ m pre x W, J pre W → pre.length < N → YieldAt F m Try.prog l (enc2 x) W fun e W' =>
      (e = .returned (.bool true) ∧ J (pre ++ [x]) W' ∧ CK S W W') ∨ (e = .returned (.bool false) ∧ Jx (pre ++ [x]) W')) :
    ∀ (z : Nat) (t : Ft) (n : Nat) (x y : Int) (pre : List (Ft × R4)) (W : World), t.sz ≤ z → n1 ≤ W.heap.size → FtAt W t → (∀ k, t.blk k → ¬ S k) → J pre W → pre.length + t.sz ≤ N → t.sz ≤ 100000 →
      CallsIn F n Try.prog 45 #[.agg (fc t).toArray, .int .i64 x, .int .i64 y, .func (.yield l) #[] #[]] W fun e W' =>
        (e = .returned (.bool true) ∧ J (pre ++ bxs x y t) W' ∧ CK S W W') ∨ (e = .returned (.bool false) ∧ ∃ q, q <+: bxs x y t ∧ Jx (pre ++ q) W') := by
  intro z
  induction z with
  | zero => intro t n x y pre W hz; cases t; rw [Ft.sz] at hz; omega
  | succ z ih =>
  rintro ⟨a, ks⟩ n x y pre W hz hn1 hat hbs hJ0 hN hsz
  have hdd : ∀ k : Nat, (F.depth.isSome = true → 1 ≤ k) := fun k h => by rw [hd] at h; cases h
  have hlen := szL_ge ks
  have hfc : fc (.mk a ks) = fv a ks.length := rfl
  rw [hfc]
  have hsz' := hsz
  rw [Ft.sz] at hz hN hsz'
  have hbx : bxs x y (.mk a ks) = (.mk a ks, ⟨wr (x + a.x), wr (y + a.y), a.w, a.h⟩) :: bxsL (wr (x + a.x)) (wr (y + a.y)) ks := by rw [bxs]
  rw [hbx]
  obtain ⟨X, hX⟩ : ∃ X, wr (x + a.x) = X := ⟨_, rfl⟩
  obtain ⟨Y, hY'⟩ : ∃ Y, wr (y + a.y) = Y := ⟨_, rfl⟩
  rw [hX, hY']
  have hXw : IntKind.i64.wrap (x + a.x) = X := hX
  have hYw : IntKind.i64.wrap (y + a.y) = Y := hY'
  -- the first two blocks
  obtain ⟨W1, hW1⟩ : ∃ W1, W.alloc (.cells (fv a ks.length).toArray 51) = W1 := ⟨_, rfl⟩
  obtain ⟨W2, hW2⟩ : ∃ W2, W1.alloc (.cells #[.int .i64 X, .int .i64 Y, .int .i64 a.w, .int .i64 a.h] 30) = W2 := ⟨_, rfl⟩
  have hs1 : W1.heap.size = W.heap.size + 1 := by rw [← hW1]; simp
  have hs2 : W2.heap.size = W.heap.size + 1 + 1 := by rw [← hW2]; simp [hs1]
  have hb1 : Below W.heap.size W W1 := by rw [← hW1]; exact (Below.refl _ W).alloc (Nat.le_refl _) _
  have hb2 : Below W.heap.size W W2 := by rw [← hW2]; exact hb1.alloc hb1.size _
  have hK1 : Blk W1 W.heap.size (fv a ks.length).toArray 51 := by rw [← hW1]; exact Blk.new W _ _
  have hK1' : Blk W2 W.heap.size (fv a ks.length).toArray 51 := by rw [← hW2]; exact hK1.kept (S := fun _ => False) ((Fr.refl _ W1).alloc _) (fun q => q)
  have hK2 : Blk W2 (W.heap.size + 1) #[.int .i64 X, .int .i64 Y, .int .i64 a.w, .int .i64 a.h] 30 := by rw [← hW2, ← hs1]; exact Blk.new W1 _ _
  have hJ2 := abides_below hJ hJ0 hb2
  have hnS : ∀ b, n1 ≤ b → ¬ S b := fun b hb q => by have := hS1 b q; omega
  have KS := Lib.hid hnS
  have HK1 := Lib.hid hK1'
  have HK2 := Lib.hid hK2
  have HAT := Lib.hid hat
  have HBS := Lib.hid hbs
  have HB2 := Lib.hid hb2
  obtain ⟨-, -, c2, c3, c4, c5, -, c66⟩ := bigI a ks.length 51 W1 W.heap.size hK1
  obtain ⟨r0, r1, r2, r3⟩ : W2.cell? ⟨W.heap.size + 1, 0, none⟩ = some (.int .i64 X) ∧ W2.cell? ⟨W.heap.size + 1, 1, none⟩ = some (.int .i64 Y) ∧ W2.cell? ⟨W.heap.size + 1, 2, none⟩ = some (.int .i64 a.w) ∧ W2.cell? ⟨W.heap.size + 1, 3, none⟩ = some (.int .i64 a.h) := ⟨hK2.cell 0, hK2.cell 1, hK2.cell 2, hK2.cell 3⟩
  have hR1 := Lib.hid hK1'.range
  have hY2 := YieldAt.mono (hY (n - 1) pre (.mk a ks, ⟨X, Y, a.w, a.h⟩) W2 hJ2 (by omega)) (R' := fun e W' =>
      (e = .returned (.bool true) ∧ J (pre ++ [(.mk a ks, ⟨X, Y, a.w, a.h⟩)]) W' ∧ CK S W2 W' ∧ W'.cell? ⟨W.heap.size, 66, none⟩ = some (.slice a.s ks.length a.c)) ∨ (e = .returned (.bool false) ∧ Jx (pre ++ [(.mk a ks, ⟨X, Y, a.w, a.h⟩)]) W'))
    (fun e W' h => h.elim (fun ⟨he, hj, hc⟩ => .inl ⟨he, hj, hc, (bigI a ks.length 51 W' W.heap.size (hc.blk HK1.out (KS.out _ hn1))).2.2.2.2.2.2.2⟩) .inr)
  obtain ⟨fn, tmps, assign, body, hy, hR⟩ := hY2
  dsimp only [enc2, fc, Ft.a, Ft.ks] at hy
  have HN1 := Lib.hid hn1
  clear hK1 hK1' hK2 hb1 hb2 hnS hat hbs hJ2 hJ0 hS1 hn1
  refine callsIn_of_wp Try.func45 rfl h45 ?_ hro
  simp only [Try.ntmps45, List.size_toArray, List.length_cons, List.length_nil, Nat.reduceAdd, Nat.reduceSub, Array.replicate_succ, Array.replicate_zero, List.push_toArray, List.append_toArray, List.nil_append, List.cons_append]
  gi_wp2_with (first
    | (refine rg_load_in rfl (.tmp 4) rfl (fv a ks.length) hR1.out rfl rfl Try.underlying51 rfl size51 ?_)
    | ((try refine ⟨hdd _, ?_⟩); refine hR.mono ?_; clear hR; rintro e W3 (⟨rfl, hJ3, hc3, c66'⟩ | ⟨rfl, hx3⟩)))
  · clear c2 c3 c4 c5 c66 r0 r1 r2 r3 hy hR1
    have hlenI : (ks.length : Int) ≤ 100000 := by omega
    have HIH := Lib.hid ih
    have HJ := Lib.hid hJ
    have HJ3 := Lib.hid hJ3
    have HC3 := Lib.hid hc3
    clear ih hJ hJ3 hc3 c66'
    gi_loopw [33] (fun i wr => ∃ k : Nat, k ≤ ks.length ∧ i = .int .i64 (k : Int) ∧ J (pre ++ (Ft.mk a ks, ⟨X, Y, a.w, a.h⟩) :: bxsL X Y (ks.take k)) wr ∧ CK S W2 wr)
      (fun i _ => ks.length - (intOf i).toNat)
    case atStart => exact ⟨0, Nat.zero_le _, rfl, by simpa [bxsL] using HJ3.out, HC3.out⟩
    case round =>
      obtain ⟨k, hk, rfl, hJs, hcs⟩ := hrel
      have HJS := Lib.hid hJs
      have HCS := Lib.hid hcs
      have hkr := hcs.blk HK2.out (KS.out _ (by have := HN1.out; omega))
      clear hJs hcs
      by_cases hkn : k < ks.length
      · have hkI : (k : Int) < (ks.length : Int) := by omega
        have hkI0 : (0 : Int) ≤ (k : Int) := by omega
        have hat2 := (HAT.out.stay HB2.out).ck HCS.out HBS.out
        have hrd : Rd wr 67 a.s ks.length (flat fc ks) := hat2.rd
        obtain ⟨g, off, hsa, -⟩ := hrd.addr (by omega)
        rw [hsa] at hrd
        have hrg := Lib.hid (row_range hrd hkn)
        have hkid := hat2.kid ks[k] (List.getElem_mem hkn)
        have hkb : ∀ b, ks[k].blk b → ¬ S b := fun b hb => HBS.out b (.kid a ks _ (List.getElem_mem hkn) hb)
        have htk := bxsL_take X Y ks k hkn
        have hpl : (pre ++ (Ft.mk a ks, ⟨X, Y, a.w, a.h⟩) :: bxsL X Y (ks.take k)).length + ks[k].sz ≤ N := by
          have h1 : Ft.szL (ks.take (k + 1)) ≤ Ft.szL ks := by
            have := szL_app (ks.take (k + 1)) (ks.drop (k + 1))
            rw [List.take_append_drop] at this
            omega
          have h2 : Ft.szL (ks.take (k + 1)) = Ft.szL (ks.take k) + ks[k].sz := by
            rw [List.take_succ_eq_append_getElem hkn, szL_app]; simp [Ft.szL]
          rw [List.length_append, List.length_cons, bxsL_len]
          omega
        have hks : ks[k].sz ≤ Ft.szL ks := sz_kid (List.getElem_mem hkn)
        obtain ⟨kd, hkd⟩ : ∃ kd, ks[k] = kd := ⟨_, rfl⟩
        rw [hkd] at hkid hkb htk hpl hks hrg
        have HKD := Lib.hid hkid
        have HKB := Lib.hid hkb
        have HTK := Lib.hid htk
        have HPL := Lib.hid hpl
        have HSA := Lib.hid hsa
        have hnw : Blk (wr.alloc (.cells (fv Fz 0).toArray 51)) wr.heap.size (fv Fz 0).toArray 51 := Blk.new _ _ _
        have HNW := Lib.hid hnw
        have HKR := Lib.hid hkr
        have z51 := zv51
        clear hat2 hrd hkid hkb htk hpl hkd hkr hnw
        rw [hsa]
        gi_wp2_with (first
          | (refine rg_load_in rfl (.tmp 35) rfl (fc kd) hrg.out rfl rfl Try.underlying51 rfl size51 ?_)
          | (refine bw_store_in rfl (.tmp 11) (.tmp 36) rfl ((Below.refl wr.heap.size wr).alloc (Nat.le_refl _) _) (Nat.le_refl _) (Nat.le_refl _) HNW.out (fc kd) rfl rfl rfl rfl size51 (fc_one _) ?_; intro W4 hb4 hk4 _; have hr4 := HKR.out.kept (S := fun _ => False) (Fr.of_below hb4) (fun q => q); obtain ⟨r0, r1⟩ : W4.cell? ⟨W.heap.size + 1, 0, none⟩ = some (.int .i64 X) ∧ W4.cell? ⟨W.heap.size + 1, 1, none⟩ = some (.int .i64 Y) := ⟨hr4.cell 0, hr4.cell 1⟩; have hR4 := Lib.hid hk4.range; have IHC := Lib.hid (HIH.out kd (n - 1) X Y _ W4 (by omega) (by have := HN1.out; have := HB2.out.size; have := HCS.out.size; have := hb4.size; omega) (HKD.out.stay hb4) HKB.out (abides_below HJ.out HJS.out hb4) HPL.out (by omega)); have HB4 := Lib.hid hb4; clear hb4 hk4 hr4)
          | (refine rg_load_in rfl (.tmp 11) rfl (fc kd) hR4.out rfl rfl Try.underlying51 rfl size51 ?_)
          | ((try refine ⟨hdd _, ?_⟩); gi_at_call 45; refine IHC.out.mono ?_; rintro e W5 (⟨rfl, hJ5, hc5⟩ | ⟨rfl, q, hq, hx5⟩)))
        · go_roundw
          case rel =>
            refine ⟨k + 1, hkn, by simp, ?_, (HCS.out.trans (CK.below HB4.out)).trans hc5⟩
            rw [HTK.out]
            simpa [List.append_assoc] using hJ5
          case measure => simp [intOf]; omega
        · refine bodyPost_ret (results_tmp rfl _ _ _) rfl ?_
          refine .inr ⟨rfl, (Ft.mk a ks, ⟨X, Y, a.w, a.h⟩) :: (bxsL X Y (ks.take k) ++ q), ?_, by simpa [List.append_assoc] using hx5⟩
          rw [List.cons_prefix_cons]
          refine ⟨rfl, List.IsPrefix.trans ?_ (bxsL_take_pre X Y ks (k + 1))⟩
          rw [HTK.out, List.prefix_append_right_inj]
          exact hq
      · have hkI : ¬ (k : Int) < (ks.length : Int) := by omega
        have hke : k = ks.length := by omega
        subst hke
        gi_wp2
        go_ret
        exact .inl ⟨rfl, by have := HJS.out; rwa [List.take_length] at this, (CK.below HB2.out).trans HCS.out⟩
  · refine bodyPost_ret (results_tmp rfl _ _ _) rfl ?_
    exact .inr ⟨rfl, _, by rw [← List.singleton_append]; exact List.prefix_append _ _, hx3⟩

set_option maxHeartbeats 1000000 in
theorem all1_in (F : Fence) (hd : F.depth = none) (n : Nat) (h44 : F.fn 44) (h45 : F.fn 45) (hro : F.round = none) (l n1 Bt : Nat) (S : Nat → Prop) (hS1 : ∀ k, S k → k < n1) (t : Ft) (hsz : t.sz ≤ 100000) (J Jx : List (Ft × R4) → World → Prop) (hJ : AbidesFrom n1 J)
    (hY : ∀ pre x W, J pre W → pre.length < t.sz → YieldAt F (n - 1) Try.prog l (enc2 x) W fun e W' =>
      (e = .returned (.bool true) ∧ J (pre ++ [x]) W' ∧ CK S W W') ∨ (e = .returned (.bool false) ∧ Jx (pre ++ [x]) W'))
    (W : World) (hBt : W.rangeAt Bt 0 (fc t)) (hn1 : n1 ≤ W.heap.size) (hT : FtAt W t) (hbs : ∀ k, t.blk k → ¬ S k) (h0 : J [] W) :
    CallsIn F n Try.prog 44 #[.func (.yield l) #[] #[], .pointer (some ⟨Bt, 0, none⟩)] W fun e W' => (∃ v, e = .returned v) ∧
      ((∃ ys, ys = bxs 0 0 t ∧ J ys W') ∨ (∃ pre, pre <+: bxs 0 0 t ∧ Jx pre W')) := by
  have hdd : ∀ k : Nat, (F.depth.isSome = true → 1 ≤ k) := fun k h => by rw [hd] at h; cases h
  have hp := all_in F hd h45 hro l n1 t.sz S hS1 J Jx hJ (fun m pre x W hj hl => YieldAt_anyDepth hd m (hY pre x W hj hl)) t.sz t (n - 1) 0 0 [] W (Nat.le_refl _) hn1 hT hbs h0 (by simp) hsz
  have HP := Lib.hid hp
  have HR := Lib.hid hBt
  clear hp hY hBt hJ h0 hT hbs hS1
  refine callsIn_of_wp Try.func44 rfl h44 ?_ hro
  simp only [Try.ntmps44, List.size_toArray, List.length_cons, List.length_nil, Nat.reduceAdd, Nat.reduceSub, Array.replicate_succ, Array.replicate_zero, List.push_toArray, List.append_toArray, List.nil_append, List.cons_append]
  gi_wp2_with (first
    | (refine rg_load_in rfl (.tmp 1) rfl (fc t) HR.out rfl rfl Try.underlying51 rfl size51 ?_)
    | ((try refine ⟨hdd _, ?_⟩); gi_at_call 45; refine HP.out.mono ?_; clear HP; rintro e W1 (⟨rfl, hJ1, _⟩ | ⟨rfl, q, hq, hx⟩)))
  · go_end0
    exact ⟨⟨_, rfl⟩, .inl ⟨_, rfl, by simpa using hJ1⟩⟩
  · go_end0
    exact ⟨⟨_, rfl⟩, .inr ⟨q, hq, by simpa using hx⟩⟩
theorem all_any (t : Ft) (w : World) :
    Calls Try.prog 34 #[.agg (fc t).toArray] w fun e w' => e = .returned (.func (.func 44) #[] #[.pointer (some ⟨w.heap.size, 0, none⟩)]) ∧ w' = w.alloc (.cells (fc t).toArray 51) := by
  go_enter Try.func34, Try.ntmps34
  go_wp2_with fail
  go_ret
  exact ⟨rfl, rfl⟩
theorem all_stops (F : Fence) (hd : F.depth = none) (n : Nat) (h44 : F.fn 44) (h45 : F.fn 45) (hro : F.round = none) (Bt : Nat) (S : Nat → Prop) (t : Ft) (hsz : t.sz ≤ 100000) (w : World) (hS1 : ∀ k, S k → k < w.heap.size) (hBt : Blk w Bt (fc t).toArray 51) (hT : FtAt w t) (hbs : ∀ k, t.blk k → ¬ S k) :
    SeqStopsK F n Try.prog 44 #[.pointer (some ⟨Bt, 0, none⟩)] enc2 (CK S) (fun ys => ys = bxs 0 0 t) (fun pre => pre <+: bxs 0 0 t) t.sz w := fun l J Jx W hW hJ _ hY h0 =>
  all1_in F hd n h44 h45 hro l W.heap.size Bt S (fun k hk => Nat.lt_of_lt_of_le (hS1 k hk) hW.size) t hsz J Jx hJ hY W (hBt.kept (S := fun _ => False) (Fr.of_below hW) (fun q => q)).range (Nat.le_refl _) (hT.stay hW) hbs h0
end Go.Proofs.Ytfjjgebfeklnhaa
