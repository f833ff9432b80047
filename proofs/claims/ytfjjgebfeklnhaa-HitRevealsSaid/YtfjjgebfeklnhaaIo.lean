/-
  ref24.Range.
-/
import Derived.Test.YtfjjgebfeklnhaaIn
set_option linter.unusedVariables false
set_option linter.unusedSimpArgs false
namespace Go.Proofs.Ytfjjgebfeklnhaa
open Go.RowKit Go.K

theorem bxs_pos (x y : Int) (t : Ft) : 1 ≤ (bxs x y t).length := by cases t; rw [bxs]; simp
theorem edges_n (s : Option Addr) (c n : Nat) (l : List (Ft × R4)) (w : World) (h : Rd w 71 s n (flat bc l)) (hl : l ≠ []) (hnl : l.length = n) (hn : n ≤ 1000000) (X Y : Int) (hX : emax gX (l.map (·.2)) = X) (hY : emax gY (l.map (·.2)) = Y) :
    Calls Try.prog 35 #[.slice s n c] w fun e w' => e = .returned (.tuple #[.int .i64 X, .int .i64 Y]) ∧ Below w.heap.size w w' := by
  subst hnl hX hY; exact edges_c s c l w h hl hn
def isB (nd : Int) (p : Ft × R4) : Bool := isBox nd p.1 && nd != 0
def rangeX (x : Ft) (r : R4) : Int × Int :=
  if x.a.ov ≠ 2 ∨ (bxs (wr (r.x - x.a.x)) (wr (r.y - x.a.y)) x).length = 1 then (0, 0) else
    (max 0 (wr (wr (wr (emax gX (((bxs (wr (r.x - x.a.x)) (wr (r.y - x.a.y)) x).drop 1).map (·.2)) - r.x) - x.a.bd) - max 0 (wr (wr (r.w - x.a.bd) - x.a.bd)))),
     max 0 (wr (wr (wr (emax gY (((bxs (wr (r.x - x.a.x)) (wr (r.y - x.a.y)) x).drop 1).map (·.2)) - r.y) - x.a.bd) - max 0 (wr (wr (r.h - x.a.bd) - x.a.bd)))))
def rangeY (x : Ft) (r : R4) (A B : Int) : Int × Int :=
  if x.a.ov ≠ 2 ∨ (bxs A B x).length = 1 then (0, 0) else
    (max 0 (wr (wr (wr (emax gX (((bxs A B x).drop 1).map (·.2)) - r.x) - x.a.bd) - max 0 (wr (wr (r.w - x.a.bd) - x.a.bd)))),
     max 0 (wr (wr (wr (emax gY (((bxs A B x).drop 1).map (·.2)) - r.y) - x.a.bd) - max 0 (wr (wr (r.h - x.a.bd) - x.a.bd)))))
theorem rangeX_eq (x : Ft) (r : R4) : rangeX x r = rangeY x r (wr (r.x - x.a.x)) (wr (r.y - x.a.y)) := rfl
def rangeT (t : Ft) (nd wd ht : Int) : Int × Int :=
  if nd = t.a.nd then (max 0 (wr (rextW t - max 0 wd)), max 0 (wr (rextH t - max 0 ht))) else
  match (bxs 0 0 t).find? (isB nd) with
  | none => (0, 0)
  | some p => rangeX p.1 p.2
theorem rext_w (t : Ft) (w : World) (h : FtAt w t) (hs : t.sz ≤ 100000) (X Y : Int) (hX : rextW t = X) (hY : rextH t = Y) :
    Calls Try.prog 17 #[.agg (fc t).toArray] w fun e w' => e = .returned (.tuple #[.int .i64 X, .int .i64 Y]) ∧ Below w.heap.size w w' := by
  subst hX hY; exact rext_c t w h hs
theorem b_range {w : World} {g off n : Nat} {ls : List (Ft × R4)} (hs : Rd w 71 (some ⟨g, off, none⟩) n (flat bc ls)) {k : Nat} (hk : k < ls.length) : w.rangeAt g (off + k * 71) (bc ls[k]) := by
  have e := fun j hj => flat_at (f := bc) (sz := 71) bc_len ls k j hk hj
  have c := fun j u h => hs.cells _ rfl j u h
  simp only [Addr.add_lit] at c
  intro j v hv
  have hj : j < 71 := by
    have := (List.getElem?_eq_some_iff.1 hv).1
    rwa [bc_len] at this
  have := c _ _ ((e j hj).trans hv)
  rwa [← Nat.add_assoc] at this
theorem size76 : (Try.prog.info? 76).map (·.size) = some 71 := by kernel_rfl
theorem bcI (p : Ft × R4) (t : TypeId) (W : World) (b : Nat) (h : Blk W b (bc p).toArray t) :
    W.cell? ⟨b, 0, none⟩ = some (.int .i64 p.1.a.kd) ∧ W.cell? ⟨b, 1, none⟩ = some (.int .i64 p.1.a.nd) ∧ W.cell? ⟨b, 2, none⟩ = some (.int .i64 p.1.a.x) ∧ W.cell? ⟨b, 3, none⟩ = some (.int .i64 p.1.a.y) ∧ W.cell? ⟨b, 59, none⟩ = some (.int .i64 p.1.a.ov) ∧ W.cell? ⟨b, 67, none⟩ = some (.int .i64 p.2.x) ∧ W.cell? ⟨b, 67 + 1, none⟩ = some (.int .i64 p.2.y) ∧ W.cell? ⟨b, 67 + 2, none⟩ = some (.int .i64 p.2.w) ∧ W.cell? ⟨b, 67 + 3, none⟩ = some (.int .i64 p.2.h) :=
  ⟨h.cell 0, h.cell 1, h.cell 2, h.cell 3, h.cell 59, h.cell 67, h.cell 68, h.cell 69, h.cell 70⟩
theorem bcB (p : Ft × R4) (t : TypeId) (W : World) (b : Nat) (h : Blk W b (bc p).toArray t) :
    W.cell? ⟨b, 38, none⟩ = some (.int .i64 p.1.a.bd) ∧ W.cell? ⟨b, 39, none⟩ = some (.int .i64 p.1.a.bd) ∧ W.cell? ⟨b, 40, none⟩ = some (.int .i64 p.1.a.bd) ∧ W.cell? ⟨b, 41, none⟩ = some (.int .i64 p.1.a.bd) :=
  ⟨h.cell 38, h.cell 39, h.cell 40, h.cell 41⟩
theorem bcR (p : Ft × R4) (t : TypeId) (W : World) (b : Nat) (h : Blk W b (bc p).toArray t) : W.rangeAt b 0 (fc p.1) := fun j v hv => by
  refine h.range j v ?_
  rw [bc, List.getElem?_append_left ((List.getElem?_eq_some_iff.1 hv).1)]
  exact hv

def RgRel (w : World) (m : Nat) (t : Ft) (nd : Int) (s : Option Addr) (c : Nat) (g : Nat) (v44 : Value) (wr' : World) : Prop :=
  ∃ k : Nat, g = (bxs 0 0 t).length - k ∧ k ≤ (bxs 0 0 t).length ∧ v44 = .int .i64 k ∧ (∀ p ∈ (bxs 0 0 t).take k, isB nd p = false) ∧
    St w wr' [As.row 76 71 s (bxs 0 0 t).length c (flat bc (bxs 0 0 t)), As.cells m (fc t).toArray 51]
theorem find_at {α : Type} (P : α → Bool) (l : List α) (k : Nat) (hk : k < l.length) (h1 : ∀ p ∈ l.take k, P p = false) (h2 : P l[k] = true) : l.find? P = some l[k] := by
  have e : l = l.take k ++ l[k] :: l.drop (k + 1) := by rw [List.getElem_cons_drop, List.take_append_drop]
  have e2 : l.find? P = (l.take k ++ l[k] :: l.drop (k + 1)).find? P := congrArg _ e
  rw [e2, List.find?_append, List.find?_eq_none.2 (fun p hp => by simp [h1 p hp]), Option.none_or, List.find?_cons_of_pos h2]

set_option maxRecDepth 100000 in
set_option maxHeartbeats 2000000 in
theorem range_root (t : Ft) (nd wd ht : Int) (w : World) (hT : FtAt w t) (hsz : t.sz ≤ 100000) (h1 : nd = t.a.nd) :
    Calls Try.prog 18 #[.agg (fc t).toArray, .int .i64 nd, .int .i64 wd, .int .i64 ht] w fun e w' => e = .returned (.tuple #[.int .i64 (rangeT t nd wd ht).1, .int .i64 (rangeT t nd wd ht).2]) ∧ Below w.heap.size w w' := by
  have HT := Lib.hid hT
  clear hT
  have H1 := Lib.hid ((St.start w (Below.refl _ w)).new (fc t).toArray 51)
  obtain ⟨-, c1, -⟩ := bigI t.a t.ks.length 51 _ _ H1.out.blk.1
  have h1b : (nd == t.a.nd) = true := by simpa using h1
  have hsp : rangeT t nd wd ht = (max 0 (wr (rextW t - max 0 wd)), max 0 (wr (rextH t - max 0 ht))) := by unfold rangeT; rw [if_pos h1]
  rw [hsp]
  clear hsp
  obtain ⟨X, hX⟩ : ∃ X, rextW t = X := ⟨_, rfl⟩
  obtain ⟨Y, hY⟩ : ∃ Y, rextH t = Y := ⟨_, rfl⟩
  rw [hX, hY]
  have HX := Lib.hid hX
  have HY := Lib.hid hY
  clear hX hY h1
  have m1 : ∀ a b : Int, (if a < b then b else a) = max a b := fun a b => by split <;> omega
  go_enter Try.func18, Try.ntmps18
  go_wp2_with (first
    | (refine st_load rfl (.tmp 4) rfl (fc t) H1.out (.head _) rfl rfl Try.underlying51 rfl size51 ?_)
    | (go_at_call 17; refine (rext_w t _ (HT.out.stay H1.out.bel) hsz X Y HX.out HY.out).mono ?_; rintro e w2 ⟨rfl, hb2⟩; have H2 := Lib.hid (H1.out.of_below hb2); clear hb2))
  refine bodyPost_ret (results_tmp2 rfl _ _ _) rfl ⟨?_, H2.out.bel⟩
  show Ending.returned (.tuple #[.int .i64 (max 0 (wrap64 (X - max 0 wd))), .int .i64 (max 0 (wrap64 (Y - max 0 ht)))]) = _
  simp only [wr64]
set_option maxRecDepth 100000 in
set_option maxHeartbeats 2000000 in
theorem range_c (t : Ft) (nd wd ht : Int) (w : World) (hT : FtAt w t) (hsz : t.sz ≤ 100000) :
    Calls Try.prog 18 #[.agg (fc t).toArray, .int .i64 nd, .int .i64 wd, .int .i64 ht] w fun e w' => e = .returned (.tuple #[.int .i64 (rangeT t nd wd ht).1, .int .i64 (rangeT t nd wd ht).2]) ∧ Below w.heap.size w w' := by
  by_cases h1 : nd = t.a.nd
  · exact range_root t nd wd ht w hT hsz h1
  have h1b : (nd == t.a.nd) = false := by simpa using h1
  obtain ⟨V, hV⟩ : ∃ V, rangeT t nd wd ht = V := ⟨_, rfl⟩
  rw [hV]
  have hV' : (match (bxs 0 0 t).find? (isB nd) with | none => ((0 : Int), (0 : Int)) | some p => rangeX p.1 p.2) = V := by rw [← hV]; unfold rangeT; rw [if_neg h1]
  have HV := Lib.hid hV'
  have HT := Lib.hid hT
  clear hT hV hV' h1
  have H1 := Lib.hid ((St.start w (Below.refl _ w)).new (fc t).toArray 51)
  obtain ⟨-, c1, -⟩ := bigI t.a t.ks.length 51 _ _ H1.out.blk.1
  have hbl : (bxs 0 0 t).length ≤ 100000 := by rw [bxs_len]; exact hsz
  have hblI : ((bxs 0 0 t).length : Int) ≤ 100000 := by omega
  go_enter Try.func18, Try.ntmps18
  go_upto_region 5 with (first
    | (refine st_load rfl (.tmp 4) rfl (fc t) H1.out (.head _) rfl rfl Try.underlying51 rfl size51 ?_)
    | (go_at_call 24; refine (boxes_c t.sz t 0 0 _ (Nat.le_refl _) hsz (HT.out.stay H1.out.bel)).mono ?_; rintro e w2 ⟨s2, c2, rfl, h2⟩; have H2 := Lib.hid (H1.out.own_new h2); clear h2))
  clear c1
  obtain ⟨m, hm⟩ : ∃ m, w.heap.size = m := ⟨_, rfl⟩
  rw [hm] at H2 ⊢
  go_wp2_with fail
  go_loopg [44] (bxs 0 0 t).length (RgRel w m t nd s2 c2)
  case atStart => exact ⟨0, rfl, Nat.zero_le _, rfl, by simp, H2.out⟩
  case round =>
    obtain ⟨k, hg, hk, rfl, hno, hst⟩ := hrel
    have Hg := Lib.hid hg
    have HS := Lib.hid hst
    have HNO := Lib.hid hno
    clear hg hst hno
    by_cases hkn : k < (bxs 0 0 t).length
    · have hkI : (k : Int) < ((bxs 0 0 t).length : Int) := by omega
      have hkI0 : (0 : Int) ≤ (k : Int) := by omega
      have hrd := HS.out.sl.rd
      obtain ⟨g, off, rfl, -⟩ := hrd.addr (by omega)
      have hrg := Lib.hid (b_range hrd hkn)
      have hsub := FtAt.sub 0 0 HT.out _ (List.getElem_mem hkn)
      have htk : (bxs 0 0 t).take (k + 1) = (bxs 0 0 t).take k ++ [(bxs 0 0 t)[k]] := List.take_succ_eq_append_getElem hkn
      have hfa := fun h2 => find_at (isB nd) (bxs 0 0 t) k hkn HNO.out h2
      obtain ⟨p, hp⟩ : ∃ p, (bxs 0 0 t)[k] = p := ⟨_, rfl⟩
      rw [hp] at hrg hsub htk hfa
      obtain ⟨hxat, hxsz⟩ := hsub
      have HX := Lib.hid hxat
      have HTK := Lib.hid htk
      have HFA := Lib.hid hfa
      clear hrd hp hxat htk hfa
      have z76 := zv76
      have H6 := Lib.hid (HS.out.new zB 76)
      obtain ⟨q1, hq1⟩ : ∃ q, (p.1.a.kd != 1) = q := ⟨_, rfl⟩
      obtain ⟨q2, hq2⟩ : ∃ q, (p.1.a.nd != nd) = q := ⟨_, rfl⟩
      obtain ⟨q3, hq3⟩ : ∃ q, (nd == 0) = q := ⟨_, rfl⟩
      have hisb : isB nd p = (!q1 && !q2 && !q3) := by
        rw [← hq1, ← hq2, ← hq3, isB, isBox]
        simp [bne]
      have HIS := Lib.hid hisb
      clear hisb
      go_upto_region 9 with (first
        | (refine rg_load rfl (.tmp 49) rfl (bc p) hrg.out rfl (bc_len _) Try.underlying76 rfl size76 ?_)
        | (refine st_store rfl (.tmp 14) (.tmp 50) rfl H6.out (bc p) rfl rfl (by kernel_rfl) (bc_len _) size76 (bc_one _) ?_; intro W7 HW7; have H7 := Lib.hid HW7; clear HW7))
      clear z76
      obtain ⟨k0, k1, k2, k3, k59, k67, k68, k69, k70⟩ := bcI p 76 _ _ H7.out.blk.1
      have HRX := Lib.hid (bcR p 76 _ _ H7.out.blk.1)
      cases q1 with
      | true =>
        go_wp2_with fail
        go_roundg ((bxs 0 0 t).length - (k + 1))
        case measure => have := Hg.out; omega
        case rel =>
          refine ⟨k + 1, rfl, hkn, by simp, ?_, H7.out.drop⟩
          intro y hy
          rw [HTK.out] at hy
          rcases List.mem_append.1 hy with e | e
          · exact HNO.out y e
          · rw [List.mem_singleton.1 e, HIS.out]; rfl
      | false =>
       cases q2 with
       | true =>
        go_wp2_with fail
        go_roundg ((bxs 0 0 t).length - (k + 1))
        case measure => have := Hg.out; omega
        case rel =>
          refine ⟨k + 1, rfl, hkn, by simp, ?_, H7.out.drop⟩
          intro y hy
          rw [HTK.out] at hy
          rcases List.mem_append.1 hy with e | e
          · exact HNO.out y e
          · rw [List.mem_singleton.1 e, HIS.out]; rfl
       | false =>
        cases q3 with
        | true =>
          go_wp2_with fail
          go_roundg ((bxs 0 0 t).length - (k + 1))
          case measure => have := Hg.out; omega
          case rel =>
            refine ⟨k + 1, rfl, hkn, by simp, ?_, H7.out.drop⟩
            intro y hy
            rw [HTK.out] at hy
            rcases List.mem_append.1 hy with e | e
            · exact HNO.out y e
            · rw [List.mem_singleton.1 e, HIS.out]; rfl
        | false =>
          have hfd := HFA.out HIS.out
          rw [HFA.out HIS.out] at HV
          have hv2 := HV.out
          simp only at hv2
          obtain ⟨A, hA⟩ : ∃ A, Ytfjjgebfeklnhaa.wr (p.2.x - p.1.a.x) = A := ⟨_, rfl⟩
          obtain ⟨B, hB⟩ : ∃ B, Ytfjjgebfeklnhaa.wr (p.2.y - p.1.a.y) = B := ⟨_, rfl⟩
          have hAw : wrap64 (p.2.x - p.1.a.x) = A := by rw [wr64]; exact hA
          have hBw : wrap64 (p.2.y - p.1.a.y) = B := by rw [wr64]; exact hB
          rw [rangeX_eq, hA, hB] at hv2
          have HV2 := Lib.hid hv2
          have hil : (bxs A B p.1).length ≤ 100000 := by rw [bxs_len]; omega
          clear hv2 hfd hA hB
          go_upto_region 11 with (first
            | (refine rg_load rfl (.tmp 66) rfl (fc p.1) HRX.out rfl rfl Try.underlying51 rfl size51 ?_)
            | (go_at_call 24; refine (boxes_c p.1.sz p.1 A B _ (Nat.le_refl _) (by omega) (HX.out.stay H7.out.bel)).mono ?_; rintro e w8 ⟨s8, c8, rfl, h8⟩; have H8 := Lib.hid (H7.out.own_new h8); clear h8 k0 k1 k2 k3 k59 k67 k68 k69 k70))
          obtain ⟨-, -, -, -, k59, k67, k68, k69, k70⟩ := bcI p 76 _ _ (H8.out.blkm (.tail _ (.head _)))
          obtain ⟨b38, b39, b40, b41⟩ := bcB p 76 _ _ (H8.out.blkm (.tail _ (.head _)))
          clear hAw hBw
          by_cases hov : p.1.a.ov = 2
          · have hovb : (p.1.a.ov != 2) = false := by simp [hov]
            by_cases hin : (bxs A B p.1).length = 1
            · have hinb : (((bxs A B p.1).length : Int) == 1) = true := by simp [hin]
              have hv3 := HV2.out
              rw [rangeY, if_pos (.inr hin)] at hv3
              subst hv3
              go_wp2_with fail
              refine bodyPost_ret (results_tmp2 rfl _ _ _) rfl ?_
              exact ⟨rfl, by have := H8.out.bel; rwa [hm] at this⟩
            · have hinb : (((bxs A B p.1).length : Int) == 1) = false := by simp; omega
              have hv3 := HV2.out
              rw [rangeY, if_neg (by
                rintro (q | q)
                · exact q hov
                · exact hin q)] at hv3
              have hpos := bxs_pos A B p.1
              obtain ⟨s9, hsl, hs9⟩ := H8.out.sl.rc.cut_l el76 1 hpos
              have hdr : (flat bc (bxs A B p.1)).drop (1 * 71) = flat bc ((bxs A B p.1).drop 1) := by
                cases hb : bxs A B p.1 with
                | nil => rfl
                | cons a l => simp only [flat, List.flatMap_cons, List.drop_succ_cons, List.drop_zero]; rw [List.drop_append_of_le_length (by rw [bc_len]; omega), List.drop_of_length_le (by rw [bc_len]; omega), List.nil_append]
              rw [hdr] at hs9
              have hdl : ((bxs A B p.1).drop 1).length = (bxs A B p.1).length - 1 := List.length_drop
              have hdn : (bxs A B p.1).drop 1 ≠ [] := by
                intro e
                rw [e] at hdl
                simp at hdl; omega
              obtain ⟨EX, hEX⟩ : ∃ EX, emax gX (((bxs A B p.1).drop 1).map (·.2)) = EX := ⟨_, rfl⟩
              obtain ⟨EY, hEY⟩ : ∃ EY, emax gY (((bxs A B p.1).drop 1).map (·.2)) = EY := ⟨_, rfl⟩
              rw [hEX, hEY] at hv3
              have HE := Lib.hid (fun (w' : World) h => edges_n s9 (c8 - 1) ((bxs A B p.1).length - 1) _ w' h hdn hdl (by omega) EX EY hEX hEY)
              have hR9 := Lib.hid hs9.rd
              have HV3 := Lib.hid hv3
              have h9 := H8.out.new #[.int .i64 p.1.a.bd, .int .i64 p.1.a.bd, .int .i64 p.1.a.bd, .int .i64 p.1.a.bd] 44
              have H9 := Lib.hid h9
              have hR9' := Lib.hid (hR9.out.below ((Below.refl _ _).alloc (Nat.le_refl _) (.cells #[.int .i64 p.1.a.bd, .int .i64 p.1.a.bd, .int .i64 p.1.a.bd, .int .i64 p.1.a.bd] 44)))
              have hsl1 : ∀ W : World, (Instr.slice 73 (.slice s8 (bxs A B p.1).length c8) (some (.int .i64 1)) .none .none).run Try.prog W = .ok (.slice s9 ((bxs A B p.1).length - 1) (c8 - 1)) W := fun W => hsl .i64 W
              clear hdr hdl hdn hEX hEY hs9 hv3 h9 hsl
              go_upto_region 15 with (go_at_call 35; refine (HE.out _ hR9'.out).mono ?_; rintro e w10 ⟨rfl, hb10⟩; have H10 := Lib.hid (H9.out.of_below hb10); clear hb10)
              clear k59 k67 k68 k69 k70 b38 b39 b40 b41 hsl1
              have m1 : ∀ a b : Int, (if a < b then b else a) = max a b := fun a b => by split <;> omega
              obtain ⟨-, -, -, -, -, a67, a68, a69, a70⟩ := bcI p 76 _ _ (H10.out.blkm (.tail _ (.tail _ (.head _))))
              have ab0 : w10.cell? ⟨w8.heap.size, 0, none⟩ = some (.int .i64 p.1.a.bd) := H10.out.blk.1.cell 0
              have ab1 : w10.cell? ⟨w8.heap.size, 1, none⟩ = some (.int .i64 p.1.a.bd) := H10.out.blk.1.cell 1
              have ab2 : w10.cell? ⟨w8.heap.size, 2, none⟩ = some (.int .i64 p.1.a.bd) := H10.out.blk.1.cell 2
              have ab3 : w10.cell? ⟨w8.heap.size, 3, none⟩ = some (.int .i64 p.1.a.bd) := H10.out.blk.1.cell 3
              go_quiet (fail)
              have H11 := Lib.hid (H10.out.drewN nq)
              obtain ⟨w11, hw11⟩ : ∃ w11, w10.drewN nq = w11 := ⟨_, rfl⟩
              rw [hw11] at H11 ⊢
              clear hw11 a67 a68 a69 a70 ab0 ab1 ab2 ab3
              obtain ⟨-, -, -, -, -, d67, d68, d69, d70⟩ := bcI p 76 _ _ (H11.out.blkm (.tail _ (.tail _ (.head _))))
              have db0 : w11.cell? ⟨w8.heap.size, 0, none⟩ = some (.int .i64 p.1.a.bd) := H11.out.blk.1.cell 0
              have db1 : w11.cell? ⟨w8.heap.size, 1, none⟩ = some (.int .i64 p.1.a.bd) := H11.out.blk.1.cell 1
              have db2 : w11.cell? ⟨w8.heap.size, 2, none⟩ = some (.int .i64 p.1.a.bd) := H11.out.blk.1.cell 2
              have db3 : w11.cell? ⟨w8.heap.size, 3, none⟩ = some (.int .i64 p.1.a.bd) := H11.out.blk.1.cell 3
              go_upto_region 16 with fail
              go_quiet (fail)
              have hv4 := HV3.out
              subst hv4
              go_wp2_with fail
              refine bodyPost_ret (results_tmp2 rfl _ _ _) rfl ⟨?_, below_drewN (by have := H11.out.bel; rwa [hm] at this)⟩
              show Ending.returned (.tuple #[.int .i64 (max 0 (wrap64 (wrap64 (wrap64 (EX - p.2.x) - p.1.a.bd) - max 0 (wrap64 (wrap64 (p.2.w - p.1.a.bd) - p.1.a.bd))))), .int .i64 (max 0 (wrap64 (wrap64 (wrap64 (EY - p.2.y) - p.1.a.bd) - max 0 (wrap64 (wrap64 (p.2.h - p.1.a.bd) - p.1.a.bd)))))]) = _
              simp only [wr64]
          · have hovb : (p.1.a.ov != 2) = true := by simp [hov]
            have hv3 := HV2.out
            rw [rangeY, if_pos (.inl hov)] at hv3
            subst hv3
            go_wp2_with fail
            refine bodyPost_ret (results_tmp2 rfl _ _ _) rfl ?_
            exact ⟨rfl, by have := H8.out.bel; rwa [hm] at this⟩
    · have hkI : ¬ (k : Int) < ((bxs 0 0 t).length : Int) := by omega
      have hke : k = (bxs 0 0 t).length := by omega
      subst hke
      have hv : V = (0, 0) := by
        have h1 := HNO.out
        rw [List.take_length] at h1
        have h2 := HV.out
        rw [List.find?_eq_none.2 (fun p hp => by simp [h1 p hp])] at h2
        exact h2.symm
      subst hv
      go_wp2_with fail
      refine bodyPost_ret (results_tmp2 rfl _ _ _) rfl ?_
      exact ⟨rfl, by have := HS.out.bel; rwa [hm] at this⟩
end Go.Proofs.Ytfjjgebfeklnhaa
