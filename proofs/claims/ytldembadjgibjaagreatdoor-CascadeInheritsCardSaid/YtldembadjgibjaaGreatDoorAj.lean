/-
  Cascade: ParseValue.
-/
import Derived.Test.YtldembadjgibjaaGreatDoorAi
set_option linter.unusedVariables false
set_option linter.unusedSimpArgs false
namespace Go.Proofs.YtldembadjgibjaaGreatDoor
open Go.RowKit Go.K Go.PlainAid Go.Lib

def inhL : List UInt8 := [105, 110, 104, 101, 114, 105, 116, 32, 105, 110, 105, 116, 105, 97, 108]
/-- a value against one row of the table -/
def rowM (v : List UInt8) (T : Int) (ws : List UInt8) : Va × Int :=
  if amongL v ws = true ∨ amongL v inhL = true then (⟨1, 0, v⟩, 0)
  else if (paintM v).2 = true ∧ bit T 1 = true then ((paintM v).1, 0)
  else if (measM T v).2 = true then ((measM T v).1, 0)
  else (⟨0, 0, []⟩, 4)
def findM (n v : List UInt8) : List (List UInt8 × Int × List UInt8) → Va × Int
  | [] => (⟨0, 0, []⟩, 6)
  | x :: r => if x.1 = n then rowM v x.2.1 x.2.2 else findM n v r
def parseM (n v : List UInt8) : Va × Int := findM n (trimL (lowL v)) tabE
theorem trimR_le (l cs : List UInt8) : (Lib.trimRightS l cs).length ≤ l.length := by
  show ((l.reverse.dropWhile _).reverse).length ≤ l.length
  rw [List.length_reverse]
  refine Nat.le_trans (List.dropWhile_sublist _).length_le ?_
  rw [List.length_reverse]; exact Nat.le_refl _
theorem trimS_le (l cs : List UInt8) : (Lib.trimS l cs).length ≤ l.length := Nat.le_trans (List.dropWhile_sublist _).length_le (trimR_le l cs)
theorem trimL_le (l : List UInt8) : (trimL l).length ≤ l.length := trimS_le l wsp
theorem tab_ok : tabE.all (fun x => decide (x.2.2.length ≤ 1000) && x.2.2.all (fun b => decide (b.toNat < 128)) && decide ((Lib.fields x.2.2).length ≤ 1000)) = true := by decide +kernel
set_option maxRecDepth 100000 in
set_option maxHeartbeats 4000000 in
theorem parse_any [Inhabited TbBox] (n v : List UInt8) (hn : n.length ≤ 100000) (hv : v.length ≤ 100000) (w : World) (E : Env w) :
    Calls Tryz.prog 53 #[.string (S n), .string (S v)] w fun e w' => e = .returned (.tuple #[.agg (parseM n v).1.cells, .int .i64 (parseM n v).2]) ∧ Below w.heap.size w w' := by
  have hlo := fun w => lower_any v hv w
  have hll : (lowL v).length ≤ 100000 := by unfold lowL; simpa using hv
  have htr := fun w => trim_any (lowL v) w hll
  have hul : (trimL (lowL v)).length ≤ 100000 := Nat.le_trans (trimL_le _) hll
  unfold parseM
  obtain ⟨u, hu⟩ : ∃ u, trimL (lowL v) = u := ⟨_, rfl⟩
  rw [hu] at htr hul ⊢
  obtain ⟨lo, hlo'⟩ : ∃ u, lowL v = u := ⟨_, rfl⟩
  rw [hlo'] at hlo htr
  obtain ⟨tb, htb⟩ : ∃ t, tabE = t := ⟨_, rfl⟩
  have htn : tb.length = 37 := by rw [← htb]; rfl
  rw [htb]
  obtain ⟨⟨vv, vt⟩, hres⟩ : ∃ m, findM n u tb = m := ⟨_, rfl⟩
  rw [hres]
  have HV := Lib.hid hres
  clear hres
  have HAM := Lib.hid (fun (x : List UInt8 × Int × List UInt8) (k : Nat) (hx : tb[k]? = some x) (w : World) (E : Env w) => by
    have hm : x ∈ tabE := by rw [htb]; exact List.mem_of_getElem? hx
    have h := List.all_eq_true.1 tab_ok x hm
    simp only [Bool.and_eq_true, decide_eq_true_eq] at h
    exact among_any u x.2.2 h.1.1 h.1.2 h.2 w E)
  have HINH := Lib.hid (fun (w : World) (E : Env w) => among_any u inhL (by decide) (by decide) (by decide +kernel) w E)
  have HPA := Lib.hid (fun (w : World) (E : Env w) => paint_any u hul w E)
  have HME := Lib.hid (fun (T : Int) (w : World) => measure_any T u hul w)
  have HTB := Lib.hid htb
  have HTN := Lib.hid htn
  have HLO := Lib.hid hlo
  have HTR := Lib.hid htr
  have H := Lib.hid ((St.start w (Below.refl _ w)).new #[.int .i64 0, .int .i64 0, .string ⟨#[]⟩] 68)
  have HE := Lib.hid E
  clear hlo htr hll hu hlo' E htb htn hul
  go_enter Tryz.func53, Tryz.ntmps53
  go_wp2_with (first
    | (go_at_call 39; refine (HLO.out _).mono ?_; rintro e w1 ⟨rfl, hb1⟩; have H1 := Lib.hid (H.out.of_below hb1); clear hb1)
    | (go_at_call 38; refine (HTR.out _).mono ?_; rintro e w2 ⟨rfl, hb2⟩; have H2 := Lib.hid (H1.out.of_below hb2); clear hb2))
  refine wp_load_mid 50 (.global 0) rfl 0 0 rfl tabC _ (fun j v h => by rw [Nat.zero_add]; exact (HE.out.below H2.out.bel).tab j v h) Tryz.underlying50 rfl (by kernel_rfl) ?_
  obtain ⟨TT, hTT⟩ : ∃ T, tabC.toArray = T := ⟨_, rfl⟩
  rw [hTT]
  have HTT := Lib.hid hTT
  clear hTT
  go_wp2_with fail
  have hTI : ∀ (k : Nat) (x : List UInt8 × Int × List UInt8), tb[k]? = some x → ∀ w, (Instr.index 50 (.agg TT) (.int .i64 (k : Nat))).run Tryz.prog w = .ok (.agg #[.string (S x.1), .int .i64 x.2.1, .string (S x.2.2)]) w := by
    intro k x hx w
    rw [← HTT.out]
    exact tab_index w k x (by rw [HTB.out]; exact hx)
  have HTI := Lib.hid hTI
  clear hTI HTT HLO HTR H H1 HTB
  go_loopg [16, 7] 37 (fun g v v7 wr => ∃ k : Nat, g = 37 - k ∧ k ≤ 37 ∧ v = .int .i64 (k : Int) ∧ findM n u tb = findM n u (tb.drop k) ∧ St w wr [As.cells w.heap.size #[.int .i64 0, .int .i64 0, .string ⟨#[]⟩] 68])
  case atStart => exact ⟨0, rfl, Nat.zero_le _, rfl, rfl, H2.out⟩
  case round =>
    obtain ⟨k, hg, hk, rfl, hfd, hS⟩ := hrel
    have HG := Lib.hid hg
    have HFD := Lib.hid hfd
    have HS := Lib.hid hS
    clear hg hfd hS
    by_cases hkn : k < 37
    · have htn := HTN.out
      obtain ⟨x, hx⟩ : ∃ x, tb[k]? = some x := ⟨_, List.getElem?_eq_getElem (by omega)⟩
      have hix := HTI.out k x hx
      have hkI : (k : Int) < 37 := by omega
      have g1 := wrapS (a := (k : Int) + 1) (by omega) (by omega)
      have HX := Lib.hid hx
      clear htn hx
      have hdr : tb.drop k = x :: tb.drop (k + 1) := by
        obtain ⟨l1, e1⟩ := List.getElem?_eq_some_iff.1 HX.out
        rw [List.drop_eq_getElem_cons l1, e1]
      by_cases hxn : x.1 = n
      · subst hxn
        have hfd := HFD.out
        rw [hdr] at hfd
        simp only [findM, if_true] at hfd
        have hrow := HV.out.symm.trans hfd
        have HA := Lib.hid (HAM.out x k HX.out)
        clear hfd hdr HAM HV
        have hE : ∀ w', Below w.heap.size w w' → Env w' := fun w' hb => HE.out.below hb
        have HEE := Lib.hid hE
        have HB2 := Lib.hid (HS.out.of_below ((Below.refl _ _).alloc (Nat.le_refl _) (Obj.cells #[.string (S x.1), .int .i64 x.2.1, .string (S x.2.2)] 49)))
        clear hE
        cases ha : amongL u x.2.2 with
        | true =>
          rw [ha] at HA
          unfold rowM at hrow
          rw [if_pos (Or.inl ha)] at hrow
          obtain ⟨rfl, rfl⟩ := Prod.mk.inj hrow
          clear hrow
          go_wp2_with (go_at_call 69; refine (HA.out _ (HEE.out _ HB2.out.bel)).mono ?_; rintro e w3 ⟨rfl, hb3⟩; have H3 := Lib.hid (HB2.out.of_below hb3); have d0 := H3.out.cell 0; have d1 := H3.out.cell 1; have d2 := H3.out.cell 2; have f0 := H3.out.free 0; have f1 := H3.out.free 1; have f2 := H3.out.free 2; have hlt := H3.out.blk.1.lt; simp at d0 d1 d2)
          have H9 := Lib.hid (((H3.out.set 0 (.int .i64 1)).set 1 (.int .i64 0)).set 2 (.string (S u)))
          simp only [List.setIfInBounds_toArray, List.set_cons_zero, List.set_cons_succ] at H9
          obtain ⟨w9, e9⟩ : ∃ w9, ((w3.setCell ⟨w.heap.size, 0, none⟩ (.int .i64 1)).setCell ⟨w.heap.size, 1, none⟩ (.int .i64 0)).setCell ⟨w.heap.size, 2, none⟩ (.string (S u)) = w9 := ⟨_, rfl⟩
          rw [e9] at H9
          rw [e9]
          have z0 := H9.out.cell 0
          have z1 := H9.out.cell 1
          have z2 := H9.out.cell 2
          simp at z0 z1 z2
          refine bodyPost_ret (v := .tuple #[.agg #[.int .i64 1, .int .i64 0, .string (S u)], .int .i64 0]) (by simp [results, Tryz.results53, go_sem, z0, z1, z2]) rfl ⟨by simp [Va.cells], H9.out.bel⟩
        | false =>
          rw [ha] at HA
          unfold rowM at hrow
          have HB3 := Lib.hid (HS.out.new #[.string (S x.1), .int .i64 x.2.1, .string (S x.2.2)] 49)
          cases ha2 : amongL u inhL with
          | true =>
            have HI := Lib.hid HINH.out
            rw [ha2] at HI
            rw [if_pos (Or.inr ha2)] at hrow
            obtain ⟨rfl, rfl⟩ := Prod.mk.inj hrow
            clear hrow
            go_wp2_with (first
              | (go_at_call 69; refine (HA.out _ (HEE.out _ HB2.out.bel)).mono ?_; rintro e w3 ⟨rfl, hb3⟩; have H3 := Lib.hid (HB2.out.of_below hb3); clear hb3)
              | (go_at_call 69; refine (HI.out _ (HEE.out _ H3.out.bel)).mono ?_; rintro e w4 ⟨rfl, hb4⟩; have H4 := Lib.hid (H3.out.of_below hb4); clear hb4; have d0 := H4.out.cell 0; have d1 := H4.out.cell 1; have d2 := H4.out.cell 2; have f0 := H4.out.free 0; have f1 := H4.out.free 1; have f2 := H4.out.free 2; have hlt := H4.out.blk.1.lt; simp at d0 d1 d2))
            have H9 := Lib.hid ((((H4.out).set 0 (.int .i64 1)).set 1 (.int .i64 0)).set 2 (.string (S u)))
            simp only [List.setIfInBounds_toArray, List.set_cons_zero, List.set_cons_succ] at H9
            obtain ⟨w9, e9⟩ : ∃ w9, ((w4.setCell ⟨w.heap.size, 0, none⟩ (.int .i64 1)).setCell ⟨w.heap.size, 1, none⟩ (.int .i64 0)).setCell ⟨w.heap.size, 2, none⟩ (.string (S u)) = w9 := ⟨_, rfl⟩
            rw [e9] at H9
            rw [e9]
            have z0 := H9.out.cell 0
            have z1 := H9.out.cell 1
            have z2 := H9.out.cell 2
            simp at z0 z1 z2
            refine bodyPost_ret (v := .tuple #[.agg #[.int .i64 1, .int .i64 0, .string (S u)], .int .i64 0]) (by simp [results, Tryz.results53, go_sem, z0, z1, z2]) rfl ⟨by simp [Va.cells], H9.out.bel⟩
          | false =>
            rw [if_neg (by simp [ha, ha2])] at hrow
            have HI := Lib.hid HINH.out
            rw [ha2] at HI
            have hp := HPA.out
            obtain ⟨⟨⟨pk, pn, pw⟩, pb⟩, hpm⟩ : ∃ p, paintM u = p := ⟨_, rfl⟩
            rw [hpm] at hp hrow
            simp only [Va.cells] at hp
            have HP := Lib.hid hp
            have hme := HME.out x.2.1
            obtain ⟨⟨⟨mk, mn, mw⟩, mb⟩, hmm⟩ : ∃ p, measM x.2.1 u = p := ⟨_, rfl⟩
            rw [hmm] at hme hrow
            simp only [Va.cells] at hme
            have HM := Lib.hid hme
            obtain ⟨T, hT⟩ : ∃ T, x.2.1 = T := ⟨_, rfl⟩
            unfold bit at hrow
            obtain ⟨a1, hA1⟩ : ∃ a, bits .and .i64 x.2.1 1 = a := ⟨_, rfl⟩
            rw [hA1] at hrow
            clear hp hme hpm hmm hT
            cases pb with
            | true =>
              by_cases h1 : a1 = 0
              · subst h1
                cases mb with
                | true =>
                  have q : (vv, vt) = ((⟨mk, mn, mw⟩ : Va), (0 : Int)) := by rw [hrow]; simp []
                  obtain ⟨rfl, rfl⟩ := Prod.mk.inj q
                  clear q hrow
                  go_wp2_with (first
                    | (go_at_call 69; refine (HA.out _ (HEE.out _ HB2.out.bel)).mono ?_; rintro e w3 ⟨rfl, hb3⟩; have H3 := Lib.hid (HB3.out.of_below hb3); clear hb3)
                    | (go_at_call 69; refine (HI.out _ (HEE.out _ H3.out.bel)).mono ?_; rintro e w4 ⟨rfl, hb4⟩; have H4 := Lib.hid (H3.out.of_below hb4); clear hb4)
                    | (go_at_call 81; refine (HP.out _ (HEE.out _ H4.out.bel)).mono ?_; rintro e w5 ⟨rfl, hb5⟩; have H5 := Lib.hid (H4.out.of_below hb5); clear hb5; have r1 := H5.out.cell 1; have hlr := H5.out.blk.1.lt; have d0 := H5.out.swap.cell 0; have d1 := H5.out.swap.cell 1; have d2 := H5.out.swap.cell 2; have f0 := H5.out.swap.free 0; have f1 := H5.out.swap.free 1; have f2 := H5.out.swap.free 2; have hlt := H5.out.swap.blk.1.lt; simp at d0 d1 d2 r1)
                    | (go_at_call 82; clear r1 hlr d0 d1 d2 f0 f1 f2 hlt; refine (HM.out _).mono ?_; rintro e w6 ⟨rfl, hb6⟩; have H6 := Lib.hid ((H5.out.alloc (.cells #[.int .i64 pk, .int .i64 pn, .string (S pw)] 68)).of_below hb6); clear hb6; have d0 := H6.out.swap.cell 0; have d1 := H6.out.swap.cell 1; have d2 := H6.out.swap.cell 2; have f0 := H6.out.swap.free 0; have f1 := H6.out.swap.free 1; have f2 := H6.out.swap.free 2; have hlt := H6.out.swap.blk.1.lt; simp at d0 d1 d2))
                  have H9 := Lib.hid (((((H6.out.swap).set 0 (.int .i64 mk)).set 1 (.int .i64 mn)).set 2 (.string (S mw))).alloc (.cells #[.int .i64 mk, .int .i64 mn, .string (S mw)] 68))
                  simp only [List.setIfInBounds_toArray, List.set_cons_zero, List.set_cons_succ] at H9
                  obtain ⟨w9, e9⟩ : ∃ w9, (((w6.setCell ⟨w.heap.size, 0, none⟩ (.int .i64 mk)).setCell ⟨w.heap.size, 1, none⟩ (.int .i64 mn)).setCell ⟨w.heap.size, 2, none⟩ (.string (S mw))).alloc (.cells #[.int .i64 mk, .int .i64 mn, .string (S mw)] 68) = w9 := ⟨_, rfl⟩
                  rw [e9] at H9
                  rw [e9]
                  have z0 := H9.out.cell 0
                  have z1 := H9.out.cell 1
                  have z2 := H9.out.cell 2
                  simp at z0 z1 z2
                  refine bodyPost_ret (v := .tuple #[.agg #[.int .i64 mk, .int .i64 mn, .string (S mw)], .int .i64 0]) (by simp [results, Tryz.results53, go_sem, z0, z1, z2]) rfl ⟨by simp [Va.cells], H9.out.bel⟩

                | false =>
                  have q : (vv, vt) = ((⟨0, 0, []⟩ : Va), (4 : Int)) := by rw [hrow]; simp []
                  obtain ⟨rfl, rfl⟩ := Prod.mk.inj q
                  clear q hrow
                  go_wp2_with (first
                    | (go_at_call 69; refine (HA.out _ (HEE.out _ HB2.out.bel)).mono ?_; rintro e w3 ⟨rfl, hb3⟩; have H3 := Lib.hid (HB3.out.of_below hb3); clear hb3)
                    | (go_at_call 69; refine (HI.out _ (HEE.out _ H3.out.bel)).mono ?_; rintro e w4 ⟨rfl, hb4⟩; have H4 := Lib.hid (H3.out.of_below hb4); clear hb4)
                    | (go_at_call 81; refine (HP.out _ (HEE.out _ H4.out.bel)).mono ?_; rintro e w5 ⟨rfl, hb5⟩; have H5 := Lib.hid (H4.out.of_below hb5); clear hb5; have r1 := H5.out.cell 1; have hlr := H5.out.blk.1.lt; have d0 := H5.out.swap.cell 0; have d1 := H5.out.swap.cell 1; have d2 := H5.out.swap.cell 2; have f0 := H5.out.swap.free 0; have f1 := H5.out.swap.free 1; have f2 := H5.out.swap.free 2; have hlt := H5.out.swap.blk.1.lt; simp at d0 d1 d2 r1)
                    | (go_at_call 82; clear r1 hlr d0 d1 d2 f0 f1 f2 hlt; refine (HM.out _).mono ?_; rintro e w6 ⟨rfl, hb6⟩; have H6 := Lib.hid ((H5.out.alloc (.cells #[.int .i64 pk, .int .i64 pn, .string (S pw)] 68)).of_below hb6); clear hb6; have d0 := H6.out.swap.cell 0; have d1 := H6.out.swap.cell 1; have d2 := H6.out.swap.cell 2; have f0 := H6.out.swap.free 0; have f1 := H6.out.swap.free 1; have f2 := H6.out.swap.free 2; have hlt := H6.out.swap.blk.1.lt; simp at d0 d1 d2))
                  have H9 := Lib.hid (((((H6.out.swap).set 0 (.int .i64 0)).set 1 (.int .i64 0)).set 2 (.string ⟨#[]⟩)).alloc (.cells #[.int .i64 mk, .int .i64 mn, .string (S mw)] 68))
                  simp only [List.setIfInBounds_toArray, List.set_cons_zero, List.set_cons_succ] at H9
                  obtain ⟨w9, e9⟩ : ∃ w9, (((w6.setCell ⟨w.heap.size, 0, none⟩ (.int .i64 0)).setCell ⟨w.heap.size, 1, none⟩ (.int .i64 0)).setCell ⟨w.heap.size, 2, none⟩ (.string ⟨#[]⟩)).alloc (.cells #[.int .i64 mk, .int .i64 mn, .string (S mw)] 68) = w9 := ⟨_, rfl⟩
                  rw [e9] at H9
                  rw [e9]
                  have z0 := H9.out.cell 0
                  have z1 := H9.out.cell 1
                  have z2 := H9.out.cell 2
                  simp at z0 z1 z2
                  refine bodyPost_ret (v := .tuple #[.agg #[.int .i64 0, .int .i64 0, .string ⟨#[]⟩], .int .i64 4]) (by simp [results, Tryz.results53, go_sem, z0, z1, z2]) rfl ⟨by simp [Va.cells], H9.out.bel⟩

              · have h1b : (a1 == 0) = false := by simpa using h1
                have q : (vv, vt) = ((⟨pk, pn, pw⟩ : Va), (0 : Int)) := by rw [hrow]; simp [h1]
                obtain ⟨rfl, rfl⟩ := Prod.mk.inj q
                clear q hrow
                go_wp2_with (first
                  | (go_at_call 69; refine (HA.out _ (HEE.out _ HB2.out.bel)).mono ?_; rintro e w3 ⟨rfl, hb3⟩; have H3 := Lib.hid (HB3.out.of_below hb3); clear hb3)
                  | (go_at_call 69; refine (HI.out _ (HEE.out _ H3.out.bel)).mono ?_; rintro e w4 ⟨rfl, hb4⟩; have H4 := Lib.hid (H3.out.of_below hb4); clear hb4)
                  | (go_at_call 81; refine (HP.out _ (HEE.out _ H4.out.bel)).mono ?_; rintro e w5 ⟨rfl, hb5⟩; have H5 := Lib.hid (H4.out.of_below hb5); clear hb5; have r1 := H5.out.cell 1; have hlr := H5.out.blk.1.lt; have d0 := H5.out.swap.cell 0; have d1 := H5.out.swap.cell 1; have d2 := H5.out.swap.cell 2; have f0 := H5.out.swap.free 0; have f1 := H5.out.swap.free 1; have f2 := H5.out.swap.free 2; have hlt := H5.out.swap.blk.1.lt; simp at d0 d1 d2 r1))
                have H9 := Lib.hid (((((H5.out.swap).set 0 (.int .i64 pk)).set 1 (.int .i64 pn)).set 2 (.string (S pw))).alloc (.cells #[.int .i64 pk, .int .i64 pn, .string (S pw)] 68))
                simp only [List.setIfInBounds_toArray, List.set_cons_zero, List.set_cons_succ] at H9
                obtain ⟨w9, e9⟩ : ∃ w9, (((w5.setCell ⟨w.heap.size, 0, none⟩ (.int .i64 pk)).setCell ⟨w.heap.size, 1, none⟩ (.int .i64 pn)).setCell ⟨w.heap.size, 2, none⟩ (.string (S pw))).alloc (.cells #[.int .i64 pk, .int .i64 pn, .string (S pw)] 68) = w9 := ⟨_, rfl⟩
                rw [e9] at H9
                rw [e9]
                have z0 := H9.out.cell 0
                have z1 := H9.out.cell 1
                have z2 := H9.out.cell 2
                simp at z0 z1 z2
                refine bodyPost_ret (v := .tuple #[.agg #[.int .i64 pk, .int .i64 pn, .string (S pw)], .int .i64 0]) (by simp [results, Tryz.results53, go_sem, z0, z1, z2]) rfl ⟨by simp [Va.cells], H9.out.bel⟩

            | false =>
              cases mb with
              | true =>
                have q : (vv, vt) = ((⟨mk, mn, mw⟩ : Va), (0 : Int)) := by rw [hrow]; simp []
                obtain ⟨rfl, rfl⟩ := Prod.mk.inj q
                clear q hrow
                go_wp2_with (first
                  | (go_at_call 69; refine (HA.out _ (HEE.out _ HB2.out.bel)).mono ?_; rintro e w3 ⟨rfl, hb3⟩; have H3 := Lib.hid (HB3.out.of_below hb3); clear hb3)
                  | (go_at_call 69; refine (HI.out _ (HEE.out _ H3.out.bel)).mono ?_; rintro e w4 ⟨rfl, hb4⟩; have H4 := Lib.hid (H3.out.of_below hb4); clear hb4)
                  | (go_at_call 81; refine (HP.out _ (HEE.out _ H4.out.bel)).mono ?_; rintro e w5 ⟨rfl, hb5⟩; have H5 := Lib.hid (H4.out.of_below hb5); clear hb5; have r1 := H5.out.cell 1; have hlr := H5.out.blk.1.lt; have d0 := H5.out.swap.cell 0; have d1 := H5.out.swap.cell 1; have d2 := H5.out.swap.cell 2; have f0 := H5.out.swap.free 0; have f1 := H5.out.swap.free 1; have f2 := H5.out.swap.free 2; have hlt := H5.out.swap.blk.1.lt; simp at d0 d1 d2 r1)
                  | (go_at_call 82; clear r1 hlr d0 d1 d2 f0 f1 f2 hlt; refine (HM.out _).mono ?_; rintro e w6 ⟨rfl, hb6⟩; have H6 := Lib.hid ((H5.out.alloc (.cells #[.int .i64 pk, .int .i64 pn, .string (S pw)] 68)).of_below hb6); clear hb6; have d0 := H6.out.swap.cell 0; have d1 := H6.out.swap.cell 1; have d2 := H6.out.swap.cell 2; have f0 := H6.out.swap.free 0; have f1 := H6.out.swap.free 1; have f2 := H6.out.swap.free 2; have hlt := H6.out.swap.blk.1.lt; simp at d0 d1 d2))
                have H9 := Lib.hid (((((H6.out.swap).set 0 (.int .i64 mk)).set 1 (.int .i64 mn)).set 2 (.string (S mw))).alloc (.cells #[.int .i64 mk, .int .i64 mn, .string (S mw)] 68))
                simp only [List.setIfInBounds_toArray, List.set_cons_zero, List.set_cons_succ] at H9
                obtain ⟨w9, e9⟩ : ∃ w9, (((w6.setCell ⟨w.heap.size, 0, none⟩ (.int .i64 mk)).setCell ⟨w.heap.size, 1, none⟩ (.int .i64 mn)).setCell ⟨w.heap.size, 2, none⟩ (.string (S mw))).alloc (.cells #[.int .i64 mk, .int .i64 mn, .string (S mw)] 68) = w9 := ⟨_, rfl⟩
                rw [e9] at H9
                rw [e9]
                have z0 := H9.out.cell 0
                have z1 := H9.out.cell 1
                have z2 := H9.out.cell 2
                simp at z0 z1 z2
                refine bodyPost_ret (v := .tuple #[.agg #[.int .i64 mk, .int .i64 mn, .string (S mw)], .int .i64 0]) (by simp [results, Tryz.results53, go_sem, z0, z1, z2]) rfl ⟨by simp [Va.cells], H9.out.bel⟩

              | false =>
                have q : (vv, vt) = ((⟨0, 0, []⟩ : Va), (4 : Int)) := by rw [hrow]; simp []
                obtain ⟨rfl, rfl⟩ := Prod.mk.inj q
                clear q hrow
                go_wp2_with (first
                  | (go_at_call 69; refine (HA.out _ (HEE.out _ HB2.out.bel)).mono ?_; rintro e w3 ⟨rfl, hb3⟩; have H3 := Lib.hid (HB3.out.of_below hb3); clear hb3)
                  | (go_at_call 69; refine (HI.out _ (HEE.out _ H3.out.bel)).mono ?_; rintro e w4 ⟨rfl, hb4⟩; have H4 := Lib.hid (H3.out.of_below hb4); clear hb4)
                  | (go_at_call 81; refine (HP.out _ (HEE.out _ H4.out.bel)).mono ?_; rintro e w5 ⟨rfl, hb5⟩; have H5 := Lib.hid (H4.out.of_below hb5); clear hb5; have r1 := H5.out.cell 1; have hlr := H5.out.blk.1.lt; have d0 := H5.out.swap.cell 0; have d1 := H5.out.swap.cell 1; have d2 := H5.out.swap.cell 2; have f0 := H5.out.swap.free 0; have f1 := H5.out.swap.free 1; have f2 := H5.out.swap.free 2; have hlt := H5.out.swap.blk.1.lt; simp at d0 d1 d2 r1)
                  | (go_at_call 82; clear r1 hlr d0 d1 d2 f0 f1 f2 hlt; refine (HM.out _).mono ?_; rintro e w6 ⟨rfl, hb6⟩; have H6 := Lib.hid ((H5.out.alloc (.cells #[.int .i64 pk, .int .i64 pn, .string (S pw)] 68)).of_below hb6); clear hb6; have d0 := H6.out.swap.cell 0; have d1 := H6.out.swap.cell 1; have d2 := H6.out.swap.cell 2; have f0 := H6.out.swap.free 0; have f1 := H6.out.swap.free 1; have f2 := H6.out.swap.free 2; have hlt := H6.out.swap.blk.1.lt; simp at d0 d1 d2))
                have H9 := Lib.hid (((((H6.out.swap).set 0 (.int .i64 0)).set 1 (.int .i64 0)).set 2 (.string ⟨#[]⟩)).alloc (.cells #[.int .i64 mk, .int .i64 mn, .string (S mw)] 68))
                simp only [List.setIfInBounds_toArray, List.set_cons_zero, List.set_cons_succ] at H9
                obtain ⟨w9, e9⟩ : ∃ w9, (((w6.setCell ⟨w.heap.size, 0, none⟩ (.int .i64 0)).setCell ⟨w.heap.size, 1, none⟩ (.int .i64 0)).setCell ⟨w.heap.size, 2, none⟩ (.string ⟨#[]⟩)).alloc (.cells #[.int .i64 mk, .int .i64 mn, .string (S mw)] 68) = w9 := ⟨_, rfl⟩
                rw [e9] at H9
                rw [e9]
                have z0 := H9.out.cell 0
                have z1 := H9.out.cell 1
                have z2 := H9.out.cell 2
                simp at z0 z1 z2
                refine bodyPost_ret (v := .tuple #[.agg #[.int .i64 0, .int .i64 0, .string ⟨#[]⟩], .int .i64 4]) (by simp [results, Tryz.results53, go_sem, z0, z1, z2]) rfl ⟨by simp [Va.cells], H9.out.bel⟩

      · have hxb := l_beq hxn
        have hfd := HFD.out
        rw [hdr] at hfd
        simp only [findM, if_neg hxn] at hfd
        have HFD2 := Lib.hid hfd
        clear hfd hdr
        go_wp2_with fail
        go_roundg (37 - (k + 1))
        case measure => have := HG.out; omega
        case rel => exact ⟨k + 1, rfl, by omega, by rw [Int.natCast_add]; rfl, HFD2.out, HS.out.of_below ((Below.refl _ _).alloc (Nat.le_refl _) _)⟩
    · have hke : k = 37 := by omega
      subst hke
      have hfd := HFD.out
      rw [List.drop_eq_nil_of_le (Nat.le_of_eq HTN.out)] at hfd
      have q : (vv, vt) = ((⟨0, 0, []⟩ : Va), (6 : Int)) := HV.out.symm.trans hfd
      obtain ⟨rfl, rfl⟩ := Prod.mk.inj q
      have d0 := HS.out.cell 0
      have d1 := HS.out.cell 1
      have d2 := HS.out.cell 2
      have f0 := HS.out.free 0
      have f1 := HS.out.free 1
      have f2 := HS.out.free 2
      have hlt := HS.out.blk.1.lt
      simp at d0 d1 d2
      clear q hfd hk HV
      go_wp2_with fail
      have H9 := Lib.hid (((HS.out.set 0 (.int .i64 0)).set 1 (.int .i64 0)).set 2 (.string ⟨#[]⟩))
      simp only [List.setIfInBounds_toArray, List.set_cons_zero, List.set_cons_succ] at H9
      obtain ⟨w9, e9⟩ : ∃ w9, ((wr.setCell ⟨w.heap.size, 0, none⟩ (.int .i64 0)).setCell ⟨w.heap.size, 1, none⟩ (.int .i64 0)).setCell ⟨w.heap.size, 2, none⟩ (.string ⟨#[]⟩) = w9 := ⟨_, rfl⟩
      rw [e9] at H9
      rw [e9]
      have z0 := H9.out.cell 0
      have z1 := H9.out.cell 1
      have z2 := H9.out.cell 2
      simp at z0 z1 z2
      refine bodyPost_ret (v := .tuple #[.agg #[.int .i64 0, .int .i64 0, .string ⟨#[]⟩], .int .i64 6]) (by simp [results, Tryz.results53, go_sem, z0, z1, z2]) rfl ⟨by simp [Va.cells], H9.out.bel⟩
end Go.Proofs.YtldembadjgibjaaGreatDoor
