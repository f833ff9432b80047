/-
  Cascade: decimal.
-/
import Derived.Test.YtldembadjgibjaaGreatDoorAb
import Derived.Lib.SmallJoins
set_option linter.unusedVariables false
set_option linter.unusedSimpArgs false
namespace Go.Proofs.YtldembadjgibjaaGreatDoor
open Go.RowKit Go.K Go.PlainAid Go.Lib

theorem wrapS {a : Int} (h1 : -(2 ^ 62) ≤ a) (h2 : a ≤ 2 ^ 62) : IntKind.i64.wrap a = a := by
  simp [IntKind.wrap, IntKind.bits, IntKind.signed, Int.bmod]; omega
def val (l : List UInt8) : Nat := (Lib.decFrom 0 l).getD 0
theorem decFrom_dg : ∀ (l : List UInt8) (acc : Nat), (∀ x ∈ l, dg x = true) → ∃ n, Lib.decFrom acc l = some n
  | [], acc, _ => ⟨acc, rfl⟩
  | b :: r, acc, h => by
    have hb := h b (by simp)
    unfold dg at hb
    simp only [Bool.and_eq_true, decide_eq_true_eq] at hb
    have hd : Lib.digitVal b = some (b.toNat - 48) := by unfold Lib.digitVal; rw [if_pos hb]
    obtain ⟨n, hn⟩ := decFrom_dg r (acc * 10 + (b.toNat - 48)) (fun x hx => h x (by simp [hx]))
    exact ⟨n, by unfold Lib.decFrom; rw [hd]; exact hn⟩
theorem val_dg {l : List UInt8} (h : ∀ x ∈ l, dg x = true) : Lib.decFrom 0 l = some (val l) := by
  obtain ⟨n, hn⟩ := decFrom_dg l 0 h
  unfold val
  rw [hn]; rfl
theorem val_lt {l : List UInt8} (h : ∀ x ∈ l, dg x = true) : val l < 10 ^ l.length := by
  have := Lib.decFrom_lt l 0 _ (val_dg h)
  omega
theorem atoi_val {l : List UInt8} (h : ∀ x ∈ l, dg x = true) (h0 : l ≠ []) : Lib.atoi l = some (val l : Int) := by
  cases l with
  | nil => exact absurd rfl h0
  | cons b r =>
    have hb := h b (by simp)
    unfold dg at hb
    simp only [Bool.and_eq_true, decide_eq_true_eq] at hb
    have n1 : (b == 45) = false := by rw [beq_eq_false_iff_ne]; rintro rfl; exact absurd hb.1 (by decide)
    have n2 : (b == 43) = false := by rw [beq_eq_false_iff_ne]; rintro rfl; exact absurd hb.1 (by decide)
    simp only [Lib.atoi, n1, n2, Bool.false_eq_true, if_false, Lib.decNat, List.isEmpty_cons, val_dg h, Option.map_some]
theorem atoi_any (l : List UInt8) (h : ∀ x ∈ l, dg x = true) (h0 : l ≠ []) (hl : l.length ≤ 18) (w : World) : Calls Tryz.prog 139 #[.string (S l)] w fun e w' => e = .returned (.tuple #[.int .i64 (val l : Nat), .nilIface]) ∧ Below w.heap.size w w' :=
  (Tryz.strconv_Atoi (S l) _ (by rw [S_size]; exact hl) (atoi_val h h0) w).mono fun e w' ⟨h1, t, h2⟩ => ⟨h1, by rw [h2]; exact Go.Joins.below_bytesWorld _ w 5 t (Nat.le_refl _)⟩
theorem take_dg (l : List UInt8) (k : Nat) (h : k ≤ runL l) : ∀ x ∈ l.take k, dg x = true := by
  intro x hx
  obtain ⟨j, hj, rfl⟩ := List.getElem_of_mem hx
  simp at hj
  obtain ⟨y, hy, hd⟩ := runL_dg l (k := j) (by omega)
  rw [List.getElem_take]
  rw [List.getElem?_eq_getElem (by omega)] at hy
  cases hy
  exact hd
def splitSg : List UInt8 → Int × List UInt8
  | 43 :: r => (1, r)
  | 45 :: r => (-1, r)
  | l => (1, l)
def fracM : List UInt8 → Option (Nat × List UInt8)
  | 46 :: r => if runL r = 0 then none else some (val ((r.take (runL r) ++ [48, 48]).take 3), r.drop (runL r))
  | l => some (0, l)
theorem fracM_other {c : UInt8} {r : List UInt8} (h : ¬ c = 46) : fracM (c :: r) = some (0, c :: r) := by
  unfold fracM
  split
  · rename_i q
    simp at q
    exact absurd q.1 h
  · rfl
theorem splitSg_other {c : UInt8} {r : List UInt8} (h : ¬ c = 43) (h2 : ¬ c = 45) : splitSg (c :: r) = (1, c :: r) := by
  unfold splitSg
  split
  · rename_i q
    simp at q
    exact absurd q.1 h
  · rename_i q
    simp at q
    exact absurd q.1 h2
  · rfl
theorem b_ne {c d : UInt8} (h : ¬ c = d) : ¬ (c.toNat : Int) = (d.toNat : Int) := by
  intro e
  exact h (UInt8.toNat_inj.1 (by omega))
def decM (l : List UInt8) : Int × List UInt8 × Bool :=
  if runL (splitSg l).2 < 1 ∨ 7 < runL (splitSg l).2 then (0, [], false) else
  match fracM ((splitSg l).2.drop (runL (splitSg l).2)) with
  | none => (0, [], false)
  | some (f, r) => ((splitSg l).1 * ((val ((splitSg l).2.take (runL (splitSg l).2)) * 1000 + f : Nat) : Int), r, decide (val ((splitSg l).2.take (runL (splitSg l).2)) * 1000 + f ≤ 1048576000))
theorem S_ne {l : List UInt8} {b : UInt8} {r : List UInt8} (h : l = b :: r) : (S l).toList.isEmpty = false := by rw [ByteArray.toList_eq, h]; rfl
theorem fin3 {n n' : Int} {l l' : ByteArray} {b b' : Bool} (h1 : n = n') (h2 : l = l') (h3 : b = b') : Ending.returned (.tuple #[.int .i64 n, .string l, .bool b]) = Ending.returned (.tuple #[.int .i64 n', .string l', .bool b']) := by rw [h1, h2, h3]
theorem S_app (a b : List UInt8) : S a ++ S b = S (a ++ b) := ByteArray.mk_append_mk a b
/-- what stands behind the sign -/
def decT (sg : Int) (l1 : List UInt8) : Int × List UInt8 × Bool :=
  if runL l1 < 1 ∨ 7 < runL l1 then (0, [], false) else
  match fracM (l1.drop (runL l1)) with
  | none => (0, [], false)
  | some (f, r) => (sg * ((val (l1.take (runL l1)) * 1000 + f : Nat) : Int), r, decide (val (l1.take (runL l1)) * 1000 + f ≤ 1048576000))
theorem decM_eq (l : List UInt8) : decM l = decT (splitSg l).1 (splitSg l).2 := rfl
set_option maxRecDepth 100000 in
set_option maxHeartbeats 4000000 in
theorem decimal_any (l : List UInt8) (hl : l.length ≤ 100000) (w : World) : Calls Tryz.prog 116 #[.string (S l)] w fun e w' => e = .returned (.tuple #[.int .i64 (decM l).1, .string (S (decM l).2.1), .bool (decM l).2.2]) ∧ Below w.heap.size w w' := by
  rw [decM_eq]
  have hgb := get_bt (S l)
  have hsz := S_size l
  cases l with
  | nil =>
    have e0 : (S []).toList.isEmpty = true := by rw [ByteArray.toList_eq]; rfl
    have hr := run_any [] (by simp)
    have h0 : runL [] = 0 := rfl
    go_enter Tryz.func116, Tryz.ntmps116
    go_wp2_with (go_at_call 138; refine (hr _).mono ?_; rintro e w1 ⟨rfl, hw'⟩; rw [hw']; clear hw')
    exact bodyPost_ret (results_tmp3 Tryz.results116 _ _ _) rfl ⟨rfl, Below.refl _ _⟩
  | cons b r =>
    have e0 := S_ne (l := b :: r) rfl
    have hb : bt (S (b :: r)) 0 = (b.toNat : Int) := bt_S _ 0 b rfl
    have hx : (S (b :: r)).extract 1 (r.length + 1) = S r := by rw [S_ext]; simp
    have hn1 : (1 : Int) ≤ ((S (b :: r)).size : Int) := by rw [hsz]; simp; omega
    have hn0 : (0 : Int) < ((S (b :: r)).size : Int) := by omega
    simp only [List.length_cons] at hl
    by_cases h43 : b = 43
    · subst h43
      have hb : bt (S (43 :: r)) 0 = 43 := hb
      obtain ⟨⟨nr, lr, ok⟩, ht⟩ : ∃ T, decT 1 r = T := ⟨_, rfl⟩
      show Calls Tryz.prog 116 _ w fun e w' => e = .returned (.tuple #[.int .i64 (decT 1 r).1, .string (S (decT 1 r).2.1), .bool (decT 1 r).2.2]) ∧ Below w.heap.size w w'
      rw [ht]
      have HT := Lib.hid ht
      clear ht
      go_enter Tryz.func116, Tryz.ntmps116
      go_upto_region 6 with fail
      clear e0 hb hx hn1 hn0 hgb hsz
      have hr1 := run_any r (by omega)
      obtain ⟨k, hk⟩ : ∃ k, runL r = k := ⟨_, rfl⟩
      have hkl : k ≤ (r).length := by rw [← hk]; exact runL_le _
      have htd := take_dg r k (by omega)
      simp only [hk] at hr1
      have HK := Lib.hid hk
      clear hk
      by_cases hk1 : k < 1
      · have hkI : (k : Int) < 1 := by omega
        have hkD : decide ((k : Int) < 1) = true := decide_eq_true hkI
        go_wp2_with (go_at_call 138; refine (hr1 _).mono ?_; rintro e w1 ⟨rfl, hw'⟩; rw [hw']; clear hw')
        have q := HT.out
        unfold decT at q
        rw [HK.out, if_pos (.inl hk1)] at q
        cases q
        exact bodyPost_ret (results_tmp3 Tryz.results116 _ _ _) rfl ⟨rfl, Below.refl _ _⟩
      · have hkI : ¬ (k : Int) < 1 := by omega
        have hkD : decide ((k : Int) < 1) = false := decide_eq_false hkI
        by_cases hk7 : 7 < k
        · have hkJ : (7 : Int) < (k : Int) := by omega
          have hkE : decide ((7 : Int) < (k : Int)) = true := decide_eq_true hkJ
          go_wp2_with (go_at_call 138; refine (hr1 _).mono ?_; rintro e w1 ⟨rfl, hw'⟩; rw [hw']; clear hw')
          have q := HT.out
          unfold decT at q
          rw [HK.out, if_pos (.inr hk7)] at q
          cases q
          exact bodyPost_ret (results_tmp3 Tryz.results116 _ _ _) rfl ⟨rfl, Below.refl _ _⟩
        · have hkJ : ¬ (7 : Int) < (k : Int) := by omega
          have hkE : decide ((7 : Int) < (k : Int)) = false := decide_eq_false hkJ
          have hq := HT.out
          unfold decT at hq
          rw [HK.out, if_neg (by omega)] at hq
          have hvl := val_lt htd
          have hat := fun w => atoi_any (r.take k) htd (by intro e; have q : (r.take k).length = 0 := (by rw [e]; rfl); rw [List.length_take] at q; omega) (by rw [List.length_take]; omega) w
          have hv7 : val (r.take k) < 10000000 := by
            refine Nat.lt_of_lt_of_le hvl ?_
            rw [List.length_take, Nat.min_eq_left hkl]
            exact Nat.pow_le_pow_right (n := 10) (by decide) (show k ≤ 7 by omega)
          obtain ⟨v, hv⟩ : ∃ v, val (r.take k) = v := ⟨_, rfl⟩
          have x1 : (S r).extract 0 k = S (r.take k) := by rw [S_ext]; simp
          have x2 : (S r).extract k (r).length = S (r.drop k) := by rw [S_ext, List.take_of_length_le (by simp)]
          have hkL : (k : Int) ≤ ((r).length : Int) := by omega
          simp only [hv] at hat hv7 hq
          obtain ⟨l2, hl2⟩ : ∃ l2, r.drop k = l2 := ⟨_, rfl⟩
          rw [hl2] at x2 hq
          have HQ := Lib.hid hq
          have hl2l : l2.length ≤ 100000 := by rw [← hl2, List.length_drop]; omega
          clear hvl htd hv hl2 hq
          have hw1 := wrapS (a := (v : Int) * 1000) (by omega) (by omega)
          go_upto_region 12 with (first | (go_at_call 138; refine (hr1 _).mono ?_; rintro e w1 ⟨rfl, hw'⟩; rw [hw']; clear hw') | (go_at_call 139; refine (hat _).mono ?_; rintro e w2 ⟨rfl, hb2⟩; have HB2 := Lib.hid hb2; clear hb2 hat))
          clear hr1 hkI hkD hkJ hkE x1 x2 hkL hw1
          have hw2 := wrapS (a := 1 * ((v : Int) * 1000)) (by omega) (by omega)
          have hgb := get_bt (S l2)
          have hsz2 := S_size l2
          cases l2 with
          | nil =>
            have e0 : (S []).toList.isEmpty = true := by rw [ByteArray.toList_eq]; rfl
            go_wp2_with fail
            all_goals
              have q := HQ.out
              simp only [fracM, Prod.mk.injEq] at q
              obtain ⟨rfl, rfl, rfl⟩ := q
              exact bodyPost_ret (results_tmp3 Tryz.results116 _ _ _) rfl ⟨fin3 (by push_cast; omega) rfl (decide_eq_decide.2 (by omega)), HB2.out⟩
          | cons c r2 =>
            have e0 := S_ne (l := c :: r2) rfl
            have hc : bt (S (c :: r2)) 0 = (c.toNat : Int) := bt_S _ 0 c rfl
            have hn0 : (0 : Int) < ((S (c :: r2)).size : Int) := by rw [hsz2]; simp <;> omega
            have hn1 : (1 : Int) ≤ ((S (c :: r2)).size : Int) := by omega
            simp only [List.length_cons] at hl2l
            by_cases h46 : c = 46
            · subst h46
              have hc : bt (S (46 :: r2)) 0 = 46 := hc
              have hx : (S (46 :: r2)).extract 1 (r2.length + 1) = S r2 := by rw [S_ext]; simp
              have hr2 := run_any r2 (by omega)
              obtain ⟨j, hj⟩ : ∃ j, runL r2 = j := ⟨_, rfl⟩
              have hjl : j ≤ r2.length := by rw [← hj]; exact runL_le _
              have htd := take_dg r2 j (by omega)
              simp only [hj] at hr2
              have HJ := Lib.hid hj
              clear hj
              by_cases hj0 : j = 0
              · subst hj0
                go_wp2_with (go_at_call 138; refine (hr2 _).mono ?_; rintro e w1 ⟨rfl, hw'⟩; rw [hw']; clear hw')
                have q := HQ.out
                simp only [fracM, HJ.out, if_true, Prod.mk.injEq] at q
                obtain ⟨rfl, rfl, rfl⟩ := q
                exact bodyPost_ret (results_tmp3 Tryz.results116 _ _ _) rfl ⟨rfl, HB2.out⟩
              · have hjI : ¬ (j : Int) = 0 := by omega
                have hjD : ((j : Int) == 0) = false := by simpa using hjI
                have hq := HQ.out
                simp only [fracM, HJ.out, if_neg hj0] at hq
                have HQ2 := Lib.hid hq
                have hd3 : ∀ x ∈ (r2.take j ++ [48, 48]).take 3, dg x = true := by
                  intro x hx
                  rcases List.mem_append.1 (List.mem_of_mem_take hx) with h | h
                  · exact htd x h
                  · simp at h; subst h; decide
                have hat2 := fun w => atoi_any ((r2.take j ++ [48, 48]).take 3) hd3 (by intro e; have q : ((r2.take j ++ [48, 48]).take 3).length = 0 := (by rw [e]; rfl); simp at q) (by rw [List.length_take]; omega) w
                have hv3 := val_lt hd3
                have hv4 : val ((r2.take j ++ [48, 48]).take 3) < 1000 := Nat.lt_of_lt_of_le hv3 (by have := Nat.pow_le_pow_right (n := 10) (by decide) (show ((r2.take j ++ [48, 48]).take 3).length ≤ 3 by rw [List.length_take]; omega); simpa using this)
                obtain ⟨f, hf⟩ : ∃ f, val ((r2.take j ++ [48, 48]).take 3) = f := ⟨_, rfl⟩
                simp only [hf] at hat2 hv4
                rw [hf] at HQ2
                have hw3 := wrapS (a := 1 + (j : Int)) (by omega) (by omega)
                have hw4 := wrapS (a := (v : Int) * 1000 + (f : Int)) (by omega) (by omega)
                have hw5 := wrapS (a := 1 * ((v : Int) * 1000 + (f : Int))) (by omega) (by omega)
                have x3 : (S (46 :: r2)).extract 1 (1 + j) = S (r2.take j) := by rw [S_ext]; simp
                have x4 : S (r2.take j) ++ S [48, 48] = S (r2.take j ++ [48, 48]) := S_app _ _
                have x5 : (S (r2.take j ++ [48, 48])).extract 0 3 = S ((r2.take j ++ [48, 48]).take 3) := by rw [S_ext]; simp
                have x6 : (S (46 :: r2)).extract (1 + j) (r2.length + 1) = S (r2.drop j) := by rw [S_ext, Nat.add_comm 1 j, List.drop_succ_cons, List.take_of_length_le (by simp)]
                have hb1 : (1 : Int) + (j : Int) ≤ ((S (46 :: r2)).size : Int) := by rw [hsz2]; simp; omega
                have hb3 : (3 : Int) ≤ ((S (r2.take j ++ [48, 48])).size : Int) := by rw [S_size]; simp; omega
                clear hd3 hv3 hf htd hq
                go_upto_region 16 with (go_at_call 138; refine (hr2 _).mono ?_; rintro e w1 ⟨rfl, hw'⟩; rw [hw']; clear hw')
                have hcat : ¬ (S (r2.take j)).size + (S [48, 48]).size > 9223372036854775807 := by rw [S_size, S_size, List.length_take]; simp; omega
                go_upto_region 17 with (go_at_call 139; refine (hat2 _).mono ?_; rintro e w3 ⟨rfl, hb3'⟩; have HB3 := Lib.hid hb3'; clear hb3' hat2)
                go_wp2_with fail
                all_goals
                  have q := HQ2.out
                  simp only [Prod.mk.injEq] at q
                  obtain ⟨rfl, rfl, rfl⟩ := q
                  refine bodyPost_ret (results_tmp3 Tryz.results116 _ _ _) rfl ⟨fin3 (by push_cast; omega) (by first | exact x6 | rfl) (decide_eq_decide.2 (by omega)), ?_⟩
                  exact HB2.out.trans (HB3.out.mono HB2.out.size)
            · have hc46 : ¬ bt (S (c :: r2)) 0 = 46 := by rw [hc]; exact b_ne h46
              clear hc
              have hq := HQ.out
              rw [fracM_other h46] at hq
              have HQ2 := Lib.hid hq
              clear hq
              go_wp2_with fail
              all_goals
                have q := HQ2.out
                simp only [Prod.mk.injEq] at q
                obtain ⟨rfl, rfl, rfl⟩ := q
                exact bodyPost_ret (results_tmp3 Tryz.results116 _ _ _) rfl ⟨fin3 (by push_cast; omega) rfl (decide_eq_decide.2 (by omega)), HB2.out⟩
    · by_cases h45 : b = 45
      · subst h45
        have hb : bt (S (45 :: r)) 0 = 45 := hb
        obtain ⟨⟨nr, lr, ok⟩, ht⟩ : ∃ T, decT (-1) r = T := ⟨_, rfl⟩
        show Calls Tryz.prog 116 _ w fun e w' => e = .returned (.tuple #[.int .i64 (decT (-1) r).1, .string (S (decT (-1) r).2.1), .bool (decT (-1) r).2.2]) ∧ Below w.heap.size w w'
        rw [ht]
        have HT := Lib.hid ht
        clear ht
        go_enter Tryz.func116, Tryz.ntmps116
        go_upto_region 6 with fail
        clear e0 hb hx hn1 hn0 hgb hsz h43
        have hr1 := run_any r (by omega)
        obtain ⟨k, hk⟩ : ∃ k, runL r = k := ⟨_, rfl⟩
        have hkl : k ≤ (r).length := by rw [← hk]; exact runL_le _
        have htd := take_dg r k (by omega)
        simp only [hk] at hr1
        have HK := Lib.hid hk
        clear hk
        by_cases hk1 : k < 1
        · have hkI : (k : Int) < 1 := by omega
          have hkD : decide ((k : Int) < 1) = true := decide_eq_true hkI
          go_wp2_with (go_at_call 138; refine (hr1 _).mono ?_; rintro e w1 ⟨rfl, hw'⟩; rw [hw']; clear hw')
          have q := HT.out
          unfold decT at q
          rw [HK.out, if_pos (.inl hk1)] at q
          cases q
          exact bodyPost_ret (results_tmp3 Tryz.results116 _ _ _) rfl ⟨rfl, Below.refl _ _⟩
        · have hkI : ¬ (k : Int) < 1 := by omega
          have hkD : decide ((k : Int) < 1) = false := decide_eq_false hkI
          by_cases hk7 : 7 < k
          · have hkJ : (7 : Int) < (k : Int) := by omega
            have hkE : decide ((7 : Int) < (k : Int)) = true := decide_eq_true hkJ
            go_wp2_with (go_at_call 138; refine (hr1 _).mono ?_; rintro e w1 ⟨rfl, hw'⟩; rw [hw']; clear hw')
            have q := HT.out
            unfold decT at q
            rw [HK.out, if_pos (.inr hk7)] at q
            cases q
            exact bodyPost_ret (results_tmp3 Tryz.results116 _ _ _) rfl ⟨rfl, Below.refl _ _⟩
          · have hkJ : ¬ (7 : Int) < (k : Int) := by omega
            have hkE : decide ((7 : Int) < (k : Int)) = false := decide_eq_false hkJ
            have hq := HT.out
            unfold decT at hq
            rw [HK.out, if_neg (by omega)] at hq
            have hvl := val_lt htd
            have hat := fun w => atoi_any (r.take k) htd (by intro e; have q : (r.take k).length = 0 := (by rw [e]; rfl); rw [List.length_take] at q; omega) (by rw [List.length_take]; omega) w
            have hv7 : val (r.take k) < 10000000 := by
              refine Nat.lt_of_lt_of_le hvl ?_
              rw [List.length_take, Nat.min_eq_left hkl]
              exact Nat.pow_le_pow_right (n := 10) (by decide) (show k ≤ 7 by omega)
            obtain ⟨v, hv⟩ : ∃ v, val (r.take k) = v := ⟨_, rfl⟩
            have x1 : (S r).extract 0 k = S (r.take k) := by rw [S_ext]; simp
            have x2 : (S r).extract k (r).length = S (r.drop k) := by rw [S_ext, List.take_of_length_le (by simp)]
            have hkL : (k : Int) ≤ ((r).length : Int) := by omega
            simp only [hv] at hat hv7 hq
            obtain ⟨l2, hl2⟩ : ∃ l2, r.drop k = l2 := ⟨_, rfl⟩
            rw [hl2] at x2 hq
            have HQ := Lib.hid hq
            have hl2l : l2.length ≤ 100000 := by rw [← hl2, List.length_drop]; omega
            clear hvl htd hv hl2 hq
            have hw1 := wrapS (a := (v : Int) * 1000) (by omega) (by omega)
            go_upto_region 12 with (first | (go_at_call 138; refine (hr1 _).mono ?_; rintro e w1 ⟨rfl, hw'⟩; rw [hw']; clear hw') | (go_at_call 139; refine (hat _).mono ?_; rintro e w2 ⟨rfl, hb2⟩; have HB2 := Lib.hid hb2; clear hb2 hat))
            clear hr1 hkI hkD hkJ hkE x1 x2 hkL hw1
            have hw2 := wrapS (a := (-1) * ((v : Int) * 1000)) (by omega) (by omega)
            have hgb := get_bt (S l2)
            have hsz2 := S_size l2
            cases l2 with
            | nil =>
              have e0 : (S []).toList.isEmpty = true := by rw [ByteArray.toList_eq]; rfl
              go_wp2_with fail
              all_goals
                have q := HQ.out
                simp only [fracM, Prod.mk.injEq] at q
                obtain ⟨rfl, rfl, rfl⟩ := q
                exact bodyPost_ret (results_tmp3 Tryz.results116 _ _ _) rfl ⟨fin3 (by push_cast; omega) rfl (decide_eq_decide.2 (by omega)), HB2.out⟩
            | cons c r2 =>
              have e0 := S_ne (l := c :: r2) rfl
              have hc : bt (S (c :: r2)) 0 = (c.toNat : Int) := bt_S _ 0 c rfl
              have hn0 : (0 : Int) < ((S (c :: r2)).size : Int) := by rw [hsz2]; simp <;> omega
              have hn1 : (1 : Int) ≤ ((S (c :: r2)).size : Int) := by omega
              simp only [List.length_cons] at hl2l
              by_cases h46 : c = 46
              · subst h46
                have hc : bt (S (46 :: r2)) 0 = 46 := hc
                have hx : (S (46 :: r2)).extract 1 (r2.length + 1) = S r2 := by rw [S_ext]; simp
                have hr2 := run_any r2 (by omega)
                obtain ⟨j, hj⟩ : ∃ j, runL r2 = j := ⟨_, rfl⟩
                have hjl : j ≤ r2.length := by rw [← hj]; exact runL_le _
                have htd := take_dg r2 j (by omega)
                simp only [hj] at hr2
                have HJ := Lib.hid hj
                clear hj
                by_cases hj0 : j = 0
                · subst hj0
                  go_wp2_with (go_at_call 138; refine (hr2 _).mono ?_; rintro e w1 ⟨rfl, hw'⟩; rw [hw']; clear hw')
                  have q := HQ.out
                  simp only [fracM, HJ.out, if_true, Prod.mk.injEq] at q
                  obtain ⟨rfl, rfl, rfl⟩ := q
                  exact bodyPost_ret (results_tmp3 Tryz.results116 _ _ _) rfl ⟨rfl, HB2.out⟩
                · have hjI : ¬ (j : Int) = 0 := by omega
                  have hjD : ((j : Int) == 0) = false := by simpa using hjI
                  have hq := HQ.out
                  simp only [fracM, HJ.out, if_neg hj0] at hq
                  have HQ2 := Lib.hid hq
                  have hd3 : ∀ x ∈ (r2.take j ++ [48, 48]).take 3, dg x = true := by
                    intro x hx
                    rcases List.mem_append.1 (List.mem_of_mem_take hx) with h | h
                    · exact htd x h
                    · simp at h; subst h; decide
                  have hat2 := fun w => atoi_any ((r2.take j ++ [48, 48]).take 3) hd3 (by intro e; have q : ((r2.take j ++ [48, 48]).take 3).length = 0 := (by rw [e]; rfl); simp at q) (by rw [List.length_take]; omega) w
                  have hv3 := val_lt hd3
                  have hv4 : val ((r2.take j ++ [48, 48]).take 3) < 1000 := Nat.lt_of_lt_of_le hv3 (by have := Nat.pow_le_pow_right (n := 10) (by decide) (show ((r2.take j ++ [48, 48]).take 3).length ≤ 3 by rw [List.length_take]; omega); simpa using this)
                  obtain ⟨f, hf⟩ : ∃ f, val ((r2.take j ++ [48, 48]).take 3) = f := ⟨_, rfl⟩
                  simp only [hf] at hat2 hv4
                  rw [hf] at HQ2
                  have hw3 := wrapS (a := 1 + (j : Int)) (by omega) (by omega)
                  have hw4 := wrapS (a := (v : Int) * 1000 + (f : Int)) (by omega) (by omega)
                  have hw5 := wrapS (a := (-1) * ((v : Int) * 1000 + (f : Int))) (by omega) (by omega)
                  have x3 : (S (46 :: r2)).extract 1 (1 + j) = S (r2.take j) := by rw [S_ext]; simp
                  have x4 : S (r2.take j) ++ S [48, 48] = S (r2.take j ++ [48, 48]) := S_app _ _
                  have x5 : (S (r2.take j ++ [48, 48])).extract 0 3 = S ((r2.take j ++ [48, 48]).take 3) := by rw [S_ext]; simp
                  have x6 : (S (46 :: r2)).extract (1 + j) (r2.length + 1) = S (r2.drop j) := by rw [S_ext, Nat.add_comm 1 j, List.drop_succ_cons, List.take_of_length_le (by simp)]
                  have hb1 : (1 : Int) + (j : Int) ≤ ((S (46 :: r2)).size : Int) := by rw [hsz2]; simp; omega
                  have hb3 : (3 : Int) ≤ ((S (r2.take j ++ [48, 48])).size : Int) := by rw [S_size]; simp; omega
                  clear hd3 hv3 hf htd hq
                  go_upto_region 16 with (go_at_call 138; refine (hr2 _).mono ?_; rintro e w1 ⟨rfl, hw'⟩; rw [hw']; clear hw')
                  have hcat : ¬ (S (r2.take j)).size + (S [48, 48]).size > 9223372036854775807 := by rw [S_size, S_size, List.length_take]; simp; omega
                  go_upto_region 17 with (go_at_call 139; refine (hat2 _).mono ?_; rintro e w3 ⟨rfl, hb3'⟩; have HB3 := Lib.hid hb3'; clear hb3' hat2)
                  go_wp2_with fail
                  all_goals
                    have q := HQ2.out
                    simp only [Prod.mk.injEq] at q
                    obtain ⟨rfl, rfl, rfl⟩ := q
                    refine bodyPost_ret (results_tmp3 Tryz.results116 _ _ _) rfl ⟨fin3 (by push_cast; omega) (by first | exact x6 | rfl) (decide_eq_decide.2 (by omega)), ?_⟩
                    exact HB2.out.trans (HB3.out.mono HB2.out.size)
              · have hc46 : ¬ bt (S (c :: r2)) 0 = 46 := by rw [hc]; exact b_ne h46
                clear hc
                have hq := HQ.out
                rw [fracM_other h46] at hq
                have HQ2 := Lib.hid hq
                clear hq
                go_wp2_with fail
                all_goals
                  have q := HQ2.out
                  simp only [Prod.mk.injEq] at q
                  obtain ⟨rfl, rfl, rfl⟩ := q
                  exact bodyPost_ret (results_tmp3 Tryz.results116 _ _ _) rfl ⟨fin3 (by push_cast; omega) rfl (decide_eq_decide.2 (by omega)), HB2.out⟩
      · have hb43 : (bt (S (b :: r)) 0 == 43) = false := by rw [beq_eq_false_iff_ne, hb]; exact b_ne h43
        have hb45 : (bt (S (b :: r)) 0 == 45) = false := by rw [beq_eq_false_iff_ne, hb]; exact b_ne h45
        rw [splitSg_other h43 h45]
        have hll : (b :: r).length ≤ 100000 := by rw [List.length_cons]; omega
        obtain ⟨⟨nr, lr, ok⟩, ht⟩ : ∃ T, decT 1 (b :: r) = T := ⟨_, rfl⟩
        show Calls Tryz.prog 116 _ w fun e w' => e = .returned (.tuple #[.int .i64 (decT 1 (b :: r)).1, .string (S (decT 1 (b :: r)).2.1), .bool (decT 1 (b :: r)).2.2]) ∧ Below w.heap.size w w'
        rw [ht]
        have hsz' : (S (b :: r)).size = (b :: r).length := S_size _
        have hie : (b :: r).isEmpty = false := rfl
        clear hx hb hsz h43 h45 hl
        generalize b :: r = l1 at *
        have HT := Lib.hid ht
        clear ht
        go_enter Tryz.func116, Tryz.ntmps116
        go_upto_region 6 with fail
        clear e0 hn1 hn0 hgb hb43 hb45 hsz' hie
        have hr1 := run_any l1 (by omega)
        obtain ⟨k, hk⟩ : ∃ k, runL l1 = k := ⟨_, rfl⟩
        have hkl : k ≤ (l1).length := by rw [← hk]; exact runL_le _
        have htd := take_dg l1 k (by omega)
        simp only [hk] at hr1
        have HK := Lib.hid hk
        clear hk
        by_cases hk1 : k < 1
        · have hkI : (k : Int) < 1 := by omega
          have hkD : decide ((k : Int) < 1) = true := decide_eq_true hkI
          go_wp2_with (go_at_call 138; refine (hr1 _).mono ?_; rintro e w1 ⟨rfl, hw'⟩; rw [hw']; clear hw')
          have q := HT.out
          unfold decT at q
          rw [HK.out, if_pos (.inl hk1)] at q
          cases q
          exact bodyPost_ret (results_tmp3 Tryz.results116 _ _ _) rfl ⟨rfl, Below.refl _ _⟩
        · have hkI : ¬ (k : Int) < 1 := by omega
          have hkD : decide ((k : Int) < 1) = false := decide_eq_false hkI
          by_cases hk7 : 7 < k
          · have hkJ : (7 : Int) < (k : Int) := by omega
            have hkE : decide ((7 : Int) < (k : Int)) = true := decide_eq_true hkJ
            go_wp2_with (go_at_call 138; refine (hr1 _).mono ?_; rintro e w1 ⟨rfl, hw'⟩; rw [hw']; clear hw')
            have q := HT.out
            unfold decT at q
            rw [HK.out, if_pos (.inr hk7)] at q
            cases q
            exact bodyPost_ret (results_tmp3 Tryz.results116 _ _ _) rfl ⟨rfl, Below.refl _ _⟩
          · have hkJ : ¬ (7 : Int) < (k : Int) := by omega
            have hkE : decide ((7 : Int) < (k : Int)) = false := decide_eq_false hkJ
            have hq := HT.out
            unfold decT at hq
            rw [HK.out, if_neg (by omega)] at hq
            have hvl := val_lt htd
            have hat := fun w => atoi_any (l1.take k) htd (by intro e; have q : (l1.take k).length = 0 := (by rw [e]; rfl); rw [List.length_take] at q; omega) (by rw [List.length_take]; omega) w
            have hv7 : val (l1.take k) < 10000000 := by
              refine Nat.lt_of_lt_of_le hvl ?_
              rw [List.length_take, Nat.min_eq_left hkl]
              exact Nat.pow_le_pow_right (n := 10) (by decide) (show k ≤ 7 by omega)
            obtain ⟨v, hv⟩ : ∃ v, val (l1.take k) = v := ⟨_, rfl⟩
            have x1 : (S l1).extract 0 k = S (l1.take k) := by rw [S_ext]; simp
            have x2 : (S l1).extract k (l1).length = S (l1.drop k) := by rw [S_ext, List.take_of_length_le (by simp)]
            have hkL : (k : Int) ≤ ((l1).length : Int) := by omega
            simp only [hv] at hat hv7 hq
            obtain ⟨l2, hl2⟩ : ∃ l2, l1.drop k = l2 := ⟨_, rfl⟩
            rw [hl2] at x2 hq
            have HQ := Lib.hid hq
            have hl2l : l2.length ≤ 100000 := by rw [← hl2, List.length_drop]; omega
            clear hvl htd hv hl2 hq
            have hw1 := wrapS (a := (v : Int) * 1000) (by omega) (by omega)
            go_upto_region 12 with (first | (go_at_call 138; refine (hr1 _).mono ?_; rintro e w1 ⟨rfl, hw'⟩; rw [hw']; clear hw') | (go_at_call 139; refine (hat _).mono ?_; rintro e w2 ⟨rfl, hb2⟩; have HB2 := Lib.hid hb2; clear hb2 hat))
            clear hr1 hkI hkD hkJ hkE x1 x2 hkL hw1
            have hw2 := wrapS (a := 1 * ((v : Int) * 1000)) (by omega) (by omega)
            have hgb := get_bt (S l2)
            have hsz2 := S_size l2
            cases l2 with
            | nil =>
              have e0 : (S []).toList.isEmpty = true := by rw [ByteArray.toList_eq]; rfl
              go_wp2_with fail
              all_goals
                have q := HQ.out
                simp only [fracM, Prod.mk.injEq] at q
                obtain ⟨rfl, rfl, rfl⟩ := q
                exact bodyPost_ret (results_tmp3 Tryz.results116 _ _ _) rfl ⟨fin3 (by push_cast; omega) rfl (decide_eq_decide.2 (by omega)), HB2.out⟩
            | cons c r2 =>
              have e0 := S_ne (l := c :: r2) rfl
              have hc : bt (S (c :: r2)) 0 = (c.toNat : Int) := bt_S _ 0 c rfl
              have hn0 : (0 : Int) < ((S (c :: r2)).size : Int) := by rw [hsz2]; simp <;> omega
              have hn1 : (1 : Int) ≤ ((S (c :: r2)).size : Int) := by omega
              simp only [List.length_cons] at hl2l
              by_cases h46 : c = 46
              · subst h46
                have hc : bt (S (46 :: r2)) 0 = 46 := hc
                have hx : (S (46 :: r2)).extract 1 (r2.length + 1) = S r2 := by rw [S_ext]; simp
                have hr2 := run_any r2 (by omega)
                obtain ⟨j, hj⟩ : ∃ j, runL r2 = j := ⟨_, rfl⟩
                have hjl : j ≤ r2.length := by rw [← hj]; exact runL_le _
                have htd := take_dg r2 j (by omega)
                simp only [hj] at hr2
                have HJ := Lib.hid hj
                clear hj
                by_cases hj0 : j = 0
                · subst hj0
                  go_wp2_with (go_at_call 138; refine (hr2 _).mono ?_; rintro e w1 ⟨rfl, hw'⟩; rw [hw']; clear hw')
                  have q := HQ.out
                  simp only [fracM, HJ.out, if_true, Prod.mk.injEq] at q
                  obtain ⟨rfl, rfl, rfl⟩ := q
                  exact bodyPost_ret (results_tmp3 Tryz.results116 _ _ _) rfl ⟨rfl, HB2.out⟩
                · have hjI : ¬ (j : Int) = 0 := by omega
                  have hjD : ((j : Int) == 0) = false := by simpa using hjI
                  have hq := HQ.out
                  simp only [fracM, HJ.out, if_neg hj0] at hq
                  have HQ2 := Lib.hid hq
                  have hd3 : ∀ x ∈ (r2.take j ++ [48, 48]).take 3, dg x = true := by
                    intro x hx
                    rcases List.mem_append.1 (List.mem_of_mem_take hx) with h | h
                    · exact htd x h
                    · simp at h; subst h; decide
                  have hat2 := fun w => atoi_any ((r2.take j ++ [48, 48]).take 3) hd3 (by intro e; have q : ((r2.take j ++ [48, 48]).take 3).length = 0 := (by rw [e]; rfl); simp at q) (by rw [List.length_take]; omega) w
                  have hv3 := val_lt hd3
                  have hv4 : val ((r2.take j ++ [48, 48]).take 3) < 1000 := Nat.lt_of_lt_of_le hv3 (by have := Nat.pow_le_pow_right (n := 10) (by decide) (show ((r2.take j ++ [48, 48]).take 3).length ≤ 3 by rw [List.length_take]; omega); simpa using this)
                  obtain ⟨f, hf⟩ : ∃ f, val ((r2.take j ++ [48, 48]).take 3) = f := ⟨_, rfl⟩
                  simp only [hf] at hat2 hv4
                  rw [hf] at HQ2
                  have hw3 := wrapS (a := 1 + (j : Int)) (by omega) (by omega)
                  have hw4 := wrapS (a := (v : Int) * 1000 + (f : Int)) (by omega) (by omega)
                  have hw5 := wrapS (a := 1 * ((v : Int) * 1000 + (f : Int))) (by omega) (by omega)
                  have x3 : (S (46 :: r2)).extract 1 (1 + j) = S (r2.take j) := by rw [S_ext]; simp
                  have x4 : S (r2.take j) ++ S [48, 48] = S (r2.take j ++ [48, 48]) := S_app _ _
                  have x5 : (S (r2.take j ++ [48, 48])).extract 0 3 = S ((r2.take j ++ [48, 48]).take 3) := by rw [S_ext]; simp
                  have x6 : (S (46 :: r2)).extract (1 + j) (r2.length + 1) = S (r2.drop j) := by rw [S_ext, Nat.add_comm 1 j, List.drop_succ_cons, List.take_of_length_le (by simp)]
                  have hb1 : (1 : Int) + (j : Int) ≤ ((S (46 :: r2)).size : Int) := by rw [hsz2]; simp; omega
                  have hb3 : (3 : Int) ≤ ((S (r2.take j ++ [48, 48])).size : Int) := by rw [S_size]; simp; omega
                  clear hd3 hv3 hf htd hq
                  go_upto_region 16 with (go_at_call 138; refine (hr2 _).mono ?_; rintro e w1 ⟨rfl, hw'⟩; rw [hw']; clear hw')
                  have hcat : ¬ (S (r2.take j)).size + (S [48, 48]).size > 9223372036854775807 := by rw [S_size, S_size, List.length_take]; simp; omega
                  go_upto_region 17 with (go_at_call 139; refine (hat2 _).mono ?_; rintro e w3 ⟨rfl, hb3'⟩; have HB3 := Lib.hid hb3'; clear hb3' hat2)
                  go_wp2_with fail
                  all_goals
                    have q := HQ2.out
                    simp only [Prod.mk.injEq] at q
                    obtain ⟨rfl, rfl, rfl⟩ := q
                    refine bodyPost_ret (results_tmp3 Tryz.results116 _ _ _) rfl ⟨fin3 (by push_cast; omega) (by first | exact x6 | rfl) (decide_eq_decide.2 (by omega)), ?_⟩
                    exact HB2.out.trans (HB3.out.mono HB2.out.size)
              · have hc46 : ¬ bt (S (c :: r2)) 0 = 46 := by rw [hc]; exact b_ne h46
                clear hc
                have hq := HQ.out
                rw [fracM_other h46] at hq
                have HQ2 := Lib.hid hq
                clear hq
                go_wp2_with fail
                all_goals
                  have q := HQ2.out
                  simp only [Prod.mk.injEq] at q
                  obtain ⟨rfl, rfl, rfl⟩ := q
                  exact bodyPost_ret (results_tmp3 Tryz.results116 _ _ _) rfl ⟨fin3 (by push_cast; omega) rfl (decide_eq_decide.2 (by omega)), HB2.out⟩
end Go.Proofs.YtldembadjgibjaaGreatDoor
