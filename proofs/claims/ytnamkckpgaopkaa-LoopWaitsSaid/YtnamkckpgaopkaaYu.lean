/-
  The walk of LoopWaits.
-/
import Derived.Test.YtnamkckpgaopkaaYt
set_option linter.unusedVariables false
set_option linter.unusedSimpArgs false
namespace Go.Proofs.Ytnamkckpgaopkaa
open Go.RowKit Go.K

/-- the timers are due within a bound -/
def Dk (N : Int) (R : RL) : Prop := ∀ t ∈ R.tms, t.due ≤ N + 1099511627776
theorem dk_fireN : ∀ (n : Nat) {N : Int} {R : RL}, Dk N R → Dk N (rfireN n R)
  | 0, _, _, h => h
  | n + 1, N, R, h => by
    unfold rfireN
    split
    · rename_i hd
      refine dk_fireN n (fun t ht => ?_)
      obtain ⟨b, hb, hbl⟩ := best_lt hd.1
      rcases List.mem_or_eq_of_mem_set (show t ∈ R.tms.set (bestR R).toNat { nthM R.tms (bestR R).toNat with w := false } from ht) with q | q
      · exact h t q
      · rw [q]
        have e : (bestR R).toNat = b := by omega
        exact h (nthM R.tms (bestR R).toNat) (by rw [e, nthM_eq hbl]; exact List.getElem_mem hbl)
    · exact h
theorem dk_clear {N : Int} {R : RL} (h : Dk N R) (n : Int) : Dk N (rclearS R n) := by
  unfold rclearS
  split
  · exact h
  · exact fun t ht => h t (List.mem_of_mem_eraseIdx ht)
theorem dk_task {N : Int} {R R' : RL} {d : RC} (h : RTaskR R R' d) : R.now ≤ N → (∀ t ∈ R.tms, t.ev ≤ 1099511627776) → Dk N R → Dk N R' := by
  induction h with
  | none => intro _ _ hd; exact hd
  | plain => intro _ _ hd; exact hd
  | skip h ht hs hk hf hr ih => intro hn he hd; exact ih hn he hd
  | once => intro _ _ hd; exact dk_clear (R := rpop _ _ _) hd _
  | wait => intro _ _ hd; exact hd
  | @again R i j t m h ht hs hk hf hm he hw =>
    intro hn hev hd x hx
    rcases List.mem_or_eq_of_mem_set (show x ∈ R.tms.set j { m with w := true, ord := R.next + 1, due := R.now + m.ev } from hx) with q | q
    · exact hd x q
    · rw [q]
      have := hev m (List.mem_of_getElem? hm)
      show R.now + m.ev ≤ N + 1099511627776
      omega
theorem dk_play {N : Int} {k : Nat} {R R' : RL} {kd a b : Int} (hb : Bk k N R) (h : PlayR kd a b R R') (hd : Dk N R) : Dk N R' := by
  cases h with
  | next _ ht =>
    cases ht with
    | job => exact hd
    | frame => exact hd
    | task hj hf ht => exact dk_task ht hb.fire.now1 (fun t hm => (hb.fire.ev t hm).2) (dk_fireN _ hd)
  | other =>
    unfold playF
    split
    · exact hd
    split
    · intro t ht
      rcases List.mem_append.1 (show t ∈ R.tms ++ [⟨R.next + 1, R.now + bound a, R.next + 1, bound (b.tmod 40), a + b, true⟩] from ht) with q | q
      · exact hd t q
      · rw [List.mem_singleton.1 q]
        have h1 := hb.now1
        have h2 := bound_rng a
        show R.now + bound a ≤ N + 1099511627776
        omega
    split
    · exact dk_clear hd _
    split
    · exact hd
    split
    · unfold rcanS; split <;> exact hd
    split
    · exact hd
    split <;> exact hd
theorem dk_mono {N M : Int} {R : RL} (h : Dk N R) (hn : N ≤ M) : Dk M R := fun t ht => by have := h t ht; omega
theorem due_bnd {N : Int} {k : Nat} {R : RL} {a : Int} (hb : Bk k N R) (hd : Dk N R) (h : DueA R a true) : a ≤ N + 1099511627776 + 16 := by
  have h1 := hb.sh1
  have h2 : 0 ≤ bestR R → dueAt R ≤ N + 1099511627776 := fun q => by
    obtain ⟨b, e, hbl⟩ := best_lt q
    have e2 : (bestR R).toNat = b := by omega
    rw [dueAt, e2, nthM_eq hbl]
    exact hd _ (List.getElem_mem hbl)
  rcases h with ⟨q, -, ⟨q1, q2⟩ | ⟨q1, q2⟩⟩ | ⟨q, ⟨q1, q2⟩ | ⟨q1, -, q2⟩⟩
  · omega
  · have := h2 q1; omega
  · cases q2
  · have := h2 q1; omega
theorem due_now {R R' : RL} {a : Int} {d : RC} {ls : List Int} (h : DueO R a true) (ha : a = R.now) (ht : RTakeR R R' d ls) : d.kd ≠ 0 := by
  obtain ⟨R2, d2, l2, ht2, ⟨q, -, -⟩ | ⟨q1, q2⟩⟩ := h
  · rw [take_det_d ht ht2]; exact q
  · obtain ⟨-, f1, f2, -⟩ := take0 ht2 q1
    have := due_later q2 f1 f2
    omega
/-- where nothing is chosen, and when something will be -/
structure Wait (R R' : RL) (a : Int) (ok : Bool) : Prop where
  jobs : R.jobs = []
  due : DueA R a ok
  eq : R' = { R with tasks := [], users := R'.users }
  later : ok = true → R.now < a
theorem due_not {R R' : RL} {a : Int} {ok : Bool} {d : RC} {ls : List Int} (h : DueO R a ok) (hn : ¬ (ok = true ∧ a = R.now)) (ht : RTakeR R R' d ls) : d.kd = 0 ∧ Wait R R' a ok := by
  obtain ⟨R2, d2, l2, ht2, ⟨-, q1, q2⟩ | ⟨q1, q2⟩⟩ := h
  · exact absurd ⟨q2, q1⟩ hn
  · have e := take_det_d ht ht2
    have e2 := take_det ht ht2
    rw [← e] at q1
    obtain ⟨f0, f1, f2, f3⟩ := take0 ht q1
    exact ⟨q1, f0, q2, f3, fun ho => by subst ho; exact due_later q2 f1 f2⟩
theorem wait_before {R R' R2 : RL} {a n : Int} {d : RC} {ls : List Int} (h : Wait R R' a true) (hn : n < a) (ht : RTakeR { R' with now := n } R2 d ls) : d.kd = 0 ∧ R2 = { R with tasks := [], users := R2.users, now := n } := by
  rw [h.eq] at ht
  obtain ⟨g1, g2⟩ := due_before (n := n) (u := R'.users) h.due hn
  have h0 := take_idle (R := { R with tasks := [], users := R'.users, now := n }) h.jobs g1 g2 rfl ht
  obtain ⟨-, -, -, f3⟩ := take0 ht h0
  exact ⟨h0, f3⟩
theorem wait_never {R R' R2 : RL} {a n : Int} {d : RC} {ls : List Int} (h : Wait R R' a false) (ht : RTakeR { R' with now := n } R2 d ls) : d.kd = 0 := by
  rw [h.eq] at ht
  obtain ⟨g1, g2⟩ := due_never (n := n) (u := R'.users) h.due
  exact take_idle (R := { R with tasks := [], users := R'.users, now := n }) h.jobs g1 g2 rfl ht
theorem wait_there {R R' R2 R3 : RL} {a n : Int} {d : RC} {ls : List Int} (h : Wait R R' a true) (he : R2 = { R with tasks := [], users := R2.users, now := n }) (m : Int) (hm : a ≤ m) (ht : RTakeR { R2 with now := m } R3 d ls) : d.kd ≠ 0 := by
  rw [he] at ht
  exact take_busy (R := { R with tasks := [], users := R2.users, now := m }) ht (due_there h.due hm)
def WtRel (bs bl n : Nat) (w : World) (g : Nat) (v : Value) (wr : World) : Prop :=
  ∃ k S R, g = n - k ∧ k ≤ n ∧ v = .int .i64 k ∧ Rl S R ∧ (Bk k (32768 * k) R ∧ Dk (32768 * k) R) ∧ St w wr [rlO bl R, stO bs S]

set_option maxRecDepth 100000 in
set_option maxHeartbeats 4000000 in
theorem waits_go (s0 : Option Addr) (n cap : Nat) (os : List LOp) (w : World) (hl : n ≤ 60) (hr : Rd w 3 s0 n (flat LOp.cells os)) (hz : ∀ o ∈ os, o.ok) :
    Calls Try.prog 10 #[.slice s0 n cap] w fun e w' => e = .returned (.bool true) ∧ Below w.heap.size w w' := by
  have HR := Lib.hid hr
  have HZ := Lib.hid hz
  have HL := Lib.hid (show os.length = n by have := hr.len; rw [flat_len (sz := 3) (fun _ => rfl)] at this; omega)
  clear hr hz
  have hd : decide ((60 : Int) < (n : Int)) = false := by simp; omega
  go_enter Try.func10, Try.ntmps10
  go_upto_region 3 with (go_at_call 11; refine (awake_c _).mono ?_; rintro e wa ⟨rfl, hba⟩; have H0 := Lib.hid (St.start w hba); clear hba)
  clear hd
  have H1 := Lib.hid (st_start H0.out)
  go_upto_region 4 with fail
  obtain ⟨bs, hbs⟩ : ∃ b, wa.heap.size = b := ⟨_, rfl⟩
  obtain ⟨W1, hW1⟩ : ∃ W, wa.alloc (.cells zcells 37) = W := ⟨_, rfl⟩
  rw [hW1, hbs] at H1
  rw [show wa.alloc (.cells #[.int .i64 0, .slice none 0 0, .slice none 0 0, .slice none 0 0, .slice none 0 0, .slice none 0 0, .int .i64 0, .slice none 0 0, .slice none 0 0, .int .i64 0, .slice none 0 0, .slice none 0 0, .int .i64 0, .bool false, .int .i64 0, .int .i64 0] 37) = W1 from hW1]
  try simp only [hbs]
  clear hW1 hbs H0
  have H2 := Lib.hid (rl_start H1.out)
  go_upto_region 5 with fail
  obtain ⟨bl, hbl⟩ : ∃ b, W1.heap.size = b := ⟨_, rfl⟩
  obtain ⟨W2, hW2⟩ : ∃ W, W1.alloc (.cells rzcells 69) = W := ⟨_, rfl⟩
  rw [hW2, hbl] at H2
  rw [show W1.alloc (.cells #[.int .i64 0, .int .i64 0, .int .i64 0, .int .i64 0, .int .i64 0, .int .i64 0, .bool false, .slice none 0 0, .slice none 0 0, .slice none 0 0, .slice none 0 0] 69) = W2 from hW2]
  try simp only [hbl]
  clear hW2 hbl H1
  have z37 : ∀ w, (zeroValue 37).run Try.prog w = .ok (.agg #[.int .i64 0, .slice none 0 0, .slice none 0 0, .slice none 0 0, .slice none 0 0, .slice none 0 0, .int .i64 0, .slice none 0 0, .slice none 0 0, .int .i64 0, .slice none 0 0, .slice none 0 0, .int .i64 0, .bool false, .int .i64 0, .int .i64 0]) w := fun w => by kernel_rfl
  go_wp2_with fail
  go_loopg [22] n (WtRel bs bl n w)
  case atStart => exact ⟨0, _, _, rfl, Nat.zero_le _, rfl, rl0, ⟨bk0, by intro t ht; simp [RL.zero] at ht⟩, H2.out⟩
  case round =>
    obtain ⟨k, S, R, hg, hk, rfl, hrl, hbk, hst⟩ := hrel
    have Hg := Lib.hid hg
    have HRL := Lib.hid hrl
    have HB := Lib.hid hbk.1
    have HD := Lib.hid hbk.2
    have H5 := Lib.hid hst
    clear hg hrl hbk hst H2
    by_cases hkn : k < n
    · have hkt : k < os.length := by rw [HL.out]; omega
      have hkI : (k : Int) < (n : Int) := by omega
      have hro := HR.out.below H5.out.bel
      obtain ⟨g, off, hga, -⟩ := hro.addr (by omega)
      have hrw := HR.out
      rw [hga] at hrw
      have HOA := Lib.hid (show ∀ w', Below w.heap.size w w' → w'.cell? ⟨g, off + k * 3, none⟩ = some (.int .u8 os[k].k) ∧ w'.cell? ⟨g, off + k * 3 + 1, none⟩ = some (.int .i16 os[k].a) ∧ w'.cell? ⟨g, off + k * 3 + 2, none⟩ = some (.int .i16 os[k].b) from fun w' h => op_at (hrw.below h) hkt)
      have HOK := Lib.hid (HZ.out os[k] (List.getElem_mem hkt))
      obtain ⟨o, ho⟩ : ∃ o, os[k] = o := ⟨_, rfl⟩
      rw [ho] at HOA HOK
      obtain ⟨d0, d1, d2⟩ := HOA.out _ H5.out.bel
      have hsa := Lib.hid hga
      rw [hga]
      clear hro hga hrw ho
      go_upto_region 9 with (first
        | (go_at_call 20; refine (play_st HRL.out HB.out (by omega) (by omega) HOK.out.2.1 HOK.out.2.2 HOK.out.1 H5.out).mono ?_; rintro e w3 ⟨rfl, S3, R3, hp3, hr3, h3⟩; have HP3 := Lib.hid hp3; have HR3 := Lib.hid hr3; have H6 := Lib.hid h3.swap; clear hp3 hr3 h3 d0 d1 d2 H5)
        | fail)
      have HB3 := Lib.hid (HB.out.play HOK.out.2.1 (by omega) HP3.out)
      have HD3 := Lib.hid (dk_mono (dk_play HB.out HP3.out HD.out) (show 32768 * (k : Int) ≤ 32768 * k + 32768 by omega))
      have HBN := Lib.hid (HB3.out.mono (Nat.le_refl _) (show 32768 * (k : Int) + 32768 ≤ 4000000 by omega))
      go_upto_region 10 with (first
        | (go_at_call 26; refine (clone_go HR3.out HB3.out (by omega) (by omega) H6.out).mono ?_; rintro e w6 ⟨S6, p6, G6, rfl, hc6, h6⟩; have HC6 := Lib.hid hc6; have h7 := h6.new zcells 37; have H7 := Lib.hid h7; clear hc6 h6 h7)
        | (refine st_store rfl (.tmp 6) (.tmp 31) rfl H7.out (stc S6 p6).toList rfl rfl rfl rfl size37 (stc_one S6 p6) ?_; intro W8 HW8; have H8 := Lib.hid (clo_shut HC6.out.2 HW8).swap; clear HW8)
        | fail)
      obtain ⟨m6, hm6⟩ : ∃ m, w6.heap.size = m := ⟨_, rfl⟩
      rw [hm6] at H8
      try simp only [hm6]
      clear hm6 H7 H6
      go_upto_region 13 with (first
        | (go_at_call 28; refine (due_st HR3.out HBN.out (by omega) (by omega) H8.out).mono ?_; rintro e w9 ⟨a, ok, rfl, hdo, h9⟩; have HDO := Lib.hid hdo; obtain ⟨p9, h10⟩ := rl_open (St.sh [_, _, _] [2, 0, 1] (by decide) h9); have H10 := Lib.hid h10; obtain ⟨⟨x0, x1, x2, x3, x4, x5⟩, x6, x7, x8, x9, x10⟩ := rl_all h10; clear hdo h9 h10)
        | (go_at_call 21; refine (same_go HR3.out HB3.out (by omega) (by omega) H10.out).mono ?_; rintro e w11 ⟨rfl, h11⟩; have H11 := Lib.hid (St.sh [_, _, _] [2, 1, 0] (by decide) h11); clear h11 x0 x1 x2 x3 x4 x5 x6 x7 x8 x9 x10)
        | fail)
      clear H8 H10
      obtain ⟨pq, Gq, -, hq⟩ := st_open H11.out.swap
      obtain ⟨c0, -⟩ := st_c hq
      rw [HR3.out.now] at c0
      have hnow0 := HB3.out.now0
      have hnow1 := HBN.out.now1
      clear hq
      have HEND := Lib.hid (show ∀ w', St w w' [rlO bl R3, stO bs S3] → WtRel bs bl n w (n - (k + 1)) (.int .i64 ((k + 1 : Nat) : Int)) w' from fun w' h => ⟨k + 1, S3, R3, rfl, by omega, rfl, HR3.out, ⟨HB3.out.mono (Nat.le_refl _) (by omega), dk_mono HD3.out (by omega)⟩, h⟩)
      cases ok with
      | true =>
        by_cases ha : a = R3.now
        · have hab : (a == R3.now) = true := by simp [ha]
          have HA := Lib.hid ha
          clear ha
          have H12 := Lib.hid (St.sh [_, _, _] [1, 0, 2] (by decide) H11.out)
          go_upto_region 15 with (first
            | (go_at_call 26; refine (clone_go HR3.out HB3.out (by omega) (by omega) H12.out).mono ?_; rintro e w13 ⟨S9, p9, G9, rfl, hc9, h13⟩; have HC9 := Lib.hid hc9; have h14 := h13.new zcells 37; have H14 := Lib.hid h14; clear hc9 h13 h14)
            | (refine st_store rfl (.tmp 9) (.tmp 48) rfl H14.out (stc S9 p9).toList rfl rfl rfl rfl size37 (stc_one S9 p9) ?_; intro W15 HW15; have H15 := Lib.hid (clo_shut HC9.out.2 HW15); clear HW15)
            | fail)
          obtain ⟨m9, hm9⟩ : ∃ m, w13.heap.size = m := ⟨_, rfl⟩
          rw [hm9] at H15
          try simp only [hm9]
          clear hm9 H14 H12 c0
          go_wp2_with (first
            | (go_at_call 13; refine (next_alone HC9.out.1 HB3.out (by omega) (by omega) H15.out).mono ?_; rintro e w16 ⟨S10, R10, x, d, ls, rfl, ht, -, h16⟩; have hxb : (x.k == 0) = false := by simpa using (show x.k ≠ 0 from by rw [ht.2]; exact due_now HDO.out HA.out ht.1)
               have hf := hfld x
               have H16 := Lib.hid h16
               clear h16 ht)
            | fail)
          rw [← hsa.out]
          go_roundg (n - (k + 1))
          case measure => have := Hg.out; omega
          case rel =>
            have q := HEND.out _ ((St.sh [_, _, _, _] [0, 2, 3, 1] (by decide) H16.out).drop.drop)
            simpa using q
        · have hab : (a == R3.now) = false := by simp [ha]
          have HA := Lib.hid (show ¬ ((true : Bool) = true ∧ a = R3.now) from fun q => ha q.2)
          clear ha
          go_upto_region 19 with (first
            | (go_at_call 13; refine (next_alone HC6.out.1 HB3.out (by omega) (by omega) H11.out).mono ?_; rintro e w16 ⟨S10, R10, x, d, ls, rfl, ht, hrb, h16⟩; obtain ⟨g1, g2⟩ := due_not HDO.out HA.out ht.1; have hxb : (x.k != 0) = false := by simpa using (show x.k = 0 from by rw [ht.2]; exact g1)
               have hf := hfld x
               have HW := Lib.hid g2
               have HRB := Lib.hid hrb
               have H16 := Lib.hid h16
               clear h16 ht hrb g1 g2)
            | fail)
          clear hf hxb c0 H11 hab
          have hno : R10.now = R3.now := by rw [HW.out.eq]
          have hla := HW.out.later rfl
          have hab2 := due_bnd HB3.out HD3.out HW.out.due
          have hle : decide (a ≤ R3.now) = false := by simp; omega
          have hwa : IntKind.i64.wrap (a - 1) = a - 1 := by rw [IntKind.wrap_i64]; omega
          obtain ⟨a1, ha1⟩ : ∃ a1, a - 1 = a1 := ⟨_, rfl⟩
          rw [ha1] at hwa
          have HA1 := Lib.hid ha1
          have hmx : max R10.now a1 = a1 := by omega
          obtain ⟨pq, Gq, -, hq⟩ := st_open H16.out.swap
          obtain ⟨c0, -⟩ := st_c hq
          rw [HR3.out.now] at c0
          clear hq
          have HT := Lib.hid (HRB.out.1.tick a1)
          have HTB := Lib.hid ((HRB.out.2).tick (M := 2000000000000) a1 (by omega) (by omega))
          rw [hmx] at HT HTB
          have hmx2 : max S10.now a1 = a1 := by rw [HRB.out.1.now]; omega
          rw [hmx2] at HT
          have HLT := Lib.hid (show a1 < a by omega)
          have HLE := Lib.hid (show a ≤ 2000000000000 by omega)
          clear hmx hnow0 hnow1 hla hab2 hno
          go_upto_if 73 with (first
            | (go_at_call 17; refine (tick_st a1 H16.out).mono ?_; rintro e w17 ⟨rfl, h17⟩; rw [hmx2] at h17; have H17 := Lib.hid h17; clear h17 c0 H16)
            | (go_at_call 13; refine (next_alone HT.out HTB.out (by omega) (by omega) H17.out).mono ?_; rintro e w18 ⟨S11, R11, x2, d2, ls2, rfl, ht2, hrb2, h18⟩; have g1 := wait_before HW.out HLT.out ht2.1; have hxb : (x2.k != 0) = false := by simpa using (show x2.k = 0 from by rw [ht2.2]; exact g1.1)
               have hf := hfld x2
               have HE2 := Lib.hid g1.2
               have HRB2 := Lib.hid hrb2
               have H18 := Lib.hid h18
               clear h18 ht2 hrb2 g1 H17)
            | fail)
          clear hf
          have hno2 : R11.now = a1 := by rw [HE2.out]
          have hmx3 : max R11.now a = a := by have := HLT.out; omega
          have HT2 := Lib.hid (HRB2.out.1.tick a)
          have HTB2 := Lib.hid ((HRB2.out.2).tick (M := 2000000000001) a (by have := HLE.out; omega) (by omega))
          rw [hmx3] at HT2 HTB2
          have hmx4 : max S11.now a = a := by rw [HRB2.out.1.now]; exact hmx3
          rw [hmx4] at HT2
          clear hno2 hmx3
          go_wp2_with (first
            | (go_at_call 17; refine (tick_st a H18.out).mono ?_; rintro e w19 ⟨rfl, h19⟩; rw [hmx4] at h19; have H19 := Lib.hid h19; clear h19 H18)
            | (go_at_call 13; refine (next_alone HT2.out HTB2.out (by omega) (by omega) H19.out).mono ?_; rintro e w20 ⟨S12, R12, x3, d3, ls3, rfl, ht3, -, h20⟩; have hxb3 : (x3.k == 0) = false := by simpa using (show x3.k ≠ 0 from by rw [ht3.2]; exact wait_there HW.out HE2.out a (Int.le_refl _) ht3.1)
               have hf := hfld x3
               have H20 := Lib.hid h20
               clear h20 ht3 H19)
            | fail)
          rw [← hsa.out]
          go_roundg (n - (k + 1))
          case measure => have := Hg.out; omega
          case rel =>
            have q := HEND.out _ ((St.sh [_, _, _] [0, 2, 1] (by decide) H20.out).drop)
            simpa using q
      | false =>
        have HA := Lib.hid (show ¬ ((false : Bool) = true ∧ a = R3.now) from fun q => by cases q.1)
        go_upto_region 19 with (first
          | (go_at_call 13; refine (next_alone HC6.out.1 HB3.out (by omega) (by omega) H11.out).mono ?_; rintro e w16 ⟨S10, R10, x, d, ls, rfl, ht, hrb, h16⟩; obtain ⟨g1, g2⟩ := due_not HDO.out HA.out ht.1; have hxb : (x.k != 0) = false := by simpa using (show x.k = 0 from by rw [ht.2]; exact g1)
             have hf := hfld x
             have HW := Lib.hid g2
             have HRB := Lib.hid hrb
             have H16 := Lib.hid h16
             clear h16 ht hrb g1 g2)
          | fail)
        clear hf hxb c0 H11
        have hno : R10.now = R3.now := by rw [HW.out.eq]
        obtain ⟨pq, Gq, -, hq⟩ := st_open H16.out
        obtain ⟨c6, -⟩ := st_c hq
        rw [HRB.out.1.now, hno] at c6
        clear hq
        have hwa : IntKind.i64.wrap (R3.now + 1125899906842624) = R3.now + 1125899906842624 := by rw [IntKind.wrap_i64]; omega
        obtain ⟨a1, ha1⟩ : ∃ a1, R3.now + 1125899906842624 = a1 := ⟨_, rfl⟩
        rw [ha1] at hwa
        have HA1 := Lib.hid ha1
        have hmx : max R10.now a1 = a1 := by omega
        have HT := Lib.hid (HRB.out.1.tick a1)
        have HTB := Lib.hid ((HRB.out.2).tick (M := 2000000000000000) a1 (by omega) (by omega))
        rw [hmx] at HT HTB
        have hmx2 : max S10.now a1 = a1 := by rw [HRB.out.1.now]; omega
        rw [hmx2] at HT
        have hwa2 : IntKind.i64.wrap (R3.now + 1125899906842624) = a1 := by rw [ha1]; exact hwa
        clear hmx hnow0 hnow1 hno ha1 hwa
        go_wp2_with (first
          | (go_at_call 17; (try rw [HA1.out]); refine (tick_st a1 H16.out).mono ?_; rintro e w17 ⟨rfl, h17⟩; rw [hmx2] at h17; have H17 := Lib.hid h17; clear h17 c6 H16)
          | (go_at_call 13; refine (next_alone HT.out HTB.out (by omega) (by omega) H17.out).mono ?_; rintro e w18 ⟨S11, R11, x2, d2, ls2, rfl, ht2, -, h18⟩; have hxb : (x2.k != 0) = false := by simpa using (show x2.k = 0 from by rw [ht2.2]; exact wait_never HW.out ht2.1)
             have hf := hfld x2
             have H18 := Lib.hid h18
             clear h18 ht2 H17)
          | fail)
        rw [← hsa.out]
        go_roundg (n - (k + 1))
        case measure => have := Hg.out; omega
        case rel =>
          have q := HEND.out _ ((St.sh [_, _, _] [0, 2, 1] (by decide) H18.out).drop)
          simpa using q
    · have hkk : k = n := by omega
      subst hkk
      go_wp2_with fail
      go_ret
      exact ⟨rfl, H5.out.bel⟩

end Go.Proofs.Ytnamkckpgaopkaa
