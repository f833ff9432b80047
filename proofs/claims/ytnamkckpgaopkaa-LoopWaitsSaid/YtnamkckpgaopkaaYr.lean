/-
  The walk of LoopClones.
-/
import Derived.Test.YtnamkckpgaopkaaYq
set_option linter.unusedVariables false
set_option linter.unusedSimpArgs false
namespace Go.Proofs.Ytnamkckpgaopkaa
open Go.RowKit Go.K

/-- the chapter's loop can always take -/
theorem task_ex : ∀ (n : Nat) (R : RL), R.tasks.length = n → ∃ R' d, RTaskR R R' d
  | n, R, hl => by
    by_cases h : chooseR R < 0
    · exact ⟨_, _, .none h⟩
    · obtain ⟨i, hi, hil⟩ := choose_lt h
      have ht : R.tasks[i]? = some R.tasks[i] := List.getElem?_eq_getElem hil
      by_cases hp : R.tasks[i].src = 2 ∧ R.tasks[i].k = 0
      · cases hf : R.tms.findIdx? (fun c => c.id == R.tasks[i].n) with
        | none =>
          have e : (R.tasks.eraseIdx i).length = n - 1 := by rw [List.length_eraseIdx, if_pos hil]; omega
          obtain ⟨R', d, hr⟩ := task_ex (n - 1) (rpop R i R.tasks[i]) e
          exact ⟨R', d, .skip hi ht hp.1 hp.2 hf hr⟩
        | some j =>
          have hj : j < R.tms.length := (List.findIdx?_eq_some_iff_getElem.1 hf).1
          have hm : R.tms[j]? = some R.tms[j] := List.getElem?_eq_getElem hj
          by_cases he : R.tms[j].ev = 0
          · exact ⟨_, _, .once hi ht hp.1 hp.2 hf hm he⟩
          · cases hw : R.tms[j].w with
            | true => exact ⟨_, _, .wait hi ht hp.1 hp.2 hf hm he hw⟩
            | false => exact ⟨_, _, .again hi ht hp.1 hp.2 hf hm he hw⟩
      · exact ⟨_, _, .plain hi ht hp⟩
  termination_by n => n
  decreasing_by omega
theorem take_ex (R : RL) : ∃ R' d ls, RTakeR R R' d ls := by
  cases hj : R.jobs with
  | cons n r => exact ⟨_, _, _, .job hj⟩
  | nil =>
    by_cases hf : rframe R
    · exact ⟨_, _, _, .frame hj hf⟩
    · obtain ⟨R', d, h⟩ := task_ex _ (rfireS R) rfl
      exact ⟨R', d, [], .task hj hf h⟩
/-- Next alone, with a chapter's loop beside it in thought -/
theorem next_alone {w0 w : World} {L : List As} {b k : Nat} {N : Int} {S : LS} {R : RL} (hr : Rl S R) (hb : Bk k N R) (hk : k ≤ 40000) (hN : N ≤ 576460752303423488) (h : St w0 w (stO b S :: L)) :
    Calls Try.prog 13 #[.pointer (some ⟨b, 0, none⟩)] w fun e w' => ∃ (S' : LS) (R' : RL) (x : Ch) (d : RC) (ls : List Int), e = .returned (.agg x.cells.toArray) ∧ (RTakeR R R' d ls ∧ x.k = d.kd) ∧ (Rl S' R' ∧ Bk (k + 1) N R') ∧ St w0 w' (stO b S' :: L) := by
  obtain ⟨hrm, hrf⟩ := hr.room hb hk hN
  refine (next_st h hrm hrf).mono ?_
  rintro e w' ⟨S', x, l, rfl, h1, h2, -, h3⟩
  obtain ⟨R', d, ls, ht⟩ := take_ex R
  obtain ⟨g1, g2, -⟩ := rl_next hr h1 ht
  exact ⟨S', R', x, d, ls, rfl, ⟨ht, g2.1⟩, ⟨g1, (hb.take ht).1⟩, h3.swap.drop⟩
theorem Bk.tick {k : Nat} {N M : Int} {R : RL} (h : Bk k N R) (n : Int) (hn : n ≤ M) (hN : N ≤ M) : Bk k M { R with now := max R.now n } := by
  have h1 := h.mono (Nat.le_refl k) hN
  have h6 := h.now0; have h7 := h1.now1
  exact ⟨h1.t, h1.m, h1.ord0, h1.ord1, h1.us0, h1.us1, h1.nx0, h1.nx1, by show 0 ≤ max R.now n; omega, by show max R.now n ≤ M; omega, h1.ev, h1.sh0, h1.sh1, h1.jobs, h1.shots, h1.last0, h1.last1, h1.sb⟩
def CnRel1 (bs bl bd bm n : Nat) (w : World) (g : Nat) (v : Value) (wr : World) : Prop :=
  ∃ k S D R, g = n - k ∧ k ≤ n ∧ v = .int .i64 k ∧ (Rl S R ∧ Rl D R) ∧ Bk k (32768 * k) R ∧ St w wr [rlO bl R, stO bs S, rlO bm R, stO bd D]
def CnRel2 (m12 : Nat) (w : World) (L : List As) (g : Nat) (v : Value) (wr : World) : Prop :=
  ∃ k S R, g = 50 - k ∧ k ≤ 50 ∧ v = .int .i64 k ∧ Rl S R ∧ Bk (100 + k) 4000000 R ∧ St w wr (stO m12 S :: L)
def CnRel3 (bs bl bd bm n0 n : Nat) (w : World) (g : Nat) (v : Value) (wr : World) : Prop :=
  ∃ k S D R, g = n - k ∧ k ≤ n ∧ v = .int .i64 k ∧ (Rl S R ∧ Rl D R) ∧ Bk k (32768 * k) R ∧ St w wr [rlO bl R, stO bs S, rlO bm R, stO bd D]

set_option maxRecDepth 100000 in
set_option maxHeartbeats 4000000 in
theorem clones_go (s0 : Option Addr) (n cap : Nat) (os : List LOp) (at0 : Int) (w : World) (hl : n ≤ 60) (hr : Rd w 3 s0 n (flat LOp.cells os)) (hz : ∀ o ∈ os, o.ok) (hat : 0 ≤ at0 ∧ at0 ≤ 255) :
    Calls Try.prog 9 #[.slice s0 n cap, .int .u8 at0] w fun e w' => e = .returned (.bool true) ∧ Below w.heap.size w w' := by
  have HR := Lib.hid hr
  have HZ := Lib.hid hz
  have HL := Lib.hid (show os.length = n by have := hr.len; rw [flat_len (sz := 3) (fun _ => rfl)] at this; omega)
  clear hr hz
  have hd : decide ((60 : Int) < (n : Int)) = false := by simp; omega
  obtain ⟨a0, a1⟩ := hat
  have hwat : IntKind.i64.wrap at0 = at0 := by rw [IntKind.wrap_i64]; omega
  have hwn : IntKind.i64.wrap ((n : Int) + 1) = (n : Int) + 1 := by rw [IntKind.wrap_i64]; omega
  obtain ⟨n1, hn1, hn1l⟩ : ∃ n1 : Nat, at0.tmod ((n : Int) + 1) = n1 ∧ n1 ≤ n := by
    have h1 := Int.tmod_eq_emod_of_nonneg (b := (n : Int) + 1) a0
    have h2 := Int.emod_nonneg at0 (show ((n : Int) + 1) ≠ 0 by omega)
    have h3 := Int.emod_lt_of_pos at0 (show (0 : Int) < (n : Int) + 1 by omega)
    exact ⟨(at0.tmod ((n : Int) + 1)).toNat, by omega, by omega⟩
  have hnz : ((n : Int) + 1 == 0) = false := by simp; omega
  go_enter Try.func9, Try.ntmps9
  go_upto_region 3 with (go_at_call 11; refine (awake_c _).mono ?_; rintro e wa ⟨rfl, hba⟩; have H0 := Lib.hid (St.start w hba); clear hba)
  clear hd
  have H1 := Lib.hid (st_start H0.out)
  go_upto_region 4 with fail
  obtain ⟨bs, hbs⟩ : ∃ b, wa.heap.size = b := ⟨_, rfl⟩
  obtain ⟨W1, hW1⟩ : ∃ W, wa.alloc (.cells zcells 37) = W := ⟨_, rfl⟩
  rw [hW1, hbs] at H1
  rw [show wa.alloc (.cells #[.int .i64 0, .slice none 0 0, .slice none 0 0, .slice none 0 0, .slice none 0 0, .slice none 0 0, .int .i64 0, .slice none 0 0, .slice none 0 0, .int .i64 0, .slice none 0 0, .slice none 0 0, .int .i64 0, .bool false, .int .i64 0, .int .i64 0] 37) = W1 from hW1]
  try simp only [hbs]
  clear hW1 hbs H0
  have H2 := Lib.hid (rl_start H1.out)
  go_upto_region 6 with fail
  obtain ⟨bl, hbl⟩ : ∃ b, W1.heap.size = b := ⟨_, rfl⟩
  obtain ⟨W2, hW2⟩ : ∃ W, W1.alloc (.cells rzcells 69) = W := ⟨_, rfl⟩
  rw [hW2, hbl] at H2
  rw [show W1.alloc (.cells #[.int .i64 0, .int .i64 0, .int .i64 0, .int .i64 0, .int .i64 0, .int .i64 0, .bool false, .slice none 0 0, .slice none 0 0, .slice none 0 0, .slice none 0 0] 69) = W2 from hW2]
  try simp only [hbl]
  clear hW2 hbl H1
  have H3 := Lib.hid (st_start H2.out)
  go_upto_region 7 with fail
  obtain ⟨bd, hbd⟩ : ∃ b, W2.heap.size = b := ⟨_, rfl⟩
  obtain ⟨W3, hW3⟩ : ∃ W, W2.alloc (.cells zcells 37) = W := ⟨_, rfl⟩
  rw [hW3, hbd] at H3
  rw [show W2.alloc (.cells #[.int .i64 0, .slice none 0 0, .slice none 0 0, .slice none 0 0, .slice none 0 0, .slice none 0 0, .int .i64 0, .slice none 0 0, .slice none 0 0, .int .i64 0, .slice none 0 0, .slice none 0 0, .int .i64 0, .bool false, .int .i64 0, .int .i64 0] 37) = W3 from hW3]
  try simp only [hbd]
  clear hW3 hbd H2
  have H4 := Lib.hid (rl_start H3.out)
  go_upto_region 8 with fail
  obtain ⟨bm, hbm⟩ : ∃ b, W3.heap.size = b := ⟨_, rfl⟩
  obtain ⟨W4, hW4⟩ : ∃ W, W3.alloc (.cells rzcells 69) = W := ⟨_, rfl⟩
  rw [hW4, hbm] at H4
  rw [show W3.alloc (.cells #[.int .i64 0, .int .i64 0, .int .i64 0, .int .i64 0, .int .i64 0, .int .i64 0, .bool false, .slice none 0 0, .slice none 0 0, .slice none 0 0, .slice none 0 0] 69) = W4 from hW4]
  try simp only [hbm]
  clear hW4 hbm H3 hwat hwn
  go_wp2_with fail
  try rw [hn1]
  go_loopg [33] n1 (CnRel1 bs bl bd bm n1 w)
  case atStart => exact ⟨0, _, _, _, rfl, Nat.zero_le _, rfl, ⟨rl0, rl0⟩, bk0, St.sh [_, _, _, _] [2, 3, 0, 1] (by decide) H4.out⟩
  case round =>
    obtain ⟨k, S, D, R, hg, hk, rfl, hrl, hbk, hst⟩ := hrel
    have Hg := Lib.hid hg
    have HRL := Lib.hid hrl
    have HB := Lib.hid hbk
    have H5 := Lib.hid hst
    clear hg hrl hbk hst H4
    by_cases hkn : k < n1
    · have hkt : k < os.length := by rw [HL.out]; omega
      have hkI : (k : Int) < (n1 : Int) := by omega
      have hkI2 : (k : Int) < (n : Int) := by omega
      have hro := HR.out.below H5.out.bel
      obtain ⟨g, off, hga, -⟩ := hro.addr (by omega)
      have hrw := HR.out
      rw [hga] at hrw
      have HOA := Lib.hid (show ∀ w', Below w.heap.size w w' → w'.cell? ⟨g, off + k * 3, none⟩ = some (.int .u8 os[k].k) ∧ w'.cell? ⟨g, off + k * 3 + 1, none⟩ = some (.int .i16 os[k].a) ∧ w'.cell? ⟨g, off + k * 3 + 2, none⟩ = some (.int .i16 os[k].b) from fun w' h => op_at (hrw.below h) hkt)
      have HOK := Lib.hid (HZ.out os[k] (List.getElem_mem hkt))
      obtain ⟨o, ho⟩ : ∃ o, os[k] = o := ⟨_, rfl⟩
      rw [ho] at HOA HOK
      obtain ⟨d0, d1, d2⟩ := HOA.out _ H5.out.bel
      have hsa := Lib.hid hga
      rw [hga]
      clear hro hga hrw ho
      go_upto_region 12 with (first
        | (go_at_call 20; refine (play_st HRL.out.1 HB.out (by omega) (by omega) HOK.out.2.1 HOK.out.2.2 HOK.out.1 H5.out).mono ?_; rintro e w3 ⟨rfl, S3, R3, hp3, hr3, h3⟩; have HP3 := Lib.hid hp3; have HR3 := Lib.hid hr3; have H6 := Lib.hid (St.sh [_, _, _, _] [2, 3, 0, 1] (by decide) h3); clear hp3 hr3 h3 d0 d1 d2; obtain ⟨d0, d1, d2⟩ := HOA.out _ H6.out.bel)
        | fail)
      go_wp2_with (first
        | (go_at_call 20; refine (play_st HRL.out.2 HB.out (by omega) (by omega) HOK.out.2.1 HOK.out.2.2 HOK.out.1 H6.out).mono ?_; rintro e w4 ⟨rfl, S4, R4, hp4, hr4, h4⟩; have hdt := play_det HP3.out hp4; have HR4 := Lib.hid hr4; have H7 := Lib.hid (St.sh [_, _, _, _] [2, 3, 0, 1] (by decide) h4); have HDT := Lib.hid hdt; clear hp4 hr4 h4 hdt d0 d1 d2)
        | fail)
      rw [← hsa.out]
      go_roundg (n1 - (k + 1))
      case measure => have := Hg.out; omega
      case rel =>
        have h7 := H7.out
        have h8 := HR4.out
        rw [← HDT.out] at h7 h8
        exact ⟨k + 1, S3, S4, R3, rfl, by omega, by simp, ⟨HR3.out, h8⟩, (HB.out.play HOK.out.2.1 (by omega) HP3.out).mono (Nat.le_refl _) (by omega), h7⟩
    · have hkk : k = n1 := by omega
      subst hkk
      have H6 := Lib.hid (St.sh [_, _, _, _] [1, 0, 2, 3] (by decide) H5.out)
      have HB6 := Lib.hid (HB.out.mono (Nat.le_refl _) (show 32768 * (k : Int) ≤ 3000000 by omega))
      clear H5
      have z37 : ∀ w, (zeroValue 37).run Try.prog w = .ok (.agg #[.int .i64 0, .slice none 0 0, .slice none 0 0, .slice none 0 0, .slice none 0 0, .slice none 0 0, .int .i64 0, .slice none 0 0, .slice none 0 0, .int .i64 0, .slice none 0 0, .slice none 0 0, .int .i64 0, .bool false, .int .i64 0, .int .i64 0]) w := fun w => by kernel_rfl
      go_upto_region 15 with (first
        | (go_at_call 26; refine (clone_go HRL.out.1 HB.out (by omega) (by omega) H6.out).mono ?_; rintro e w6 ⟨S9, p9, G9, rfl, hc9, h6⟩; have HC9 := Lib.hid hc9; have h7 := h6.new zcells 37; have H7 := Lib.hid h7; clear hc9 h6 h7)
        | (refine st_store rfl (.tmp 11) (.tmp 49) rfl H7.out (stc S9 p9).toList rfl rfl rfl rfl size37 (stc_one S9 p9) ?_; intro W8 HW8; have H8 := Lib.hid (clo_shut HC9.out.2 HW8).swap; clear HW8)
        | fail)
      obtain ⟨m11, hm11⟩ : ∃ m, w6.heap.size = m := ⟨_, rfl⟩
      rw [hm11] at H8
      try simp only [hm11]
      clear hm11 H7 H6
      go_upto_region 16 with (first
        | (go_at_call 26; refine (clone_go HRL.out.1 HB.out (by omega) (by omega) H8.out).mono ?_; rintro e w9 ⟨S10, p10, G10, rfl, hc10, h9⟩; have HC10 := Lib.hid hc10; have h10 := h9.new zcells 37; have H10 := Lib.hid h10; clear hc10 h9 h10)
        | (refine st_store rfl (.tmp 12) (.tmp 50) rfl H10.out (stc S10 p10).toList rfl rfl rfl rfl size37 (stc_one S10 p10) ?_; intro W11 HW11; have H11 := Lib.hid (clo_shut HC10.out.2 HW11); clear HW11)
        | fail)
      obtain ⟨m12, hm12⟩ : ∃ m, w9.heap.size = m := ⟨_, rfl⟩
      rw [hm12] at H11
      try simp only [hm12]
      clear hm12 H10 H8
      -- the one that is spoilt
      obtain ⟨pq, Gq, -, hq⟩ := st_open H11.out
      obtain ⟨c0, -⟩ := st_c hq
      rw [HC10.out.1.now] at c0
      have hn0 := HB6.out.now0
      have hn1' := HB6.out.now1
      have hwt : IntKind.i64.wrap (R.now + 100000) = R.now + 100000 := by rw [IntKind.wrap_i64]; omega
      clear hq
      have HT := Lib.hid (HC10.out.1.tick (R.now + 100000))
      have HTB := Lib.hid (HB6.out.tick (M := 3900000) (R.now + 100000) (by omega) (by omega))
      go_upto_region 18 with (first
        | (go_at_call 17; refine (tick_st (R.now + 100000) H11.out).mono ?_; rintro e w12 ⟨rfl, h12⟩; have H12 := Lib.hid h12; clear h12 c0)
        | (go_at_call 12; refine (push_st 0 0 9 H12.out (HT.out.bnd HTB.out (by omega) (by omega)).q (HT.out.bnd HTB.out (by omega) (by omega)).ord0 (HT.out.bnd HTB.out (by omega) (by omega)).ord1).mono ?_; rintro e w13 ⟨rfl, h13⟩; have H13 := Lib.hid h13; clear h13)
        | fail)
      have HP := Lib.hid (HT.out.push 0 0 9)
      have HPB := Lib.hid ((HTB.out.push 0 0 9).mono (show k + 1 ≤ 100 + 0 by omega) (show (3900000 : Int) ≤ 4000000 by decide))
      clear hn0 hn1' hwt H12 H11
      go_wp2_with fail
      go_loopg [57] 50 (CnRel2 m12 w [stO bs S, stO m11 S9, rlO bl R, rlO bm R, stO bd D])
      case atStart => exact ⟨0, _, _, rfl, by omega, rfl, HP.out, HPB.out, H13.out⟩
      case round =>
        obtain ⟨i, Sp, Rp, hg, hi, rfl, hrl2, hbk2, hst⟩ := hrel
        have Hg2 := Lib.hid hg
        have HRL2 := Lib.hid hrl2
        have HB2 := Lib.hid hbk2
        have H5 := Lib.hid hst
        clear hg hrl2 hbk2 hst H13
        by_cases hi5 : i < 50
        · have hiI : (i : Int) < 50 := by omega
          go_wp2_with (first
            | (go_at_call 13; refine (next_alone HRL2.out HB2.out (by omega) (by omega) H5.out).mono ?_; rintro e w6 ⟨S6, R6, x, d, ls, rfl, -, hrb, h6⟩; have HRB := Lib.hid hrb; have H6 := Lib.hid h6; clear hrb h6)
            | fail)
          go_roundg (50 - (i + 1))
          case measure => have := Hg2.out; omega
          case rel => exact ⟨i + 1, S6, R6, rfl, by omega, by simp, HRB.out.1, HRB.out.2, H6.out⟩
        · have hii : i = 50 := by omega
          subst hii
          have H14 := Lib.hid (St.sh [_, _, _, _, _, _] [0, 5, 3, 1, 4, 2] (by decide) H5.out).drop.drop
          clear Hg2 HRL2 HB2 H5 HP HPB HT HTB HB6 Hg
          go_wp2_with fail
          go_loopg [13] (n - k) (CnRel3 bs bl m11 bm k n w)
          case atStart => exact ⟨k, S, S9, R, rfl, hn1l, rfl, ⟨HRL.out.1, HC9.out.1⟩, HB.out, H14.out⟩
          case round =>
            obtain ⟨k, S, D, R, hg, hk, rfl, hrl, hbk, hst⟩ := hrel
            have Hg := Lib.hid hg
            have HRL3 := Lib.hid hrl
            have HB3 := Lib.hid hbk
            have H5 := Lib.hid hst
            clear hg hrl hbk hst H14
            by_cases hkn : k < n
            · have hkt : k < os.length := by rw [HL.out]; omega
              have hkI2 : (k : Int) < (n : Int) := by omega
              have hro := HR.out.below H5.out.bel
              obtain ⟨g, off, hga, -⟩ := hro.addr (by omega)
              have hrw := HR.out
              rw [hga] at hrw
              have HOA := Lib.hid (show ∀ w', Below w.heap.size w w' → w'.cell? ⟨g, off + k * 3, none⟩ = some (.int .u8 os[k].k) ∧ w'.cell? ⟨g, off + k * 3 + 1, none⟩ = some (.int .i16 os[k].a) ∧ w'.cell? ⟨g, off + k * 3 + 2, none⟩ = some (.int .i16 os[k].b) from fun w' h => op_at (hrw.below h) hkt)
              have HOK := Lib.hid (HZ.out os[k] (List.getElem_mem hkt))
              obtain ⟨o, ho⟩ : ∃ o, os[k] = o := ⟨_, rfl⟩
              rw [ho] at HOA HOK
              obtain ⟨d0, d1, d2⟩ := HOA.out _ H5.out.bel
              have hsa := Lib.hid hga
              rw [hga]
              clear hro hga hrw ho
              go_wp2_with (first
                | (go_at_call 20; refine (play_st HRL3.out.1 HB3.out (by omega) (by omega) HOK.out.2.1 HOK.out.2.2 HOK.out.1 H5.out).mono ?_; rintro e w3 ⟨rfl, S3, R3, hp3, hr3, h3⟩; have HP3 := Lib.hid hp3; have HR3 := Lib.hid hr3; have H6 := Lib.hid (St.sh [_, _, _, _] [2, 3, 0, 1] (by decide) h3); clear hp3 hr3 h3 d0 d1 d2 H5; obtain ⟨d0, d1, d2⟩ := HOA.out _ H6.out.bel)
                | (go_at_call 20; refine (play_st HRL3.out.2 HB3.out (by omega) (by omega) HOK.out.2.1 HOK.out.2.2 HOK.out.1 H6.out).mono ?_; rintro e w4 ⟨rfl, S4, R4, hp4, hr4, h4⟩; have HP4 := Lib.hid hp4; have HR4 := Lib.hid hr4; obtain ⟨p7, h7⟩ := rl_open h4; have H7 := Lib.hid h7; obtain ⟨⟨x0, x1, x2, x3, x4, x5⟩, x6, x7, x8, x9, x10⟩ := rl_all h7; clear hp4 hr4 h4 h7 d0 d1 d2 H6)
                | (go_at_call 21; refine (same_go HR4.out (HB3.out.play HOK.out.2.1 (by omega) HP4.out) (by omega) (by omega) H7.out).mono ?_; rintro e w5 ⟨rfl, h5⟩; clear x0 x1 x2 x3 x4 x5 x6 x7 x8 x9 x10 H7; obtain ⟨p8, h8⟩ := rl_open (St.sh [_, _, _, _] [2, 3, 0, 1] (by decide) h5); have H8 := Lib.hid h8; obtain ⟨⟨x0, x1, x2, x3, x4, x5⟩, x6, x7, x8, x9, x10⟩ := rl_all h8; clear h5 h8)
                | (go_at_call 21; refine (same_go HR3.out (HB3.out.play HOK.out.2.1 (by omega) HP3.out) (by omega) (by omega) H8.out).mono ?_; rintro e w6 ⟨rfl, h9⟩; have H9 := Lib.hid h9; clear h9 x0 x1 x2 x3 x4 x5 x6 x7 x8 x9 x10 H8)
                | fail)
              rw [← hsa.out]
              go_roundg (n - (k + 1))
              case measure => have := Hg.out; omega
              case rel =>
                have h7 := H9.out
                have h8 := HR4.out
                rw [← play_det HP3.out HP4.out] at h7 h8
                exact ⟨k + 1, S3, S4, R3, rfl, by omega, by simp, ⟨HR3.out, h8⟩, (HB3.out.play HOK.out.2.1 (by omega) HP3.out).mono (Nat.le_refl _) (by omega), h7⟩
            · have hkk : k = n := by omega
              subst hkk
              go_wp2_with fail
              go_ret
              exact ⟨rfl, H5.out.bel⟩

end Go.Proofs.Ytnamkckpgaopkaa
