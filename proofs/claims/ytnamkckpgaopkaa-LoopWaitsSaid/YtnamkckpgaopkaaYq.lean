/-
  The walk of LoopMicrotasks.
-/
import Derived.Test.YtnamkckpgaopkaaYo
import Derived.Test.YtnamkckpgaopkaaYp
set_option linter.unusedVariables false
set_option linter.unusedSimpArgs false
namespace Go.Proofs.Ytnamkckpgaopkaa
open Go.RowKit Go.K

theorem clo_shut {w0 w : World} {L : List As} {m : Nat} {S : LS} {p : Pt} {G : List Bx} (hb : BagOk S G) (h : St w0 w (As.cells m (stc S p) 37 :: (cloL S p G ++ L))) : St w0 w (stO m S :: L) := st_shut hb h
theorem CloS.rl {S S' : LS} {R : RL} (h : CloS S S') (hr : Rl S R) : Rl S' R := by
  have e := h.eq
  have hc : S'.calls.map ck = R.tms.map rmk := by
    have h2 := congrArg (List.map (fun x : Int × Int × Int × Int × Nat => (x.1, x.2.1, x.2.2.2.1))) h.c
    rw [List.map_map, List.map_map] at h2
    exact h2.trans hr.calls
  have hj : S'.jobs.map Jb.k = R.jobs := by
    have h2 := congrArg (List.map (fun x : Int × Nat => x.1)) h.j
    rw [List.map_map, List.map_map] at h2
    exact h2.trans hr.jobs
  have ha : ∀ j ∈ S'.jobs, j.an = 1 := by
    have h2 := congrArg (List.map (fun x : Int × Nat => x.2)) h.j
    rw [List.map_map, List.map_map] at h2
    intro j hjm
    have h3 : j.an ∈ S'.jobs.map ((fun x : Int × Nat => x.2) ∘ jkey) := List.mem_map.2 ⟨j, hjm, rfl⟩
    rw [h2] at h3
    obtain ⟨i, hi, e3⟩ := List.mem_map.1 h3
    rw [← e3]
    exact hr.jan i hi
  rw [e]
  exact ⟨hr.now, hr.ord, hr.nx, hr.last, hr.shown, hr.users, hr.dirty, hj, ha, hr.shots, hr.q, hr.src, hr.asc, hr.tle, hc, hr.wt⟩
/-- a copy of a State that has a chapter's loop beside it -/
theorem clone_go {w0 w : World} {L : List As} {b k : Nat} {N : Int} {S : LS} {R : RL} (hr : Rl S R) (hb : Bk k N R) (hk : k ≤ 40000) (hN : N ≤ 576460752303423488) (h : St w0 w (stO b S :: L)) :
    Calls Try.prog 26 #[.pointer (some ⟨b, 0, none⟩)] w fun e w' => ∃ S' p G, e = .returned (.agg (stc S' p)) ∧ (Rl S' R ∧ BagOk S' G) ∧ St w0 w' (cloL S' p G ++ (stO b S :: L)) := by
  have hB := hr.bnd hb hk hN
  refine (clone_st h hB.q hB.jobs hB.tm hB.calls hB.shots).mono ?_
  rintro e w' ⟨S', p, G, rfl, h1, h2, h3⟩
  exact ⟨S', p, G, rfl, ⟨h1.rl hr, h2⟩, h3⟩
theorem hfld (x : Ch) (w : World) : (Instr.field 50 (.agg x.cells.toArray) 0).run Try.prog w = .ok (.int .i64 x.k) w := by kernel_rfl
def u8c (z : Int) : List Value := [.int .u8 z]
theorem u8_at2 {w : World} {g off n : Nat} {M : List Int} (h : Rd w 1 (some ⟨g, off, none⟩) n (flat u8c M)) {k : Nat} (hk : k < M.length) : w.cell? ⟨g, off + k, none⟩ = some (.int .u8 M[k]) := by
  have h2 := h.cells _ rfl _ _ ((flat_at (f := u8c) (sz := 1) (fun _ => rfl) M k 0 hk (by omega)).trans rfl)
  rw [Addr.add_lit] at h2
  simpa using h2
theorem next_job {S S' : LS} {R : RL} {x : Ch} {l : List Hs} {n : Int} {r : List Int} (hr : Rl S R) (hj : R.jobs = n :: r) (hn : NextR S S' x l) : Rl S' { R with jobs := r } ∧ x.k = 1 ∧ x.j.k = n ∧ x.j.an = 1 := by
  obtain ⟨g1, g2, -⟩ := rl_next hr hn (.job hj)
  obtain ⟨e1, -, e3, -⟩ := g2
  exact ⟨g1, e1, e3 e1⟩
theorem next_nojob {S S' : LS} {R : RL} {x : Ch} {l : List Hs} (hr : Rl S R) (hj : R.jobs = []) (hn : NextR S S' x l) : x.k ≠ 1 := by
  cases hn with
  | job h => have := hr.jobs; rw [h, hj] at this; cases this
  | shows => simp [chH]
  | task h hs ht => obtain ⟨-, -, -, h4⟩ := task_z ht; omega
theorem play_jobs {kd a b : Int} {R R' : RL} (h : PlayR kd a b R R') (h7 : kd % 9 ≠ 7) (h8 : kd % 9 ≠ 8) (h0 : 0 ≤ kd) : R'.jobs = R.jobs := by
  cases h with
  | next q => exact absurd q h8
  | other =>
    unfold playF
    split
    · rfl
    split
    · rfl
    split
    · unfold rclearS; split <;> rfl
    split
    · rfl
    split
    · unfold rcanS; split <;> rfl
    split
    · rfl
    split
    · rfl
    · omega
theorem st_store3 {P : Program} {ops : Array Oper} {Q : Exit → Act → World → Prop} {w0 w : World} {L : List As} {a : Act} {op : Oper} {rest : List Oper} {b sz : Nat} {cs : Array Value} {t : TypeId} (hgd : op.guard = none) (x y : Operand) (ho : op.op = .store t x y)
    (H : St w0 w (As.cells b cs t :: L)) (cells : List Value) (hx : a.eval x = .pointer (some ⟨b, 0, none⟩)) (hy : a.eval y = .agg cells.toArray) (hcs : cs.size = sz) (hl : cells.length = sz) (hi : (P.info? t).map (·.size) = some sz) (h1 : ∀ v ∈ cells, v.oneCell' = true)
    (h : ∀ W, St w0 W (As.cells b cells.toArray t :: L) → Fr (fun k => k = b) w W → wpList P ops Q rest (a.put op.dst undef) W) : wpList P ops Q (op :: rest) a w := by
  refine wpList_store_mid hgd t x y ho b 0 cells.toArray hx hy ?_ (by simpa [hl] using hi) (Array.all_eq_true_iff_forall_mem.2 (fun v hv => h1 v (by simpa using hv))) ?_
  · intro j hj
    rw [Nat.zero_add, H.cell j]
    refine ⟨?_, H.free j⟩
    have : j < cs.size := by simp at hj; omega
    simp [this]
  · exact h _ (H.set_all cells (by omega)) (Row.fr_set (Fr.refl _ _) 0 cells rfl)
def MkRel1 (bs bl n : Nat) (w : World) (g : Nat) (v : Value) (wr : World) : Prop :=
  ∃ k S R, g = n - k ∧ k ≤ n ∧ v = .int .i64 k ∧ Rl S R ∧ Bk k (32768 * k) R ∧ R.jobs = [] ∧ St w wr [rlO bl R, stO bs S]
def MkRel2 (zs : List Int) (bs n : Nat) (w : World) (g : Nat) (v : Value) (wr : World) : Prop :=
  ∃ k S R, g = n - k ∧ k ≤ n ∧ v = .int .i64 k ∧ Rl S R ∧ Bk 1000 4000000 R ∧ R.jobs = zs.take k ∧ St w wr [stO bs S]
def MkRel3 (zs : List Int) (bs m9 n : Nat) (w : World) (g : Nat) (v : Value) (wr : World) : Prop :=
  ∃ k S S9 R, g = n - k ∧ k ≤ n ∧ v = .int .i64 k ∧ Rl S R ∧ Bk 1000 4000000 R ∧ R.jobs = zs.drop k ∧ S9.jobs.length = n ∧ St w wr [stO bs S, stO m9 S9]
theorem Bk.jobs_to {k : Nat} {N : Int} {R : RL} (h : Bk k N R) (js : List Int) (hl : js.length ≤ k) : Bk k N { R with jobs := js } :=
  ⟨h.t, h.m, h.ord0, h.ord1, h.us0, h.us1, h.nx0, h.nx1, h.now0, h.now1, h.ev, h.sh0, h.sh1, hl, h.shots, h.last0, h.last1, h.sb⟩

set_option maxRecDepth 100000 in
set_option maxHeartbeats 4000000 in
theorem micro_go (s0 s1 : Option Addr) (n cap n1 cap1 : Nat) (os : List LOp) (zs : List Int) (w : World) (hl : n ≤ 60) (hl1 : n1 ≤ 30) (hr : Rd w 3 s0 n (flat LOp.cells os)) (hz : ∀ o ∈ os, o.ok) (hr1 : Rd w 1 s1 n1 (flat u8c zs)) (hz1 : ∀ z ∈ zs, 0 ≤ z ∧ z ≤ 255) :
    Calls Try.prog 8 #[.slice s0 n cap, .slice s1 n1 cap1] w fun e w' => e = .returned (.bool true) ∧ Below w.heap.size w w' := by
  have HR := Lib.hid hr
  have HZ := Lib.hid hz
  have HR1 := Lib.hid hr1
  have HZ1 := Lib.hid hz1
  have HL := Lib.hid (show os.length = n by have := hr.len; rw [flat_len (sz := 3) (fun _ => rfl)] at this; omega)
  have HL1 := Lib.hid (show zs.length = n1 by have := hr1.len; rw [flat_len (sz := 1) (fun _ => rfl)] at this; omega)
  clear hr hz hr1 hz1
  have hd : decide ((60 : Int) < (n : Int)) = false := by simp; omega
  have hd1 : decide ((30 : Int) < (n1 : Int)) = false := by simp; omega
  go_enter Try.func8, Try.ntmps8
  go_upto_region 3 with (go_at_call 11; refine (awake_c _).mono ?_; rintro e wa ⟨rfl, hba⟩; have H0 := Lib.hid (St.start w hba); clear hba)
  clear hd hd1
  have H1 := Lib.hid (st_start H0.out)
  go_upto_region 4 with fail
  obtain ⟨bs, hbs⟩ : ∃ b, wa.heap.size = b := ⟨_, rfl⟩
  obtain ⟨W1, hW1⟩ : ∃ W, wa.alloc (.cells zcells 37) = W := ⟨_, rfl⟩
  rw [hW1, hbs] at H1
  rw [show wa.alloc (.cells #[.int .i64 0, .slice none 0 0, .slice none 0 0, .slice none 0 0, .slice none 0 0, .slice none 0 0, .int .i64 0, .slice none 0 0, .slice none 0 0, .int .i64 0, .slice none 0 0, .slice none 0 0, .int .i64 0, .bool false, .int .i64 0, .int .i64 0] 37) = W1 from hW1]
  try simp only [hbs]
  clear hW1 hbs H0
  have H2 := Lib.hid (rl_start H1.out)
  go_upto_region 5 with fail
  obtain ⟨bl, hbl⟩ : ∃ b, W1.heap.size = b := ⟨_, rfl⟩
  obtain ⟨W2, hW2⟩ : ∃ W, W1.alloc (.cells rzcells 69) = W := ⟨_, rfl⟩
  rw [hW2, hbl] at H2
  rw [show W1.alloc (.cells #[.int .i64 0, .int .i64 0, .int .i64 0, .int .i64 0, .int .i64 0, .int .i64 0, .bool false, .slice none 0 0, .slice none 0 0, .slice none 0 0, .slice none 0 0] 69) = W2 from hW2]
  try simp only [hbl]
  clear hW2 hbl H1
  go_wp2_with fail
  go_loopg [29] n (MkRel1 bs bl n w)
  case atStart => exact ⟨0, _, _, rfl, Nat.zero_le _, rfl, rl0, bk0, rfl, H2.out⟩
  case round =>
    obtain ⟨k, S, R, hg, hk, rfl, hrl, hbk, hrj, hst⟩ := hrel
    have Hg := Lib.hid hg
    have HRL := Lib.hid hrl
    have HB := Lib.hid hbk
    have HRJ := Lib.hid hrj
    have H3 := Lib.hid hst
    clear hg hrl hbk hst H2 hrj
    by_cases hkn : k < n
    · have hkt : k < os.length := by rw [HL.out]; exact hkn
      have hkI : (k : Int) < (n : Int) := by omega
      have hro := HR.out.below H3.out.bel
      obtain ⟨g, off, hga, -⟩ := hro.addr (by omega)
      rw [hga] at hro
      obtain ⟨d0, d1, d2⟩ := op_at hro hkt
      obtain ⟨o, ho⟩ : ∃ o, os[k] = o := ⟨_, rfl⟩
      rw [ho] at d0 d1 d2
      have HOK := Lib.hid (HZ.out o (by rw [← ho]; exact List.getElem_mem hkt))
      have hsa := Lib.hid hga
      rw [hga]
      obtain ⟨z, hzz⟩ : ∃ z, o.k.tmod 9 = z := ⟨_, rfl⟩
      have HZZ := Lib.hid (show o.k % 9 = z by rw [← hzz, Int.tmod_eq_emod_of_nonneg HOK.out.1.1])
      clear hro ho hga
      by_cases h7 : z = 7
      · have b7 : (z != 7) = false := by simp [h7]
        clear h7
        go_wp2_with fail
        rw [← hsa.out]
        go_roundg (n - (k + 1))
        case measure => have := Hg.out; omega
        case rel => exact ⟨k + 1, S, R, rfl, by omega, by simp, HRL.out, HB.out.mono (by omega) (by omega), HRJ.out, H3.out⟩
      · have b7 : (z != 7) = true := by simp [h7]
        have H7 := Lib.hid h7
        clear h7
        by_cases h8 : z = 8
        · have b8 : (z != 8) = false := by simp [h8]
          clear h8
          go_wp2_with fail
          rw [← hsa.out]
          go_roundg (n - (k + 1))
          case measure => have := Hg.out; omega
          case rel => exact ⟨k + 1, S, R, rfl, by omega, by simp, HRL.out, HB.out.mono (by omega) (by omega), HRJ.out, H3.out⟩
        · have b8 : (z != 8) = true := by simp [h8]
          have H8 := Lib.hid h8
          clear h8
          go_wp2_with (first
            | (go_at_call 20; refine (play_st HRL.out HB.out (by omega) (by omega) HOK.out.2.1 HOK.out.2.2 HOK.out.1 H3.out).mono ?_; rintro e w3 ⟨rfl, S3, R3, hp3, hr3, h3⟩; have HP3 := Lib.hid hp3; have HR3 := Lib.hid hr3; have H4 := Lib.hid h3; clear hp3 hr3 h3 d0 d1 d2)
            | fail)
          rw [← hsa.out]
          go_roundg (n - (k + 1))
          case measure => have := Hg.out; omega
          case rel => exact ⟨k + 1, S3, R3, rfl, by omega, by simp, HR3.out, (HB.out.play HOK.out.2.1 (by omega) HP3.out).mono (Nat.le_refl _) (by omega), by rw [play_jobs HP3.out (by rw [HZZ.out]; exact H7.out) (by rw [HZZ.out]; exact H8.out) HOK.out.1.1]; exact HRJ.out, H4.out⟩
    · have hkk : k = n := by omega
      subst hkk
      have H4 := Lib.hid H3.out.drop
      have HB4 := Lib.hid (show Bk 1000 4000000 R from HB.out.mono (by omega) (by omega))
      clear H3 HB
      go_wp2_with fail
      go_loopg [57] n1 (MkRel2 zs bs n1 w)
      case atStart => exact ⟨0, S, R, rfl, Nat.zero_le _, rfl, HRL.out, HB4.out, by rw [HRJ.out, List.take_zero], H4.out⟩
      case round =>
        obtain ⟨i, S, R, hg, hi, rfl, hrl, hbk, hrj, hst⟩ := hrel
        have Hg2 := Lib.hid hg
        have HRL := Lib.hid hrl
        have HB := Lib.hid hbk
        have HRJ := Lib.hid hrj
        have H5 := Lib.hid hst
        clear hg hrl hbk hst H4 hrj HB4
        by_cases hin : i < n1
        · have hit : i < zs.length := by rw [HL1.out]; exact hin
          have hiI : (i : Int) < (n1 : Int) := by omega
          have hro := HR1.out.below H5.out.bel
          obtain ⟨g, off, hga, -⟩ := hro.addr (by omega)
          rw [hga] at hro
          have d0 := u8_at2 hro hit
          obtain ⟨z, hz⟩ : ∃ z, zs[i] = z := ⟨_, rfl⟩
          rw [hz] at d0
          obtain ⟨z0, z1⟩ := HZ1.out z (by rw [← hz]; exact List.getElem_mem hit)
          have hwz : IntKind.i64.wrap z = z := by rw [IntKind.wrap_i64]; omega
          have HZE := Lib.hid hz
          have hsa := Lib.hid hga
          rw [hga]
          clear hro hz hga
          have HJL := Lib.hid (show S.jobs.length ≤ 100000 from (HRL.out.bnd HB.out (by omega) (by omega)).jobs)
          go_wp2_with (first
            | (go_at_call 25; refine (job_st z H5.out).mono ?_; rintro e w6 ⟨g6, rfl, h6⟩; have H6 := Lib.hid h6; clear h6 d0)
            | (go_at_call 24; refine (jpush_st H6.out HJL.out).mono ?_; rintro e w7 ⟨rfl, h7⟩; have H7 := Lib.hid h7; clear h7)
            | fail)
          rw [← hsa.out]
          go_roundg (n1 - (i + 1))
          case measure => have := Hg2.out; omega
          case rel =>
            refine ⟨i + 1, _, { R with jobs := R.jobs ++ [z] }, rfl, by omega, by simp, HRL.out.job z _ _, HB.out.jobs_to _ (by rw [HRJ.out, List.length_append, List.length_take]; simp; omega), ?_, H7.out⟩
            rw [List.take_succ_eq_append_getElem hit, HZE.out]
            show R.jobs ++ [z] = _
            rw [HRJ.out]
        · have hkk : i = n1 := by omega
          subst hkk
          have HTK := Lib.hid (show R.jobs = zs by rw [HRJ.out, ← HL1.out, List.take_length])
          have z37 : ∀ w, (zeroValue 37).run Try.prog w = .ok (.agg #[.int .i64 0, .slice none 0 0, .slice none 0 0, .slice none 0 0, .slice none 0 0, .slice none 0 0, .int .i64 0, .slice none 0 0, .slice none 0 0, .int .i64 0, .slice none 0 0, .slice none 0 0, .int .i64 0, .bool false, .int .i64 0, .int .i64 0]) w := fun w => by kernel_rfl
          go_upto_region 17 with (first
            | (go_at_call 26; refine (clone_go HRL.out HB.out (by omega) (by omega) H5.out).mono ?_; rintro e w6 ⟨S9, p9, G9, rfl, hc9, h6⟩; have HC9 := Lib.hid hc9; have h7 := h6.new zcells 37; have H7 := Lib.hid h7; clear hc9 h6 h7)
            | (refine st_store rfl (.tmp 9) (.tmp 69) rfl H7.out (stc S9 p9).toList rfl rfl rfl rfl size37 (stc_one S9 p9) ?_; intro W8 HW8; have H8 := Lib.hid (clo_shut HC9.out.2 HW8).swap; clear HW8)
            | fail)
          obtain ⟨m9, hm9⟩ : ∃ m, w6.heap.size = m := ⟨_, rfl⟩
          rw [hm9] at H8
          try simp only [hm9]
          clear hm9 H7 H5
          have HJ9 := Lib.hid (show S9.jobs.length = i from by rw [← HL1.out, ← HTK.out, ← HC9.out.1.jobs, List.length_map])
          have z50 : ∀ w, (zeroValue 50).run Try.prog w = .ok (.agg #[.int .i64 0, .int .i64 0, .slice none 0 0, .int .i64 0, .int .i64 0, .int .i64 0, .string { data := #[] }, .slice none 0 0, .int .i64 0, .int .i64 0, .int .i64 0, .int .i64 0, .string { data := #[] }, .int .i64 0, .slice none 0 0, .slice none 0 0]) w := zv50
          clear Hg Hg2
          go_wp2_with fail
          go_loopg [72] i (MkRel3 zs bs m9 i w)
          case atStart => exact ⟨0, S, S9, R, rfl, Nat.zero_le _, rfl, HRL.out, HB.out, by rw [HTK.out, List.drop_zero], HJ9.out, H8.out⟩
          case round =>
            obtain ⟨k, S, S9, R, hg, hk, rfl, hrl, hbk, hrj, hj9, hst⟩ := hrel
            have Hg := Lib.hid hg
            have HRL3 := Lib.hid hrl
            have HB := Lib.hid hbk
            have HRJ3 := Lib.hid hrj
            have HJ93 := Lib.hid hj9
            have H5 := Lib.hid hst
            clear hg hrl hbk hst H8 hrj hj9 HTK HC9
            obtain ⟨hrm, hrf⟩ := HRL3.out.room HB.out (by omega) (by omega)
            have HRM := Lib.hid hrm
            have HRF := Lib.hid hrf
            clear hrm hrf
            by_cases hkn : k < i
            · have hit : k < zs.length := by rw [HL1.out]; exact hkn
              have hiI : (k : Int) < (i : Int) := by omega
              go_upto_region 21 with (first
                | (go_at_call 13; refine (next_st H5.out HRM.out HRF.out).mono ?_; rintro e w6 ⟨S6, x, l, rfl, hn6, -, hx6, h6⟩; have HN := Lib.hid hn6; have HX := Lib.hid hx6; have H6 := Lib.hid (h6.new Ch.z.cells.toArray 50); clear hn6 hx6 h6)
                | (refine st_store3 rfl (.tmp 11) (.tmp 75) rfl H6.out x.cells rfl rfl rfl rfl size50 (Ch.one _) ?_; intro W7 HW7 hfr7; have H7 := Lib.hid HW7; have HF7 := Lib.hid hfr7; clear HW7 hfr7)
                | fail)
              obtain ⟨z, hz⟩ : ∃ z, zs[k] = z := ⟨_, rfl⟩
              have hjz : R.jobs = z :: zs.drop (k + 1) := by rw [HRJ3.out, List.drop_eq_getElem_cons hit, hz]
              obtain ⟨g1, e1, e2, e3⟩ := next_job HRL3.out hjz HN.out
              have HG := Lib.hid g1
              have hv := HX.out e1
              rw [e2, e3] at hv
              obtain ⟨z0, z1⟩ := HZ1.out z (by rw [← hz]; exact List.getElem_mem hit)
              have hwz : IntKind.i64.wrap z = z := by rw [IntKind.wrap_i64]; omega
              have hv7 : Rc W7 4 x.j.a 1 x.j.ac (vcells z) := (hv.alloc _).kept HF7.out (fun q hq e => by have := hv.lt (by decide) q hq; subst e; omega)
              obtain ⟨m11, hm11⟩ : ∃ m, w6.heap.size = m := ⟨_, rfl⟩
              have h7 := H7.out
              rw [hm11] at h7
              try simp only [hm11]
              have H8 := Lib.hid h7
              clear h7 hm11 hv HF7 H7 H6 H5 HX g1
              obtain ⟨gv, ov, hgv, -⟩ := hv7.rd.addr (by omega)
              have hvr := hv7.rd
              rw [hgv] at hvr
              have v1 : W7.cell? ⟨gv, ov + 1, none⟩ = some (.int .i64 z) := by
                have q := hvr.cells _ rfl 1 (.int .i64 z) rfl
                rwa [Addr.add_lit] at q
              have k0 : W7.cell? ⟨m11, 0, none⟩ = some (.int .i64 1) := by rw [H8.out.blk.1.cell, ← e1]; rfl
              have k1 : W7.cell? ⟨m11, 1, none⟩ = some (.int .i64 z) := by rw [H8.out.blk.1.cell, ← e2]; rfl
              have k2 : W7.cell? ⟨m11, 2, none⟩ = some (.slice (some ⟨gv, ov, none⟩) 1 x.j.ac) := by
                have q : W7.cell? ⟨m11, 2, none⟩ = some (.slice x.j.a x.j.an x.j.ac) := by rw [H8.out.blk.1.cell]; rfl
                rw [q, hgv, e3]
              have hro := HR1.out.below H8.out.bel
              obtain ⟨gu, ou, hgu, -⟩ := hro.addr (by omega)
              rw [hgu] at hro
              have d0 := u8_at2 hro hit
              rw [hz] at d0
              have hsa := Lib.hid hgu
              rw [hgu]
              clear hro hz hgu hvr hgv hv7 e1 e2 e3 hjz
              go_quiet (fail)
              go_wp2_with fail
              rw [← hsa.out]
              go_roundg (i - (k + 1))
              case measure => have := Hg.out; omega
              case rel =>
                exact ⟨k + 1, S6, S9, _, rfl, by omega, by simp, HG.out, HB.out.jobs_to _ (by rw [List.length_drop]; have := HL1.out; omega), rfl, HJ93.out, ((St.sh [_, _, _, _] [0, 2, 1, 3] (by decide) H8.out).drop.drop).drewN _⟩
            · have hkk : k = i := by omega
              subst hkk
              have hj0 := HRJ3.out.trans (List.drop_eq_nil_of_le (by have := HL1.out; omega))
              have HJ0 := Lib.hid hj0
              clear hj0
              go_wp2_with (first
                | (go_at_call 13; refine (next_st H5.out HRM.out HRF.out).mono ?_; rintro e w6 ⟨S6, x, l, rfl, hn6, -, -, h6⟩; have hkx : (x.k != 1) = true := by simpa using next_nojob HRL3.out HJ0.out hn6
                   have hf := hfld x
                   obtain ⟨p9, G9, -, h9⟩ := st_open (St.sh [_, _, _] [2, 0, 1] (by decide) h6)
                   have y7 := (st_s h9).1
                   rw [HJ93.out] at y7
                   have H6 := Lib.hid h6
                   clear h6 h9 hn6)
                | (go_at_call 27; refine (qlenJ y7).mono ?_; rintro e w7 ⟨rfl, rfl⟩)
                | fail)
              go_ret
              exact ⟨by simp, H6.out.bel⟩

end Go.Proofs.Ytnamkckpgaopkaa
