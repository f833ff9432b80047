/-
  The walk of LoopPlays.
-/
import Derived.Test.YtnamkckpgaopkaaYl
import Derived.Test.YtnamkckpgaopkaaYm
import Derived.Test.YtnamkckpgaopkaaLt
set_option linter.unusedVariables false
set_option linter.unusedSimpArgs false
namespace Go.Proofs.Ytnamkckpgaopkaa
open Go.RowKit Go.K

structure LOp where
  k : Int
  a : Int
  b : Int
def LOp.cells (o : LOp) : List Value := [.int .u8 o.k, .int .i16 o.a, .int .i16 o.b]
def LOp.ok (o : LOp) : Prop := (0 ≤ o.k ∧ o.k ≤ 255) ∧ (-32768 ≤ o.a ∧ o.a ≤ 32767) ∧ (-32768 ≤ o.b ∧ o.b ≤ 32767)
theorem op_at {w : World} {g off n : Nat} {M : List LOp} (h : Rd w 3 (some ⟨g, off, none⟩) n (flat LOp.cells M)) {k : Nat} (hk : k < M.length) :
    w.cell? ⟨g, off + k * 3, none⟩ = some (.int .u8 M[k].k) ∧ w.cell? ⟨g, off + k * 3 + 1, none⟩ = some (.int .i16 M[k].a) ∧ w.cell? ⟨g, off + k * 3 + 2, none⟩ = some (.int .i16 M[k].b) := by
  have key : ∀ j v, j < 3 → (M[k].cells)[j]? = some v → w.cell? ⟨g, off + k * 3 + j, none⟩ = some v := fun j v hj hv => by
    have h2 := h.cells _ rfl _ _ ((flat_at (f := LOp.cells) (sz := 3) (fun _ => rfl) M k j hk hj).trans hv)
    rwa [Addr.add_lit, ← Nat.add_assoc] at h2
  exact ⟨key 0 _ (by omega) rfl, key 1 _ (by omega) rfl, key 2 _ (by omega) rfl⟩
/-- the check behind an operation, where both lie in memory -/
theorem same_go {w0 w : World} {L : List As} {bs bl k : Nat} {N : Int} {S : LS} {R : RL} {p : Pt} (hr : Rl S R) (hb : Bk k N R) (hk : k ≤ 40000) (hN : N ≤ 576460752303423488) (h : St w0 w (rlL bl R p ++ (stO bs S :: L))) :
    Calls Try.prog 21 #[.pointer (some ⟨bs, 0, none⟩), .agg (rlc R p)] w fun e w' => e = .returned (.bool true) ∧ St w0 w' (rlO bl R :: stO bs S :: L) := by
  have hB := hr.bnd hb hk hN
  have h1 := hb.t; have h2 := hb.m; have h3 := hb.shots; have h4 := hb.jobs
  refine (same_st hr (by omega) hB.q h (by omega) (by omega) (by omega)).mono ?_
  rintro e w' ⟨rfl, hb⟩
  exact ⟨rfl, rl_shut (h.of_below hb)⟩
theorem rl_all {w0 w : World} {L : List As} {b : Nat} {R : RL} {p : Pt} (h : St w0 w (As.cells b (rlc R p) 69 :: L)) : (w.cell? ⟨b, 0, none⟩ = some (.int .i64 R.now) ∧ w.cell? ⟨b, 1, none⟩ = some (.int .i64 R.ord) ∧ w.cell? ⟨b, 2, none⟩ = some (.int .i64 R.next) ∧ w.cell? ⟨b, 3, none⟩ = some (.int .i64 R.last) ∧ w.cell? ⟨b, 4, none⟩ = some (.int .i64 R.shown) ∧ w.cell? ⟨b, 5, none⟩ = some (.int .i64 R.users)) ∧ (w.cell? ⟨b, 6, none⟩ = some (.bool R.dirty) ∧ w.cell? ⟨b, 7, none⟩ = some (.slice (p 0).1 R.tasks.length (p 0).2) ∧ w.cell? ⟨b, 8, none⟩ = some (.slice (p 1).1 R.jobs.length (p 1).2) ∧ w.cell? ⟨b, 9, none⟩ = some (.slice (p 2).1 R.shots.length (p 2).2) ∧ w.cell? ⟨b, 10, none⟩ = some (.slice (p 3).1 R.tms.length (p 3).2)) := by
  obtain ⟨a0, a1, a2, a3, a4, a5, a6⟩ := rl_c h
  exact ⟨⟨a0, a1, a2, a3, a4, a5⟩, a6, rl_s h⟩
/-- Next of the State behind it Take of the chapter's loop -/
theorem next_go {w0 w : World} {L : List As} {bl bs k : Nat} {N : Int} {S : LS} {R : RL} (hr : Rl S R) (hb : Bk k N R) (hk : k ≤ 40000) (hN : N ≤ 576460752303423488) (h : St w0 w (rlO bl R :: stO bs S :: L)) :
    Calls Try.prog 13 #[.pointer (some ⟨bs, 0, none⟩)] w fun e w' => ∃ S' x l, e = .returned (.agg x.cells.toArray) ∧ (NextR S S' x l ∧ x.hn = l.length) ∧ St w0 w' (rlO bl R :: stO bs S' :: As.row 63 5 x.ha x.hn x.hc (flat Hs.cells l) :: L) := by
  obtain ⟨hrm, hrf⟩ := hr.room hb hk hN
  refine (next_st h.swap hrm hrf).mono ?_
  rintro e w' ⟨S', x, l, rfl, h1, h2, -, h3⟩
  exact ⟨S', x, l, rfl, ⟨h1, h2⟩, St.sh [_, _, _] [2, 0, 1] (by decide) h3⟩
structure Ta (S S' : LS) (R R' : RL) (x : Ch) (l : List Hs) (d : RC) (ls : List Int) (k : Nat) (N : Int) : Prop where
  n : NextR S S' x l
  hn : x.hn = l.length
  t : RTakeR R R' d ls
  rl : Rl S' R'
  kd : x.k = d.kd
  bk : Bk (k + 1) N R'
  ev : ∀ t ∈ R.tms, 0 ≤ t.ev
theorem take_go {w0 w : World} {L : List As} {bl k : Nat} {N : Int} {S S' : LS} {R : RL} {x : Ch} {l : List Hs} (hr : Rl S R) (hb : Bk k N R) (hk : k ≤ 40000) (hN : N ≤ 576460752303423488) (hn : NextR S S' x l ∧ x.hn = l.length) (h : St w0 w (rlO bl R :: L)) :
    Calls Try.prog 22 #[.pointer (some ⟨bl, 0, none⟩)] w fun e w' => ∃ R' d ls s c, e = .returned (.agg (tk d.kd d.n d.src d.fn s ls.length c).toArray) ∧ Ta S S' R R' x l d ls k N ∧ St w0 w' (As.row 3 1 s ls.length c (flat ic ls) :: rlO bl R' :: L) := by
  refine (rtake_st h (hb.rbn hk hN)).mono ?_
  rintro e w' ⟨R', d, ls, s, c, rfl, ht, h2⟩
  obtain ⟨g1, g2, -⟩ := rl_next hr hn.1 ht
  exact ⟨R', d, ls, s, c, rfl, ⟨hn.1, hn.2, ht, g1, g2.1, (hb.take ht).1, fun t hm => (hb.ev t hm).1⟩, h2⟩

def PlRel1 (os : List LOp) (bs bl n : Nat) (w : World) (g : Nat) (v : Value) (wr : World) : Prop :=
  ∃ k S R, g = n - k ∧ k ≤ n ∧ v = .int .i64 k ∧ Rl S R ∧ Bk k (32768 * k) R ∧ St w wr [rlO bl R, stO bs S]
def PlRel2 (bs bl K : Nat) (w : World) (g : Nat) (wr : World) : Prop :=
  ∃ S R, g = mu R ∧ mu R ≤ K ∧ Rl S R ∧ Bk (K - mu R) 4000000 R ∧ St w wr [rlO bl R, stO bs S]
theorem mu_le {R : RL} {k : Nat} {N : Int} (h : Bk k N R) : mu R ≤ 3 * k + 1 := by
  have h1 := h.t; have h2 := h.m; have h3 := h.jobs
  have h4 := dueN_le R.tms R.now
  unfold mu
  split <;> omega
set_option maxRecDepth 100000 in
set_option maxHeartbeats 4000000 in
theorem plays_go (s0 : Option Addr) (n cap : Nat) (os : List LOp) (w : World) (hl : n ≤ 120) (hr : Rd w 3 s0 n (flat LOp.cells os)) (hz : ∀ o ∈ os, o.ok) :
    Calls Try.prog 7 #[.slice s0 n cap] w fun e w' => e = .returned (.bool true) ∧ Below w.heap.size w w' := by
  have HR := Lib.hid hr
  have HZ := Lib.hid hz
  have HL := Lib.hid (show os.length = n by have := hr.len; rw [flat_len (sz := 3) (fun _ => rfl)] at this; omega)
  clear hr hz
  have hd : decide ((120 : Int) < (n : Int)) = false := by simp; omega
  go_enter Try.func7, Try.ntmps7
  go_upto_region 3 with (go_at_call 11; refine (awake_c _).mono ?_; rintro e wa ⟨rfl, hba⟩; have H0 := Lib.hid (St.start w hba); clear hba)
  clear hd
  have H1 := Lib.hid (st_start H0.out)
  go_upto_region 4 with fail
  obtain ⟨bs, hbs⟩ : ∃ b, wa.heap.size = b := ⟨_, rfl⟩
  obtain ⟨W1, hW1⟩ : ∃ W, wa.alloc (.cells zcells 37) = W := ⟨_, rfl⟩
  rw [hW1, hbs] at H1
  rw [show wa.alloc (.cells #[.int .i64 0, .slice none 0 0, .slice none 0 0, .slice none 0 0, .slice none 0 0, .slice none 0 0, .int .i64 0, .slice none 0 0, .slice none 0 0, .int .i64 0, .slice none 0 0, .slice none 0 0, .int .i64 0, .bool false, .int .i64 0, .int .i64 0] 37) = W1 from hW1]
  try simp only [hbs]
  clear hW1 hbs H0
  have H2 := Lib.hid (rl_start H1.out)
  go_upto_region 5 with fail
  obtain ⟨bl, hbl⟩ : ∃ b, W1.heap.size = b := ⟨_, rfl⟩
  obtain ⟨W2, hW2⟩ : ∃ W, W1.alloc (.cells rzcells 69) = W := ⟨_, rfl⟩
  rw [hW2, hbl] at H2
  rw [show W1.alloc (.cells #[.int .i64 0, .int .i64 0, .int .i64 0, .int .i64 0, .int .i64 0, .int .i64 0, .bool false, .slice none 0 0, .slice none 0 0, .slice none 0 0, .slice none 0 0] 69) = W2 from hW2]
  try simp only [hbl]
  clear hW2 hbl H1
  go_wp2_with fail
  go_loopg [20] n (PlRel1 os bs bl n w)
  case atStart => exact ⟨0, _, _, rfl, Nat.zero_le _, rfl, rl0, bk0, H2.out⟩
  case round =>
    obtain ⟨k, S, R, hg, hk, rfl, hrl, hbk, hst⟩ := hrel
    have Hg := Lib.hid hg
    have HRL := Lib.hid hrl
    have HB := Lib.hid hbk
    have H3 := Lib.hid hst
    clear hg hrl hbk hst H2
    by_cases hkn : k < n
    · have hkt : k < os.length := by rw [HL.out]; exact hkn
      have hkI : (k : Int) < (n : Int) := by omega
      have hro := HR.out.below H3.out.bel
      obtain ⟨g, off, hga, -⟩ := hro.addr (by omega)
      rw [hga] at hro
      obtain ⟨d0, d1, d2⟩ := op_at hro hkt
      obtain ⟨o, ho⟩ : ∃ o, os[k] = o := ⟨_, rfl⟩
      rw [ho] at d0 d1 d2
      have HOK := Lib.hid (HZ.out o (by rw [← ho]; exact List.getElem_mem hkt))
      have hsa := Lib.hid hga
      rw [hga]
      clear hro ho hga
      go_wp2_with (first
        | (go_at_call 20; refine (play_st HRL.out HB.out (by omega) (by omega) HOK.out.2.1 HOK.out.2.2 HOK.out.1 H3.out).mono ?_; rintro e w3 ⟨rfl, S3, R3, hp3, hr3, h3⟩; have HP3 := Lib.hid hp3; have HR3 := Lib.hid hr3; obtain ⟨p3, h4⟩ := rl_open h3; have H4 := Lib.hid h4; obtain ⟨⟨x0, x1, x2, x3, x4, x5⟩, x6, x7, x8, x9, x10⟩ := rl_all h4; clear hp3 hr3 h3 h4 d0 d1 d2)
        | (go_at_call 21; refine (same_go HR3.out (HB.out.play HOK.out.2.1 (by omega) HP3.out) (by omega) (by omega) H4.out).mono ?_; rintro e w5 ⟨rfl, h5⟩; have H5 := Lib.hid h5; clear h5 x0 x1 x2 x3 x4 x5 x6 x7 x8 x9 x10)
        | fail)
      rw [← hsa.out]
      go_roundg (n - (k + 1))
      case measure => have := Hg.out; omega
      case rel => exact ⟨k + 1, S3, R3, rfl, by omega, by simp, HR3.out, (HB.out.play HOK.out.2.1 (by omega) HP3.out).mono (Nat.le_refl _) (by omega), H5.out⟩
    · have hkk : k = n := by omega
      subst hkk
      have hm0 := mu_le HB.out
      obtain ⟨K, hK⟩ : ∃ K, k + mu R = K := ⟨_, rfl⟩
      have HBK := Lib.hid (show Bk (K - mu R) 4000000 R from HB.out.mono (by omega) (by omega))
      have HKL := Lib.hid (show K ≤ 1000 by omega)
      have HKM := Lib.hid (show mu R ≤ K by omega)
      clear hK hm0
      have z50 : ∀ w, (zeroValue 50).run Try.prog w = .ok (.agg #[.int .i64 0, .int .i64 0, .slice none 0 0, .int .i64 0, .int .i64 0, .int .i64 0, .string { data := #[] }, .slice none 0 0, .int .i64 0, .int .i64 0, .int .i64 0, .int .i64 0, .string { data := #[] }, .int .i64 0, .slice none 0 0, .slice none 0 0]) w := zv50
      go_wp2_with fail
      go_loopg [] (mu R) (PlRel2 bs bl K w)
      case atStart => exact ⟨S, R, rfl, HKM.out, HRL.out, HBK.out, H3.out⟩
      case round =>
        obtain ⟨S2, R2, hg, hm2, hrl, hbk, hst⟩ := hrel
        have Hg2 := Lib.hid hg
        have HM2 := Lib.hid hm2
        have HR2 := Lib.hid hrl
        have HB2 := Lib.hid hbk
        have H4 := Lib.hid hst
        have HK2 := Lib.hid (show K - mu R2 + 1 ≤ 40000 by have := HKL.out; omega)
        clear hg hm2 hrl hbk hst H3 HBK HKM HRL HB Hg
        go_upto_region 12 with (first
          | (go_at_call 13; refine (next_go HR2.out HB2.out (by have := HK2.out; omega) (by omega) H4.out).mono ?_; rintro e w3 ⟨S3, x, l, rfl, hn3, h3⟩; have HN := Lib.hid hn3; have H5 := Lib.hid h3; clear hn3 h3)
          | (go_at_call 22; refine (take_go HR2.out HB2.out (by have := HK2.out; omega) (by omega) HN.out H5.out).mono ?_; rintro e w4 ⟨R4, d, ls, s, c, rfl, hta, h4⟩; have HT := Lib.hid hta; have h6 := ((h4.new Ch.z.cells.toArray 50).new (tk 0 0 0 0 none 0 0).toArray 77).swap; rw [World.size_alloc] at h6; have H6 := Lib.hid h6; clear h4 hta h6)
          | (refine st_store rfl (.tmp 6) (.tmp 38) rfl H6.out x.cells rfl rfl rfl rfl size50 (Ch.one _) ?_; intro W7 HW7; have H7 := Lib.hid HW7.swap; clear HW7)
          | (refine st_store rfl (.tmp 7) (.tmp 40) rfl H7.out (tk d.kd d.n d.src d.fn s ls.length c) rfl rfl rfl rfl size77 (tk_one _ _ _ _ _ _ _) ?_; intro W8 HW8; have H8 := Lib.hid HW8; clear HW8)
          | fail)
        obtain ⟨m6, hm6⟩ : ∃ m, w4.heap.size = m := ⟨_, rfl⟩
        rw [hm6] at H8
        try simp only [hm6]
        clear hm6 H7 H6 H5
        go_upto_region 14 with (first
          | (refine st_load rfl (.tmp 6) rfl x.cells H8.out (.tail _ (.head _)) rfl rfl Try.underlying50 rfl size50 ?_)
          | (refine st_load rfl (.tmp 7) rfl (tk d.kd d.n d.src d.fn s ls.length c) H8.out (.head _) rfl rfl Try.underlying77 rfl size77 ?_)
          | (go_at_call 23; refine (chosen_go HR2.out HB2.out (by have := HK2.out; omega) HT.out.n HT.out.hn HT.out.t (St.sh [_, _, _, _, _, _] [2, 3, 4, 5, 0, 1] (by decide) H8.out)).mono ?_; rintro e w9 ⟨rfl, -, h9⟩; obtain ⟨p9, h10⟩ := rl_open h9; have H10 := Lib.hid h10; obtain ⟨⟨x0, x1, x2, x3, x4, x5⟩, x6, x7, x8, x9, x10⟩ := rl_all h10; clear h9 h10)
          | (go_at_call 21; refine (same_go HT.out.rl HT.out.bk (by have := HK2.out; omega) (by omega) H10.out).mono ?_; rintro e w11 ⟨rfl, h11⟩; have H11 := Lib.hid h11; clear h11 x0 x1 x2 x3 x4 x5 x6 x7 x8 x9 x10)
          | fail)
        have hb6 := H11.out.blkm (b := m6) (.tail _ (.tail _ (.tail _ (.head _))))
        have k0 : w11.cell? ⟨m6, 0, none⟩ = some (.int .i64 x.k) := by rw [hb6.cell]; rfl
        clear hb6
        by_cases hx : x.k = 0
        · have hxb : (x.k == 0) = true := by simp [hx]
          go_wp2_with fail
          go_ret
          exact ⟨rfl, H11.out.bel⟩
        · have hxb : (x.k == 0) = false := by simp [hx]
          have HMU := Lib.hid (mu_take HT.out.ev HT.out.t (by rw [← HT.out.kd]; exact hx))
          clear hx
          go_wp2_with fail
          go_roundg (mu R4)
          case measure => have := Hg2.out; have := HMU.out; omega
          case rel =>
            have h12 := HMU.out
            have h13 := HM2.out
            exact ⟨S3, R4, rfl, by omega, HT.out.rl, HT.out.bk.mono (by omega) (Int.le_refl _), (St.sh [_, _, _, _] [2, 3, 0, 1] (by decide) H11.out).drop.drop⟩

end Go.Proofs.Ytnamkckpgaopkaa
