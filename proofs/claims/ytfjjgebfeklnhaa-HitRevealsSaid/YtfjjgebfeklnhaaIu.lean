/-
  The walk of HitScrolls.
-/
import Derived.Test.YtfjjgebfeklnhaaIt
import Derived.Test.YtfjjgebfeklnhaaIq
set_option linter.unusedVariables false
set_option linter.unusedSimpArgs false
namespace Go.Proofs.Ytfjjgebfeklnhaa
open Go.RowKit Go.K

theorem scrolls_m (s : Option Addr) (c : Nat) (ls : List Of) (w : World) (h : Rd w 3 s ls.length (flat ofc ls)) (hok : ∀ o ∈ ls, o.ok) (hn : ls.length ≤ 1000) (M : List Sc) (hM : ls.map scOf = M) :
    Calls Try.prog 20 #[.slice s ls.length c] w fun e w' => ∃ s' c', e = .returned (.slice s' M.length c') ∧ K.Own w w' 61 3 s' M.length c' (flat scc M) := by
  refine (scrolls_any s c ls w h hok hn).mono ?_
  rintro e w' ⟨s', c', rfl, o⟩
  have hl : ls.length = M.length := by rw [← hM, List.length_map]
  rw [hM, hl] at o
  exact ⟨s', c', by rw [hl], o⟩
theorem scroll_m (t : Ft) (s : Option Addr) (cap : Nat) (ls : List Sc) (nd yx yy p q : Int) (w : World) (hT : FtAt w t) (hsz : t.sz ≤ 100000) (h : Rd w 3 s ls.length (flat scc ls)) (hn : ls.length ≤ 100000) (hcx : (clampT t nd yx yy 50 50).1 = p) (hcy : (clampT t nd yx yy 50 50).2 = q) (R : List Sc) (hR : scrollL ⟨nd, p, q⟩ ls = R) :
    Calls Try.prog 21 #[.agg (fc t).toArray, .slice s ls.length cap, sc3 nd yx yy, .int .i64 50, .int .i64 50] w fun e w' => ∃ s' c', e = .returned (.slice s' R.length c') ∧ K.Own w w' 61 3 s' R.length c' (flat scc R) := by
  refine (scroll_any t s cap ls.length ls yx yy 50 50 ⟨nd, p, q⟩ w hT hsz h rfl hn hcx hcy).mono ?_
  rintro e w' ⟨s', c', rfl, o⟩
  rw [hR] at o
  exact ⟨s', c', by rw [hR], o⟩
theorem get_back (s : Option Addr) (c n : Nat) (ls : List Sc) (nd p q : Int) (w : World) (h : Rd w 3 s n (flat scc ls)) (hl : ls.length = n) (hn : n ≤ 100000) (hg : getS ls nd = ⟨nd, p, q⟩) :
    Calls Try.prog 22 #[.slice s n c, .int .i64 nd] w fun e w' => e = .returned (sc3 nd p q) ∧ Below w.heap.size w w' := by
  refine (get_any s c n ls nd w h hl hn).mono ?_
  rintro e w' ⟨rfl, hb⟩
  rw [hg]
  exact ⟨rfl, hb⟩
theorem scrollL_len (c : Sc) (l : List Sc) : (scrollL c l).length ≤ l.length + 1 := by
  have := scFold_len c (keptB c) l
  unfold scrollL
  split <;> simp <;> omega

abbrev SsT (m bf bx bg : Nat) (t : Sh) (A : As) (f : Ft) (o0 o1 o2 p q : Int) (s9 : Option Addr) (c9 : Nat) (s11 : Option Addr) (c11 : Nat) (M R : List Sc) : List As :=
  [A, As.cells bg #[.int .i64 o0, .int .i64 p, .int .i64 q] 61, As.row 61 3 s11 R.length c11 (flat scc R), As.cells bx #[.int .i64 o0, .int .i64 o1, .int .i64 o2] 61, As.row 61 3 s9 M.length c9 (flat scc M), As.cells bf (fc f).toArray 51, As.fts [f], As.cells (m + 1) #[.int .u8 o0, .int .i16 o1, .int .i16 o2] 58, As.cells m (shc t).toArray 39]
def SsRel (w : World) (m bf bx bg : Nat) (t : Sh) (f : Ft) (o0 o1 o2 p q : Int) (s9 : Option Addr) (c9 : Nat) (s11 : Option Addr) (c11 : Nat) (M R : List Sc) (g : Nat) (v13 v14 v64 : Value) (wr' : World) : Prop :=
  ∃ (k n : Nat) (s : Option Addr) (cc : Nat) (b : Bool), g = M.length - k ∧ k ≤ M.length ∧ v64 = .int .i64 k ∧ v14 = .bool (!b) ∧ v13 = .slice s n cc ∧ b = (scFold ⟨o0, p, q⟩ (keptB ⟨o0, p, q⟩) (M.take k)).2 ∧ n = (scFold ⟨o0, p, q⟩ (keptB ⟨o0, p, q⟩) (M.take k)).1.length ∧
    St w wr' (SsT m bf bx bg t (As.row 61 3 s (scFold ⟨o0, p, q⟩ (keptB ⟨o0, p, q⟩) (M.take k)).1.length cc (flat scc (scFold ⟨o0, p, q⟩ (keptB ⟨o0, p, q⟩) (M.take k)).1)) f o0 o1 o2 p q s9 c9 s11 c11 M R)
def SeRel (w : World) (n : Nat) (L : List As) (g : Nat) (v102 : Value) (wr' : World) : Prop :=
  ∃ k : Nat, g = n - k ∧ k ≤ n ∧ v102 = .int .i64 k ∧ St w wr' L

set_option maxRecDepth 100000 in
set_option maxHeartbeats 4000000 in
theorem scrolls_go (t : Sh) (s : Option Addr) (cap : Nat) (ls : List Of) (o0 o1 o2 : Int) (w : World) (hat : ShAt w t) (hls : Rd w 3 s ls.length (flat ofc ls)) (hok : ∀ o ∈ ls, o.ok) (h0 : 0 ≤ o0 ∧ o0 ≤ 255) (h1 : -32768 ≤ o1 ∧ o1 ≤ 32767) (h2 : -32768 ≤ o2 ∧ o2 ≤ 32767) :
    Calls Try.prog 6 #[.agg (shc t).toArray, .slice s ls.length cap, .agg #[.int .u8 o0, .int .i16 o1, .int .i16 o2]] w fun e w' => e = .returned (.bool true) ∧ Below w.heap.size w w' := by
  obtain ⟨a, ks⟩ := t
  obtain ⟨r, hr⟩ : ∃ r, fewS (.mk a ks) = r := ⟨_, rfl⟩
  have HR := Lib.hid hr
  have HA := Lib.hid hat
  have HLS := Lib.hid hls
  have HOK := Lib.hid hok
  clear hat hr hls hok
  have e0 : IntKind.i64.wrap o0 = o0 := wr_id (by omega) (by omega)
  have e1 : IntKind.i64.wrap o1 = o1 := wr_id (by omega) (by omega)
  have e2 : IntKind.i64.wrap o2 = o2 := wr_id (by omega) (by omega)
  clear h0 h1 h2
  show Calls Try.prog 6 #[.agg #[.int .i8 a.x, .int .i8 a.y, .int .u8 a.w, .int .u8 a.h, .int .u8 a.kd, .int .u8 a.bd, .slice a.s ks.length a.c], .slice s ls.length cap, .agg #[.int .u8 o0, .int .i16 o1, .int .i16 o2]] w _
  have h1 := ((St.start w (Below.refl _ w)).new #[.int .i8 a.x, .int .i8 a.y, .int .u8 a.w, .int .u8 a.h, .int .u8 a.kd, .int .u8 a.bd, .slice a.s ks.length a.c] 39).new #[.int .u8 o0, .int .i16 o1, .int .i16 o2] 58
  simp only [World.size_alloc] at h1
  obtain ⟨W, hW⟩ : ∃ W, (w.alloc (.cells #[.int .i8 a.x, .int .i8 a.y, .int .u8 a.w, .int .u8 a.h, .int .u8 a.kd, .int .u8 a.bd, .slice a.s ks.length a.c] 39)).alloc (.cells #[.int .u8 o0, .int .i16 o1, .int .i16 o2] 58) = W := ⟨_, rfl⟩
  obtain ⟨m, hm⟩ : ∃ b, w.heap.size = b := ⟨_, rfl⟩
  rw [hW, hm] at h1
  have H1 := Lib.hid h1
  clear h1
  cases r with
  | false =>
    go_enter Try.func6, Try.ntmps6
    go_wp2_with (first
      | (go_at_call 8; refine (awake_any _).mono ?_; rintro e wb ⟨rfl, hbb⟩; have H3 := Lib.hid (H2.out.of_below hbb); clear hbb)
      | (go_at_call 8; refine (awake_any _).mono ?_; rintro e wa ⟨rfl, hba⟩; have H2 := Lib.hid (H1.out.of_below hba); clear hba; obtain ⟨s0, s1, s2, s3, s4, s5, s6⟩ := blk7 (H2.out.blkm (.tail _ (.head _))))
      | (go_at_call 14; refine (fewS_c (.mk a ks) _ (HA.out.stay H2.out.bel)).mono ?_; rintro e wc ⟨rfl, hbc⟩; rw [HR.out]; have H2 := Lib.hid (H2.out.of_below hbc); clear hbc))
    go_ret
    exact ⟨rfl, H3.out.bel⟩
  | true =>
    by_cases hlen : (20 : Int) < (ls.length : Int)
    · go_enter Try.func6, Try.ntmps6
      go_wp2_with (first
        | (go_at_call 8; refine (awake_any _).mono ?_; rintro e wb ⟨rfl, hbb⟩; have H3 := Lib.hid (H2.out.of_below hbb); clear hbb)
        | (go_at_call 8; refine (awake_any _).mono ?_; rintro e wa ⟨rfl, hba⟩; have H2 := Lib.hid (H1.out.of_below hba); clear hba; obtain ⟨s0, s1, s2, s3, s4, s5, s6⟩ := blk7 (H2.out.blkm (.tail _ (.head _))))
        | (go_at_call 14; refine (fewS_c (.mk a ks) _ (HA.out.stay H2.out.bel)).mono ?_; rintro e wc ⟨rfl, hbc⟩; rw [HR.out]; have H2 := Lib.hid (H2.out.of_below hbc); clear hbc))
      go_ret
      exact ⟨rfl, H3.out.bel⟩
    have hfw := few_sz HR.out
    have HFW := Lib.hid hfw
    clear hfw
    have z51 := zv51
    go_enter Try.func6, Try.ntmps6
    go_upto_region 3 with (first
      | (go_at_call 8; refine (awake_any _).mono ?_; rintro e wa ⟨rfl, hba⟩; have H2 := Lib.hid (H1.out.of_below hba); clear hba; obtain ⟨t0, t1, t2, t3, t4, t5, t6⟩ := blk7 (H2.out.blkm (.tail _ (.head _))))
      | (go_at_call 14; refine (fewS_c (.mk a ks) _ (HA.out.stay H2.out.bel)).mono ?_; rintro e wc ⟨rfl, hbc⟩; rw [HR.out]; have H3 := Lib.hid (H2.out.of_below hbc); clear hbc t0 t1 t2 t3 t4 t5 t6; obtain ⟨t0, t1, t2, t3, t4, t5, t6⟩ := blk7 (H3.out.blkm (.tail _ (.head _)))))
    go_upto_region 4 with (first
      | (go_at_call 15; refine (frag_c 8 (.mk a ks) 0 w _ _ HA.out HFW.out.1 (by omega) (by have := HFW.out.2; omega) H3.out).mono ?_; rintro e wd ⟨f, rfl, q1, q2, q3, q4⟩; have Q1 := Lib.hid q1; have Q2 := Lib.hid (q2 rfl); have Q3 := Lib.hid q3; have H4 := Lib.hid q4; have H5 := Lib.hid (q4.new (fv Fz 0).toArray 51); clear q1 q2 q3 q4)
      | (refine st_store rfl (.tmp 7) (.tmp 33) rfl H5.out (fc f) rfl rfl rfl rfl size51 (fc_one _) ?_; intro W6 HW6; have H6 := Lib.hid HW6; clear HW6))
    clear z51 t0 t1 t2 t3 t4 t5 t6
    have hfs : f.sz ≤ 100000 := by have := Q3.out; have := HFW.out.2; omega
    obtain ⟨bf, hbf⟩ : ∃ bf, wd.heap.size = bf := ⟨_, rfl⟩
    rw [hbf] at H6 ⊢
    clear hbf
    -- the numbers
    obtain ⟨p, hp⟩ : ∃ p, (clampT f o0 o1 o2 50 50).1 = p := ⟨_, rfl⟩
    obtain ⟨q, hq⟩ : ∃ q, (clampT f o0 o1 o2 50 50).2 = q := ⟨_, rfl⟩
    obtain ⟨M, hM⟩ : ∃ M, ls.map scOf = M := ⟨_, rfl⟩
    obtain ⟨R, hRR⟩ : ∃ R, scrollL ⟨o0, p, q⟩ M = R := ⟨_, rfl⟩
    have hML : M.length ≤ 20 := by rw [← hM, List.length_map]; omega
    have HRL := Lib.hid (show R.length ≤ M.length + 1 by rw [← hRR]; exact scrollL_len _ _)
    have HGB := Lib.hid (show getS R o0 = ⟨o0, p, q⟩ by rw [← hRR]; exact get_scroll ⟨o0, p, q⟩ M)
    have HP := Lib.hid hp
    have HQ := Lib.hid hq
    have HM := Lib.hid hM
    have HRS := Lib.hid hRR
    clear hp hq hM hRR
    go_upto_region 5 with (go_at_call 20; refine (scrolls_m s cap ls _ (HLS.out.below H6.out.bel) HOK.out (by omega) M HM.out).mono ?_; rintro e w7 ⟨s9, c9, rfl, hb7⟩; have H7 := Lib.hid (H6.out.own_new hb7); clear hb7)
    have ho := H7.out.blkm (b := m + 1) (.tail _ (.tail _ (.tail _ (.head _))))
    have j0 : w7.cell? ⟨m + 1, 0, none⟩ = some (.int .u8 o0) := ho.cell 0
    have j1 : w7.cell? ⟨m + 1, 1, none⟩ = some (.int .i16 o1) := ho.cell 1
    have j2 : w7.cell? ⟨m + 1, 2, none⟩ = some (.int .i16 o2) := ho.cell 2
    clear ho
    go_upto_region 6 with fail
    have h8 := H7.out.new #[.int .i64 o0, .int .i64 o1, .int .i64 o2] 61
    obtain ⟨W8, hW8⟩ : ∃ W8, w7.alloc (.cells #[.int .i64 o0, .int .i64 o1, .int .i64 o2] 61) = W8 := ⟨_, rfl⟩
    obtain ⟨bx, hbx⟩ : ∃ bx, w7.heap.size = bx := ⟨_, rfl⟩
    rw [hW8, hbx] at h8
    rw [hW8]
    simp only [hbx]
    have H8 := Lib.hid h8
    obtain ⟨x0, x1, x2, -⟩ := h8.blk.1.three
    clear h8 hW8 j0 j1 j2
    go_upto_region 7 with (first
      | (refine st_load rfl (.tmp 7) rfl (fc f) H8.out (.tail _ (.tail _ (.head _))) rfl rfl Try.underlying51 rfl size51 ?_)
      | (go_at_call 21; refine (scroll_m f s9 c9 M o0 o1 o2 p q _ (fts_at H8.out (.tail _ (.tail _ (.tail _ (.head _)))) f (by simp)) hfs (H8.out.slm (.tail _ (.head _))).rd (by omega) HP.out HQ.out R HRS.out).mono ?_; rintro e w9 ⟨s11, c11, rfl, hb9⟩; have H9 := Lib.hid (H8.out.own_new hb9); clear hb9))
    clear x0 x1 x2
    obtain ⟨x0, x1, x2, -⟩ := (H9.out.blkm (b := bx) (.tail _ (.head _))).three
    go_upto_region 8 with (first
      | (refine st_load rfl (.tmp 7) rfl (fc f) H9.out (.tail _ (.tail _ (.tail _ (.head _)))) rfl rfl Try.underlying51 rfl size51 ?_)
      | (go_at_call 19; refine (clamp_n f o0 o1 o2 50 50 _ (fts_at H9.out (.tail _ (.tail _ (.tail _ (.tail _ (.head _))))) f (by simp)) hfs p q HP.out HQ.out).mono ?_; rintro e w10 ⟨rfl, hb10⟩; have H10 := Lib.hid ((H9.out.of_below hb10).new #[.int .i64 o0, .int .i64 p, .int .i64 q] 61); clear hb10))
    clear x0 x1 x2
    obtain ⟨W11, hW11⟩ : ∃ W11, w10.alloc (.cells #[.int .i64 o0, .int .i64 p, .int .i64 q] 61) = W11 := ⟨_, rfl⟩
    obtain ⟨bg, hbg⟩ : ∃ bg, w10.heap.size = bg := ⟨_, rfl⟩
    rw [hW11, hbg] at H10
    rw [hW11]
    simp only [hbg]
    clear hW11
    obtain ⟨g0, g1, g2, -⟩ := H10.out.blk.1.three
    go_upto_region 9 with fail
    go_cut [14] (fun v14 wx => v14 = .bool (!keptB ⟨o0, p, q⟩) ∧ wx = W11)
    case first =>
      obtain ⟨q1, hq1⟩ : ∃ q1, (p == 0) = q1 := ⟨_, rfl⟩
      obtain ⟨q2, hq2⟩ : ∃ q2, (q == 0) = q2 := ⟨_, rfl⟩
      have HK := Lib.hid (show (!keptB ⟨o0, p, q⟩) = (q1 && q2) by rw [keptB, ← hq1, ← hq2]; simp [bne])
      cases q1 with
      | false =>
        go_wp2_with fail
        go_meet
        exact ⟨by rw [HK.out]; rfl, rfl⟩
      | true =>
        cases q2 with
        | true =>
          go_wp2_with fail
          go_meet
          exact ⟨by rw [HK.out]; rfl, rfl⟩
        | false =>
          go_wp2_with fail
          go_meet
          exact ⟨by rw [HK.out]; rfl, rfl⟩
    case rest =>
      obtain ⟨rfl, rfl⟩ := hcut
      clear g0 g1 g2
      obtain ⟨kb, hkb⟩ : ∃ kb, keptB ⟨o0, p, q⟩ = kb := ⟨_, rfl⟩
      rw [hkb]
      have HKB := Lib.hid hkb
      clear hkb
      go_wp2_with fail
      go_loopg [13, 14, 64] M.length (SsRel w m bf bx bg (.mk a ks) f o0 o1 o2 p q s9 c9 s11 c11 M R)
      case atStart =>
        refine ⟨0, 0, none, 0, kb, rfl, Nat.zero_le _, rfl, rfl, rfl, by rw [← HKB.out]; rfl, rfl, ?_⟩
        have h4 := H10.out.row_nil 61 3
        exact h4
      case round =>
        obtain ⟨k, n, s', cc, b, hg, hk, rfl, rfl, rfl, hb, hn', hst⟩ := hrel
        have Hg := Lib.hid hg
        have HS := Lib.hid hst
        have HB := Lib.hid hb
        have HN := Lib.hid hn'
        have hfl := scFold_len ⟨o0, p, q⟩ (keptB ⟨o0, p, q⟩) (M.take k)
        have htl : (M.take k).length ≤ k := by rw [List.length_take]; omega
        have hnl : n ≤ 100000 := by omega
        clear hg hst hb hn' hfl htl
        by_cases hkn : k < M.length
        · have hkI : (k : Int) < (M.length : Int) := by omega
          have hkI0 : (0 : Int) ≤ (k : Int) := by omega
          have hrd := (HS.out.slm (s := s9) (n := M.length) (c := c9) (e := 61) (sz := 3) (xs := flat scc M) (.tail _ (.tail _ (.tail _ (.tail _ (.head _)))))).rd
          obtain ⟨g, off, rfl, -⟩ := hrd.addr (by omega)
          have hsn : scFold ⟨o0, p, q⟩ (keptB ⟨o0, p, q⟩) (M.take (k + 1)) = scStep ⟨o0, p, q⟩ (scFold ⟨o0, p, q⟩ (keptB ⟨o0, p, q⟩) (M.take k)) M[k] := by
            rw [List.take_succ_eq_append_getElem hkn, scFold_snoc]
          obtain ⟨x, hx⟩ : ∃ x, M[k] = x := ⟨_, rfl⟩
          obtain ⟨d0, d1, d2⟩ := sc_at hrd hkn x hx
          have x0 := (HS.out.blkm (b := bx) (.tail _ (.tail _ (.tail _ (.head _))))).cell 0
          rw [hx] at hsn
          obtain ⟨st, hst⟩ : ∃ st, scFold ⟨o0, p, q⟩ (keptB ⟨o0, p, q⟩) (M.take k) = st := ⟨_, rfl⟩
          rw [hst] at hsn HS HB HN
          obtain ⟨o, ob⟩ := st
          simp only at HS HB HN
          have hbo := HB.out
          subst hbo
          have hno := HN.out
          subst hno
          have HSN := Lib.hid hsn
          have HX := Lib.hid hx
          clear hrd hx hst hsn HB HN
          obtain ⟨u, hu⟩ : ∃ u, (x.n != o0) = u := ⟨_, rfl⟩
          have HU := Lib.hid hu
          go_upto_region 13 with fail
          go_quiet (fail)
          obtain ⟨W7, hW7⟩ : ∃ W7, wr.drewN nq = W7 := ⟨_, rfl⟩
          have H7 := Lib.hid (show St w W7 _ by rw [← hW7]; exact HS.out.drewN nq)
          rw [hW7]
          clear hW7 d0 d1 d2 x0 hu
          obtain ⟨d0, d1, d2⟩ := sc_at (H7.out.slm (s := some ⟨g, off, none⟩) (n := M.length) (c := c9) (e := 61) (sz := 3) (xs := flat scc M) (.tail _ (.tail _ (.tail _ (.tail _ (.head _)))))).rd hkn x HX.out
          obtain ⟨g0, g1, g2, -⟩ := (H7.out.blkm (b := bg) (.tail _ (.head _))).three
          cases u with
          | false =>
            have hxn : x.n = o0 := by simpa using HU.out
            cases b with
            | true =>
              go_wp2_with (refine st_push rfl (.tmp 84) (.tmp 86) rfl el61 (H7.out.alloc (.cells #[.int .i64 o0, .int .i64 p, .int .i64 q] 61)) rfl #[.int .i64 o0, .int .i64 p, .int .i64 q] (H7.out.new #[.int .i64 o0, .int .i64 p, .int .i64 q] 61).blk.1 rfl rfl (scc_one ⟨o0, p, q⟩) (by omega) (by decide) ?_; intro s8 c8 W8 HW8; have H8 := Lib.hid HW8; clear HW8)
              go_roundg (M.length - (k + 1))
              case measure => have := Hg.out; omega
              case rel =>
                have e1 : scFold ⟨o0, p, q⟩ (keptB ⟨o0, p, q⟩) (M.take (k + 1)) = (o ++ [(⟨o0, p, q⟩ : Sc)], false) := by rw [HSN.out, scStep, if_pos hxn]; rfl
                refine ⟨k + 1, o.length + 1, s8, c8, false, rfl, hkn, by simp, rfl, rfl, by rw [e1], by rw [e1]; simp, ?_⟩
                rw [e1]
                have e2 : flat scc (o ++ [(⟨o0, p, q⟩ : Sc)]) = flat scc o ++ (#[Value.int .i64 o0, .int .i64 p, .int .i64 q]).toList := by rw [flat_append]; simp [flat, scc]
                show St w _ (SsT m bf bx bg (.mk a ks) (As.row 61 3 s8 (o ++ [(⟨o0, p, q⟩ : Sc)]).length c8 (flat scc (o ++ [(⟨o0, p, q⟩ : Sc)]))) f o0 o1 o2 p q _ c9 s11 c11 M R)
                rw [e2, List.length_append]
                exact H8.out
            | false =>
              go_wp2_with fail
              go_roundg (M.length - (k + 1))
              case measure => have := Hg.out; omega
              case rel =>
                have e1 : scFold ⟨o0, p, q⟩ (keptB ⟨o0, p, q⟩) (M.take (k + 1)) = (o, false) := by rw [HSN.out, scStep, if_pos hxn]; rfl
                refine ⟨k + 1, o.length, s', cc, false, rfl, hkn, by simp, rfl, rfl, by rw [e1], by rw [e1], ?_⟩
                rw [e1]
                exact H7.out
          | true =>
            have hxn : ¬ x.n = o0 := by simpa using HU.out
            go_wp2_with (refine st_push rfl (.tmp 75) (.tmp 80) rfl el61 (H7.out.alloc (.cells #[.int .i64 x.n, .int .i64 x.x, .int .i64 x.y] 61)) rfl #[.int .i64 x.n, .int .i64 x.x, .int .i64 x.y] (H7.out.new #[.int .i64 x.n, .int .i64 x.x, .int .i64 x.y] 61).blk.1 rfl rfl (scc_one x) (by omega) (by decide) ?_; intro s8 c8 W8 HW8; have H8 := Lib.hid HW8; clear HW8)
            go_roundg (M.length - (k + 1))
            case measure => have := Hg.out; omega
            case rel =>
              have e1 : scFold ⟨o0, p, q⟩ (keptB ⟨o0, p, q⟩) (M.take (k + 1)) = (o ++ [x], b) := by rw [HSN.out, scStep, if_neg hxn]
              refine ⟨k + 1, o.length + 1, s8, c8, b, rfl, hkn, by simp, rfl, rfl, by rw [e1], by rw [e1]; simp, ?_⟩
              rw [e1]
              have e2 : flat scc (o ++ [x]) = flat scc o ++ (#[Value.int .i64 x.n, .int .i64 x.x, .int .i64 x.y]).toList := by rw [flat_append]; simp [flat, scc]
              show St w _ (SsT m bf bx bg (.mk a ks) (As.row 61 3 s8 (o ++ [x]).length c8 (flat scc (o ++ [x]))) f o0 o1 o2 p q _ c9 s11 c11 M R)
              rw [e2, List.length_append]
              exact H8.out
        · have hkI : ¬ (k : Int) < (M.length : Int) := by omega
          have hke : k = M.length := by omega
          subst hke
          rw [List.take_length] at HS HB HN
          obtain ⟨st, hst⟩ : ∃ st, scFold ⟨o0, p, q⟩ (keptB ⟨o0, p, q⟩) M = st := ⟨_, rfl⟩
          rw [hst] at HS HB HN
          have hsl : R = if st.2 then st.1 ++ [(⟨o0, p, q⟩ : Sc)] else st.1 := by rw [← HRS.out, scrollL, hst]
          obtain ⟨o, ob⟩ := st
          simp only at HS HB HN hsl
          have hbo := HB.out
          subst hbo
          have hno := HN.out
          subst hno
          have HSL := Lib.hid hsl
          clear hst hsl HB HN
          have hcI : True := trivial
          cases b with
          | true =>
            have HLEN := Lib.hid (show o.length + 1 = R.length by rw [HSL.out]; simp)
            have HFL := Lib.hid (show flat scc o ++ (#[Value.int .i64 o0, .int .i64 p, .int .i64 q]).toList = flat scc R by rw [HSL.out, if_pos rfl, flat_append]; simp [flat, scc])
            obtain ⟨g0, g1, g2, -⟩ := (HS.out.blkm (b := bg) (.tail _ (.head _))).three
            go_wp2_with (refine st_push rfl (.tmp 91) (.tmp 93) rfl el61 (HS.out.alloc (.cells #[.int .i64 o0, .int .i64 p, .int .i64 q] 61)) rfl #[.int .i64 o0, .int .i64 p, .int .i64 q] (HS.out.new #[.int .i64 o0, .int .i64 p, .int .i64 q] 61).blk.1 rfl rfl (scc_one ⟨o0, p, q⟩) (by omega) (by decide) ?_; intro s7 c7 W7 HW7; rw [HLEN.out] at HW7 ⊢; have HF := Lib.hid (show St w W7 (SsT m bf bx bg (.mk a ks) (As.row 61 3 s7 R.length c7 (flat scc R)) f o0 o1 o2 p q s9 c9 s11 c11 M R) by rw [← HFL.out]; exact HW7); clear HW7 g0 g1 g2)
            have HL7 := Lib.hid (show R.length ≤ 21 from by have := HRL.out; omega)
            have hRI : (R.length : Int) ≤ 21 := by have := HL7.out; omega
            clear hcI hkI
            go_loopg [102] R.length (SeRel w R.length (SsT m bf bx bg (.mk a ks) (As.row 61 3 s7 R.length c7 (flat scc R)) f o0 o1 o2 p q s9 c9 s11 c11 M R))
            case atStart => exact ⟨0, rfl, Nat.zero_le _, rfl, HF.out⟩
            case round =>
              obtain ⟨k, hg, hk, rfl, hst⟩ := hrel
              have Hg := Lib.hid hg
              have H2 := Lib.hid hst
              clear hg hst
              by_cases hkn : k < R.length
              · have hkI : (k : Int) < (R.length : Int) := by omega
                have hkI0 : (0 : Int) ≤ (k : Int) := by omega
                have hra := H2.out.sl.rd
                have hrb := (H2.out.slm (s := s11) (n := R.length) (c := c11) (e := 61) (sz := 3) (xs := flat scc R) (.tail _ (.tail _ (.head _)))).rd
                obtain ⟨ga, offa, rfl, -⟩ := hra.addr (by omega)
                obtain ⟨gb, offb, rfl, -⟩ := hrb.addr (by omega)
                obtain ⟨x, hx⟩ : ∃ x, R[k] = x := ⟨_, rfl⟩
                obtain ⟨d0, d1, d2⟩ := sc_at hra hkn x hx
                obtain ⟨f0, f1, f2⟩ := sc_at hrb hkn x hx
                clear hra hrb hx
                go_upto_region 26 with fail
                go_quiet (fail)
                go_wp2_with fail
                go_roundg (R.length - (k + 1))
                case measure => have := Hg.out; omega
                case rel => exact ⟨k + 1, rfl, hkn, by simp, H2.out.drewN nq⟩
              · have hkI : ¬ (k : Int) < (R.length : Int) := by omega
                go_upto_region 29 with fail
                obtain ⟨g0, g1, g2, -⟩ := (H2.out.drew.blkm (b := bg) (.tail _ (.head _))).three
                have x0 := (H2.out.drew.blkm (b := bx) (.tail _ (.tail _ (.tail _ (.head _))))).cell 0
                have hS : (fun w' : World => w'.cell? ⟨bx, 0, none⟩ = some (.int .i64 o0) ∧ (w'.cell? ⟨bg, 0, none⟩ = some (.int .i64 o0) ∧ w'.cell? ⟨bg, 1, none⟩ = some (.int .i64 p) ∧ w'.cell? ⟨bg, 2, none⟩ = some (.int .i64 q))) wr.drew := ⟨x0, g0, g1, g2⟩
                clear g0 g1 g2 x0
                refine wp_region_held (S := (fun w' : World => w'.cell? ⟨bx, 0, none⟩ = some (.int .i64 o0) ∧ (w'.cell? ⟨bg, 0, none⟩ = some (.int .i64 o0) ∧ w'.cell? ⟨bg, 1, none⟩ = some (.int .i64 p) ∧ w'.cell? ⟨bg, 2, none⟩ = some (.int .i64 q)))) (by kernel_rfl) ?_
                change wpAnyH _ _ _ _ _ _ _ _ (World.drew _)
                refine' wpAnyH_take (i := 0) (v := .slice s11 R.length c11) rfl (by kernel_rfl) (by kernel_rfl) (by kernel_rfl) (fun _ _ _ h => h) (Or.inl ⟨by rfl, ?hy0⟩) hS ?rest0
                case hy0 => (intro w' hSw; obtain ⟨k0, k1, k2, k3⟩ := hSw; go_simp; try with_reducible rfl)
                try simp only [Act.put, List.getElem_toArray, List.getElem_cons_zero, List.getElem_cons_succ, List.setIfInBounds_toArray, List.set_cons_zero, List.set_cons_succ]
                refine' wpAnyH_take (i := 1) (v := .pointer (some ⟨bx, 0, none⟩)) rfl (by kernel_rfl) (by kernel_rfl) (by kernel_rfl) (fun _ _ _ h => h) (Or.inl ⟨by rfl, ?hy1⟩) hS ?rest1
                case hy1 => (intro w' hSw; obtain ⟨k0, k1, k2, k3⟩ := hSw; go_simp; try with_reducible rfl)
                try simp only [Act.put, List.getElem_toArray, List.getElem_cons_zero, List.getElem_cons_succ, List.setIfInBounds_toArray, List.set_cons_zero, List.set_cons_succ]
                refine' wpAnyH_take (i := 2) (v := .int .i64 o0) rfl (by kernel_rfl) (by kernel_rfl) (by kernel_rfl) (fun _ _ _ h => h) (Or.inl ⟨by rfl, ?hy2⟩) hS ?rest2
                case hy2 => (intro w' hSw; obtain ⟨k0, k1, k2, k3⟩ := hSw; go_simp; try with_reducible rfl)
                try simp only [Act.put, List.getElem_toArray, List.getElem_cons_zero, List.getElem_cons_succ, List.setIfInBounds_toArray, List.set_cons_zero, List.set_cons_succ]
                refine' wpAnyH_take (i := 4) (v := .agg #[.int .i64 o0, .int .i64 p, .int .i64 q]) rfl (by kernel_rfl) (by kernel_rfl) (by kernel_rfl) (fun _ _ _ h => h) (Or.inl ⟨by rfl, ?hy4⟩) hS ?rest4
                case hy4 => (intro w' hSw; obtain ⟨k0, k1, k2, k3⟩ := hSw; go_simp; try with_reducible rfl)
                try simp only [Act.put, List.getElem_toArray, List.getElem_cons_zero, List.getElem_cons_succ, List.setIfInBounds_toArray, List.set_cons_zero, List.set_cons_succ]
                refine held_one (i := 3) rfl (by kernel_rfl) ?_
                intro K' hK; have HK' := Lib.hid hK; clear hK
                refine wp_call (by rfl) (by rfl) Try.func22 (by kernel_rfl) (by kernel_rfl) (by kernel_rfl) (get_back s11 c11 R.length R o0 p q _ (H2.out.drew.slm (.tail _ (.tail _ (.head _)))).rd rfl (by have := HL7.out; omega) HGB.out) ?_
                rintro e w12 ⟨rfl, hb12⟩
                have H12 := Lib.hid (H2.out.drew.of_below hb12)
                obtain ⟨g0, g1, g2, -⟩ := (H12.out.blkm (b := bg) (.tail _ (.head _))).three
                have x0 := (H12.out.blkm (b := bx) (.tail _ (.tail _ (.tail _ (.head _))))).cell 0
                have hS12 := And.intro x0 (And.intro g0 (And.intro g1 g2))
                refine ⟨_, rfl, HK'.out _ _ ⟨hS12, ?_⟩⟩
                clear HK' K' x0 hS hb12
                try simp only [Act.put, List.getElem_toArray, List.getElem_cons_zero, List.getElem_cons_succ, List.setIfInBounds_toArray, List.set_cons_zero, List.set_cons_succ]
                refine held_one (i := 5) rfl (by kernel_rfl) ?_
                intro K' hK; have HK' := Lib.hid hK; clear hK
                go_simp
                refine HK'.out _ _ ⟨hS12, ?_⟩
                clear HK' K'
                try simp only [Act.put, List.getElem_toArray, List.getElem_cons_zero, List.getElem_cons_succ, List.setIfInBounds_toArray, List.set_cons_zero, List.set_cons_succ]
                refine held_one (i := 6) rfl (by kernel_rfl) ?_
                intro K' hK; have HK' := Lib.hid hK; clear hK
                go_simp
                refine HK'.out _ _ ⟨hS12, ?_⟩
                clear HK' K'
                try simp only [Act.put, List.getElem_toArray, List.getElem_cons_zero, List.getElem_cons_succ, List.setIfInBounds_toArray, List.set_cons_zero, List.set_cons_succ]
                refine wpAnyH_done (by kernel_rfl) ?_ _
                go_wp2_with fail
                go_ret
                exact ⟨rfl, by have := H12.out.bel; rw [hm] at this; exact this⟩
          | false =>
            have hro : o = R := HSL.out.symm
            subst hro
            obtain ⟨s7, hs7⟩ : ∃ s7, s' = s7 := ⟨_, rfl⟩
            subst hs7
            have HF := HS
            obtain ⟨c7, hc7⟩ : ∃ c7, cc = c7 := ⟨_, rfl⟩
            subst hc7
            go_wp2_with fail
            have HL7 := Lib.hid (show o.length ≤ 21 from by have := HRL.out; omega)
            have hRI : (o.length : Int) ≤ 21 := by have := HL7.out; omega
            clear hcI hkI
            go_loopg [102] o.length (SeRel w o.length (SsT m bf bx bg (.mk a ks) (As.row 61 3 s' o.length cc (flat scc o)) f o0 o1 o2 p q s9 c9 s11 c11 M o))
            case atStart => exact ⟨0, rfl, Nat.zero_le _, rfl, HF.out⟩
            case round =>
              obtain ⟨k, hg, hk, rfl, hst⟩ := hrel
              have Hg := Lib.hid hg
              have H2 := Lib.hid hst
              clear hg hst
              by_cases hkn : k < o.length
              · have hkI : (k : Int) < (o.length : Int) := by omega
                have hkI0 : (0 : Int) ≤ (k : Int) := by omega
                have hra := H2.out.sl.rd
                have hrb := (H2.out.slm (s := s11) (n := o.length) (c := c11) (e := 61) (sz := 3) (xs := flat scc o) (.tail _ (.tail _ (.head _)))).rd
                obtain ⟨ga, offa, rfl, -⟩ := hra.addr (by omega)
                obtain ⟨gb, offb, rfl, -⟩ := hrb.addr (by omega)
                obtain ⟨x, hx⟩ : ∃ x, o[k] = x := ⟨_, rfl⟩
                obtain ⟨d0, d1, d2⟩ := sc_at hra hkn x hx
                obtain ⟨f0, f1, f2⟩ := sc_at hrb hkn x hx
                clear hra hrb hx
                go_upto_region 26 with fail
                go_quiet (fail)
                go_wp2_with fail
                go_roundg (o.length - (k + 1))
                case measure => have := Hg.out; omega
                case rel => exact ⟨k + 1, rfl, hkn, by simp, H2.out.drewN nq⟩
              · have hkI : ¬ (k : Int) < (o.length : Int) := by omega
                go_upto_region 29 with fail
                obtain ⟨g0, g1, g2, -⟩ := (H2.out.drew.blkm (b := bg) (.tail _ (.head _))).three
                have x0 := (H2.out.drew.blkm (b := bx) (.tail _ (.tail _ (.tail _ (.head _))))).cell 0
                have hS : (fun w' : World => w'.cell? ⟨bx, 0, none⟩ = some (.int .i64 o0) ∧ (w'.cell? ⟨bg, 0, none⟩ = some (.int .i64 o0) ∧ w'.cell? ⟨bg, 1, none⟩ = some (.int .i64 p) ∧ w'.cell? ⟨bg, 2, none⟩ = some (.int .i64 q))) wr.drew := ⟨x0, g0, g1, g2⟩
                clear g0 g1 g2 x0
                refine wp_region_held (S := (fun w' : World => w'.cell? ⟨bx, 0, none⟩ = some (.int .i64 o0) ∧ (w'.cell? ⟨bg, 0, none⟩ = some (.int .i64 o0) ∧ w'.cell? ⟨bg, 1, none⟩ = some (.int .i64 p) ∧ w'.cell? ⟨bg, 2, none⟩ = some (.int .i64 q)))) (by kernel_rfl) ?_
                change wpAnyH _ _ _ _ _ _ _ _ (World.drew _)
                refine' wpAnyH_take (i := 0) (v := .slice s11 o.length c11) rfl (by kernel_rfl) (by kernel_rfl) (by kernel_rfl) (fun _ _ _ h => h) (Or.inl ⟨by rfl, ?hz0⟩) hS ?resu0
                case hz0 => (intro w' hSw; obtain ⟨k0, k1, k2, k3⟩ := hSw; go_simp; try with_reducible rfl)
                try simp only [Act.put, List.getElem_toArray, List.getElem_cons_zero, List.getElem_cons_succ, List.setIfInBounds_toArray, List.set_cons_zero, List.set_cons_succ]
                refine' wpAnyH_take (i := 1) (v := .pointer (some ⟨bx, 0, none⟩)) rfl (by kernel_rfl) (by kernel_rfl) (by kernel_rfl) (fun _ _ _ h => h) (Or.inl ⟨by rfl, ?hz1⟩) hS ?resu1
                case hz1 => (intro w' hSw; obtain ⟨k0, k1, k2, k3⟩ := hSw; go_simp; try with_reducible rfl)
                try simp only [Act.put, List.getElem_toArray, List.getElem_cons_zero, List.getElem_cons_succ, List.setIfInBounds_toArray, List.set_cons_zero, List.set_cons_succ]
                refine' wpAnyH_take (i := 2) (v := .int .i64 o0) rfl (by kernel_rfl) (by kernel_rfl) (by kernel_rfl) (fun _ _ _ h => h) (Or.inl ⟨by rfl, ?hz2⟩) hS ?resu2
                case hz2 => (intro w' hSw; obtain ⟨k0, k1, k2, k3⟩ := hSw; go_simp; try with_reducible rfl)
                try simp only [Act.put, List.getElem_toArray, List.getElem_cons_zero, List.getElem_cons_succ, List.setIfInBounds_toArray, List.set_cons_zero, List.set_cons_succ]
                refine' wpAnyH_take (i := 4) (v := .agg #[.int .i64 o0, .int .i64 p, .int .i64 q]) rfl (by kernel_rfl) (by kernel_rfl) (by kernel_rfl) (fun _ _ _ h => h) (Or.inl ⟨by rfl, ?hz4⟩) hS ?resu4
                case hz4 => (intro w' hSw; obtain ⟨k0, k1, k2, k3⟩ := hSw; go_simp; try with_reducible rfl)
                try simp only [Act.put, List.getElem_toArray, List.getElem_cons_zero, List.getElem_cons_succ, List.setIfInBounds_toArray, List.set_cons_zero, List.set_cons_succ]
                refine held_one (i := 3) rfl (by kernel_rfl) ?_
                intro K' hK; have HK' := Lib.hid hK; clear hK
                refine wp_call (by rfl) (by rfl) Try.func22 (by kernel_rfl) (by kernel_rfl) (by kernel_rfl) (get_back s11 c11 o.length o o0 p q _ (H2.out.drew.slm (.tail _ (.tail _ (.head _)))).rd rfl (by have := HL7.out; omega) HGB.out) ?_
                rintro e w12 ⟨rfl, hb12⟩
                have H12 := Lib.hid (H2.out.drew.of_below hb12)
                obtain ⟨g0, g1, g2, -⟩ := (H12.out.blkm (b := bg) (.tail _ (.head _))).three
                have x0 := (H12.out.blkm (b := bx) (.tail _ (.tail _ (.tail _ (.head _))))).cell 0
                have hS12 := And.intro x0 (And.intro g0 (And.intro g1 g2))
                refine ⟨_, rfl, HK'.out _ _ ⟨hS12, ?_⟩⟩
                clear HK' K' x0 hS hb12
                try simp only [Act.put, List.getElem_toArray, List.getElem_cons_zero, List.getElem_cons_succ, List.setIfInBounds_toArray, List.set_cons_zero, List.set_cons_succ]
                refine held_one (i := 5) rfl (by kernel_rfl) ?_
                intro K' hK; have HK' := Lib.hid hK; clear hK
                go_simp
                refine HK'.out _ _ ⟨hS12, ?_⟩
                clear HK' K'
                try simp only [Act.put, List.getElem_toArray, List.getElem_cons_zero, List.getElem_cons_succ, List.setIfInBounds_toArray, List.set_cons_zero, List.set_cons_succ]
                refine held_one (i := 6) rfl (by kernel_rfl) ?_
                intro K' hK; have HK' := Lib.hid hK; clear hK
                go_simp
                refine HK'.out _ _ ⟨hS12, ?_⟩
                clear HK' K'
                try simp only [Act.put, List.getElem_toArray, List.getElem_cons_zero, List.getElem_cons_succ, List.setIfInBounds_toArray, List.set_cons_zero, List.set_cons_succ]
                refine wpAnyH_done (by kernel_rfl) ?_ _
                go_wp2_with fail
                go_ret
                exact ⟨rfl, by have := H12.out.bel; rw [hm] at this; exact this⟩
end Go.Proofs.Ytfjjgebfeklnhaa
