/-
  Clone of a State.
-/
import Derived.Test.YtnamkckpgaopkaaYf
import Derived.Test.YtnamkckpgaopkaaXp
set_option linter.unusedVariables false
set_option linter.unusedSimpArgs false
namespace Go.Proofs.Ytnamkckpgaopkaa
open Go.RowKit Go.K

theorem size37 : (Try.prog.info? 37).map (·.size) = some 16 := by kernel_rfl
theorem lenJb (c : Jb) : c.cells.length = 2 := rfl
theorem st_mv {w0 w : World} (Y X L : List As) (h : St w0 w (Y ++ (X ++ L))) : St w0 w (X ++ (Y ++ L)) := h.perm (List.perm_append_comm_assoc Y X L)
theorem t_back {w0 w : World} {R : As} (Y : List As) {L : List As} {b : Nat} {S : LS} {p : Pt} {G : List Bx} (h : St w0 w (R :: tObj b (stv S p) S.tm S.nx :: (rstT S p G ++ (Y ++ L)))) : ∃ p', St w0 w ((R :: Y) ++ (stL b S p' G ++ L)) := by
  have h1 : St w0 w (tObj b (stv S p) S.tm S.nx :: (rstT S p G ++ (R :: (Y ++ L)))) := h.swap.perm (List.Perm.cons _ (List.perm_middle.symm))
  obtain ⟨p', h2⟩ := unf_t h1
  exact ⟨p', st_mv (stL b S p' G) (R :: Y) L h2⟩
theorem cloneV0 (w : World) : Calls Try.prog 34 #[.slice none 0 0] w fun e w' => e = .returned (.slice none 0 0) ∧ w = w' := by
  have hnil := fun w => Lib.run_eql_slice_nil (P := Try.prog) w 39 46 none 0 0 0 0 Try.underlying39
  go_enter Try.func34, Try.ntmps34
  go_wp2
  go_ret
  exact ⟨rfl, rfl⟩
theorem stc_one (S : LS) (p : Pt) : ∀ u ∈ (stc S p).toList, u.oneCell' = true := by
  intro u hu
  simp only [stc, List.mem_cons, List.not_mem_nil, or_false] at hu
  rcases hu with rfl | rfl | rfl | rfl | rfl | rfl | rfl | rfl | rfl | rfl | rfl | rfl | rfl | rfl | rfl | rfl <;> rfl
theorem stc_q {S : LS} {q : Pt} {i : Nat} (hi : i < 5) (s : Option Addr) (c : Nat) : (stc S q).setIfInBounds (1 + i) (.slice s (S.q i).length c) = stc S (upd q i (s, c)) := by
  obtain rfl | rfl | rfl | rfl | rfl : i = 0 ∨ i = 1 ∨ i = 2 ∨ i = 3 ∨ i = 4 := by omega
  all_goals simp [stc, upd]
theorem stc_j {S : LS} {q : Pt} (s : Option Addr) (c : Nat) : (stc S q).setIfInBounds 7 (.slice s S.jobs.length c) = stc S (upd q 5 (s, c)) := by simp [stc, upd]
theorem stc_t {S : LS} {q : Pt} (s : Option Addr) (c : Nat) : ((stc S q).setIfInBounds 8 (.slice s S.tm.length c)).setIfInBounds 9 (.int .i64 S.nx) = stc S (upd q 6 (s, c)) := by simp [stc, upd]
theorem stc_c {S : LS} {q : Pt} (s : Option Addr) (c : Nat) : (stc S q).setIfInBounds 10 (.slice s S.calls.length c) = stc S (upd q 7 (s, c)) := by simp [stc, upd]
theorem stc_h {S : LS} {q : Pt} (s : Option Addr) (c : Nat) : (stc S q).setIfInBounds 11 (.slice s S.shots.length c) = stc S (upd q 8 (s, c)) := by simp [stc, upd]
/-- the queues of the copy that are copied -/
def clr (S : LS) (pn : Pt) : Nat → List As
  | 0 => []
  | i + 1 => As.row 91 5 (pn i).1 (S.q i).length (pn i).2 (flat Qt.cells (S.q i)) :: clr S pn i
theorem clr_upd {S : LS} {pn : Pt} {x : Option Addr × Nat} {m : Nat} : ∀ i, i ≤ m → clr S (upd pn m x) i = clr S pn i
  | 0, _ => rfl
  | i + 1, h => by
    rw [clr, clr, clr_upd i (by omega), upd_other _ _ _ _ (by omega)]
theorem all_cons {w0 w : World} {A : As} {X L : List As} (h : St w0 w (A :: As.all X :: L)) : St w0 w (As.all (A :: X) :: L) :=
  st_all.1 (show St w0 w (A :: (X ++ L)) from St.perm (List.perm_middle) (st_all.2 h.swap))
theorem set_same {α : Type} (l : List α) (j : Nat) (u : α) (h : l[j]? = some u) : l.set j u = l := by
  obtain ⟨hj, e⟩ := List.getElem?_eq_some_iff.1 h
  rw [← e]
  exact List.set_getElem_self hj
def mix (p pn : Pt) (i : Nat) : Pt := fun j => if j < i then pn j else p j
theorem mix_upd (p pn : Pt) (i : Nat) (x : Option Addr × Nat) : upd (mix p pn i) i x = mix p (upd pn i x) (i + 1) := by
  funext j
  show (if j = i then x else if j < i then pn j else p j) = if j < i + 1 then (if j = i then x else pn j) else p j
  by_cases h1 : j = i
  · rw [if_pos h1, if_pos (by omega), if_pos h1]
  · by_cases h2 : j < i
    · rw [if_neg h1, if_pos h2, if_pos (by omega), if_neg h1]
    · rw [if_neg h1, if_neg h2, if_neg (by omega)]
def jkey (j : Jb) : Int × Nat := (j.k, j.an)
def ckey (c : Cl) : Int × Int × Int × Int × Nat := (c.id, c.ev, c.vk, c.fn, c.an)
/-- a copy: the same but for where the values lie -/
structure CloS (S S' : LS) : Prop where
  eq : S' = { S with jobs := S'.jobs, calls := S'.calls }
  j : S'.jobs.map jkey = S.jobs.map jkey
  c : S'.calls.map ckey = S.calls.map ckey
def cloL (S : LS) (p : Pt) (G : List Bx) : List As := [rq S p 0, rq S p 1, rq S p 2, rq S p 3, rq S p 4, rj S p, rt S p, rc S p, rh S p, As.bg G]
def CloPost (S : LS) (b : Nat) (w0 : World) (L : List As) (E : Ending) (w' : World) : Prop :=
  ∃ S' p G, E = .returned (.agg (stc S' p)) ∧ CloS S S' ∧ BagOk S' G ∧ St w0 w' (cloL S' p G ++ (stO b S :: L))
def ClR1 (S : LS) (p : Pt) (G : List Bx) (b m2 m3 : Nat) (w0 : World) (L : List As) (g : Nat) (v : Value) (wr : World) : Prop :=
  ∃ i pn, g = 5 - i ∧ i ≤ 5 ∧ v = .int .i64 i ∧ St w0 wr (As.cells m3 (stc S (mix p pn i)) 37 :: As.all (clr S pn i) :: As.cells m2 zcells 37 :: (stL b S p G ++ L))
def ClR2 (n : Nat) (w0 : World) (L : List As) (g : Nat) (v : Value) (wr : World) : Prop :=
  ∃ k : Nat, g = n - k ∧ k ≤ n ∧ v = .int .i64 k ∧ St w0 wr L
def ClR3 (S : LS) (sj : Option Addr) (cj : Nat) (w0 : World) (L : List As) (g : Nat) (v : Value) (wr : World) : Prop :=
  ∃ (k : Nat) (J : List Jb) (G2 : List Bx), g = S.jobs.length - k ∧ k ≤ S.jobs.length ∧ v = .int .i64 k ∧ J.length = k ∧ J.map jkey = (S.jobs.take k).map jkey ∧ (∀ j ∈ J, ⟨j.a, j.an, j.ac, vcells j.k⟩ ∈ G2) ∧
    St w0 wr (As.row 44 2 sj S.jobs.length cj (flat Jb.cells (J ++ S.jobs.drop k)) :: As.bg G2 :: L)
def ClR4 (S : LS) (G0 : List Bx) (sj : Option Addr) (cj : Nat) (w0 : World) (L : List As) (g : Nat) (v : Value) (wr : World) : Prop :=
  ∃ (k : Nat) (J : List Cl) (G2 : List Bx), g = S.calls.length - k ∧ k ≤ S.calls.length ∧ v = .int .i64 k ∧ J.length = k ∧ J.map ckey = (S.calls.take k).map ckey ∧ (∀ c ∈ J, ∃ xs, ⟨c.a, c.an, c.ac, xs⟩ ∈ G2) ∧ (∀ x ∈ G0, x ∈ G2) ∧
    St w0 wr (As.row 48 7 sj S.calls.length cj (flat Cl.cells (J ++ S.calls.drop k)) :: As.bg G2 :: L)

set_option maxRecDepth 100000 in
set_option maxHeartbeats 4000000 in
theorem clone_st {w0 w : World} {L : List As} {b : Nat} {S : LS} (h : St w0 w (stO b S :: L)) (hq : ∀ i, (S.q i).length ≤ 100000) (hj : S.jobs.length ≤ 100000) (ht : S.tm.length ≤ 100000) (hc : S.calls.length ≤ 100000) (hs : S.shots.length ≤ 100000) :
    Calls Try.prog 26 #[.pointer (some ⟨b, 0, none⟩)] w (CloPost S b w0 L) := by
  have HQ := Lib.hid hq
  obtain ⟨p, G, hb, h1⟩ := st_open h
  have HBG := Lib.hid hb
  have H1 := Lib.hid (h1.new zcells 37)
  clear h hb h1 hq
  obtain ⟨m2, hm2⟩ : ∃ m, w.heap.size = m := ⟨_, rfl⟩
  obtain ⟨W1, hW1⟩ : ∃ W, w.alloc (.cells zcells 37) = W := ⟨_, rfl⟩
  rw [hW1, hm2] at H1
  go_enter Try.func26, Try.ntmps26
  go_upto_region 1 with fail
  rw [show w.alloc (.cells #[.int .i64 0, .slice none 0 0, .slice none 0 0, .slice none 0 0, .slice none 0 0, .slice none 0 0, .int .i64 0, .slice none 0 0, .slice none 0 0, .int .i64 0, .slice none 0 0, .slice none 0 0, .int .i64 0, .bool false, .int .i64 0, .int .i64 0] 37) = W1 from hW1]
  try simp only [hm2]
  clear hW1 hm2
  have h2 := (H1.out.new zcells 37)
  obtain ⟨m3, hm3⟩ : ∃ m, W1.heap.size = m := ⟨_, rfl⟩
  rw [hm3] at h2
  have H2 := Lib.hid h2
  have z37 : ∀ w, (zeroValue 37).run Try.prog w = .ok (.agg #[.int .i64 0, .slice none 0 0, .slice none 0 0, .slice none 0 0, .slice none 0 0, .slice none 0 0, .int .i64 0, .slice none 0 0, .slice none 0 0, .int .i64 0, .slice none 0 0, .slice none 0 0, .int .i64 0, .bool false, .int .i64 0, .int .i64 0]) w := fun w => by kernel_rfl
  go_upto_region 2 with (first
    | (refine st_load rfl (.tmp 10) rfl (stc S p).toList H1.out (.tail _ (.head _)) rfl rfl Try.underlying37 rfl size37 ?_)
    | (refine st_store rfl (.tmp 3) (.tmp 11) rfl H2.out (stc S p).toList rfl rfl rfl rfl size37 (stc_one S p) ?_; intro W3 HW3; have H3 := Lib.hid HW3; clear HW3)
    | fail)
  try simp only [hm3]
  clear hm3 H2 h2 H1
  have H4 := Lib.hid (show St w0 W3 (As.cells m3 (stc S (mix p p 0)) 37 :: As.all (clr S p 0) :: As.cells m2 zcells 37 :: (stL b S p G ++ L)) from ((st_all (A := [])).1 (show St w0 W3 ([] ++ (As.cells m3 (stc S p) 37 :: As.cells m2 zcells 37 :: (stL b S p G ++ L))) from H3.out)).swap)
  clear H3
  go_wp2_with fail
  go_loopg [12] 5 (ClR1 S p G b m2 m3 w0 L)
  case atStart => exact ⟨0, p, rfl, by omega, rfl, H4.out⟩
  case round =>
    obtain ⟨i, pn, hg, hi, rfl, hst⟩ := hrel
    have Hg := Lib.hid hg
    have H5 := Lib.hid hst
    clear hg hst H4
    by_cases hi5 : i < 5
    · have hiI : (i : Int) < 5 := by omega
      have hiI0 : (0 : Int) ≤ (i : Int) := by omega
      have h6 := foc_q hi5 (st_mv [_, _, _] (stL b S p G) L H5.out)
      have q1 := st_q (st_mv [_, _, _] (stL b S p G) L H5.out) i hi5
      unfold rq at h6
      have HRC := Lib.hid h6.swap.sl.rc
      clear h6
      have y0 : wr.cell? ⟨m3, 1 + i, none⟩ = some (.slice (mix p pn i i).1 (S.q i).length (mix p pn i i).2) := st_q H5.out i hi5
      have hlt3 := H5.out.blk.1.lt
      go_upto_region 6 with (first
        | (go_at_call 51; refine (qcloneQ H5.out q1 HRC.out (HQ.out i)).mono ?_; rintro e w6 ⟨s', c', rfl, h6⟩; have H6 := Lib.hid h6.swap; have y0 := st_q h6.swap i hi5; have f0 := h6.swap.free (1 + i); clear h6 q1; simp only [qlQ])
        | fail)
      have h7 := H6.out.set (1 + i) (.slice s' (S.q i).length c')
      rw [stc_q hi5, mix_upd] at h7
      obtain ⟨W7, hW7⟩ : ∃ W, w6.setCell ⟨m3, 1 + i, none⟩ (.slice s' (S.q i).length c') = W := ⟨_, rfl⟩
      rw [hW7] at h7
      rw [hW7]
      have H7 := Lib.hid h7.swap
      clear h7 hW7 y0 f0 H6 H5
      obtain ⟨n, hn⟩ : ∃ n, (S.q i).length = n := ⟨_, rfl⟩
      obtain ⟨M, hM⟩ : ∃ M, S.q i = M := ⟨_, rfl⟩
      have HN := Lib.hid hn
      have HM := Lib.hid hM
      have y1 : W7.cell? ⟨m3, 1 + i, none⟩ = some (.slice s' n c') := by
        have q := st_q H7.out.swap i hi5
        rw [← HN.out]
        simpa [mix, upd] using q
      have HQN := Lib.hid (HQ.out i)
      rw [hn, hM] at H7
      rw [hn] at HQN
      clear hn hM
      go_wp2_with fail
      go_loopg [30] n (ClR2 n w0 (As.row 91 5 s' n c' (flat Qt.cells M) :: As.cells m3 (stc S (mix p (upd pn i (s', c')) (i + 1))) 37 :: As.all (clr S pn i) :: As.cells m2 zcells 37 :: (stL b S p G ++ L)))
      case atStart => exact ⟨0, rfl, Nat.zero_le _, rfl, H7.out⟩
      case round =>
        obtain ⟨k, hg, hk, rfl, hst⟩ := hrel
        have Hg2 := Lib.hid hg
        have H8 := Lib.hid hst
        clear hg hst H7 y1
        have y1 : wr.cell? ⟨m3, 1 + i, none⟩ = some (.slice s' n c') := by
          have q := st_q H8.out.swap i hi5
          rw [← HN.out]
          simpa [mix, upd] using q
        by_cases hkn : k < n
        · have hkm : k < M.length := by rw [← HM.out, HN.out]; exact hkn
          have hkI : (k : Int) < (n : Int) := by omega
          have hwk : IntKind.i64.wrap ((k : Int) + 1) = (k : Int) + 1 := by rw [IntKind.wrap_i64]; have := HQN.out; omega
          have hkb : (k : Int) ≤ 100000 := by have := HQN.out; omega
          have hsl := H8.out.sl
          obtain ⟨g2, o2, hga2, -⟩ := hsl.rd.addr (by omega)
          have h8 := H8.out
          rw [hga2] at h8 y1 hsl
          obtain ⟨-, -, -, -, x4⟩ := qt_cells hsl.rd (List.getElem?_eq_getElem hkm)
          have x5 : wr.cell? ⟨g2, o2 + k * 5 + 1 + 3, none⟩ = some (.slice none 0 0) := x4
          have f5 : wr.frozen? ⟨g2, o2 + k * 5 + 1 + 3, none⟩ = false := by
            rcases hsl.row with ⟨q, _⟩ | ⟨g', off', cur, q, hbk, _⟩
            · cases q
            · cases q; exact hbk.free _
          have h9 := h8.row_set (k * 5 + 4) (by omega) (.slice none 0 0) rfl
          rw [set_same _ _ _ ((flat_at lenQ M k 4 hkm (by omega)).trans rfl), ← hga2] at h9
          have H9 := Lib.hid (show St w0 (wr.setCell ⟨g2, o2 + k * 5 + 1 + 3, none⟩ (.slice none 0 0)) _ from h9)
          clear h8 h9 hsl hga2 x4 H8
          go_wp2_with (first
            | (go_at_call 34; refine (cloneV0 _).mono ?_; rintro e w9 ⟨rfl, rfl⟩)
            | fail)
          go_roundg (n - (k + 1))
          case measure => have := Hg2.out; omega
          case rel => exact ⟨k + 1, rfl, by omega, by simp, H9.out⟩
        · have hkk : k = n := by omega
          subst hkk
          have H9 := Lib.hid (show St w0 wr (As.cells m3 (stc S (mix p (upd pn i (s', c')) (i + 1))) 37 :: As.all (clr S (upd pn i (s', c')) (i + 1)) :: As.cells m2 zcells 37 :: (stL b S p G ++ L)) from by
            have q := all_cons (St.sh [_, _, _] [0, 2, 1] (by decide) H8.out)
            rw [clr, clr_upd i (Nat.le_refl _), upd_same, HN.out, HM.out]
            exact q.swap)
          go_wp2_with fail
          go_roundg (5 - (i + 1))
          case measure => have := Hg.out; omega
          case rel => exact ⟨i + 1, _, rfl, by omega, by simp, H9.out⟩
    · have hi5' : i = 5 := by omega
      subst hi5'
      clear hi5
      rw [show ((5 : Nat) : Int) = 5 from rfl]
      obtain ⟨q, hq⟩ : ∃ q, mix p pn 5 = q := ⟨_, rfl⟩
      have HQ5 := Lib.hid hq
      have h5 := H5.out
      rw [hq] at h5
      have H6 := Lib.hid h5
      clear h5 H5 hq
      have j1 := (st_s (st_mv [_, _, _] (stL b S p G) L H6.out)).1
      have HRJ := Lib.hid (show Rc wr 2 (p 5).1 S.jobs.length (p 5).2 (flat Jb.cells S.jobs) from by
        have h1 := (foc_j (st_mv [_, _, _] (stL b S p G) L H6.out)).swap
        unfold rj at h1
        exact h1.sl.rc)
      go_upto_region 14 with (first
        | (go_at_call 52; refine (qcloneJ H6.out j1 HRJ.out hj).mono ?_; rintro e w7 ⟨s', c', rfl, h7⟩; have H7 := Lib.hid h7.swap; have y7 := (st_s h7.swap).1; have f7 := h7.swap.free 7; clear h7 j1; simp only [qlJ])
        | fail)
      have h8 := H7.out.set 7 (.slice s' S.jobs.length c')
      rw [stc_j] at h8
      obtain ⟨W8, hW8⟩ : ∃ W, w7.setCell ⟨m3, 7, none⟩ (.slice s' S.jobs.length c') = W := ⟨_, rfl⟩
      rw [hW8] at h8
      rw [hW8]
      have H8 := Lib.hid (bg_nil h8.swap).swap
      clear h8 hW8 y7 f7 H7 H6 HRJ
      obtain ⟨q6, hq6⟩ : ∃ q6, upd q 5 (s', c') = q6 := ⟨_, rfl⟩
      have HQ6 := Lib.hid hq6
      have h9 := H8.out
      rw [hq6] at h9
      have H8 := Lib.hid h9
      clear h9 hq6
      have HYJ := Lib.hid (show (stc S q6)[7]? = some (.slice s' S.jobs.length c') from by rw [← HQ6.out]; rfl)
      have y7 : W8.cell? ⟨m3, 7, none⟩ = some (.slice s' S.jobs.length c') := by
        rw [(H8.out.blkm (b := m3) (.tail _ (.tail _ (.head _)))).cell, ← HQ6.out]; rfl
      go_wp2_with fail
      clear y7
      go_loopg [60] S.jobs.length (ClR3 S s' c' w0 (As.cells m3 (stc S q6) 37 :: As.all (clr S pn 5) :: As.cells m2 zcells 37 :: (stL b S p G ++ L)))
      case atStart => exact ⟨0, [], [], rfl, Nat.zero_le _, rfl, rfl, rfl, by simp, by simpa using H8.out⟩
      case round =>
        obtain ⟨k, J, G2, hg, hk, rfl, hjl, hjk, hjb, hst⟩ := hrel
        have Hg2 := Lib.hid hg
        have HJL := Lib.hid hjl
        have HJK := Lib.hid hjk
        have HJB := Lib.hid hjb
        have H8 := Lib.hid hst
        clear hg hjl hjk hjb hst
        by_cases hkn : k < S.jobs.length
        · obtain ⟨n, hn⟩ : ∃ n, S.jobs.length = n := ⟨_, rfl⟩
          have HN := Lib.hid hn
          have hsl := H8.out.sl
          obtain ⟨g2, o2, hga2, -⟩ := hsl.rd.addr (by omega)
          have h8 := H8.out
          rw [hga2] at h8 hsl
          rw [hn] at h8 hsl
          have hkM : k < (J ++ S.jobs.drop k).length := by rw [List.length_append, List.length_drop, HJL.out]; omega
          have hx0 : (J ++ S.jobs.drop k)[k] = S.jobs[k] := by rw [List.getElem_append_right (by rw [HJL.out]; exact Nat.le_refl _)]; simp [HJL.out]
          obtain ⟨x, hx⟩ : ∃ x, S.jobs[k] = x := ⟨_, rfl⟩
          rw [hx] at hx0
          have HX := Lib.hid hx0
          have hxm : x ∈ S.jobs := by rw [← hx]; exact List.getElem_mem hkn
          have HXK := Lib.hid hx
          obtain ⟨xs, hxe, hxs⟩ : ∃ xs, (xs = vcells x.k) ∧ (⟨x.a, x.an, x.ac, xs⟩ : Bx) ∈ G := ⟨_, rfl, HBG.out.jobs x hxm⟩
          have HXE := Lib.hid hxe
          obtain ⟨hrv, hrn⟩ := bg_rc H8.out (.tail _ (.tail _ (.tail _ (.tail _ (.tail _ (.tail _ (.tail _ (.tail _ (.tail _ (.tail _ (.tail _ (.tail _ (.tail _ (.tail _ (.tail _ (.head _)))))))))))))))) hxs
          simp only at hrv hrn
          have HRN := Lib.hid hrn
          have HXS := Lib.hid hxs
          have HXM := Lib.hid hxm
          have hcx : ∀ (w' : World), Rd w' 2 (some ⟨g2, o2, none⟩) n (flat Jb.cells (J ++ S.jobs.drop k)) → w'.cell? ⟨g2, o2 + k * 2 + 1, none⟩ = some (.slice x.a x.an x.ac) := fun w' hr => by
            have h2 := hr.cells _ rfl _ _ ((flat_at lenJb _ k 1 hkM (by omega)).trans (by rw [hx0]; rfl))
            rwa [Addr.add_lit, ← Nat.add_assoc] at h2
          have HCX := Lib.hid hcx
          have HG2 := Lib.hid hga2
          have hkI : (k : Int) < (n : Int) := by omega
          obtain ⟨c1, hc1⟩ : ∃ c, c' = c := ⟨_, rfl⟩
          rw [hc1] at h8 hsl
          have HC1 := Lib.hid hc1
          have HKM := Lib.hid hkM
          clear hsl hga2 hx0 hx hxm hxs hxe hrv hrn hcx hc1 hn H8
          go_upto_region 17 with fail
          obtain ⟨Wd, hWd⟩ : ∃ W, wr.drew = W := ⟨_, rfl⟩
          have h9 := h8.drew
          rw [hWd] at h9
          have H9 := Lib.hid h9
          clear h8 h9
          have hS : (fun w' : World => w'.cell? ⟨m3, 7, none⟩ = some (.slice (some ⟨g2, o2, none⟩) n c1) ∧ w'.cell? ⟨g2, o2 + k * 2 + 1, none⟩ = some (.slice x.a x.an x.ac)) Wd := ⟨by rw [(H9.out.blkm (b := m3) (.tail _ (.tail _ (.head _)))).cell, ← HG2.out, ← HN.out, ← HC1.out]; exact HYJ.out, HCX.out _ H9.out.sl.rd⟩
          obtain ⟨hrv, -⟩ := bg_rc H9.out (.tail _ (.tail _ (.tail _ (.tail _ (.tail _ (.tail _ (.tail _ (.tail _ (.tail _ (.tail _ (.tail _ (.tail _ (.tail _ (.tail _ (.tail _ (.head _)))))))))))))))) HXS.out
          simp only at hrv
          have HRV := Lib.hid hrv
          clear hrv
          refine wpLast.region (S := (fun w' : World => w'.cell? ⟨m3, 7, none⟩ = some (.slice (some ⟨g2, o2, none⟩) n c1) ∧ w'.cell? ⟨g2, o2 + k * 2 + 1, none⟩ = some (.slice x.a x.an x.ac))) (c := 14) (by kernel_rfl) ?_
          change wpLast _ _ _ _ _ _ _ _ (World.drew _)
          rw [hWd]
          refine' wpLast.take (i := 0) (v := _) rfl (by kernel_rfl) (fun _ _ _ h => h) (by kernel_rfl) _ _ _ _ (by kernel_rfl) (by kernel_rfl) (Or.inl ⟨by rfl, ?hy0j⟩) hS ?rest0j
          case hy0j => (intro w' hSw; obtain ⟨y7, x1⟩ := hSw; go_simp; try with_reducible rfl)
          try (first | rw [Go.put_some] | rw [Go.put_none])
          try dsimp only [List.set_cons_zero, List.set_cons_succ]
          refine' wpLast.take (i := 1) (v := _) rfl (by kernel_rfl) (fun _ _ _ h => h) (by kernel_rfl) _ _ _ _ (by kernel_rfl) (by kernel_rfl) (Or.inl ⟨by rfl, ?hy1j⟩) hS ?rest1j
          case hy1j => (intro w' hSw; obtain ⟨y7, x1⟩ := hSw; go_simp; try with_reducible rfl)
          try (first | rw [Go.put_some] | rw [Go.put_none])
          try dsimp only [List.set_cons_zero, List.set_cons_succ]
          refine' wpLast.take (i := 2) (v := _) rfl (by kernel_rfl) (fun _ _ _ h => h) (by kernel_rfl) _ _ _ _ (by kernel_rfl) (by kernel_rfl) (Or.inl ⟨by rfl, ?hy2j⟩) hS ?rest2j
          case hy2j => (intro w' hSw; obtain ⟨y7, x1⟩ := hSw; go_simp; try with_reducible rfl)
          try (first | rw [Go.put_some] | rw [Go.put_none])
          try dsimp only [List.set_cons_zero, List.set_cons_succ]
          refine' wpLast.take (i := 3) (v := _) rfl (by kernel_rfl) (fun _ _ _ h => h) (by kernel_rfl) _ _ _ _ (by kernel_rfl) (by kernel_rfl) (Or.inl ⟨by rfl, ?hy3j⟩) hS ?rest3j
          case hy3j => (intro w' hSw; obtain ⟨y7, x1⟩ := hSw; go_simp; try with_reducible rfl)
          try (first | rw [Go.put_some] | rw [Go.put_none])
          try dsimp only [List.set_cons_zero, List.set_cons_succ]
          refine' wpLast.take (i := 4) (v := _) rfl (by kernel_rfl) (fun _ _ _ h => h) (by kernel_rfl) _ _ _ _ (by kernel_rfl) (by kernel_rfl) (Or.inl ⟨by rfl, ?hy4j⟩) hS ?rest4j
          case hy4j => (intro w' hSw; obtain ⟨y7, x1⟩ := hSw; go_simp; try with_reducible rfl)
          try (first | rw [Go.put_some] | rw [Go.put_none])
          try dsimp only [List.set_cons_zero, List.set_cons_succ]
          refine' wpLast.take (i := 5) (v := _) rfl (by kernel_rfl) (fun _ _ _ h => h) (by kernel_rfl) _ _ _ _ (by kernel_rfl) (by kernel_rfl) (Or.inl ⟨by rfl, ?hy5j⟩) hS ?rest5j
          case hy5j => (intro w' hSw; obtain ⟨y7, x1⟩ := hSw; go_simp; try with_reducible rfl)
          try (first | rw [Go.put_some] | rw [Go.put_none])
          try dsimp only [List.set_cons_zero, List.set_cons_succ]
          refine' wpLast.take (i := 6) (v := _) rfl (by kernel_rfl) (fun _ _ _ h => h) (by kernel_rfl) _ _ _ _ (by kernel_rfl) (by kernel_rfl) (Or.inl ⟨by rfl, ?hy6j⟩) hS ?rest6j
          case hy6j => (intro w' hSw; obtain ⟨y7, x1⟩ := hSw; go_simp; try with_reducible rfl)
          try (first | rw [Go.put_some] | rw [Go.put_none])
          try dsimp only [List.set_cons_zero, List.set_cons_succ]
          refine' wpLast.take (i := 7) (v := _) rfl (by kernel_rfl) (fun _ _ _ h => h) (by kernel_rfl) _ _ _ _ (by kernel_rfl) (by kernel_rfl) (Or.inl ⟨by rfl, ?hy7j⟩) hS ?rest7j
          case hy7j => (intro w' hSw; obtain ⟨y7, x1⟩ := hSw; go_simp; try with_reducible rfl)
          try (first | rw [Go.put_some] | rw [Go.put_none])
          try dsimp only [List.set_cons_zero, List.set_cons_succ]
          refine' wpLast.take (i := 8) (v := _) rfl (by kernel_rfl) (fun _ _ _ h => h) (by kernel_rfl) _ _ _ _ (by kernel_rfl) (by kernel_rfl) (Or.inl ⟨by rfl, ?hy8j⟩) hS ?rest8j
          case hy8j => (intro w' hSw; obtain ⟨y7, x1⟩ := hSw; go_simp; try with_reducible rfl)
          try (first | rw [Go.put_some] | rw [Go.put_none])
          try dsimp only [List.set_cons_zero, List.set_cons_succ]
          refine' wpLast.take (i := 9) (v := _) rfl (by kernel_rfl) (fun _ _ _ h => h) (by kernel_rfl) _ _ _ _ (by kernel_rfl) (by kernel_rfl) (Or.inl ⟨by rfl, ?hy9j⟩) hS ?rest9j
          case hy9j => (intro w' hSw; obtain ⟨y7, x1⟩ := hSw; go_simp; try with_reducible rfl)
          try (first | rw [Go.put_some] | rw [Go.put_none])
          try dsimp only [List.set_cons_zero, List.set_cons_succ]
          refine' wpLast.take (i := 10) (v := _) rfl (by kernel_rfl) (fun _ _ _ h => h) (by kernel_rfl) _ _ _ _ (by kernel_rfl) (by kernel_rfl) (Or.inl ⟨by rfl, ?hy10j⟩) hS ?rest10j
          case hy10j => (intro w' hSw; obtain ⟨y7, x1⟩ := hSw; go_simp; try with_reducible rfl)
          try (first | rw [Go.put_some] | rw [Go.put_none])
          try dsimp only [List.set_cons_zero, List.set_cons_succ]
          refine wpLast.one (i := 11) rfl (by kernel_rfl) ?_
          intro K' hK; have HK' := Lib.hid hK; clear hK
          refine wp_call (by rfl) (by rfl) Try.func34 (by kernel_rfl) (by kernel_rfl) (by kernel_rfl) (cloneV x.a x.an x.ac xs _ HRV.out.rd HRV.out.nil (by have := HRN.out; omega)) ?_
          rintro e w10 ⟨s2, c2, rfl, p1, p2, p3⟩
          have H10 := Lib.hid (H9.out.row_new p1 p2 p3).swap
          clear p1 p2 p3
          have hS10 : (fun w' : World => w'.cell? ⟨m3, 7, none⟩ = some (.slice (some ⟨g2, o2, none⟩) n c1) ∧ w'.cell? ⟨g2, o2 + k * 2 + 1, none⟩ = some (.slice x.a x.an x.ac)) w10 := ⟨by rw [(H10.out.blkm (b := m3) (.tail _ (.tail _ (.tail _ (.head _))))).cell, ← HG2.out, ← HN.out, ← HC1.out]; exact HYJ.out, HCX.out _ H10.out.sl.rd⟩
          have f5 : w10.frozen? ⟨g2, o2 + k * 2 + 1, none⟩ = false := by
            rcases H10.out.sl.row with ⟨q, _⟩ | ⟨g', off', cur, q, hbk, _⟩
            · cases q
            · cases q; exact hbk.free _
          have x1 := hS10.2
          refine ⟨_, rfl, HK'.out _ _ ⟨fun _ => hS10, ?_⟩⟩
          clear HK' K'
          try simp only [Act.put, List.getElem_toArray, List.getElem_cons_zero, List.getElem_cons_succ, List.setIfInBounds_toArray, List.set_cons_zero, List.set_cons_succ]
          refine wpLast.one (i := 12) rfl (by kernel_rfl) ?_
          intro K' hK; have HK' := Lib.hid hK; clear hK
          obtain ⟨y7, -⟩ := hS10
          go_simp
          refine HK'.out _ _ ⟨fun _ => ⟨y7, x1⟩, ?_⟩
          clear HK' K'
          try simp only [Act.put, List.getElem_toArray, List.getElem_cons_zero, List.getElem_cons_succ, List.setIfInBounds_toArray, List.set_cons_zero, List.set_cons_succ]
          have hS10 : (fun w' : World => w'.cell? ⟨m3, 7, none⟩ = some (.slice (some ⟨g2, o2, none⟩) n c1) ∧ w'.cell? ⟨g2, o2 + k * 2 + 1, none⟩ = some (.slice x.a x.an x.ac)) w10 := ⟨y7, x1⟩
          clear y7
          refine wpLast.one (i := 13) rfl (by kernel_rfl) ?_
          intro K' hK; have HK' := Lib.hid hK; clear hK
          obtain ⟨y7, -⟩ := hS10
          go_simp
          refine HK'.out _ _ ⟨fun _ => ⟨y7, x1⟩, ?_⟩
          clear HK' K'
          try simp only [Act.put, List.getElem_toArray, List.getElem_cons_zero, List.getElem_cons_succ, List.setIfInBounds_toArray, List.set_cons_zero, List.set_cons_succ]
          have hS10 : (fun w' : World => w'.cell? ⟨m3, 7, none⟩ = some (.slice (some ⟨g2, o2, none⟩) n c1) ∧ w'.cell? ⟨g2, o2 + k * 2 + 1, none⟩ = some (.slice x.a x.an x.ac)) w10 := ⟨y7, x1⟩
          clear y7
          have h11 := H10.out.row_set (k * 2 + 1) (by have := hkn; rw [HN.out] at this; omega) (.slice s2 x.an c2) rfl
          rw [← Nat.add_assoc, ← flat_set Jb.cells lenJb (J ++ S.jobs.drop k) k 1 HKM.out (by omega) { x with a := s2, ac := c2 } (.slice s2 x.an c2) (by rw [HX.out]; rfl)] at h11
          obtain ⟨W11, hW11⟩ : ∃ W, w10.setCell ⟨g2, o2 + k * 2 + 1, none⟩ (.slice s2 x.an c2) = W := ⟨_, rfl⟩
          rw [hW11] at h11
          have eM : (J ++ S.jobs.drop k).set k { x with a := s2, ac := c2 } = (J ++ [{ x with a := s2, ac := c2 }]) ++ S.jobs.drop (k + 1) := by
            rw [List.set_append_right _ _ (by rw [HJL.out]; exact Nat.le_refl _), HJL.out, Nat.sub_self, List.drop_eq_getElem_cons hkn, List.set_cons_zero, List.append_assoc]; rfl
          rw [eM, ← HG2.out, ← HN.out, ← HC1.out] at h11
          have H11 := Lib.hid (bg_add (h11.swap.perm (List.Perm.cons _ (.swap _ _ _))) (by have := HRN.out; omega)).swap
          clear h11 eM
          refine wpLast.one (i := 14) rfl (by kernel_rfl) ?_
          intro K' hK; have HK' := Lib.hid hK; clear hK
          go_simp
          try rw [hW11]
          refine HK'.out _ _ ⟨fun h => absurd rfl h, ?_⟩
          clear HK' K'
          try simp only [Act.put, List.getElem_toArray, List.getElem_cons_zero, List.getElem_cons_succ, List.setIfInBounds_toArray, List.set_cons_zero, List.set_cons_succ]
          refine wpLast.done (by kernel_rfl) ?_
          have hwk : IntKind.i64.wrap ((k : Int) + 1) = (k : Int) + 1 := by rw [IntKind.wrap_i64]; omega
          go_wp2_with fail
          go_roundg (S.jobs.length - (k + 1))
          case measure => have := Hg2.out; omega
          case rel => exact ⟨k + 1, J ++ [{ x with a := s2, ac := c2 }], ⟨s2, x.an, c2, xs⟩ :: G2, rfl, by omega, by simp, by rw [List.length_append, HJL.out]; rfl, by rw [List.map_append, HJK.out, List.take_succ_eq_append_getElem hkn, List.map_append, HXK.out]; rfl, fun y hy => by rcases List.mem_append.1 hy with z | z; exact List.mem_cons_of_mem _ (HJB.out y z); rw [List.mem_singleton.1 z, ← HXE.out]; exact List.mem_cons_self, H11.out⟩
        · have hkk : k = S.jobs.length := by omega
          subst hkk
          have h9 := H8.out
          rw [List.drop_length, List.append_nil] at h9
          have H9 := Lib.hid h9
          clear h9 H8 hkn hk
          have HJL := Lib.hid HJL.out
          go_upto_region 20 with (first
            | (go_at_call 53; refine (tclone_st (foc_t (st_mv [_, _, _, _, _] (stL b S p G) L H9.out)) ht).mono ?_; rintro e w12 ⟨s3, c3, rfl, h12⟩; obtain ⟨p2, h13⟩ := t_back [_, _, _, _, _] h12; have h14 := St.sh [_, _, _, _, _, _] [3, 0, 1, 2, 4, 5] (by decide) h13; have H14 := Lib.hid h14; have y8 := (st_s h14).2.1; have y9 := (st_c h14).2.2.1; have f8 := h14.free 8; have f9 := h14.free 9; clear h12 h13 h14)
            | fail)
          have h15 := (H14.out.set 8 (.slice s3 S.tm.length c3)).set 9 (.int .i64 S.nx)
          rw [stc_t] at h15
          obtain ⟨W15, hW15⟩ : ∃ W, (w12.setCell ⟨m3, 8, none⟩ (.slice s3 S.tm.length c3)).setCell ⟨m3, 9, none⟩ (.int .i64 S.nx) = W := ⟨_, rfl⟩
          rw [hW15] at h15
          rw [hW15]
          obtain ⟨q7, hq7⟩ : ∃ q, upd q6 6 (s3, c3) = q := ⟨_, rfl⟩
          have HQ7 := Lib.hid hq7
          rw [hq7] at h15
          have H15 := Lib.hid h15
          clear h15 hW15 y8 y9 f8 f9 H14 H9 hq7
          have j1 := (st_s (st_mv [_, _, _, _, _, _] (stL b S p2 G) L H15.out)).2.2.1
          have HRC := Lib.hid (show Rc W15 7 (p2 7).1 S.calls.length (p2 7).2 (flat Cl.cells S.calls) from by
            have h1 := (foc_c (st_mv [_, _, _, _, _, _] (stL b S p2 G) L H15.out)).swap
            unfold rc at h1
            exact h1.sl.rc)
          go_upto_region 21 with (first
            | (go_at_call 54; refine (cloneC _ _ _ _ _ HRC.out.rd HRC.out.nil (by omega)).mono ?_; rintro e w16 ⟨s4, c4, rfl, p1, p3, p4⟩; have h16 := (H15.out.row_new p1 p3 p4).swap; have H16 := Lib.hid h16; have y7 := (st_s h16).2.2.1; have f7 := h16.free 10; clear h16 p1 p3 p4 j1)
            | fail)
          have h17 := H16.out.set 10 (.slice s4 S.calls.length c4)
          rw [stc_c] at h17
          obtain ⟨W17, hW17⟩ : ∃ W, w16.setCell ⟨m3, 10, none⟩ (.slice s4 S.calls.length c4) = W := ⟨_, rfl⟩
          rw [hW17] at h17
          rw [hW17]
          obtain ⟨q8, hq8⟩ : ∃ q, upd q7 7 (s4, c4) = q := ⟨_, rfl⟩
          have HQ8 := Lib.hid hq8
          rw [hq8] at h17
          have H17 := Lib.hid (St.sh [_, _, _, _, _] [1, 4, 0, 2, 3] (by decide) h17)
          have HYC := Lib.hid (show (stc S q8)[10]? = some (.slice s4 S.calls.length c4) from by rw [← hq8]; rfl)
          clear h17 hW17 y7 f7 H16 H15 HRC hq8
          have y7 : W17.cell? ⟨m3, 10, none⟩ = some (.slice s4 S.calls.length c4) := by
            rw [(H17.out.blkm (b := m3) (.tail _ (.tail _ (.head _)))).cell]; exact HYC.out
          have HJ2 := Lib.hid HJB.out
          clear Hg2
          go_wp2_with fail
          clear y7
          go_loopg [92] S.calls.length (ClR4 S G2 s4 c4 w0 (As.cells m3 (stc S q8) 37 :: As.row 95 3 s3 S.tm.length c3 (tcells S.tm) :: As.row 44 2 s' S.jobs.length c' (flat Jb.cells J) :: As.all (clr S pn 5) :: As.cells m2 zcells 37 :: (stL b S p2 G ++ L)))
          case atStart => exact ⟨0, [], G2, rfl, Nat.zero_le _, rfl, rfl, rfl, by simp, fun x hx => hx, by simpa using H17.out⟩
          case round =>
            obtain ⟨k, C, G3, hg, hk, rfl, hjl, hjk, hjb, hgs, hst⟩ := hrel
            have Hg2 := Lib.hid hg
            have HCL := Lib.hid hjl
            have HCK := Lib.hid hjk
            have HCB := Lib.hid hjb
            have HGS := Lib.hid hgs
            have H8 := Lib.hid hst
            clear hg hjl hjk hjb hst hgs H17
            by_cases hkn : k < S.calls.length
            · obtain ⟨n, hn⟩ : ∃ n, S.calls.length = n := ⟨_, rfl⟩
              have HN := Lib.hid hn
              have hsl := H8.out.sl
              obtain ⟨g2, o2, hga2, -⟩ := hsl.rd.addr (by omega)
              have h8 := H8.out
              rw [hga2] at h8 hsl
              rw [hn] at h8 hsl
              have hkM : k < (C ++ S.calls.drop k).length := by rw [List.length_append, List.length_drop, HCL.out]; omega
              have hx0 : (C ++ S.calls.drop k)[k] = S.calls[k] := by rw [List.getElem_append_right (by rw [HCL.out]; exact Nat.le_refl _)]; simp [HCL.out]
              obtain ⟨x, hx⟩ : ∃ x, S.calls[k] = x := ⟨_, rfl⟩
              rw [hx] at hx0
              have HX := Lib.hid hx0
              have hxm : x ∈ S.calls := by rw [← hx]; exact List.getElem_mem hkn
              have HXK := Lib.hid hx
              obtain ⟨xs, hxe, hxs⟩ : ∃ xs, (True) ∧ (⟨x.a, x.an, x.ac, xs⟩ : Bx) ∈ G := (HBG.out.calls x hxm).imp (fun xs h => ⟨trivial, h⟩)
              have HXE := Lib.hid hxe
              obtain ⟨hrv, hrn⟩ := bg_rc H8.out (.tail _ (.tail _ (.tail _ (.tail _ (.tail _ (.tail _ (.tail _ (.tail _ (.tail _ (.tail _ (.tail _ (.tail _ (.tail _ (.tail _ (.tail _ (.tail _ (.tail _ (.head _)))))))))))))))))) hxs
              simp only at hrv hrn
              have HRN := Lib.hid hrn
              have HXS := Lib.hid hxs
              have HXM := Lib.hid hxm
              have hcx : ∀ (w' : World), Rd w' 7 (some ⟨g2, o2, none⟩) n (flat Cl.cells (C ++ S.calls.drop k)) → w'.cell? ⟨g2, o2 + k * 7 + 6, none⟩ = some (.slice x.a x.an x.ac) := fun w' hr => by
                have h2 := hr.cells _ rfl _ _ ((flat_at lenC _ k 6 hkM (by omega)).trans (by rw [hx0]; rfl))
                rwa [Addr.add_lit, ← Nat.add_assoc] at h2
              have HCX := Lib.hid hcx
              have HG2 := Lib.hid hga2
              have hkI : (k : Int) < (n : Int) := by omega
              obtain ⟨c1, hc1⟩ : ∃ c, c4 = c := ⟨_, rfl⟩
              rw [hc1] at h8 hsl
              have HC1 := Lib.hid hc1
              have HKM := Lib.hid hkM
              clear hsl hga2 hx0 hx hxm hxs hxe hrv hrn hcx hc1 hn H8
              go_upto_region 24 with fail
              obtain ⟨Wd, hWd⟩ : ∃ W, wr.drew = W := ⟨_, rfl⟩
              have h9 := h8.drew
              rw [hWd] at h9
              have H9 := Lib.hid h9
              clear h8 h9
              have hS : (fun w' : World => w'.cell? ⟨m3, 10, none⟩ = some (.slice (some ⟨g2, o2, none⟩) n c1) ∧ w'.cell? ⟨g2, o2 + k * 7 + 6, none⟩ = some (.slice x.a x.an x.ac)) Wd := ⟨by rw [(H9.out.blkm (b := m3) (.tail _ (.tail _ (.head _)))).cell, ← HG2.out, ← HN.out, ← HC1.out]; exact HYC.out, HCX.out _ H9.out.sl.rd⟩
              obtain ⟨hrv, -⟩ := bg_rc H9.out (.tail _ (.tail _ (.tail _ (.tail _ (.tail _ (.tail _ (.tail _ (.tail _ (.tail _ (.tail _ (.tail _ (.tail _ (.tail _ (.tail _ (.tail _ (.tail _ (.tail _ (.head _)))))))))))))))))) HXS.out
              simp only at hrv
              have HRV := Lib.hid hrv
              clear hrv
              refine wpLast.region (S := (fun w' : World => w'.cell? ⟨m3, 10, none⟩ = some (.slice (some ⟨g2, o2, none⟩) n c1) ∧ w'.cell? ⟨g2, o2 + k * 7 + 6, none⟩ = some (.slice x.a x.an x.ac))) (c := 12) (by kernel_rfl) ?_
              change wpLast _ _ _ _ _ _ _ _ (World.drew _)
              rw [hWd]
              refine' wpLast.take (i := 0) (v := _) rfl (by kernel_rfl) (fun _ _ _ h => h) (by kernel_rfl) _ _ _ _ (by kernel_rfl) (by kernel_rfl) (Or.inl ⟨by rfl, ?hy0d⟩) hS ?rest0d
              case hy0d => (intro w' hSw; obtain ⟨y7, x1⟩ := hSw; go_simp; try with_reducible rfl)
              try (first | rw [Go.put_some] | rw [Go.put_none])
              try dsimp only [List.set_cons_zero, List.set_cons_succ]
              refine' wpLast.take (i := 1) (v := _) rfl (by kernel_rfl) (fun _ _ _ h => h) (by kernel_rfl) _ _ _ _ (by kernel_rfl) (by kernel_rfl) (Or.inl ⟨by rfl, ?hy1d⟩) hS ?rest1d
              case hy1d => (intro w' hSw; obtain ⟨y7, x1⟩ := hSw; go_simp; try with_reducible rfl)
              try (first | rw [Go.put_some] | rw [Go.put_none])
              try dsimp only [List.set_cons_zero, List.set_cons_succ]
              refine' wpLast.take (i := 2) (v := _) rfl (by kernel_rfl) (fun _ _ _ h => h) (by kernel_rfl) _ _ _ _ (by kernel_rfl) (by kernel_rfl) (Or.inl ⟨by rfl, ?hy2d⟩) hS ?rest2d
              case hy2d => (intro w' hSw; obtain ⟨y7, x1⟩ := hSw; go_simp; try with_reducible rfl)
              try (first | rw [Go.put_some] | rw [Go.put_none])
              try dsimp only [List.set_cons_zero, List.set_cons_succ]
              refine' wpLast.take (i := 3) (v := _) rfl (by kernel_rfl) (fun _ _ _ h => h) (by kernel_rfl) _ _ _ _ (by kernel_rfl) (by kernel_rfl) (Or.inl ⟨by rfl, ?hy3d⟩) hS ?rest3d
              case hy3d => (intro w' hSw; obtain ⟨y7, x1⟩ := hSw; go_simp; try with_reducible rfl)
              try (first | rw [Go.put_some] | rw [Go.put_none])
              try dsimp only [List.set_cons_zero, List.set_cons_succ]
              refine' wpLast.take (i := 4) (v := _) rfl (by kernel_rfl) (fun _ _ _ h => h) (by kernel_rfl) _ _ _ _ (by kernel_rfl) (by kernel_rfl) (Or.inl ⟨by rfl, ?hy4d⟩) hS ?rest4d
              case hy4d => (intro w' hSw; obtain ⟨y7, x1⟩ := hSw; go_simp; try with_reducible rfl)
              try (first | rw [Go.put_some] | rw [Go.put_none])
              try dsimp only [List.set_cons_zero, List.set_cons_succ]
              refine' wpLast.take (i := 5) (v := _) rfl (by kernel_rfl) (fun _ _ _ h => h) (by kernel_rfl) _ _ _ _ (by kernel_rfl) (by kernel_rfl) (Or.inl ⟨by rfl, ?hy5d⟩) hS ?rest5d
              case hy5d => (intro w' hSw; obtain ⟨y7, x1⟩ := hSw; go_simp; try with_reducible rfl)
              try (first | rw [Go.put_some] | rw [Go.put_none])
              try dsimp only [List.set_cons_zero, List.set_cons_succ]
              refine' wpLast.take (i := 6) (v := _) rfl (by kernel_rfl) (fun _ _ _ h => h) (by kernel_rfl) _ _ _ _ (by kernel_rfl) (by kernel_rfl) (Or.inl ⟨by rfl, ?hy6d⟩) hS ?rest6d
              case hy6d => (intro w' hSw; obtain ⟨y7, x1⟩ := hSw; go_simp; try with_reducible rfl)
              try (first | rw [Go.put_some] | rw [Go.put_none])
              try dsimp only [List.set_cons_zero, List.set_cons_succ]
              refine' wpLast.take (i := 7) (v := _) rfl (by kernel_rfl) (fun _ _ _ h => h) (by kernel_rfl) _ _ _ _ (by kernel_rfl) (by kernel_rfl) (Or.inl ⟨by rfl, ?hy7d⟩) hS ?rest7d
              case hy7d => (intro w' hSw; obtain ⟨y7, x1⟩ := hSw; go_simp; try with_reducible rfl)
              try (first | rw [Go.put_some] | rw [Go.put_none])
              try dsimp only [List.set_cons_zero, List.set_cons_succ]
              refine' wpLast.take (i := 8) (v := _) rfl (by kernel_rfl) (fun _ _ _ h => h) (by kernel_rfl) _ _ _ _ (by kernel_rfl) (by kernel_rfl) (Or.inl ⟨by rfl, ?hy8d⟩) hS ?rest8d
              case hy8d => (intro w' hSw; obtain ⟨y7, x1⟩ := hSw; go_simp; try with_reducible rfl)
              try (first | rw [Go.put_some] | rw [Go.put_none])
              try dsimp only [List.set_cons_zero, List.set_cons_succ]
              refine wpLast.one (i := 9) rfl (by kernel_rfl) ?_
              intro K' hK; have HK' := Lib.hid hK; clear hK
              refine wp_call (by rfl) (by rfl) Try.func34 (by kernel_rfl) (by kernel_rfl) (by kernel_rfl) (cloneV x.a x.an x.ac xs _ HRV.out.rd HRV.out.nil (by have := HRN.out; omega)) ?_
              rintro e w10 ⟨s2, c2, rfl, p1, p2, p3⟩
              have H10 := Lib.hid (H9.out.row_new p1 p2 p3).swap
              clear p1 p2 p3
              have hS10 : (fun w' : World => w'.cell? ⟨m3, 10, none⟩ = some (.slice (some ⟨g2, o2, none⟩) n c1) ∧ w'.cell? ⟨g2, o2 + k * 7 + 6, none⟩ = some (.slice x.a x.an x.ac)) w10 := ⟨by rw [(H10.out.blkm (b := m3) (.tail _ (.tail _ (.tail _ (.head _))))).cell, ← HG2.out, ← HN.out, ← HC1.out]; exact HYC.out, HCX.out _ H10.out.sl.rd⟩
              have f5 : w10.frozen? ⟨g2, o2 + k * 7 + 6, none⟩ = false := by
                rcases H10.out.sl.row with ⟨q, _⟩ | ⟨g', off', cur, q, hbk, _⟩
                · cases q
                · cases q; exact hbk.free _
              have x1 := hS10.2
              refine ⟨_, rfl, HK'.out _ _ ⟨fun _ => hS10, ?_⟩⟩
              clear HK' K'
              try simp only [Act.put, List.getElem_toArray, List.getElem_cons_zero, List.getElem_cons_succ, List.setIfInBounds_toArray, List.set_cons_zero, List.set_cons_succ]
              refine wpLast.one (i := 10) rfl (by kernel_rfl) ?_
              intro K' hK; have HK' := Lib.hid hK; clear hK
              obtain ⟨y7, -⟩ := hS10
              go_simp
              refine HK'.out _ _ ⟨fun _ => ⟨y7, x1⟩, ?_⟩
              clear HK' K'
              try simp only [Act.put, List.getElem_toArray, List.getElem_cons_zero, List.getElem_cons_succ, List.setIfInBounds_toArray, List.set_cons_zero, List.set_cons_succ]
              have hS10 : (fun w' : World => w'.cell? ⟨m3, 10, none⟩ = some (.slice (some ⟨g2, o2, none⟩) n c1) ∧ w'.cell? ⟨g2, o2 + k * 7 + 6, none⟩ = some (.slice x.a x.an x.ac)) w10 := ⟨y7, x1⟩
              clear y7
              refine wpLast.one (i := 11) rfl (by kernel_rfl) ?_
              intro K' hK; have HK' := Lib.hid hK; clear hK
              obtain ⟨y7, -⟩ := hS10
              go_simp
              refine HK'.out _ _ ⟨fun _ => ⟨y7, x1⟩, ?_⟩
              clear HK' K'
              try simp only [Act.put, List.getElem_toArray, List.getElem_cons_zero, List.getElem_cons_succ, List.setIfInBounds_toArray, List.set_cons_zero, List.set_cons_succ]
              have hS10 : (fun w' : World => w'.cell? ⟨m3, 10, none⟩ = some (.slice (some ⟨g2, o2, none⟩) n c1) ∧ w'.cell? ⟨g2, o2 + k * 7 + 6, none⟩ = some (.slice x.a x.an x.ac)) w10 := ⟨y7, x1⟩
              clear y7
              have h11 := H10.out.row_set (k * 7 + 6) (by have := hkn; rw [HN.out] at this; omega) (.slice s2 x.an c2) rfl
              rw [← Nat.add_assoc, ← flat_set Cl.cells lenC (C ++ S.calls.drop k) k 6 HKM.out (by omega) { x with a := s2, ac := c2 } (.slice s2 x.an c2) (by rw [HX.out]; rfl)] at h11
              obtain ⟨W11, hW11⟩ : ∃ W, w10.setCell ⟨g2, o2 + k * 7 + 6, none⟩ (.slice s2 x.an c2) = W := ⟨_, rfl⟩
              rw [hW11] at h11
              have eM : (C ++ S.calls.drop k).set k { x with a := s2, ac := c2 } = (C ++ [{ x with a := s2, ac := c2 }]) ++ S.calls.drop (k + 1) := by
                rw [List.set_append_right _ _ (by rw [HCL.out]; exact Nat.le_refl _), HCL.out, Nat.sub_self, List.drop_eq_getElem_cons hkn, List.set_cons_zero, List.append_assoc]; rfl
              rw [eM, ← HG2.out, ← HN.out, ← HC1.out] at h11
              have H11 := Lib.hid (bg_add (h11.swap.perm (List.Perm.cons _ (.swap _ _ _))) (by have := HRN.out; omega)).swap
              clear h11 eM
              refine wpLast.one (i := 12) rfl (by kernel_rfl) ?_
              intro K' hK; have HK' := Lib.hid hK; clear hK
              go_simp
              try rw [hW11]
              refine HK'.out _ _ ⟨fun h => absurd rfl h, ?_⟩
              clear HK' K'
              try simp only [Act.put, List.getElem_toArray, List.getElem_cons_zero, List.getElem_cons_succ, List.setIfInBounds_toArray, List.set_cons_zero, List.set_cons_succ]
              refine wpLast.done (by kernel_rfl) ?_
              have hwk : IntKind.i64.wrap ((k : Int) + 1) = (k : Int) + 1 := by rw [IntKind.wrap_i64]; omega
              go_wp2_with fail
              go_roundg (S.calls.length - (k + 1))
              case measure => have := Hg2.out; omega
              case rel => exact ⟨k + 1, C ++ [{ x with a := s2, ac := c2 }], ⟨s2, x.an, c2, xs⟩ :: G3, rfl, by omega, by simp, by rw [List.length_append, HCL.out]; rfl, by rw [List.map_append, HCK.out, List.take_succ_eq_append_getElem hkn, List.map_append, HXK.out]; rfl, (fun y hy => by rcases List.mem_append.1 hy with z | z; exact (HCB.out y z).imp (fun xs h => List.mem_cons_of_mem _ h); rw [List.mem_singleton.1 z]; exact ⟨xs, List.mem_cons_self⟩), (fun z hz => List.mem_cons_of_mem _ (HGS.out z hz)), H11.out⟩
            · have hkk : k = S.calls.length := by omega
              subst hkk
              have h9 := H8.out
              rw [List.drop_length, List.append_nil] at h9
              have H9 := Lib.hid h9
              clear h9 H8 hkn hk
              have j1 := (st_s (st_mv [_, _, _, _, _, _, _] (stL b S p2 G) L H9.out)).2.2.2
              have HRH := Lib.hid (show Rc wr 5 (p2 8).1 S.shots.length (p2 8).2 (flat Hs.cells S.shots) from by
                have h1 := (foc_h (st_mv [_, _, _, _, _, _, _] (stL b S p2 G) L H9.out)).swap
                unfold rh at h1
                exact h1.sl.rc)
              go_upto_region 27 with (first
                | (go_at_call 55; refine (cloneH _ _ _ _ _ HRH.out.rd HRH.out.nil (by omega)).mono ?_; rintro e w20 ⟨s5, c5, rfl, p1, p3, p4⟩; have h20 := St.sh [_, _, _, _] [3, 0, 1, 2] (by decide) (H9.out.row_new p1 p3 p4); have H20 := Lib.hid h20; have y7 := (st_s h20).2.2.2; have f7 := h20.free 11; clear h20 p1 p3 p4 j1)
                | fail)
              have h21 := H20.out.set 11 (.slice s5 S.shots.length c5)
              rw [stc_h] at h21
              obtain ⟨W21, hW21⟩ : ∃ W, w20.setCell ⟨m3, 11, none⟩ (.slice s5 S.shots.length c5) = W := ⟨_, rfl⟩
              rw [hW21] at h21
              rw [hW21]
              obtain ⟨q9, hq9⟩ : ∃ q, upd q8 8 (s5, c5) = q := ⟨_, rfl⟩
              have HQ9 := Lib.hid hq9
              rw [hq9] at h21
              have H21 := Lib.hid (St.sh [_, _, _, _, _, _, _, _] [7, 0, 1, 2, 3, 4, 5, 6] (by decide) h21)
              clear h21 hW21 y7 f7 H20 H9 HRH hq9
              go_wp2_with (first
                | (refine st_load rfl (.tmp 3) rfl (stc S q9).toList H21.out (.tail _ (.head _)) rfl rfl Try.underlying37 rfl size37 ?_)
                | (refine st_store rfl (.tmp 2) (.tmp 114) rfl H21.out (stc S q9).toList rfl rfl rfl rfl size37 (stc_one S q9) ?_; intro W22 HW22; have H22 := Lib.hid HW22; clear HW22)
                | fail)
              refine bodyPost_ret (results_cell_row (P := Try.prog) Try.results26 _ _ m2 37 (stc S q9).toList.toArray _ _ rfl H22.out.blk.1 Try.underlying37 rfl size37) rfl ?_
              have h23 := H22.out.drop.drop
              have eq9 : q9 = upd (upd (upd (upd (mix p pn 5) 5 (s', c')) 6 (s3, c3)) 7 (s4, c4)) 8 (s5, c5) := by rw [← HQ9.out, ← HQ8.out, ← HQ7.out, ← HQ6.out, HQ5.out]
              have hjl := HJL.out
              have hcl := HCL.out
              have hjk := HJK.out
              have hck := HCK.out
              rw [List.take_length] at hjk hck
              have es : stc { S with jobs := J, calls := C } q9 = stc S q9 := by simp only [stc, hjl, hcl]
              refine ⟨{ S with jobs := J, calls := C }, q9, G3, by rw [es], ⟨rfl, hjk, hck⟩, ⟨HCB.out, fun j hj => HGS.out _ (HJ2.out j hj)⟩, ?_⟩
              have h24 := st_shut HBG.out (st_mv [_, _, _, _, _, _] (stL b S p2 G) L h23)
              have h25 := st_all.2 (St.sh [_, _, _, _, _, _, _] [6, 1, 2, 3, 4, 5, 0] (by decide) h24)
              have h26 : St w0 W22 ([As.row 91 5 (pn 0).1 (S.q 0).length (pn 0).2 (flat Qt.cells (S.q 0)), As.row 91 5 (pn 1).1 (S.q 1).length (pn 1).2 (flat Qt.cells (S.q 1)), As.row 91 5 (pn 2).1 (S.q 2).length (pn 2).2 (flat Qt.cells (S.q 2)), As.row 91 5 (pn 3).1 (S.q 3).length (pn 3).2 (flat Qt.cells (S.q 3)), As.row 91 5 (pn 4).1 (S.q 4).length (pn 4).2 (flat Qt.cells (S.q 4)), As.row 44 2 s' S.jobs.length c' (flat Jb.cells J), As.row 95 3 s3 S.tm.length c3 (tcells S.tm), As.row 48 7 s4 S.calls.length c4 (flat Cl.cells C), As.row 63 5 s5 S.shots.length c5 (flat Hs.cells S.shots), As.bg G3] ++ (stO b S :: L)) :=
                St.sh [_, _, _, _, _, _, _, _, _, _, _] [4, 3, 2, 1, 0, 9, 8, 6, 5, 7, 10] (by decide) h25
              have ec : cloL { S with jobs := J, calls := C } q9 G3 = [As.row 91 5 (pn 0).1 (S.q 0).length (pn 0).2 (flat Qt.cells (S.q 0)), As.row 91 5 (pn 1).1 (S.q 1).length (pn 1).2 (flat Qt.cells (S.q 1)), As.row 91 5 (pn 2).1 (S.q 2).length (pn 2).2 (flat Qt.cells (S.q 2)), As.row 91 5 (pn 3).1 (S.q 3).length (pn 3).2 (flat Qt.cells (S.q 3)), As.row 91 5 (pn 4).1 (S.q 4).length (pn 4).2 (flat Qt.cells (S.q 4)), As.row 44 2 s' S.jobs.length c' (flat Jb.cells J), As.row 95 3 s3 S.tm.length c3 (tcells S.tm), As.row 48 7 s4 S.calls.length c4 (flat Cl.cells C), As.row 63 5 s5 S.shots.length c5 (flat Hs.cells S.shots), As.bg G3] := by
                rw [eq9]
                simp [cloL, rq, rj, rt, rc, rh, upd, mix, hjl, hcl]
              rw [ec]
              exact h26

end Go.Proofs.Ytnamkckpgaopkaa
