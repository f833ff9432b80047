/-
  The walk of QueueTimerAgain for at most 60 timers.
-/
import Derived.Test.YtkddkbjgnndflaaQo
set_option linter.unusedVariables false
namespace Go.Proofs.Ytkddkbjgnndflaa
open Go.RowKit Go.K

/-- the numbers of the timers are 1 .. k -/
def Ids (ts : List Tm) (k : Nat) : Prop := (ts.map Tm.id).Perm ((List.range k).map fun j : Nat => (j : Int) + 1)

theorem Ids.next {ts : List Tm} {k i : Nat} {t : Tm} (h : Ids ts k) (ht : t.id = (k : Int) + 1) : Ids (insAt ts i t) (k + 1) := by
  unfold Ids at *
  refine ((insAt_perm ts i t).map _).trans ?_
  rw [List.range_succ, List.map_append]
  refine (List.Perm.cons _ h).trans ?_
  simp only [List.map_cons, List.map_nil, ht]
  exact (List.perm_append_singleton _ _).symm
theorem Ids.len {ts : List Tm} {k : Nat} (h : Ids ts k) : ts.length = k := by have := h.length_eq; simpa using this
theorem Ids.mem {ts : List Tm} {k : Nat} (h : Ids ts k) (id : Int) : (∃ t ∈ ts, t.id = id) ↔ 1 ≤ id ∧ id ≤ k := by
  have e : (∃ t ∈ ts, t.id = id) ↔ id ∈ ts.map Tm.id := by simp
  rw [e, h.mem_iff]
  simp only [List.mem_map, List.mem_range]
  constructor
  · rintro ⟨j, hj, rfl⟩; omega
  · rintro ⟨h1, h2⟩; exact ⟨(id - 1).toNat, by omega, by omega⟩
theorem Ids.nodup {ts : List Tm} {k : Nat} (h : Ids ts k) : (ts.map Tm.id).Nodup := by
  rw [h.nodup_iff]
  refine List.Pairwise.map _ (fun a b hab => ?_) List.nodup_range
  intro e
  exact hab (by omega)
theorem Ids.erase {ts : List Tm} {k : Nat} (h : Ids ts k) (i : Nat) (hi : i < ts.length) : ∀ t ∈ ts.eraseIdx i, t.id ≠ (ts[i]).id := by
  have hn := h.nodup
  intro t ht
  rw [List.mem_eraseIdx_iff_getElem] at ht
  obtain ⟨j, hj, hji, rfl⟩ := ht
  intro e
  rcases Nat.lt_or_gt_of_ne hji with q | q
  · exact (List.pairwise_iff_getElem.1 hn) j i (by simpa using hj) (by simpa using hi) q (by simpa using e)
  · exact (List.pairwise_iff_getElem.1 hn) i j (by simpa using hi) (by simpa using hj) q (by simpa using e.symm)

def AgRel1 (w : World) (b len : Nat) (g : Nat) (v22 : Value) (wr : World) : Prop :=
  ∃ (k : Nat) (ts : List Tm), g = len - k ∧ k ≤ len ∧ v22 = .int .i64 k ∧ TOk ts k ∧ Ids ts k ∧ St w wr [tObj b ts k]
def AgRel2 (wc : World) (n : Nat) (ts : List Tm) (id : Int) (g : Nat) (v10 v73 : Value) (wr : World) : Prop :=
  ∃ k : Nat, g = n - k ∧ k ≤ n ∧ v73 = .int .i64 k ∧ v10 = .bool ((ts.take k).any (fun t => t.id == id)) ∧ wr = wc

set_option maxRecDepth 100000 in
set_option maxHeartbeats 2000000 in
theorem again_go (s0 : Option Addr) (len cap : Nat) (zs : List Int) (id due : Int) (w : World) (hl : len ≤ 60) (hr : Rd w 1 s0 len (zs.map (Value.int .i16))) (hz : ∀ z ∈ zs, -32768 ≤ z ∧ z ≤ 32767) (hn0 : -32768 ≤ due) (hn1 : due ≤ 32767) :
    Calls Try.prog 8 #[.slice s0 len cap, .int .i64 id, .int .i16 due] w fun e w' => e = .returned (.bool true) ∧ Below w.heap.size w w' := by
  have hr' := Lib.hid hr
  have hz' := Lib.hid hz
  have hzl := Lib.hid (show zs.length = len by have := hr.len; simpa using this)
  clear hr hz
  have hd : decide ((60 : Int) < (len : Int)) = false := by simp; omega
  go_enter Try.func8, Try.ntmps8
  go_wp2_with (go_at_call 11; refine (awake_any _).mono ?_; rintro e w1 ⟨rfl, hb1⟩)
  have h0 := t_start (St.start w hb1)
  go_loopg [22] len (AgRel1 w w1.heap.size len)
  case atStart => exact ⟨0, [], rfl, Nat.zero_le _, rfl, TOk.nil, List.Perm.refl _, h0⟩
  case round =>
    obtain ⟨k, ts, hg, hk, rfl, hok, hid, hp⟩ := hrel
    have Hg := Lib.hid hg
    have Hok := Lib.hid hok
    have Hid := Lib.hid hid
    have Hlen := Lib.hid hid.len
    have Hp := Lib.hid hp
    clear hg hp hb1 h0 hok hid
    by_cases hlt : k < len
    · obtain ⟨gl, ol, rfl, hcell⟩ := hr'.out.addr (by omega)
      have hkz : k < zs.length := by rw [hzl.out]; exact hlt
      have hcz := hcell k (.int .i16 zs[k]) (by simp [hkz])
      have hcz2 := Hp.out.old hcz
      obtain ⟨hz1, hz2⟩ := hz'.out zs[k] (List.getElem_mem _)
      generalize zs[k] = z at *
      clear hcell hcz
      have hlt' : (k : Int) < (len : Int) := by omega
      go_wp2_with fail
      refine (tadd_st z Hp.out (by rw [Hlen.out]; omega) (by omega) (by omega)).mono ?_
      rintro e w2 ⟨rfl, i, hf, h2⟩
      have H2 := Lib.hid h2
      have HF := Lib.hid hf
      clear h2 hcz2 hf
      go_wp2_with fail
      go_roundg (len - (k + 1))
      case measure => have := Hg.out; omega
      case rel => exact ⟨k + 1, _, rfl, by omega, by simp, by have := ins_sorted Hok.out HF.out rfl; simpa using this, Hid.out.next rfl, by simpa using H2.out⟩
    · obtain rfl : k = len := by omega
      have hts : ts.length ≤ 60 := by rw [Hlen.out]; omega
      by_cases hgiv : 1 ≤ id ∧ id ≤ k
      · have HG := Lib.hid hgiv
        have hg1 : decide (1 ≤ id) = true := by simp [hgiv.1]
        have hg2 : decide (id ≤ (k : Int)) = true := by simp [hgiv.2]
        clear hgiv
        go_wp2_with fail
        refine (tagain_st id due Hp.out (by omega) (by omega) (by omega)).mono ?_
        rintro e w2 (⟨_, _, hno, -⟩ | ⟨-, rfl, h2⟩)
        · obtain ⟨t, ht, hti⟩ := (Hid.out.mem id).2 HG.out
          exact (hno t ht hti).elim
        have H2 := Lib.hid h2
        clear h2
        go_wp2_with fail
        refine (trem_st id H2.out (by omega)).mono ?_
        rintro e w3 (⟨p, hp, hpid, -, rfl, h3⟩ | ⟨hno, -, -⟩)
        rotate_left
        · obtain ⟨t, ht, hti⟩ := (Hid.out.mem id).2 HG.out
          exact (hno t ht hti).elim
        have HP := Lib.hid hpid
        have H3 := Lib.hid h3
        have hel : (ts.eraseIdx p).length ≤ 60 := Nat.le_trans (List.length_eraseIdx_le _ _) hts
        have Her := Lib.hid (Hid.out.erase p hp)
        have Hel := Lib.hid (show (ts.eraseIdx p).length + 1 = k by rw [List.length_eraseIdx_of_lt hp, Hlen.out]; rw [Hlen.out] at hp; omega)
        clear hpid h3
        go_wp2_with fail
        refine (tagain_st id due H3.out (by omega) (by omega) (by omega)).mono ?_
        rintro e w4 (⟨_, _, _, rfl, i, hF, h4⟩ | ⟨hbad, -, -⟩)
        rotate_left
        · rcases hbad with q | q | ⟨t, ht, hti⟩
          · have := HG.out; omega
          · have := HG.out; omega
          · exact (Her.out t ht (hti.trans HP.out.symm)).elim
        obtain ⟨us, hus⟩ : ∃ us, insAt (ts.eraseIdx p) i ⟨id, due, (k : Int) + 1⟩ = us := ⟨_, rfl⟩
        have hul : us.length = k := by rw [← hus, insAt_len _ _ _ hF.1]; exact Hel.out
        have hmem : ∀ t ∈ us, t.id = id → t.due = due ∧ t.ord = (k : Int) + 1 := by
          intro t ht hti
          rw [← hus] at ht
          rcases mem_insAt.1 ht with rfl | ht
          · exact ⟨rfl, rfl⟩
          · exact (Her.out t ht (hti.trans HP.out.symm)).elim
        have hex : ∃ t ∈ us, t.id = id := ⟨⟨id, due, (k : Int) + 1⟩, by rw [← hus]; exact mem_insAt.2 (.inl rfl), rfl⟩
        rw [hus] at h4
        have HUL := Lib.hid hul
        have HM := Lib.hid hmem
        have HX := Lib.hid hex
        have H4 := Lib.hid h4
        have hu60 : us.length ≤ 60 := by omega
        clear hus hul hmem hex h4 hF Her Hel H3 HP hel H2
        go_wp2_with fail
        refine (tagain_st id due H4.out (by omega) (by omega) (by omega)).mono ?_
        rintro e w5 (⟨_, _, hno, -⟩ | ⟨-, rfl, h5⟩)
        · obtain ⟨t, ht, hti⟩ := HX.out
          exact (hno t ht hti).elim
        obtain ⟨s5, c5, h6⟩ := t_open h5
        have hc5 := h6.cell 0
        simp at hc5
        have H5 := Lib.hid h5
        have H6 := Lib.hid h6
        clear h5 h6 H4
        go_wp2_with fail
        go_loopg [10, 73] us.length (AgRel2 w5 us.length us id)
        case atStart => exact ⟨0, rfl, Nat.zero_le _, rfl, rfl, rfl⟩
        case round =>
          obtain ⟨j, hg, hj, rfl, rfl, rfl⟩ := hrel
          have Hg2 := Lib.hid hg
          clear hg
          by_cases hju : j < us.length
          · have hsl := H6.out.swap.sl
            obtain ⟨g6, o6, rfl, hcell, -, -⟩ := hsl.some_of (Nat.lt_of_lt_of_le (by omega) hsl.le)
            obtain ⟨e0, e1, e2⟩ := tcells_at us j hju
            have d0 := hcell (j * 3) (by omega)
            have d1 := hcell (j * 3 + 1) (by omega)
            have d2 := hcell (j * 3 + 2) (by omega)
            rw [e0] at d0
            rw [e1, ← Nat.add_assoc] at d1
            rw [e2, ← Nat.add_assoc] at d2
            rw [show o6 + j * 3 + 2 = o6 + j * 3 + 1 + 1 by omega] at d2
            have hm := HM.out us[j] (List.getElem_mem hju)
            have HT := Lib.hid (show ((us.take (j + 1)).any fun t => t.id == id) = ((us.take j).any (fun t => t.id == id) || (us[j].id == id)) by rw [List.take_succ_eq_append_getElem hju, List.any_append]; simp)
            have hju' : (j : Int) < (us.length : Int) := by omega
            clear hcell e0 e1 e2 hsl
            by_cases hi : us[j].id = id
            · obtain ⟨hm1, hm2⟩ := hm hi
              have hib : (us[j].id == id) = true := by simp [hi]
              have hb1 : (us[j].due == due) = true := by simp [hm1]
              have hb2 : (us[j].ord == (k : Int) + 1) = true := by simp [hm2]
              clear hm hi hm1 hm2
              go_wp2_with fail
              go_roundg (us.length - (j + 1))
              case measure => have := Hg2.out; omega
              case rel => exact ⟨j + 1, rfl, by omega, by simp, by rw [HT.out, hib, Bool.or_true], rfl⟩
            · have hib : (us[j].id == id) = false := by simp [hi]
              clear hm hi
              go_wp2_with fail
              go_roundg (us.length - (j + 1))
              case measure => have := Hg2.out; omega
              case rel => exact ⟨j + 1, rfl, by omega, by simp, by rw [HT.out, hib, Bool.or_false], rfl⟩
          · have hany : ((us.take j).any fun t => t.id == id) = true := by
              rw [List.take_of_length_le (by omega)]
              obtain ⟨t, ht, hti⟩ := HX.out
              exact List.any_eq_true.2 ⟨t, ht, by simp [hti]⟩
            have hub : ((us.length : Int) == (k : Int)) = true := by have := HUL.out; simp; omega
            rw [hany]
            clear hany
            go_wp2_with fail
            refine (tlen_st H5.out).mono ?_
            rintro e w6 ⟨rfl, rfl⟩
            go_wp2_with fail
            refine (tadd_st 0 H5.out (by omega) (by omega) (by omega)).mono ?_
            rintro e w6 ⟨rfl, i6, -, h6⟩
            have H7 := Lib.hid h6
            have hfin : ((k : Int) + 1 + 1 == (k : Int) + 2) = true := by simp; omega
            clear h6
            go_wp2_with fail
            go_ret
            exact ⟨by simp, H7.out.bel⟩
      · have hnone : ¬ ∃ t ∈ ts, t.id = id := fun q => hgiv ((Hid.out.mem id).1 q)
        have HNO := Lib.hid hnone
        have HGV := Lib.hid hgiv
        have hlb : ((ts.length : Int) == (k : Int)) = true := by have := Hlen.out; simp; omega
        have hgiv2 : (decide (1 ≤ id) = false) ∨ (decide (1 ≤ id) = true ∧ decide (id ≤ (k : Int)) = false) := by
          by_cases q : 1 ≤ id
          · right; exact ⟨by simp [q], by simp; omega⟩
          · left; simp; omega
        clear hnone hgiv
        rcases hgiv2 with hg1 | ⟨hg1, hg2⟩
        all_goals
          go_wp2_with fail
          refine (tagain_st id due Hp.out (by omega) (by omega) (by omega)).mono ?_
          rintro e w2 (⟨q1, q2, -, -⟩ | ⟨-, rfl, h2⟩)
          · exact (HGV.out ⟨q1, q2⟩).elim
          have H2 := Lib.hid h2
          clear h2
          go_wp2_with fail
          refine (trem_st id H2.out (by omega)).mono ?_
          rintro e w3 (⟨p, hp, hpid, -, -, -⟩ | ⟨-, rfl, h3⟩)
          · exact (HNO.out ⟨_, List.getElem_mem hp, hpid⟩).elim
          have H3 := Lib.hid h3
          clear h3
          go_wp2_with fail
          refine (tagain_st id due H3.out (by omega) (by omega) (by omega)).mono ?_
          rintro e w4 (⟨q1, q2, -, -⟩ | ⟨-, rfl, h4⟩)
          · exact (HGV.out ⟨q1, q2⟩).elim
          have H4 := Lib.hid h4
          clear h4
          go_wp2_with fail
          refine (tagain_st id due H4.out (by omega) (by omega) (by omega)).mono ?_
          rintro e w5 (⟨q1, q2, -, -⟩ | ⟨-, rfl, h5⟩)
          · exact (HGV.out ⟨q1, q2⟩).elim
          have H5 := Lib.hid h5
          clear h5
          go_wp2_with fail
          refine (tlen_st H5.out).mono ?_
          rintro e w6 ⟨rfl, rfl⟩
          go_wp2_with fail
          go_ret
          exact ⟨by simp, H5.out.bel⟩
end Go.Proofs.Ytkddkbjgnndflaa
