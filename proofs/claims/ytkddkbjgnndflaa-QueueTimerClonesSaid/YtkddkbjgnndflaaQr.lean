/-
  The walk of QueueTimerClones for at most 60 timers.
-/
import Derived.Test.YtkddkbjgnndflaaQq
import Derived.Test.YtkddkbjgnndflaaQp
set_option linter.unusedVariables false
namespace Go.Proofs.Ytkddkbjgnndflaa
open Go.RowKit Go.K

theorem st_front3 {w0 w : World} {A B C D : As} {L : List As} (h : St w0 w (A :: B :: C :: D :: L)) : St w0 w (D :: A :: B :: C :: L) :=
  h.perm (((List.Perm.swap D C L).cons B |>.cons A).trans (((List.Perm.swap D B (C :: L)).cons A).trans (.swap _ _ _)))

theorem trem_any {w0 w : World} {L : List As} {b : Nat} {ts : List Tm} {nx : Int} (id : Int) (h : St w0 w (tObj b ts nx :: L)) (hn : ts.length ≤ 100000) :
    Calls Try.prog 27 #[.pointer (some ⟨b, 0, none⟩), .int .i64 id] w fun e w' => ∃ (r : Bool) (us : List Tm), e = .returned (.bool r) ∧ us.length ≤ ts.length ∧ St w0 w' (tObj b us nx :: L) :=
  (trem_st id h hn).mono fun e w' hh => by
    rcases hh with ⟨k, hk, _, _, he, h2⟩ | ⟨_, he, h2⟩
    · exact ⟨_, _, he, List.length_eraseIdx_le _ _, h2⟩
    · exact ⟨_, _, he, Nat.le_refl _, h2⟩
theorem tpop_any {w0 w : World} {L : List As} {b : Nat} {ts : List Tm} {nx : Int} (now : Int) (h : St w0 w (tObj b ts nx :: L)) (hn : ts.length ≤ 100000) :
    Calls Try.prog 24 #[.pointer (some ⟨b, 0, none⟩), .int .i64 now] w fun e w' => ∃ (v : Value) (us : List Tm), e = .returned v ∧ us.length ≤ ts.length ∧ St w0 w' (tObj b us nx :: L) :=
  (tpop_st now h hn).mono fun e w' hh => by
    rcases hh with ⟨t, r, rfl, _, he, h2⟩ | ⟨_, he, h2⟩
    · exact ⟨_, _, he, by simp, h2⟩
    · exact ⟨_, _, he, Nat.le_refl _, h2⟩

def TcRel1 (w : World) (b len : Nat) (zs : List Int) (g : Nat) (v : Value) (wr : World) : Prop :=
  ∃ (k : Nat) (ts : List Tm), g = len - k ∧ k ≤ len ∧ v = .int .i64 k ∧ Made zs ts k ∧ St w wr [tObj b ts k]

set_option maxRecDepth 100000 in
set_option maxHeartbeats 2000000 in
theorem tclones_go (s0 : Option Addr) (len cap : Nat) (zs : List Int) (id : Int) (w : World) (hl : len ≤ 60) (hr : Rd w 1 s0 len (zs.map (Value.int .i16))) (hz : ∀ z ∈ zs, -32768 ≤ z ∧ z ≤ 32767) (hn0 : 0 ≤ id) (hn1 : id ≤ 255) :
    Calls Try.prog 10 #[.slice s0 len cap, .int .u8 id] w fun e w' => e = .returned (.bool true) ∧ Below w.heap.size w w' := by
  have hr' := Lib.hid hr
  have hz' := Lib.hid hz
  have hzl := Lib.hid (show zs.length = len by have := hr.len; simpa using this)
  clear hr hz
  have hd : decide ((60 : Int) < (len : Int)) = false := by simp; omega
  go_enter Try.func10, Try.ntmps10
  go_wp2_with (go_at_call 11; refine (awake_any _).mono ?_; rintro e w1 ⟨rfl, hb1⟩)
  have h0 := t_start (St.start w hb1)
  go_loopg [20] len (TcRel1 w w1.heap.size len zs)
  case atStart => exact ⟨0, [], rfl, Nat.zero_le _, rfl, ⟨TOk.nil, rfl, by simp⟩, h0⟩
  case round =>
    obtain ⟨k, ts, hg, hk, rfl, hm, hp⟩ := hrel
    have Hg := Lib.hid hg
    have Hm := Lib.hid hm
    have Hp := Lib.hid hp
    have Hlen := Lib.hid hm.2.1
    clear hg hp hb1 h0 hm
    by_cases hlt : k < len
    · obtain ⟨gl, ol, rfl, hcell⟩ := hr'.out.addr (by omega)
      have hkz : k < zs.length := by rw [hzl.out]; exact hlt
      have hcz := hcell k (.int .i16 zs[k]) (by simp [hkz])
      have hcz2 := Hp.out.old hcz
      obtain ⟨hz1, hz2⟩ := hz'.out zs[k] (List.getElem_mem _)
      have Hn := Lib.hid (@Made.next zs ts k · Hm.out hkz)
      generalize zs[k] = z at *
      clear hcell hcz
      have hlt' : (k : Int) < (len : Int) := by omega
      go_wp2_with fail
      refine (tadd_st z Hp.out (by rw [Hlen.out]; omega) (by omega) (by omega)).mono ?_
      rintro e w2 ⟨rfl, i, hf, h2⟩
      have H2 := Lib.hid h2
      have HF := Lib.hid hf
      clear h2 hcz2 hf
      go_wp2_with fail
      go_roundg (len - (k + 1))
      case measure => have := Hg.out; omega
      case rel => exact ⟨k + 1, _, rfl, by omega, by simp, Hn.out i HF.out, by simpa using H2.out⟩
    · obtain rfl : k = len := by omega
      have hts : ts.length ≤ 60 := by rw [Hlen.out]; omega
      go_wp2_with fail
      refine (tclone_st Hp.out (by omega)).mono ?_
      rintro e w2 ⟨s1, c1, rfl, h2⟩
      have H2 := Lib.hid h2.swap
      clear h2
      go_wp2_with fail
      refine (tclone_st H2.out (by omega)).mono ?_
      rintro e w3 ⟨s2, c2, rfl, h3⟩
      have h7 := t_shut (st_front3 (h3.new #[.slice s1 ts.length c1, .int .i64 k] 54)).swap
      have h8 := t_shut (h7.new #[.slice s2 ts.length c2, .int .i64 k] 54).front2.swap
      simp only [World.size_alloc] at h8
      have H8 := Lib.hid h8.front2
      clear h3 h7 h8
      go_wp2_with fail
      refine (trem_any id H8.out (by omega)).mono ?_
      rintro e w4 ⟨r4, us4, rfl, hu4, h4⟩
      have H4 := Lib.hid h4
      clear h4
      go_wp2_with fail
      refine (tadd_st (-9) H4.out (by omega) (by omega) (by omega)).mono ?_
      rintro e w5 ⟨rfl, i5, hF5, h5⟩
      have H5 := Lib.hid h5.front2
      clear h5 hF5
      go_wp2_with fail
      refine (tpop_any 40000 H5.out (by omega)).mono ?_
      rintro e w6 ⟨v6, us6, rfl, hu6, h6⟩
      have H6 := Lib.hid h6
      clear h6
      go_wp2_with fail
      refine (tadd_st 3 H6.out (by omega) (by omega) (by omega)).mono ?_
      rintro e w7 ⟨rfl, i7, hF7, h7⟩
      obtain ⟨sc, cc, qc⟩ := t_open h7
      have hnc := qc.cell 1
      obtain ⟨st, ct, qt⟩ := t_open h7.swap
      have hnt := qt.cell 1
      obtain ⟨sd, cd, qd⟩ := t_open h7.front2
      have hnd := qd.cell 1
      have hld := qd.cell 0
      simp at hnc hnt hnd hld
      have H7 := Lib.hid h7
      have HD := Lib.hid qd
      clear h7 qc qt qd hF7
      have hb1 : ((ts.length : Int) != (k : Int)) = false := by have := Hlen.out; simp; omega
      go_wp2_with fail
      refine (tlen_st H7.out.front2).mono ?_
      rintro e w8 ⟨rfl, rfl⟩
      go_wp2_with fail
      go_loopg [52] ts.length (fun g v wx => ∃ j d : Nat, g = ts.length - j ∧ j ≤ ts.length ∧ v = .int .i64 j ∧ wx = w7.drewN d)
      case atStart => exact ⟨0, 0, rfl, Nat.zero_le _, rfl, rfl⟩
      case round =>
        obtain ⟨j, d, hg, hj, rfl, rfl⟩ := hrel
        have Hg2 := Lib.hid hg
        clear hg
        by_cases hju : j < ts.length
        · have hsl := HD.out.swap.sl
          obtain ⟨g6, o6, rfl, hcell, -, -⟩ := hsl.some_of (Nat.lt_of_lt_of_le (by omega) hsl.le)
          obtain ⟨e0, e1, e2⟩ := tcells_at ts j hju
          have d0 := hcell (j * 3) (by omega)
          have d1 := hcell (j * 3 + 1) (by omega)
          rw [e0] at d0
          rw [e1, ← Nat.add_assoc] at d1
          obtain ⟨jj, hjj1, hjj2, hjj3⟩ := Hm.out.2.2 ts[j] (List.getElem_mem hju)
          obtain ⟨gl, ol, rfl, hcl⟩ := hr'.out.addr (by omega)
          have hcz := H7.out.old (hcl jj (.int .i16 ts[j].due) (by simp [hjj3]))
          obtain ⟨hzb1, hzb2⟩ := hz'.out ts[j].due (List.mem_of_getElem? hjj3)
          rw [hjj2] at d0
          have hju' : (j : Int) < (ts.length : Int) := by omega
          have hjk : (jj : Int) < (k : Int) := by omega
          clear e0 e1 e2 hjj2 hjj3 hcl
          cases j with
          | zero =>
            simp only [Nat.zero_mul, Nat.add_zero] at d0 d1
            generalize ts[0].due = td at *
            have hw1 : IntKind.i64.wrap ((jj : Int) + 1 - 1) = (jj : Int) := by rw [IntKind.wrap_i64]; omega
            have hw2 : IntKind.i64.wrap (jj : Int) = (jj : Int) := by rw [IntKind.wrap_i64]; omega
            clear hcell hsl
            go_wp2_with fail
            go_quiet (fail)
            go_wp2_with fail
            go_roundg (ts.length - (0 + 1))
            case measure => have := Hg2.out; omega
            case rel => exact ⟨0 + 1, _, rfl, by omega, by simp, rfl⟩
          | succ j =>
            obtain ⟨e0, e1, e2⟩ := tcells_at ts j (by omega)
            have d3 := hcell (j * 3 + 1) (by omega)
            rw [e1, ← Nat.add_assoc] at d3
            have hso := (List.pairwise_iff_getElem.1 Hm.out.1.sorted) j (j + 1) (by omega) hju (by omega)
            have hle : ts[j].due ≤ ts[j + 1].due := by unfold Tm.lt at hso; omega
            clear hso hcell hsl e0 e1 e2
            generalize ts[j + 1].due = td at *
            generalize ts[j].due = te at *
            have hdb : decide (td < te) = false := by simp; omega
            have hpos : decide ((0 : Int) < (j : Int) + 1) = true := by first | (simp; done) | (simp; omega)
            have hj2 : (j : Int) < (ts.length : Int) := by omega
            have hj3 : (j : Int) + 1 < (ts.length : Int) := by omega
            have hw1 : IntKind.i64.wrap ((jj : Int) + 1 - 1) = (jj : Int) := by rw [IntKind.wrap_i64]; omega
            have hw2 : IntKind.i64.wrap (jj : Int) = (jj : Int) := by rw [IntKind.wrap_i64]; omega
            have hw3 : IntKind.i64.wrap ((j : Int) + 1 - 1) = (j : Int) := by rw [IntKind.wrap_i64]; omega
            have hw4 : IntKind.i64.wrap (j : Int) = (j : Int) := by rw [IntKind.wrap_i64]; omega
            go_wp2_with fail
            go_quiet (fail)
            go_wp2_with fail
            go_roundg (ts.length - (j + 1 + 1))
            case measure => have := Hg2.out; omega
            case rel => exact ⟨j + 1 + 1, _, rfl, by omega, by simp, rfl⟩
        · have H9 := Lib.hid (H7.out.drewN d)
          go_wp2_with fail
          go_ret
          exact ⟨by simp, H9.out.bel⟩
end Go.Proofs.Ytkddkbjgnndflaa
