/-
  The walk of QueueTimerOrder for at most 100 timers.
-/
import Derived.Test.YtkddkbjgnndflaaQn
import Derived.Deep.QuietTactic
set_option linter.unusedVariables false
namespace Go.Proofs.Ytkddkbjgnndflaa
open Go.RowKit Go.K

/-- the timers of the first k moments: their numbers and moments -/
def Made (zs : List Int) (ts : List Tm) (k : Nat) : Prop :=
  TOk ts k ∧ ts.length = k ∧ ∀ t ∈ ts, ∃ j : Nat, j < k ∧ t.id = (j : Int) + 1 ∧ zs[j]? = some t.due

def early (zs : List Int) (now : Int) (k : Nat) : Nat := ((zs.take k).filter (fun z => decide (z ≤ now))).length
def late (ts : List Tm) (now : Int) : Nat := (ts.filter (fun t => decide (t.due ≤ now))).length

def OrRel1 (w : World) (b len : Nat) (zs : List Int) (now : Int) (g : Nat) (v6 v22 : Value) (wr : World) : Prop :=
  ∃ (k : Nat) (ts : List Tm), g = len - k ∧ k ≤ len ∧ v22 = .int .i64 k ∧ v6 = .int .i64 (early zs now k) ∧ Made zs ts k ∧ late ts now = early zs now k ∧ St w wr [tObj b ts k]
/-- what is left while timers are taken -/
def Left (zs : List Int) (ts : List Tm) (la : Tm) (len : Nat) : Prop :=
  ts.Pairwise Tm.lt ∧ (∀ t ∈ ts, la.lt t) ∧ ∀ t ∈ ts, ∃ j : Nat, j < len ∧ t.id = (j : Int) + 1 ∧ zs[j]? = some t.due
def OrRel2 (w : World) (b b8 len E : Nat) (zs : List Int) (now : Int) (g : Nat) (v9 : Value) (wr : World) : Prop :=
  ∃ (n : Nat) (ts : List Tm) (la : Tm), g = ts.length ∧ v9 = .int .i64 n ∧ n + ts.length = len ∧ n + late ts now = E ∧ Left zs ts la len ∧ St w wr [tObj b ts len, As.cells b8 #[.int .i64 la.id, .int .i64 la.due, .int .i64 la.ord] 57]

theorem early_succ (zs : List Int) (now : Int) (k : Nat) (h : k < zs.length) : early zs now (k + 1) = early zs now k + if zs[k] ≤ now then 1 else 0 := by
  unfold early
  rw [List.take_succ_eq_append_getElem h, List.filter_append, List.length_append]
  by_cases hh : zs[k] ≤ now <;> simp [hh]
theorem late_ins (ts : List Tm) (t : Tm) (i : Nat) (now : Int) : late (insAt ts i t) now = late ts now + if t.due ≤ now then 1 else 0 := by
  unfold late
  rw [((insAt_perm ts i t).filter _).length_eq]
  by_cases hh : t.due ≤ now <;> simp [hh]
theorem early_le (zs : List Int) (now : Int) (k : Nat) : early zs now k ≤ k := by
  unfold early
  exact Nat.le_trans (List.length_filter_le _ _) (List.length_take_le _ _)
theorem Made.next {zs : List Int} {ts : List Tm} {k i : Nat} (h : Made zs ts k) (hk : k < zs.length) (hf : Found ts ⟨(k : Int) + 1, zs[k], (k : Int) + 1⟩ i) : Made zs (insAt ts i ⟨(k : Int) + 1, zs[k], (k : Int) + 1⟩) (k + 1) := by
  obtain ⟨h1, h2, h3⟩ := h
  refine ⟨by have := ins_sorted h1 hf rfl; simpa using this, by rw [insAt_len _ _ _ hf.1, h2], fun t ht => ?_⟩
  rcases mem_insAt.1 ht with rfl | ht
  · exact ⟨k, by omega, rfl, by simp [hk]⟩
  · obtain ⟨j, q1, q2, q3⟩ := h3 t ht
    exact ⟨j, by omega, q2, q3⟩
theorem late_head {t : Tm} {ts : List Tm} {now : Int} (h : (t :: ts).Pairwise Tm.lt) (hd : now < t.due) : late (t :: ts) now = 0 := by
  unfold late
  rw [List.length_eq_zero_iff, List.filter_eq_nil_iff]
  intro x hx
  have : now < x.due := by
    rcases List.mem_cons.1 hx with rfl | hx
    · exact hd
    · have := (List.pairwise_cons.1 h).1 x hx
      unfold Tm.lt at this; omega
  simp; omega
theorem late_cons {t : Tm} {ts : List Tm} {now : Int} (hd : t.due ≤ now) : late (t :: ts) now = late ts now + 1 := by
  unfold late; simp [hd]

set_option maxRecDepth 100000 in
set_option maxHeartbeats 2000000 in
theorem order_go (s0 : Option Addr) (len cap : Nat) (zs : List Int) (now : Int) (w : World) (hl : len ≤ 100) (hr : Rd w 1 s0 len (zs.map (Value.int .i16))) (hz : ∀ z ∈ zs, -32768 ≤ z ∧ z ≤ 32767) (hn0 : -32768 ≤ now) (hn1 : now ≤ 32767) :
    Calls Try.prog 7 #[.slice s0 len cap, .int .i16 now] w fun e w' => e = .returned (.bool true) ∧ Below w.heap.size w w' := by
  have hr' := Lib.hid hr
  have hz' := Lib.hid hz
  have hzl := Lib.hid (show zs.length = len by have := hr.len; simpa using this)
  clear hr hz
  have hd : decide ((100 : Int) < (len : Int)) = false := by simp; omega
  go_enter Try.func7, Try.ntmps7
  go_wp2_with (go_at_call 11; refine (awake_any _).mono ?_; rintro e w1 ⟨rfl, hb1⟩)
  have h0 := t_start (St.start w hb1)
  go_loopg [6, 22] len (OrRel1 w w1.heap.size len zs now)
  case atStart => exact ⟨0, [], rfl, Nat.zero_le _, rfl, rfl, ⟨TOk.nil, rfl, by simp⟩, rfl, h0⟩
  case round =>
    obtain ⟨k, ts, hg, hk, rfl, rfl, hm, hla, hp⟩ := hrel
    have Hg := Lib.hid hg
    have Hm := Lib.hid hm
    have Hla := Lib.hid hla
    have Hp := Lib.hid hp
    have hel := early_le zs now k
    clear hg hp hb1 h0 hm hla
    by_cases hlt : k < len
    · obtain ⟨gl, ol, rfl, hcell⟩ := hr'.out.addr (by omega)
      have hkz : k < zs.length := by rw [hzl.out]; exact hlt
      have hcz := hcell k (.int .i16 zs[k]) (by simp [hkz])
      have hcz2 := Hp.out.old hcz
      obtain ⟨hz1, hz2⟩ := hz'.out zs[k] (List.getElem_mem _)
      have Hn := Lib.hid (@Made.next zs ts k · Hm.out hkz)
      have He := Lib.hid (early_succ zs now k hkz)
      have HcZ := Lib.hid hcz
      have Hlen := Lib.hid Hm.out.2.1
      generalize zs[k] = z at *
      clear hcell hcz
      have hlt' : (k : Int) < (len : Int) := by omega
      go_wp2_with fail
      refine (tadd_st z Hp.out (by rw [Hlen.out]; omega) (by omega) (by omega)).mono ?_
      rintro e w2 ⟨rfl, i, hf, h2⟩
      have hcz3 := h2.old HcZ.out
      have H2 := Lib.hid h2
      have HF := Lib.hid hf
      clear h2 hcz2 hf
      by_cases hzn : z ≤ now
      · have hznb : decide (z ≤ now) = true := by simp [hzn]
        go_wp2_with fail
        go_roundg (len - (k + 1))
        case measure => have := Hg.out; omega
        case rel =>
          refine ⟨k + 1, _, rfl, by omega, by simp, ?_, Hn.out i HF.out, ?_, by simpa using H2.out⟩
          · rw [He.out, if_pos hzn]; simp
          · rw [late_ins, He.out, Hla.out]
      · have hznb : decide (z ≤ now) = false := by simp; omega
        go_wp2_with fail
        go_roundg (len - (k + 1))
        case measure => have := Hg.out; omega
        case rel =>
          refine ⟨k + 1, _, rfl, by omega, by simp, ?_, Hn.out i HF.out, ?_, by simpa using H2.out⟩
          · rw [He.out, if_neg (by omega)]; simp
          · rw [late_ins, He.out, Hla.out]
    · obtain rfl : k = len := by omega
      go_wp2_with fail
      obtain ⟨E, hE⟩ : ∃ E, early zs now k = E := ⟨_, rfl⟩
      rw [hE] at Hla hel
      simp only [hE]
      have H3 := Lib.hid ((Hp.out.new #[.int .i64 0, .int .i64 (-40000), .int .i64 0] 57).swap)
      have hst : Left zs ts ⟨0, -40000, 0⟩ k := by
        obtain ⟨q1, q2, q3⟩ := Hm.out
        refine ⟨q1.sorted, fun t ht => ?_, q3⟩
        obtain ⟨j, _, _, hj⟩ := q3 t ht
        have := hz'.out t.due (List.mem_of_getElem? hj)
        left; simp only; omega
      have Hst := Lib.hid hst
      have Hlen := Lib.hid Hm.out.2.1
      clear hst hE
      generalize wr.heap.size = b8 at H3 ⊢
      go_loopg [9] k (OrRel2 w w1.heap.size b8 k E zs now)
      case atStart => exact ⟨0, ts, ⟨0, -40000, 0⟩, Hlen.out.symm, rfl, by rw [Hlen.out]; omega, by rw [Hla.out]; omega, Hst.out, H3.out⟩
      case round =>
        clear Hst H3 Hlen Hla Hp Hm
        obtain ⟨n, ts, la, hg, rfl, hnl, hnE, hL, hp⟩ := hrel
        have Hg2 := Lib.hid hg
        have HNL := Lib.hid hnl
        have HNE := Lib.hid hnE
        have HL := Lib.hid hL
        have Hp2 := Lib.hid hp
        have hn100 : n ≤ 100 := by omega
        have htl : ts.length ≤ 100000 := by omega
        clear hg hp hnl hnE hL
        go_wp2_with fail
        refine (tpop_st now Hp2.out htl).mono ?_
        rintro e w2 (⟨t, r, rfl, hdue, rfl, h2⟩ | ⟨hno, rfl, h2⟩)
        · obtain ⟨q1, q2, q3⟩ := HL.out
          have hla := q2 t (List.mem_cons_self)
          obtain ⟨j, hj1, hj2, hj3⟩ := q3 t (List.mem_cons_self)
          have HL2 := Lib.hid (show Left zs r t k from ⟨(List.pairwise_cons.1 q1).2, (List.pairwise_cons.1 q1).1, fun x hx => q3 x (List.mem_cons_of_mem _ hx)⟩)
          have HLT := Lib.hid (late_cons (ts := r) hdue)
          obtain ⟨gl, ol, rfl, hcell⟩ := hr'.out.addr (by omega)
          have hcz := h2.old (hcell j (.int .i16 t.due) (by simp [hj3]))
          have hzb := hz'.out t.due (List.mem_of_getElem? hj3)
          obtain ⟨hzb1, hzb2⟩ := hzb
          obtain ⟨⟨c0, c1, c2⟩, ⟨f0, f1, f2⟩, hz8⟩ := own3 h2.swap
          have hn8 : b8 ≠ w2.heap.size := by omega
          have hgl : gl < w2.heap.size := World.block_lt_of_cell? _ _ hcz
          have hgn : gl ≠ w2.heap.size := by omega
          have H2 := Lib.hid h2
          obtain ⟨ti, td, tq⟩ := t
          simp only at hj2
          subst hj2
          unfold Tm.lt at hla
          simp only at hla hdue hcz hzb1 hzb2
          have hd1 : decide (now < td) = false := by simp; omega
          have hd2 : decide (td < la.due) = false := by simp; omega
          have hd3 : decide ((j : Int) + 1 < 1) = false := by simp; omega
          have hd4 : decide ((k : Int) < (j : Int) + 1) = false := by simp; omega
          have hjk : (j : Int) < (k : Int) := by omega
          simp only [Tm.val]
          clear q1 q2 q3 hcell h2 hj3 HL
          by_cases heq : td = la.due
          · have hd5 : (td == la.due) = true := by simp [heq]
            have hd6 : decide (tq ≤ la.ord) = false := by simp; omega
            have HQ := Lib.hid heq
            clear heq hla
            have hw1 : IntKind.i64.wrap ((j : Int) + 1 - 1) = (j : Int) := by rw [IntKind.wrap_i64]; omega
            have hw2 : IntKind.i64.wrap (j : Int) = (j : Int) := by rw [IntKind.wrap_i64]; omega
            go_wp2_with fail
            go_quiet (fail)
            go_wp2_with fail
            go_roundg r.length
            case measure => have := Hg2.out; simp at this; omega
            case rel => exact ⟨n + 1, r, ⟨(j : Int) + 1, td, tq⟩, rfl, by simp, by have := HNL.out; simp at this; omega, by have := HNE.out; rw [HLT.out] at this; omega, HL2.out, (set3 _ _ _ ((H2.out.swap.alloc _).drewN _)).swap⟩
          · have hd5 : (td == la.due) = false := by simp [heq]
            have HQ := Lib.hid heq
            clear heq hla
            have hw1 : IntKind.i64.wrap ((j : Int) + 1 - 1) = (j : Int) := by rw [IntKind.wrap_i64]; omega
            have hw2 : IntKind.i64.wrap (j : Int) = (j : Int) := by rw [IntKind.wrap_i64]; omega
            go_wp2_with fail
            go_quiet (fail)
            go_wp2_with fail
            go_roundg r.length
            case measure => have := Hg2.out; simp at this; omega
            case rel => exact ⟨n + 1, r, ⟨(j : Int) + 1, td, tq⟩, rfl, by simp, by have := HNL.out; simp at this; omega, by have := HNE.out; rw [HLT.out] at this; omega, HL2.out, (set3 _ _ _ ((H2.out.swap.alloc _).drewN _)).swap⟩
        · have hl0 : late ts now = 0 := by
            cases ts with
            | nil => rfl
            | cons t r => exact late_head HL.out.1 (hno t r rfl)
          have hnE : n = E := by have := HNE.out; omega
          have hb1 : ((n : Int) == (E : Int)) = true := by simp; omega
          have hb2 : ((ts.length : Int) == (k : Int) - (E : Int)) = true := by have := HNL.out; simp; omega
          have H2 := Lib.hid h2
          clear hno h2 hl0 hnE
          simp only [Tm.val, Tm.zero]
          go_wp2_with fail
          refine (tlen_st (H2.out.alloc _)).mono ?_
          rintro e w3 ⟨rfl, rfl⟩
          go_wp2_with fail
          go_ret
          exact ⟨by simp, (H2.out.alloc _).bel⟩
end Go.Proofs.Ytkddkbjgnndflaa
