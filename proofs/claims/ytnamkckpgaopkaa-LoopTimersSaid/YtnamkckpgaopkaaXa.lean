/-
  The walk of LoopTimers.
-/
import Derived.Test.YtnamkckpgaopkaaLw
import Derived.Test.YtnamkckpgaopkaaLy
import Derived.Laws.MakeOwn
import Derived.Deep.CutBlock
set_option linter.unusedVariables false
set_option linter.unusedSimpArgs false
namespace Go.Proofs.Ytnamkckpgaopkaa
open Go.RowKit Go.K

theorem infoB : (Try.prog.info? 4).map (fun i => (i.zero, i.size, i.bytes)) = some (some (.bool false), 1, 1) := by kernel_rfl
def gcells (gone : Nat → Bool) (n : Nat) : Array Value := ((List.range n).map fun i => Value.bool (gone i)).toArray
theorem mkB (w : World) (n : Nat) (hn : n ≤ 2000000) : (Instr.makeSlice 53 (.int .i64 (n : Int)) (.int .i64 (n : Int))).run Try.prog w = .ok (.slice (some ⟨w.heap.size, 0, none⟩) n n) (w.alloc (.cells (gcells (fun _ => false) n) 4)) := by
  obtain ⟨i, hi, h1, h2, h3⟩ := info_parts infoB
  have := run_make (P := Try.prog) w 53 4 i (.bool false) (by kernel_rfl) hi h1 .i64 .i64 n n (by omega) (Int.le_refl _) (by rw [h3]; omega) (by omega)
  rw [h2] at this
  simp only [Int.toNat_natCast, Nat.mul_one] at this
  have e : madeCells #[Value.bool false] n = gcells (fun _ => false) n := by
    apply Array.toList_inj.1
    rw [toList_madeCells_one]
    simp [gcells, List.map_const']
  rw [← e]
  exact this
theorem gcell {w : World} {bg n : Nat} {gone : Nat → Bool} (h : Blk w bg (gcells gone n) 4) (i : Nat) (hi : i < n) : w.cell? ⟨bg, i, none⟩ = some (.bool (gone i)) := by
  rw [h.cell]
  simp [gcells, List.getElem?_range hi]
theorem gset (gone : Nat → Bool) (n i : Nat) : (gcells gone n).setIfInBounds i (.bool true) = gcells (upd gone i true) n := by
  apply Array.ext_getElem?
  intro j
  by_cases hj : j < n
  · by_cases e : i = j
    · subst e
      simp [gcells, List.getElem?_range hj, upd, hj]
    · rw [Array.getElem?_setIfInBounds_ne e]
      simp [gcells, List.getElem?_range hj, upd, Ne.symm e]
  · simp [gcells, hj]
abbrev TmL (b bg : Nat) (S : LS) (gone : Nat → Bool) (n : Nat) : List As := [stO b S, As.cells bg (gcells gone (n + 1)) 4]
theorem fire_len {ds : List Int} {S : LS} {gone : Nat → Bool} {due last : Int} {m : Nat} (h : TI ds S gone due last m) (hm : m ≤ 1000) : (Lst (fireS S)).length = (Lst S).length := by
  have key : ∀ (n : Nat) (S : LS), S.tm.length = n → (Lst (fireS S)).length = (Lst S).length := by
    intro n
    induction n with
    | zero => intro S hn; rw [fire_nil (List.eq_nil_of_length_eq_zero hn)]
    | succ n ih =>
      intro S hn
      cases hs : S.tm with
      | nil => rw [hs] at hn; simp at hn
      | cons t r =>
        by_cases hd : t.due ≤ S.now
        · have hp : popTm S = (t, true, { S with tm := r }) := by unfold popTm; rw [hs]; simp [hd]
          obtain ⟨f1, -, -, -⟩ := fire_go hp
          rw [f1, ih _ (by rw [hs] at hn; simpa [pushS, LS.setQ] using hn)]
          unfold Lst
          rw [hs]
          simp [pushS, LS.setQ, srcN, upd]
        · have e : fireS S = S := by unfold fireS; rw [hs, fireL, if_neg hd, ← hs]
          rw [e]
  exact key _ S rfl
def TmRel1 (ds : List Int) (b bg : Nat) (w : World) (g : Nat) (v43 : Value) (wr : World) : Prop :=
  ∃ (k : Nat) (S : LS), g = ds.length - k ∧ k ≤ ds.length ∧ v43 = .int .i64 k ∧ TI ds S (fun _ => false) (-1) 0 k ∧ S.q 2 = [] ∧ S.now = 0 ∧ St w wr (TmL b bg S (fun _ => false) ds.length)
def TmRel2 (ds cs : List Int) (b bg : Nat) (w : World) (g : Nat) (v61 : Value) (wr : World) : Prop :=
  ∃ (k : Nat) (S : LS) (gone : Nat → Bool), g = cs.length - k ∧ k ≤ cs.length ∧ v61 = .int .i64 k ∧ TI ds S gone (-1) 0 ds.length ∧ S.q 2 = [] ∧ S.now = 0 ∧ St w wr (TmL b bg S gone ds.length)
def TmRel3 (ds ss : List Int) (b bg : Nat) (w : World) (g : Nat) (v12 v13 v90 : Value) (wr : World) : Prop :=
  ∃ (k : Nat) (S : LS) (gone : Nat → Bool) (due last : Int), g = ss.length - k ∧ k ≤ ss.length ∧ v90 = .int .i64 k ∧ v12 = .int .i64 due ∧ v13 = .int .i64 last ∧ TI ds S gone due last ds.length ∧ S.now ≤ 255 * k ∧ St w wr (TmL b bg S gone ds.length)
def TmRel4 (ds : List Int) (b bg : Nat) (T : Int) (w : World) (g : Nat) (v12 v13 : Value) (wr : World) : Prop :=
  ∃ (S : LS) (gone : Nat → Bool) (due last : Int), g = (Lst S).length ∧ v12 = .int .i64 due ∧ v13 = .int .i64 last ∧ TI ds S gone due last ds.length ∧ S.now = T ∧ St w wr (TmL b bg S gone ds.length)
def TmRel5 (n b bg : Nat) (S : LS) (gone : Nat → Bool) (w : World) (g : Nat) (v173 : Value) (wr : World) : Prop :=
  ∃ k : Nat, g = n - k ∧ k ≤ n ∧ v173 = .int .i64 k ∧ St w wr (TmL b bg S gone n)
theorem dOf_nat (ds : List Int) (j : Nat) : dOf ds ((j : Int) + 1) = ds.getD j 0 := by
  unfold dOf
  congr 1
  omega
theorem ti_gone {ds : List Int} {S : LS} {gone : Nat → Bool} {due last : Int} {m : Nat} (h : TI ds S gone due last m) (hq : S.q 2 = []) {T : Int} (hf : ∀ t ∈ S.tm, T < t.due) (k : Nat) (hk : k < m) (hd : ds.getD k 0 ≤ T) : gone (k + 1) = true := by
  cases hg : gone (k + 1) with
  | true => rfl
  | false =>
    exfalso
    have hm := (h.mem (k + 1)).2 ⟨by omega, by omega, hg⟩
    rw [lst_tm hq] at hm
    obtain ⟨t, ht, e⟩ := List.mem_map.1 hm
    have h1 := (h.tm t ht).1
    have h2 := hf t ht
    have e2 : t.id = (k : Int) + 1 := by rw [e]; omega
    rw [e2, dOf_nat] at h1
    omega
theorem ti_tick {ds : List Int} {S : LS} {gone : Nat → Bool} {due last : Int} {m : Nat} (h : TI ds S gone due last m) (t : Int) (h0 : S.now ≤ t) (h1 : t ≤ 1000000) : TI ds { S with now := t } gone due last m :=
  ⟨⟨h.bnd.q, h.bnd.tm, h.bnd.calls, h.bnd.shots, h.bnd.jobs, h.bnd.nx0, h.bnd.nx1, h.bnd.ord0, h.bnd.ord1, by have := h.bnd.now0; simp only; omega, by simp only; omega, h.bnd.last0, h.bnd.last1, h.bnd.us0, h.bnd.us1, h.bnd.ev, h.bnd.sh0, h.bnd.sh1⟩, h.jobs, h.sh, h.di, h.q, fun y hy => ⟨(h.q2 y hy).1, by have := (h.q2 y hy).2; simp only; omega⟩, h.tm, h.ok, h.srt, h.mem, h.nat, h.cal, h.cid, h.cnd, h.lo, h.nx, h.ord, h.len, h.cl⟩
set_option maxRecDepth 100000 in
set_option maxHeartbeats 4000000 in
theorem timers_go (s0 s1 s2 : Option Addr) (c0 c1 c2 : Nat) (ds cs ss : List Int) (w : World) (hr0 : Rd w 1 s0 ds.length (ds.map (Value.int .u8))) (hz0 : ∀ z ∈ ds, 0 ≤ z ∧ z ≤ 255) (hr1 : Rd w 1 s1 cs.length (cs.map (Value.int .u8))) (hz1 : ∀ z ∈ cs, 0 ≤ z ∧ z ≤ 255) (hr2 : Rd w 1 s2 ss.length (ss.map (Value.int .u8))) (hz2 : ∀ z ∈ ss, 0 ≤ z ∧ z ≤ 255) :
    Calls Try.prog 4 #[.slice s0 ds.length c0, .slice s1 cs.length c1, .slice s2 ss.length c2] w fun e w' => e = .returned (.bool true) ∧ Below w.heap.size w w' := by
  have HR0 := Lib.hid hr0
  have HR1 := Lib.hid hr1
  have HR2 := Lib.hid hr2
  have HZ0 := Lib.hid hz0
  have HZ1 := Lib.hid hz1
  have HZ2 := Lib.hid hz2
  clear hr0 hr1 hr2 hz0 hz1 hz2
  by_cases hl0 : (40 : Int) < (ds.length : Int)
  · go_enter Try.func4, Try.ntmps4
    go_wp2_with (first
      | (go_at_call 11; refine (awake_c _).mono ?_; rintro e wb ⟨rfl, hbb⟩; have H3 := Lib.hid (H2.out.trans (hbb.mono H2.out.size)); clear hbb)
      | (go_at_call 11; refine (awake_c _).mono ?_; rintro e wa ⟨rfl, hba⟩; have H2 := Lib.hid hba; clear hba))
    go_ret
    exact ⟨rfl, H3.out⟩
  by_cases hl1 : (40 : Int) < (cs.length : Int)
  · go_enter Try.func4, Try.ntmps4
    go_wp2_with (first
      | (go_at_call 11; refine (awake_c _).mono ?_; rintro e wb ⟨rfl, hbb⟩; have H3 := Lib.hid (H2.out.trans (hbb.mono H2.out.size)); clear hbb)
      | (go_at_call 11; refine (awake_c _).mono ?_; rintro e wa ⟨rfl, hba⟩; have H2 := Lib.hid hba; clear hba))
    go_ret
    exact ⟨rfl, H3.out⟩
  by_cases hl2 : (60 : Int) < (ss.length : Int)
  · go_enter Try.func4, Try.ntmps4
    go_wp2_with (first
      | (go_at_call 11; refine (awake_c _).mono ?_; rintro e wb ⟨rfl, hbb⟩; have H3 := Lib.hid (H2.out.trans (hbb.mono H2.out.size)); clear hbb)
      | (go_at_call 11; refine (awake_c _).mono ?_; rintro e wa ⟨rfl, hba⟩; have H2 := Lib.hid hba; clear hba))
    go_ret
    exact ⟨rfl, H3.out⟩
  have hn0 : (ds.length : Int) ≤ 40 := by omega
  have hn1 : (cs.length : Int) ≤ 40 := by omega
  have hn2 : (ss.length : Int) ≤ 60 := by omega
  have hmk := fun w' => mkB w' (ds.length + 1) (by omega)
  have hcast : ((ds.length + 1 : Nat) : Int) = (ds.length : Int) + 1 := by omega
  rw [hcast] at hmk
  go_enter Try.func4, Try.ntmps4
  go_upto_region 3 with (go_at_call 11; refine (awake_c _).mono ?_; rintro e wa ⟨rfl, hba⟩; have H2 := Lib.hid (St.start w hba); clear hba)
  clear hl0 hl1 hl2
  have H3 := Lib.hid (st_start H2.out)
  go_upto_region 4 with fail
  obtain ⟨b, hb⟩ : ∃ b, wa.heap.size = b := ⟨_, rfl⟩
  rw [hb] at H3
  simp only [hb]
  clear hb H2
  obtain ⟨W3, hW3⟩ : ∃ W, wa.alloc (.cells zcells 37) = W := ⟨_, rfl⟩
  have hW3' : wa.alloc (.cells #[.int .i64 0, .slice none 0 0, .slice none 0 0, .slice none 0 0, .slice none 0 0, .slice none 0 0, .int .i64 0, .slice none 0 0, .slice none 0 0, .int .i64 0, .slice none 0 0, .slice none 0 0, .int .i64 0, .bool false, .int .i64 0, .int .i64 0] 37) = W3 := hW3
  rw [hW3] at H3
  rw [hW3']
  clear hW3 hW3'
  have H4 := Lib.hid ((H3.out.new (gcells (fun _ => false) (ds.length + 1)) 4).swap)
  obtain ⟨bg, hbg⟩ : ∃ bg, W3.heap.size = bg := ⟨_, rfl⟩
  rw [hbg] at H4
  go_upto_region 5 with fail
  try simp only [hbg]
  obtain ⟨W4, hW4⟩ : ∃ W, W3.alloc (.cells (gcells (fun _ => false) (ds.length + 1)) 4) = W := ⟨_, rfl⟩
  rw [hW4] at H4
  rw [hW4]
  clear hW4 hbg hmk hcast H3
  go_wp2_with fail
  go_loopg [43] ds.length (TmRel1 ds b bg w)
  case atStart => exact ⟨0, LS.zero, rfl, Nat.zero_le _, rfl, ti0 ds, rfl, rfl, H4.out⟩
  case round =>
    obtain ⟨k, S, hg, hk, rfl, hti, hq2, hnow, hst⟩ := hrel
    have Hg := Lib.hid hg
    have HTI := Lib.hid hti
    have HQ2 := Lib.hid hq2
    have HNW := Lib.hid hnow
    have HS := Lib.hid hst
    clear hg hti hq2 hnow hst H4
    by_cases hkn : k < ds.length
    · have hkI : (k : Int) < (ds.length : Int) := by omega
      have hkI0 : (0 : Int) ≤ (k : Int) := by omega
      obtain ⟨z, hzz⟩ : ∃ z, ds.getD k 0 = z := ⟨_, rfl⟩
      have hzm : z ∈ ds := by rw [← hzz, List.getD_eq_getElem?_getD, List.getElem?_eq_getElem hkn]; exact List.getElem_mem hkn
      obtain ⟨hz0, hz1⟩ := HZ0.out z hzm
      have hwz : IntKind.i64.wrap z = z := by rw [IntKind.wrap_i64]; omega
      have hwk : IntKind.i64.wrap ((k : Int) + 1) = (k : Int) + 1 := by rw [IntKind.wrap_i64]; omega
      obtain ⟨g, off, rfl, hcw⟩ := u8_at HR0.out hkn z hzz
      have HZZ := Lib.hid (show dOf ds ((k : Int) + 1) = z by rw [dOf_nat, hzz])
      have HNX := Lib.hid (show S.nx + 1 = (k : Int) + 1 by rw [HTI.out.nx])
      have HSd := Lib.hid ((HS.out.rdr_nil 4).drew.swap)
      have hS : (fun w' : World => w'.cell? ⟨g, off + k, none⟩ = some (.int .u8 z)) wr.drew := HSd.out.old hcw
      have hbb : (((k : Int) + 1) != ((k : Int) + 1)) = false := by simp
      clear hzz hzm
      go_upto_region 8 with fail
      refine wp_region_held (S := (fun w' : World => w'.cell? ⟨g, off + k, none⟩ = some (.int .u8 z))) (by kernel_rfl) ?_
      change wpAnyH _ _ _ _ _ _ _ _ (World.drew _)
      refine' wpAnyH_take (i := 0) (v := _) rfl (by kernel_rfl) (by kernel_rfl) (by kernel_rfl) (fun _ _ _ h => h) (Or.inl ⟨by rfl, ?hy0⟩) hS ?rest0
      case hy0 => (intro w' hSw; obtain k0 := hSw; go_simp; try with_reducible rfl)
      try simp only [Act.put, List.getElem_toArray, List.getElem_cons_zero, List.getElem_cons_succ, List.setIfInBounds_toArray, List.set_cons_zero, List.set_cons_succ]
      refine' wpAnyH_take (i := 1) (v := _) rfl (by kernel_rfl) (by kernel_rfl) (by kernel_rfl) (fun _ _ _ h => h) (Or.inl ⟨by rfl, ?hy1⟩) hS ?rest1
      case hy1 => (intro w' hSw; obtain k0 := hSw; go_simp; try with_reducible rfl)
      try simp only [Act.put, List.getElem_toArray, List.getElem_cons_zero, List.getElem_cons_succ, List.setIfInBounds_toArray, List.set_cons_zero, List.set_cons_succ]
      refine' wpAnyH_take (i := 2) (v := _) rfl (by kernel_rfl) (by kernel_rfl) (by kernel_rfl) (fun _ _ _ h => h) (Or.inl ⟨by rfl, ?hy2⟩) hS ?rest2
      case hy2 => (intro w' hSw; obtain k0 := hSw; go_simp; try with_reducible rfl)
      try simp only [Act.put, List.getElem_toArray, List.getElem_cons_zero, List.getElem_cons_succ, List.setIfInBounds_toArray, List.set_cons_zero, List.set_cons_succ]
      refine' wpAnyH_take (i := 3) (v := _) rfl (by kernel_rfl) (by kernel_rfl) (by kernel_rfl) (fun _ _ _ h => h) (Or.inl ⟨by rfl, ?hy3⟩) hS ?rest3
      case hy3 => (intro w' hSw; obtain k0 := hSw; go_simp; try with_reducible rfl)
      try simp only [Act.put, List.getElem_toArray, List.getElem_cons_zero, List.getElem_cons_succ, List.setIfInBounds_toArray, List.set_cons_zero, List.set_cons_succ]
      refine' wpAnyH_take (i := 4) (v := _) rfl (by kernel_rfl) (by kernel_rfl) (by kernel_rfl) (fun _ _ _ h => h) (Or.inl ⟨by rfl, ?hy4⟩) hS ?rest4
      case hy4 => (intro w' hSw; obtain k0 := hSw; go_simp; try with_reducible rfl)
      try simp only [Act.put, List.getElem_toArray, List.getElem_cons_zero, List.getElem_cons_succ, List.setIfInBounds_toArray, List.set_cons_zero, List.set_cons_succ]
      refine' wpAnyH_take (i := 5) (v := _) rfl (by kernel_rfl) (by kernel_rfl) (by kernel_rfl) (fun _ _ _ h => h) (Or.inl ⟨by rfl, ?hy5⟩) hS ?rest5
      case hy5 => (intro w' hSw; obtain k0 := hSw; go_simp; try with_reducible rfl)
      try simp only [Act.put, List.getElem_toArray, List.getElem_cons_zero, List.getElem_cons_succ, List.setIfInBounds_toArray, List.set_cons_zero, List.set_cons_succ]
      refine' wpAnyH_take (i := 6) (v := _) rfl (by kernel_rfl) (by kernel_rfl) (by kernel_rfl) (fun _ _ _ h => h) (Or.inl ⟨by rfl, ?hy6⟩) hS ?rest6
      case hy6 => (intro w' hSw; obtain k0 := hSw; go_simp; try with_reducible rfl)
      try simp only [Act.put, List.getElem_toArray, List.getElem_cons_zero, List.getElem_cons_succ, List.setIfInBounds_toArray, List.set_cons_zero, List.set_cons_succ]
      refine' wpAnyH_take (i := 9) (v := _) rfl (by kernel_rfl) (by kernel_rfl) (by kernel_rfl) (fun _ _ _ h => h) (Or.inl ⟨by rfl, ?hy9⟩) hS ?rest9
      case hy9 => (intro w' hSw; obtain k0 := hSw; go_simp; try with_reducible rfl)
      try simp only [Act.put, List.getElem_toArray, List.getElem_cons_zero, List.getElem_cons_succ, List.setIfInBounds_toArray, List.set_cons_zero, List.set_cons_succ]
      refine' wpAnyH_take (i := 10) (v := _) rfl (by kernel_rfl) (by kernel_rfl) (by kernel_rfl) (fun _ _ _ h => h) (Or.inl ⟨by rfl, ?hy10⟩) hS ?rest10
      case hy10 => (intro w' hSw; obtain k0 := hSw; go_simp; try with_reducible rfl)
      try simp only [Act.put, List.getElem_toArray, List.getElem_cons_zero, List.getElem_cons_succ, List.setIfInBounds_toArray, List.set_cons_zero, List.set_cons_succ]
      refine held_one (i := 7) rfl (by kernel_rfl) ?_
      intro K' hK; have HK' := Lib.hid hK; clear hK
      refine wp_call (by rfl) (by rfl) Try.func15 (by kernel_rfl) (by kernel_rfl) (by kernel_rfl) (number_c ((k : Int) + 1) _) ?_
      rintro e w4 ⟨rfl, hb4⟩
      have H4 := Lib.hid (HSd.out.of_below hb4)
      have hS4 : (fun w' : World => w'.cell? ⟨g, off + k, none⟩ = some (.int .u8 z)) w4 := H4.out.old hcw
      refine ⟨_, rfl, HK'.out _ _ ⟨hS4, ?_⟩⟩
      clear HK' K' hb4
      try simp only [Act.put, List.getElem_toArray, List.getElem_cons_zero, List.getElem_cons_succ, List.setIfInBounds_toArray, List.set_cons_zero, List.set_cons_succ]
      try simp only [vcells]
      refine held_one (i := 8) rfl (by kernel_rfl) ?_
      intro K' hK; have HK' := Lib.hid hK; clear hK
      refine wp_call (by rfl) (by rfl) Try.func14 (by kernel_rfl) (by kernel_rfl) (by kernel_rfl) (set_st z 0 ((k : Int) + 1) none 0 0 [] H4.out (by omega) HTI.out.bnd.calls HTI.out.bnd.tm HTI.out.bnd.nx0 HTI.out.bnd.nx1 HTI.out.bnd.now0 HTI.out.bnd.now1) ?_
      rintro e w5 ⟨rfl, i, sa, sc, hf, h5⟩
      have HF := Lib.hid hf
      have H5 := Lib.hid h5
      clear hf h5
      have hS5 : (fun w' : World => w'.cell? ⟨g, off + k, none⟩ = some (.int .u8 z)) w5 := H5.out.old hcw
      rw [HNX.out]
      refine ⟨_, rfl, HK'.out _ _ ⟨hS5, ?_⟩⟩
      clear HK' K'
      try simp only [Act.put, List.getElem_toArray, List.getElem_cons_zero, List.getElem_cons_succ, List.setIfInBounds_toArray, List.set_cons_zero, List.set_cons_succ]
      refine held_one (i := 11) rfl (by kernel_rfl) ?_
      intro K' hK; have HK' := Lib.hid hK; clear hK
      go_simp
      refine HK'.out _ _ ⟨hS5, ?_⟩
      clear HK' K'
      try simp only [Act.put, List.getElem_toArray, List.getElem_cons_zero, List.getElem_cons_succ, List.setIfInBounds_toArray, List.set_cons_zero, List.set_cons_succ]
      refine wpAnyH_done (by kernel_rfl) ?_ _
      have HT := Lib.hid (show TI ds _ (fun _ => false) (-1) 0 (k + 1) from ti_set HTI.out HQ2.out (by omega) HNW.out z HZZ.out hz0 (by have := HF.out; rw [HNX.out, HNW.out, show bound z = z by unfold bound; omega, Int.zero_add] at this; exact this) sa sc)
      have h6 := H5.out.swap.drop
      rw [HNX.out, show S.now + bound z = z by rw [HNW.out]; unfold bound; omega, show bound 0 = 0 by decide] at h6
      have H6 := Lib.hid h6
      clear h6 hcw HS HSd hS4 hS5 hS H4 H5
      go_wp2_with fail
      go_roundg (ds.length - (k + 1))
      case measure => have := Hg.out; omega
      case rel => exact ⟨k + 1, _, rfl, hkn, by simp, HT.out, HQ2.out, HNW.out, H6.out⟩
    · have hkI : ¬ (k : Int) < (ds.length : Int) := by omega
      have hke : k = ds.length := by omega
      rw [hke] at HTI
      go_wp2_with fail
      go_loopg [61] cs.length (TmRel2 ds cs b bg w)
      case atStart => exact ⟨0, S, _, rfl, Nat.zero_le _, rfl, HTI.out, HQ2.out, HNW.out, HS.out⟩
      case round =>
        clear HTI HQ2 HNW HS Hg hk hkn hke hkI
        obtain ⟨k2, S2, gone, hg, hk2, rfl, hti, hq2, hnow, hst⟩ := hrel
        have Hg := Lib.hid hg
        have HTI := Lib.hid hti
        have HQ2 := Lib.hid hq2
        have HNW := Lib.hid hnow
        have HS := Lib.hid hst
        clear hg hti hq2 hnow hst
        by_cases hkn : k2 < cs.length
        · have hkI : (k2 : Int) < (cs.length : Int) := by omega
          have hkI0 : (0 : Int) ≤ (k2 : Int) := by omega
          obtain ⟨z, hzz⟩ : ∃ z, cs.getD k2 0 = z := ⟨_, rfl⟩
          have hzm : z ∈ cs := by rw [← hzz, List.getD_eq_getElem?_getD, List.getElem?_eq_getElem hkn]; exact List.getElem_mem hkn
          obtain ⟨hz0, hz1⟩ := HZ1.out z hzm
          have hwz : IntKind.i64.wrap z = z := by rw [IntKind.wrap_i64]; omega
          obtain ⟨g, off, rfl, hcell⟩ := u8_at (HR1.out.kept (Fr.of_below HS.out.bel) (fun _ _ q => q)) hkn z hzz
          clear hzz hzm
          by_cases h1 : 1 ≤ z
          · by_cases h2 : z ≤ (ds.length : Int)
            · obtain ⟨id, hid⟩ : ∃ id : Nat, z = (id : Int) := ⟨z.toNat, by omega⟩
              subst hid
              obtain ⟨hcb, htc⟩ := ti_clear' HTI.out HQ2.out id (by omega) (by omega)
              have HCB := Lib.hid hcb
              have HTC := Lib.hid htc
              have HQC := Lib.hid (show (clearS S2 id).q 2 = [] ∧ (clearS S2 id).now = 0 from by
                unfold clearS
                split
                · exact ⟨HQ2.out, HNW.out⟩
                · exact ⟨HQ2.out, HNW.out⟩)
              have HSd := Lib.hid HS.out.drew
              have hid1 : (id : Int) < (ds.length : Int) + 1 := by omega
              have hid2 : id < ds.length + 1 := by omega
              have hS : (fun w' : World => w'.cell? ⟨bg, id, none⟩ = some (.bool (gone id))) _ := gcell (HSd.out.blkm (.tail _ (.head _))) id hid2
              clear hcb htc
              go_upto_region 16 with fail
              clear hcell
              refine wp_region_held (S := (fun w' : World => w'.cell? ⟨bg, id, none⟩ = some (.bool (gone id)))) (by kernel_rfl) ?_
              change wpAnyH _ _ _ _ _ _ _ _ (World.drew _)
              refine' wpAnyH_take (i := 0) (v := _) rfl (by kernel_rfl) (by kernel_rfl) (by kernel_rfl) (fun _ _ _ h => h) (Or.inl ⟨by rfl, ?hy0b⟩) hS ?rest0b
              case hy0b => (intro w' hSw; obtain k0 := hSw; go_simp; try with_reducible rfl)
              try simp only [Act.put, List.getElem_toArray, List.getElem_cons_zero, List.getElem_cons_succ, List.setIfInBounds_toArray, List.set_cons_zero, List.set_cons_succ]
              refine' wpAnyH_take (i := 2) (v := _) rfl (by kernel_rfl) (by kernel_rfl) (by kernel_rfl) (fun _ _ _ h => h) (Or.inl ⟨by rfl, ?hy2b⟩) hS ?rest2b
              case hy2b => (intro w' hSw; obtain k0 := hSw; go_simp; try with_reducible rfl)
              try simp only [Act.put, List.getElem_toArray, List.getElem_cons_zero, List.getElem_cons_succ, List.setIfInBounds_toArray, List.set_cons_zero, List.set_cons_succ]
              refine' wpAnyH_take (i := 3) (v := _) rfl (by kernel_rfl) (by kernel_rfl) (by kernel_rfl) (fun _ _ _ h => h) (Or.inl ⟨by rfl, ?hy3b⟩) hS ?rest3b
              case hy3b => (intro w' hSw; obtain k0 := hSw; go_simp; try with_reducible rfl)
              try simp only [Act.put, List.getElem_toArray, List.getElem_cons_zero, List.getElem_cons_succ, List.setIfInBounds_toArray, List.set_cons_zero, List.set_cons_succ]
              refine' wpAnyH_take (i := 4) (v := _) rfl (by kernel_rfl) (by kernel_rfl) (by kernel_rfl) (fun _ _ _ h => h) (Or.inl ⟨by rfl, ?hy4b⟩) hS ?rest4b
              case hy4b => (intro w' hSw; obtain k0 := hSw; go_simp; try with_reducible rfl)
              try simp only [Act.put, List.getElem_toArray, List.getElem_cons_zero, List.getElem_cons_succ, List.setIfInBounds_toArray, List.set_cons_zero, List.set_cons_succ]
              refine' wpAnyH_take (i := 5) (v := _) rfl (by kernel_rfl) (by kernel_rfl) (by kernel_rfl) (fun _ _ _ h => h) (Or.inl ⟨by rfl, ?hy5b⟩) hS ?rest5b
              case hy5b => (intro w' hSw; obtain k0 := hSw; go_simp; try with_reducible rfl)
              try simp only [Act.put, List.getElem_toArray, List.getElem_cons_zero, List.getElem_cons_succ, List.setIfInBounds_toArray, List.set_cons_zero, List.set_cons_succ]
              refine held_one (i := 1) rfl (by kernel_rfl) ?_
              intro K' hK; have HK' := Lib.hid hK; clear hK
              refine wp_call (by rfl) (by rfl) Try.func16 (by kernel_rfl) (by kernel_rfl) (by kernel_rfl) (clear_st id HSd.out HTI.out.bnd.calls HTI.out.bnd.tm) ?_
              rintro e w4 ⟨rfl, h4⟩
              have H4 := Lib.hid h4
              clear h4
              have hS4 : (fun w' : World => w'.cell? ⟨bg, id, none⟩ = some (.bool (gone id))) w4 := gcell (H4.out.blkm (.tail _ (.head _))) id (by omega)
              rw [HCB.out]
              refine ⟨_, rfl, HK'.out _ _ ⟨hS4, ?_⟩⟩
              clear HK' K'
              try simp only [Act.put, List.getElem_toArray, List.getElem_cons_zero, List.getElem_cons_succ, List.setIfInBounds_toArray, List.set_cons_zero, List.set_cons_succ]
              refine held_one (i := 6) rfl (by kernel_rfl) ?_
              intro K' hK; have HK' := Lib.hid hK; clear hK
              go_simp
              refine HK'.out _ _ ⟨hS4, ?_⟩
              clear HK' K'
              try simp only [Act.put, List.getElem_toArray, List.getElem_cons_zero, List.getElem_cons_succ, List.setIfInBounds_toArray, List.set_cons_zero, List.set_cons_succ]
              refine wpAnyH_done (by kernel_rfl) ?_ _
              have hbb : (!gone id == gone id) = false := by cases gone id <;> rfl
              have hg1 := H4.out.swap.free id
              have hg2 := gcell H4.out.swap.blk.1 id hid2
              have h5 := H4.out.swap.set id (.bool true)
              rw [gset] at h5
              have H5 := Lib.hid h5.swap
              clear h5 hS hS4
              go_wp2_with fail
              go_roundg (cs.length - (k2 + 1))
              case measure => have := Hg.out; omega
              case rel => exact ⟨k2 + 1, _, _, rfl, hkn, by simp, HTC.out, HQC.out.1, HQC.out.2, H5.out⟩
            · go_wp2_with fail
              go_roundg (cs.length - (k2 + 1))
              case measure => have := Hg.out; omega
              case rel => exact ⟨k2 + 1, _, _, rfl, hkn, by simp, HTI.out, HQ2.out, HNW.out, HS.out⟩
          · go_wp2_with fail
            go_roundg (cs.length - (k2 + 1))
            case measure => have := Hg.out; omega
            case rel => exact ⟨k2 + 1, _, _, rfl, hkn, by simp, HTI.out, HQ2.out, HNW.out, HS.out⟩
        · have hkI : ¬ (k2 : Int) < (cs.length : Int) := by omega
          go_wp2_with fail
          go_loopg [12, 13, 90] ss.length (TmRel3 ds ss b bg w)
          case atStart => exact ⟨0, S2, gone, -1, 0, rfl, Nat.zero_le _, rfl, rfl, rfl, HTI.out, by rw [HNW.out]; omega, HS.out⟩
          case round =>
            clear HTI HQ2 HNW HS Hg hkI hkn
            obtain ⟨k3, S3, gone3, due, last, hg, hk3, rfl, rfl, rfl, hti, hnow, hst⟩ := hrel
            have Hg := Lib.hid hg
            have HTI := Lib.hid hti
            have HS := Lib.hid hst
            clear hg hti hst
            by_cases hkn : k3 < ss.length
            · have hkI : (k3 : Int) < (ss.length : Int) := by omega
              have hkI0 : (0 : Int) ≤ (k3 : Int) := by omega
              obtain ⟨z, hzz⟩ : ∃ z, ss.getD k3 0 = z := ⟨_, rfl⟩
              have hzm : z ∈ ss := by rw [← hzz, List.getD_eq_getElem?_getD, List.getElem?_eq_getElem hkn]; exact List.getElem_mem hkn
              obtain ⟨hz0, hz1⟩ := HZ2.out z hzm
              have hwz : IntKind.i64.wrap z = z := by rw [IntKind.wrap_i64]; omega
              obtain ⟨g, off, rfl, hcell⟩ := u8_at (HR2.out.kept (Fr.of_below HS.out.bel) (fun _ _ q => q)) hkn z hzz
              obtain ⟨p7, G7, -, h7⟩ := st_open HS.out
              obtain ⟨c0, -⟩ := st_c h7
              have hno0 := HTI.out.bnd.now0
              have hwn : IntKind.i64.wrap (S3.now + z) = S3.now + z := by rw [IntKind.wrap_i64]; omega
              obtain ⟨T, hT⟩ : ∃ T, S3.now + z = T := ⟨_, rfl⟩
              have HT1 := Lib.hid (ti_tick HTI.out T (by omega) (by omega))
              have HTM := Lib.hid (show max S3.now T = T by omega)
              have HTT := Lib.hid hT
              have HTB := Lib.hid (show T ≤ 255 * ((k3 : Int) + 1) ∧ 0 ≤ T by omega)
              clear h7 hzz hzm hT
              go_upto_region 24 with fail
              go_still_tail 8, (by kernel_rfl)
              change wpList _ _ _ _ _ (World.drew _)
              have HSd := Lib.hid HS.out.drew
              clear HS c0 hcell HTI
              go_upto_block 6 with (go_at_call 17; refine (tick_st (S3.now + z) HSd.out).mono ?_; rintro e w8 ⟨rfl, h8⟩; rw [HTT.out, HTM.out] at h8; have H8 := Lib.hid h8; clear h8)
              go_wp2_with fail
              go_loopg [12, 13] (Lst { S3 with now := T }).length (TmRel4 ds b bg T w)
              case atStart => exact ⟨_, gone3, due, last, rfl, rfl, rfl, HT1.out, rfl, H8.out⟩
              case round =>
                obtain ⟨S4, gone4, due4, last4, hg, rfl, rfl, hti, hnow4, hst⟩ := hrel
                have Hg4 := Lib.hid hg
                have HTI4 := Lib.hid hti
                have HN4 := Lib.hid hnow4
                have HS4 := Lib.hid hst
                clear hg hti hnow4 hst H8 HT1
                obtain ⟨f1, f2, f3⟩ := ti_fire (by omega) _ rfl HTI4.out
                have F1 := Lib.hid f1
                have F2 := Lib.hid f2
                have F3 := Lib.hid f3
                clear f1 f2 f3
                go_upto_region 26 with (first
                  | (go_at_call 13; refine (next_st HS4.out (HTI4.out.room (by omega)) F1.out.bnd).mono ?_; rintro e w9 ⟨S5, x, l, rfl, hn, -, -, h9⟩; have HN := Lib.hid hn; have H9 := Lib.hid (h9.new Ch.z.cells.toArray 50); clear hn h9)
                  | (refine st_store rfl (.tmp 15) (.tmp 102) rfl H9.out x.cells rfl rfl rfl rfl size50 (Ch.one _) ?_; intro W10 HW10; have H10 := Lib.hid HW10; clear HW10))
                obtain ⟨m, hm⟩ : ∃ m, w9.heap.size = m := ⟨_, rfl⟩
                rw [hm] at H10
                simp only [hm]
                clear hm H9 HS4
                obtain ⟨htk, -⟩ := next_task HN.out HTI4.out.jobs HTI4.out.no
                rcases ti_task F1.out htk with ⟨rfl, rfl, hq20⟩ | ⟨id, vk, a', an', ac', g1, g2, g3, g4, g5, hx, g6, g7, g8⟩
                · have k0 := H10.out.cell 0
                  simp [Ch.cells, Ch.z] at k0
                  have HQ := Lib.hid hq20
                  have H11 := Lib.hid (show St w W10 (TmL b bg (fireS S4) gone4 ds.length) from H10.out.drop.swap.drop)
                  clear hq20 htk
                  go_wp2_with fail
                  go_loopg [173] ds.length (TmRel5 ds.length b bg (fireS S4) gone4 w)
                  case atStart => exact ⟨0, rfl, Nat.zero_le _, rfl, H11.out⟩
                  case round =>
                    obtain ⟨k6, hg, hk6, rfl, hst⟩ := hrel
                    have Hg6 := Lib.hid hg
                    have HS6 := Lib.hid hst
                    clear hg hst H10 H11 k0
                    by_cases hkn6 : k6 < ds.length
                    · have hkI6 : (k6 : Int) < (ds.length : Int) := by omega
                      have hkI60 : (0 : Int) ≤ (k6 : Int) := by omega
                      obtain ⟨z', hzz⟩ : ∃ z, ds.getD k6 0 = z := ⟨_, rfl⟩
                      have hzm : z' ∈ ds := by rw [← hzz, List.getD_eq_getElem?_getD, List.getElem?_eq_getElem hkn6]; exact List.getElem_mem hkn6
                      obtain ⟨hz0', hz1'⟩ := HZ0.out z' hzm
                      have hwz' : IntKind.i64.wrap z' = z' := by rw [IntKind.wrap_i64]; omega
                      obtain ⟨g', off', rfl, hcell'⟩ := u8_at (HR0.out.kept (Fr.of_below HS6.out.bel) (fun _ _ q => q)) hkn6 z' hzz
                      obtain ⟨p11, G11, -, h11⟩ := st_open HS6.out
                      obtain ⟨c9, -⟩ := st_c h11
                      rw [F3.out, HN4.out] at c9
                      have y0 := gcell (HS6.out.swap.blk.1) (k6 + 1) (by omega)
                      have HZZ := Lib.hid hzz
                      have hwk : IntKind.i64.wrap ((k6 : Int) + 1) = (k6 : Int) + 1 := by rw [IntKind.wrap_i64]; omega
                      clear h11 hzm hzz
                      by_cases hzT : z' ≤ T
                      · have hgn : gone4 (k6 + 1) = true := ti_gone F1.out HQ.out (T := T) (fun t ht => by have := F2.out t ht; rw [HN4.out] at this; exact this) k6 hkn6 (by rw [HZZ.out]; exact hzT)
                        rw [hgn] at y0
                        have hd1 : decide (z' ≤ T) = true := by simp [hzT]
                        clear hgn
                        go_upto_region 39 with fail
                        go_quiet (fail)
                        have H12 := Lib.hid (HS6.out.drewN nq)
                        go_wp2_with fail
                        go_roundg (ds.length - (k6 + 1))
                        case measure => have := Hg6.out; omega
                        case rel => exact ⟨k6 + 1, rfl, hkn6, by simp, H12.out⟩
                      · have hd1 : decide (z' ≤ T) = false := by simp [hzT]
                        go_upto_region 39 with fail
                        go_quiet (fail)
                        have H12 := Lib.hid (HS6.out.drewN nq)
                        go_wp2_with fail
                        go_roundg (ds.length - (k6 + 1))
                        case measure => have := Hg6.out; omega
                        case rel => exact ⟨k6 + 1, rfl, hkn6, by simp, H12.out⟩
                    · have hkI6 : ¬ (k6 : Int) < (ds.length : Int) := by omega
                      go_wp2_with fail
                      go_roundg (ss.length - (k3 + 1))
                      case measure => have := Hg.out; omega
                      case rel => exact ⟨k3 + 1, _, gone4, due4, last4, rfl, hkn, by simp, rfl, rfl, F1.out, by rw [F3.out, HN4.out]; have := HTB.out.1; omega, HS6.out⟩
                · have e1 : x.k = 2 := by rw [hx]; rfl
                  have e2 : x.src = 2 := by rw [hx]; rfl
                  have e3 : x.c.id = (id : Int) := by rw [hx]
                  have e4 : x.c.fn = (id : Int) := by rw [hx]
                  have k0 : W10.cell? ⟨m, 0, none⟩ = some (.int .i64 x.k) := H10.out.cell 0
                  have k3 : W10.cell? ⟨m, 3, none⟩ = some (.int .i64 x.src) := H10.out.cell 3
                  have k8 : W10.cell? ⟨m, 8, none⟩ = some (.int .i64 x.c.id) := H10.out.cell 8
                  have k11 : W10.cell? ⟨m, 11, none⟩ = some (.int .i64 x.c.fn) := H10.out.cell 11
                  rw [e1] at k0
                  rw [e2] at k3
                  rw [e3] at k8
                  rw [e4] at k11
                  obtain ⟨j, hj⟩ : ∃ j : Nat, id = j + 1 := ⟨id - 1, by omega⟩
                  subst hj
                  have hcj : (((j + 1 : Nat) : Int)) = (j : Int) + 1 := by omega
                  rw [hcj] at k8 k11 g4 g5 g6
                  rw [dOf_nat] at g4 g5 g6
                  obtain ⟨z', hzz⟩ : ∃ z, ds.getD j 0 = z := ⟨_, rfl⟩
                  rw [hzz] at g4 g5 g6
                  have hjl : j < ds.length := by omega
                  have hzm : z' ∈ ds := by rw [← hzz, List.getD_eq_getElem?_getD, List.getElem?_eq_getElem hjl]; exact List.getElem_mem hjl
                  obtain ⟨hz0', hz1'⟩ := HZ0.out z' hzm
                  have hwz' : IntKind.i64.wrap z' = z' := by rw [IntKind.wrap_i64]; omega
                  have hwj : IntKind.i64.wrap ((j : Int) + 1 - 1) = (j : Int) := by rw [IntKind.wrap_i64]; omega
                  obtain ⟨g', off', rfl, hcell'⟩ := u8_at (HR0.out.kept (Fr.of_below H10.out.bel) (fun _ _ q => q)) hjl z' hzz
                  have hjI0 : (0 : Int) ≤ (j : Int) := by omega
                  have hjI1 : (j : Int) < (ds.length : Int) := by omega
                  rw [F3.out, HN4.out] at g4
                  have hbm := H10.out.blkm (b := bg) (.tail _ (.tail _ (.tail _ (.head _))))
                  have y0 := gcell hbm (j + 1) (by omega)
                  have y1 := hbm.free (j + 1)
                  rw [g3] at y0
                  have G5 := Lib.hid g5
                  have G6 := Lib.hid g6
                  have G7 := Lib.hid (g7.trans (F3.out.trans HN4.out))
                  have hLf : (Lst (fireS S4)).length = (Lst S4).length := fire_len HTI4.out (by omega)
                  have G8 := Lib.hid (show (Lst S5).length < (Lst S4).length by omega)
                  obtain ⟨p11, G11, -, h11⟩ := st_open H10.out.swap
                  obtain ⟨c0, -⟩ := st_c h11
                  rw [G7.out] at c0
                  clear g1 g2 g3 g5 g6 g7 g8 hx e1 e2 e3 e4 hzz hzm hbm htk h11 hLf hcj
                  have hb2 : ((2 : Int) != 2) = false := by decide
                  have hd1 : decide ((j : Int) + 1 < 1) = false := by simp; omega
                  have hd2 : decide ((ds.length : Int) < (j : Int) + 1) = false := by simp; omega
                  have hb3 : (((j : Int) + 1) != ((j : Int) + 1)) = false := by simp
                  have hd4 : decide (T < z') = false := by simp; omega
                  have h13 := (st_rev4 H10.out).set (j + 1) (.bool true)
                  rw [gset] at h13
                  have H13 := Lib.hid (show St w _ (TmL b bg S5 (upd gone4 (j + 1) true) ds.length) from St.dropto (St.sh [_, _, _, _] [2, 0, 1, 3] (by decide) h13))
                  clear h13
                  rcases G5.out with q5 | ⟨q5, q6⟩
                  · have hd5 : decide (z' < due4) = false := by simp; omega
                    have hd6 : (z' == due4) = false := by simp; omega
                    go_wp2_with fail
                    go_roundg (Lst S5).length
                    case measure => have := Hg4.out; have := G8.out; omega
                    case rel => exact ⟨S5, _, z', (j : Int) + 1, rfl, rfl, rfl, G6.out, G7.out, H13.out⟩
                  · have hd5 : decide (z' < due4) = false := by simp; omega
                    have hd6 : (z' == due4) = true := by simp; omega
                    have hd7 : decide ((j : Int) + 1 ≤ last4) = false := by simp; omega
                    clear q5
                    go_wp2_with fail
                    go_roundg (Lst S5).length
                    case measure => have := Hg4.out; have := G8.out; omega
                    case rel => exact ⟨S5, _, z', (j : Int) + 1, rfl, rfl, rfl, G6.out, G7.out, H13.out⟩
            · have hkI : ¬ (k3 : Int) < (ss.length : Int) := by omega
              go_wp2_with fail
              go_ret
              exact ⟨rfl, HS.out.bel⟩

end Go.Proofs.Ytnamkckpgaopkaa
