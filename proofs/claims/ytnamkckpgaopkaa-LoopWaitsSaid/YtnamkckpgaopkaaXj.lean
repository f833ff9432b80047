/-
  choose of the chapter's loop. first of the chapter's loop.
-/
import Derived.Test.YtnamkckpgaopkaaXh
import Derived.Test.YtnamkckpgaopkaaLo
set_option linter.unusedVariables false
set_option linter.unusedSimpArgs false
namespace Go.Proofs.Ytnamkckpgaopkaa
section
open Go.RowKit Go.K
theorem rt_at (l : List RT) (k : Nat) (hk : k < l.length) (j : Nat) (hj : j < 4) : (flat RT.cells l)[k * 4 + j]? = (l[k].cells)[j]? := flat_at lenRT l k j hk hj
/-- the place of the first among the first k that has P, or -1 -/
def ixP {α : Type} (P : α → Bool) (l : List α) (k : Nat) : Int := match (l.take k).findIdx? P with
  | none => -1
  | some i => i
theorem ixP_zero {α : Type} (P : α → Bool) (l : List α) : ixP P l 0 = -1 := by simp [ixP]
theorem ixP_succ {α : Type} (P : α → Bool) (l : List α) (k : Nat) (hk : k < l.length) : ixP P l (k + 1) = if ixP P l k < 0 then (if P l[k] then (k : Int) else -1) else ixP P l k := by
  unfold ixP
  rw [List.take_add_one, List.getElem?_eq_getElem hk, List.findIdx?_append]
  cases h : (l.take k).findIdx? P with
  | some i => simp; intro h; omega
  | none =>
    by_cases hp : P l[k] = true
    · simp [hp, List.findIdx?_cons]; omega
    · simp [hp, List.findIdx?_cons]
theorem ixP_cases {α : Type} (P : α → Bool) (l : List α) (k : Nat) : ixP P l k = -1 ∨ (0 ≤ ixP P l k ∧ ixP P l k < l.length ∧ ixP P l k < k) := by
  unfold ixP
  cases h : (l.take k).findIdx? P with
  | none => exact .inl rfl
  | some i =>
    have := (List.findIdx?_eq_some_iff_getElem.1 h).1
    rw [List.length_take] at this
    exact .inr ⟨by simp, by simp only; omega, by simp only; omega⟩
def chooseR (R : RL) : Int := if 0 ≤ ixP (fun t => t.src == 0) R.tasks R.tasks.length ∧ (ixP (fun t => t.src != 0) R.tasks R.tasks.length < 0 ∨ R.users < 4) then ixP (fun t => t.src == 0) R.tasks R.tasks.length else ixP (fun t => t.src != 0) R.tasks R.tasks.length
def RChRel (M : List RT) (n : Nat) (w : World) (g : Nat) (v3 v4 v : Value) (wr : World) : Prop :=
  ∃ (k : Nat) (s t : Int), g = n - k ∧ k ≤ n ∧ v = .int .i64 k ∧ v3 = .int .i64 s ∧ v4 = .int .i64 t ∧ ixP (fun t => t.src == 0) M k = s ∧ ixP (fun t => t.src != 0) M k = t ∧ wr = w
set_option maxHeartbeats 1000000 in
theorem rchoose_st {w0 w : World} {L : List As} {b : Nat} {R : RL} (h : St w0 w (rlO b R :: L)) (hn : R.tasks.length ≤ 100000) :
    Calls Try.prog 49 #[.pointer (some ⟨b, 0, none⟩)] w fun e w' => e = .returned (.int .i64 (chooseR R)) ∧ w = w' := by
  obtain ⟨C, hC⟩ : ∃ C, chooseR R = C := ⟨_, rfl⟩
  rw [hC]
  have HC := Lib.hid hC
  obtain ⟨p, h⟩ := rl_open h
  obtain ⟨c7, -⟩ := rl_s h
  obtain ⟨-, -, -, -, -, c5, -⟩ := rl_c h
  have HS := Lib.hid (((foc_rrt h).swap.sl)).rd
  obtain ⟨n, hl⟩ : ∃ n, R.tasks.length = n := ⟨_, rfl⟩
  obtain ⟨M, hM⟩ : ∃ M, R.tasks = M := ⟨_, rfl⟩
  rw [hl] at c7 HS hn
  rw [hM] at HS
  have HMR := Lib.hid hM
  have HE := Lib.hid (show M.length = n by rw [← hM]; exact hl)
  obtain ⟨U, hU⟩ : ∃ U, R.users = U := ⟨_, rfl⟩
  rw [hU] at c5
  have HU := Lib.hid hU
  clear h hl hM hC hU
  go_enter Try.func49, Try.ntmps49
  go_wp2_with fail
  go_loopg [3, 4, 11] n (RChRel M n w)
  case atStart => exact ⟨0, -1, -1, rfl, Nat.zero_le _, rfl, rfl, rfl, ixP_zero _ _, ixP_zero _ _, rfl⟩
  case round =>
    obtain ⟨k, s, t, hg, hk, rfl, rfl, rfl, fs, ft, rfl⟩ := hrel
    have Hg := Lib.hid hg
    have hcs := ixP_cases (fun t : RT => t.src == 0) M k
    have hct := ixP_cases (fun t : RT => t.src != 0) M k
    rw [fs] at hcs
    rw [ft] at hct
    have FS := Lib.hid fs
    have FT := Lib.hid ft
    have HCS := Lib.hid hcs
    have HCT := Lib.hid hct
    clear hg fs ft hcs hct
    by_cases hkn : k < n
    · have hkt : k < M.length := by rw [HE.out]; exact hkn
      obtain ⟨g, off, hga, hcell⟩ := HS.out.addr (by omega)
      rw [hga] at c7
      have d0 := hcell _ _ ((rt_at M k hkt 0 (by omega)).trans rfl)
      simp only [Nat.add_zero] at d0
      clear hcell hga
      have hkn' : (k : Int) < (n : Int) := by omega
      by_cases hs0 : M[k].src = 0
      · by_cases hng : s < 0
        · have e1 : (M[k].src == 0) = true := by simp [hs0]
          have e2 : (M[k].src != 0) = false := by simp [hs0]
          have e3 : decide (s < 0) = true := by simp; omega
          have HS0 := Lib.hid hs0
          have HNE := Lib.hid hng
          clear hs0 hng
          go_wp2_with fail
          go_roundg (n - (k + 1))
          case measure => have := Hg.out; omega
          case rel =>
            refine ⟨k + 1, k, t, rfl, by omega, by simp, rfl, rfl, ?_, ?_, rfl⟩
            · rw [ixP_succ _ M k hkt, FS.out]; have h1 := HS0.out; have h2 := HNE.out; have h3 := HCS.out; have h4 := HCT.out; simp [h1]; omega
            · rw [ixP_succ _ M k hkt, FT.out]; have h1 := HS0.out; have h2 := HNE.out; have h3 := HCS.out; have h4 := HCT.out; simp [h1]; try (intro h5; omega)
        · have e1 : (M[k].src == 0) = true := by simp [hs0]
          have e2 : (M[k].src != 0) = false := by simp [hs0]
          have e3 : decide (s < 0) = false := by simp; omega
          have HS0 := Lib.hid hs0
          have HNE := Lib.hid hng
          clear hs0 hng
          go_wp2_with fail
          go_roundg (n - (k + 1))
          case measure => have := Hg.out; omega
          case rel =>
            refine ⟨k + 1, s, t, rfl, by omega, by simp, rfl, rfl, ?_, ?_, rfl⟩
            · rw [ixP_succ _ M k hkt, FS.out]; have h1 := HS0.out; have h2 := HNE.out; have h3 := HCS.out; have h4 := HCT.out; simp [h1]; omega
            · rw [ixP_succ _ M k hkt, FT.out]; have h1 := HS0.out; have h2 := HNE.out; have h3 := HCS.out; have h4 := HCT.out; simp [h1]; try (intro h5; omega)
      · by_cases hng : t < 0
        · have e1 : (M[k].src == 0) = false := by simp [hs0]
          have e2 : (M[k].src != 0) = true := by simp [hs0]
          have e3 : decide (t < 0) = true := by simp; omega
          have HS0 := Lib.hid hs0
          have HNE := Lib.hid hng
          clear hs0 hng
          go_wp2_with fail
          go_roundg (n - (k + 1))
          case measure => have := Hg.out; omega
          case rel =>
            refine ⟨k + 1, s, k, rfl, by omega, by simp, rfl, rfl, ?_, ?_, rfl⟩
            · rw [ixP_succ _ M k hkt, FS.out]; have h1 := HS0.out; have h2 := HNE.out; have h3 := HCS.out; have h4 := HCT.out; simp [h1]; try (intro h5; omega)
            · rw [ixP_succ _ M k hkt, FT.out]; have h1 := HS0.out; have h2 := HNE.out; have h3 := HCS.out; have h4 := HCT.out; simp [h1]; omega
        · have e1 : (M[k].src == 0) = false := by simp [hs0]
          have e2 : (M[k].src != 0) = true := by simp [hs0]
          have e3 : decide (t < 0) = false := by simp; omega
          have HS0 := Lib.hid hs0
          have HNE := Lib.hid hng
          clear hs0 hng
          go_wp2_with fail
          go_roundg (n - (k + 1))
          case measure => have := Hg.out; omega
          case rel =>
            refine ⟨k + 1, s, t, rfl, by omega, by simp, rfl, rfl, ?_, ?_, rfl⟩
            · rw [ixP_succ _ M k hkt, FS.out]; have h1 := HS0.out; have h2 := HNE.out; have h3 := HCS.out; have h4 := HCT.out; simp [h1]; try (intro h5; omega)
            · rw [ixP_succ _ M k hkt, FT.out]; have h1 := HS0.out; have h2 := HNE.out; have h3 := HCS.out; have h4 := HCT.out; simp [h1]; omega
    · have hkk : k = n := by omega
      subst hkk
      clear hkn
      by_cases hs : 0 ≤ s
      · by_cases ht : t < 0
        · have e1 : decide (s ≥ 0) = true := by simpa using hs
          have e2 : decide (t < 0) = true := by simpa using ht
          have HX := Lib.hid (show 0 ≤ s ∧ (t < 0 ∨ R.users < 4) from ⟨hs, .inl ht⟩)
          clear hs ht
          go_wp2_with fail
          go_ret
          exact ⟨by rw [← HC.out, chooseR, HMR.out, HE.out, FS.out, FT.out]; rw [if_pos HX.out]; rfl, rfl⟩
        · by_cases hu : U < 4
          · have e1 : decide (s ≥ 0) = true := by simpa using hs
            have e2 : decide (t < 0) = false := by simpa using ht
            have e3 : decide (U < 4) = true := by simpa using hu
            have HX := Lib.hid (show 0 ≤ s ∧ (t < 0 ∨ R.users < 4) from ⟨hs, .inr (by rw [HU.out]; exact hu)⟩)
            clear hs ht hu
            go_wp2_with fail
            go_ret
            exact ⟨by rw [← HC.out, chooseR, HMR.out, HE.out, FS.out, FT.out]; rw [if_pos HX.out]; rfl, rfl⟩
          · have e1 : decide (s ≥ 0) = true := by simpa using hs
            have e2 : decide (t < 0) = false := by simpa using ht
            have e3 : decide (U < 4) = false := by simpa using hu
            have HX := Lib.hid (show ¬ (0 ≤ s ∧ (t < 0 ∨ R.users < 4)) from by rw [HU.out]; omega)
            clear hs ht hu
            go_wp2_with fail
            go_ret
            exact ⟨by rw [← HC.out, chooseR, HMR.out, HE.out, FS.out, FT.out]; rw [if_neg HX.out]; rfl, rfl⟩
      · have e1 : decide (s ≥ 0) = false := by simpa using hs
        have HX := Lib.hid (show ¬ (0 ≤ s ∧ (t < 0 ∨ R.users < 4)) from by omega)
        clear hs
        go_wp2_with fail
        go_ret
        exact ⟨by rw [← HC.out, chooseR, HMR.out, HE.out, FS.out, FT.out]; rw [if_neg HX.out]; rfl, rfl⟩
end
section
open Go.RowKit Go.K
def rmd : RM := ⟨0, 0, 0, 0, 0, false⟩
def nthM (M : List RM) (i : Nat) : RM := M.getD i rmd
theorem nthM_eq {M : List RM} {i : Nat} (h : i < M.length) : nthM M i = M[i] := by simp [nthM, List.getD, h]
def ltM (x y : RM) : Prop := x.due < y.due ∨ (x.due = y.due ∧ x.ord < y.ord)
instance (x y : RM) : Decidable (ltM x y) := inferInstanceAs (Decidable (_ ∨ _))
def stepM (M : List RM) (k : Nat) (b : Int) : Int := if (nthM M k).w = true ∧ (b < 0 ∨ ltM (nthM M k) (nthM M b.toNat)) then (k : Int) else b
/-- the waiting timer that is due first, among the first k, or -1 -/
def bestM (M : List RM) (k : Nat) : Int := (List.range k).foldl (fun b i => stepM M i b) (-1)
theorem bestM_succ (M : List RM) (k : Nat) : bestM M (k + 1) = stepM M k (bestM M k) := by
  unfold bestM
  rw [List.range_succ, List.foldl_append]
  rfl
theorem bestM_cases (M : List RM) (k : Nat) : bestM M k = -1 ∨ (0 ≤ bestM M k ∧ bestM M k < k) := by
  induction k with
  | zero => exact .inl rfl
  | succ k ih =>
    rw [bestM_succ]
    unfold stepM
    split
    · exact .inr ⟨by omega, by omega⟩
    · rcases ih with h | h
      · exact .inl h
      · exact .inr ⟨h.1, by omega⟩
def RFiRel (M : List RM) (n : Nat) (w : World) (g : Nat) (v3 v : Value) (wr : World) : Prop :=
  ∃ (k : Nat) (B : Int), g = n - k ∧ k ≤ n ∧ v = .int .i64 k ∧ v3 = .int .i64 B ∧ bestM M k = B ∧ Below w.heap.size w wr
theorem rm_cells {w : World} {g off : Nat} {n : Nat} {M : List RM} (h : Rd w 6 (some ⟨g, off, none⟩) n (flat RM.cells M)) {k : Nat} (hk : k < M.length) :
    w.cell? ⟨g, off + k * 6, none⟩ = some (.int .i64 M[k].id) ∧ w.cell? ⟨g, off + k * 6 + 1, none⟩ = some (.int .i64 M[k].due) ∧ w.cell? ⟨g, off + k * 6 + 2, none⟩ = some (.int .i64 M[k].ord) ∧
    w.cell? ⟨g, off + k * 6 + 3, none⟩ = some (.int .i64 M[k].ev) ∧ w.cell? ⟨g, off + k * 6 + 4, none⟩ = some (.int .i64 M[k].fn) ∧ w.cell? ⟨g, off + k * 6 + 5, none⟩ = some (.bool M[k].w) := by
  have key : ∀ j v, j < 6 → (M[k].cells)[j]? = some v → w.cell? ⟨g, off + k * 6 + j, none⟩ = some v := fun j v hj hv => by
    have h2 := h.cells _ rfl _ _ ((rm_at M k hk j hj).trans hv)
    rwa [Addr.add_lit, ← Nat.add_assoc] at h2
  exact ⟨key 0 _ (by omega) rfl, key 1 _ (by omega) rfl, key 2 _ (by omega) rfl, key 3 _ (by omega) rfl, key 4 _ (by omega) rfl, key 5 _ (by omega) rfl⟩
set_option maxRecDepth 100000 in
set_option maxHeartbeats 2000000 in
theorem rfirst_st {w0 w : World} {L : List As} {b : Nat} {R : RL} (h : St w0 w (rlO b R :: L)) (hn : R.tms.length ≤ 100000) :
    Calls Try.prog 48 #[.pointer (some ⟨b, 0, none⟩)] w fun e w' => e = .returned (.int .i64 (bestM R.tms R.tms.length)) ∧ Below w.heap.size w w' := by
  obtain ⟨C, hC⟩ : ∃ C, bestM R.tms R.tms.length = C := ⟨_, rfl⟩
  rw [hC]
  obtain ⟨p, h⟩ := rl_open h
  obtain ⟨-, -, -, c10⟩ := rl_s h
  have hlt := h.blk.1.lt
  have HS := Lib.hid (((foc_rrm h).swap.sl))
  obtain ⟨n, hl⟩ : ∃ n, R.tms.length = n := ⟨_, rfl⟩
  obtain ⟨M, hM⟩ : ∃ M, R.tms = M := ⟨_, rfl⟩
  rw [hl] at c10 HS hn
  rw [hM] at HS
  rw [hl, hM] at hC
  have HC := Lib.hid hC
  have HE := Lib.hid (show M.length = n by rw [← hM]; exact hl)
  have CX := Lib.hid c10
  clear h hl hM hC
  go_enter Try.func48, Try.ntmps48
  go_wp2_with fail
  go_loopg [3, 11] n (RFiRel M n w)
  case atStart => exact ⟨0, -1, rfl, Nat.zero_le _, rfl, rfl, rfl, Below.refl _ _⟩
  case round =>
    obtain ⟨k, B, hg, hk, rfl, rfl, hbm, hbel⟩ := hrel
    have Hg := Lib.hid hg
    have HB := Lib.hid hbel
    have HBM := Lib.hid hbm
    have hcs := bestM_cases M k
    rw [hbm] at hcs
    have HCS := Lib.hid hcs
    clear hg hbm hbel hcs c10
    by_cases hkn : k < n
    · have hkt : k < M.length := by rw [HE.out]; exact hkn
      have c10 := (HB.out.cell hlt).trans CX.out
      have hs := HS.out.below HB.out
      obtain ⟨g, off, hga, -⟩ := hs.rd.addr (by omega)
      rw [hga] at c10 hs
      have HS1 := Lib.hid hs
      obtain ⟨d0, d1, d2, d3, d4, d5⟩ := rm_cells hs.rd hkt
      have hgl := World.block_lt_of_cell? _ _ d0
      have hltr : b < wr.heap.size := Nat.lt_of_lt_of_le hlt HB.out.size
      obtain ⟨y, hy⟩ : ∃ y, M[k] = y := ⟨_, rfl⟩
      rw [hy] at d0 d1 d2 d3 d4 d5
      have HY := Lib.hid (show nthM M k = y by rw [nthM_eq hkt, hy])
      have HGA := Lib.hid hga
      have hkn' : (k : Int) < (n : Int) := by omega
      clear hs hga hy
      go_upto_region 6 with fail
      have HB2 := Lib.hid (HB.out.alloc HB.out.size (.cells #[.int .i64 y.id, .int .i64 y.due, .int .i64 y.ord, .int .i64 y.ev, .int .i64 y.fn, .bool y.w] 107))
      have hs2 := HS1.out.alloc (.cells #[.int .i64 y.id, .int .i64 y.due, .int .i64 y.ord, .int .i64 y.ev, .int .i64 y.fn, .bool y.w] 107)
      have kb := Blk.new wr #[.int .i64 y.id, .int .i64 y.due, .int .i64 y.ord, .int .i64 y.ev, .int .i64 y.fn, .bool y.w] 107
      have c10' := (HB2.out.cell hlt).trans CX.out
      rw [HGA.out] at c10'
      clear d0 d1 d2 d3 d4 d5 c10 HS1
      generalize hm : wr.heap.size = m at kb hgl hltr
      try rw [hm]
      generalize hW : wr.alloc (.cells #[.int .i64 y.id, .int .i64 y.due, .int .i64 y.ord, .int .i64 y.ev, .int .i64 y.fn, .bool y.w] 107) = W at kb hs2 HB2 c10'
      try rw [hW]
      have k1 : W.cell? ⟨m, 1, none⟩ = some (.int .i64 y.due) := by rw [kb.cell]; rfl
      have k2 : W.cell? ⟨m, 2, none⟩ = some (.int .i64 y.ord) := by rw [kb.cell]; rfl
      have k5 : W.cell? ⟨m, 5, none⟩ = some (.bool y.w) := by rw [kb.cell]; rfl
      have HS2 := Lib.hid hs2
      clear kb hs2 hW hm
      by_cases hw : y.w = true
      · rw [hw] at k5
        by_cases hB0 : B < 0
        · have b0 : decide (B < 0) = true := by simpa using hB0
          have HST := Lib.hid (show stepM M k B = k by rw [stepM, if_pos]; exact ⟨by rw [HY.out]; exact hw, .inl hB0⟩)
          clear hw hB0
          go_quiet (fail)
          go_wp2_with fail
          go_roundg (n - (k + 1))
          case measure => have := Hg.out; omega
          case rel =>
            refine ⟨k + 1, k, rfl, by omega, by simp, rfl, ?_, ?_⟩
            · rw [bestM_succ, HBM.out]; exact HST.out
            · first | exact HB2.out | exact bel_drewN HB2.out _
        · obtain ⟨q, rfl⟩ : ∃ q : Nat, B = q := ⟨B.toNat, by omega⟩
          have hqk : q < k := by have := HCS.out; omega
          have hqt : q < M.length := by omega
          obtain ⟨e0, e1, e2, -⟩ := rm_cells HS2.out.rd hqt
          obtain ⟨x, hx⟩ : ∃ x, M[q] = x := ⟨_, rfl⟩
          rw [hx] at e1 e2
          have HX := Lib.hid (show nthM M ((q : Int)).toNat = x by rw [Int.toNat_natCast, nthM_eq hqt, hx])
          have b0 : decide ((q : Int) < 0) = false := by simp
          have hqn : (q : Int) < (n : Int) := by omega
          have hqnb : ((q : Int) < 0) = False := by simp
          clear e0 hx hqnb hB0
          by_cases q1 : y.due < x.due
          · have b1 : decide (y.due < x.due) = true := by simpa using q1
            have HST := Lib.hid (show stepM M k (q : Int) = k by rw [stepM, if_pos]; exact ⟨by rw [HY.out]; exact hw, .inr (by rw [HY.out, HX.out]; exact .inl q1)⟩)
            clear hw q1
            go_quiet (fail)
            go_wp2_with fail
            go_roundg (n - (k + 1))
            case measure => have := Hg.out; omega
            case rel =>
              refine ⟨k + 1, k, rfl, by omega, by simp, rfl, ?_, ?_⟩
              · rw [bestM_succ, HBM.out]; exact HST.out
              · first | exact HB2.out | exact bel_drewN HB2.out _
          · have b1 : decide (y.due < x.due) = false := by simpa using q1
            by_cases q2 : y.due = x.due
            · have b2 : (y.due == x.due) = true := by simpa using q2
              by_cases q3 : y.ord < x.ord
              · have b3 : decide (y.ord < x.ord) = true := by simpa using q3
                have HST := Lib.hid (show stepM M k (q : Int) = k by rw [stepM, if_pos]; exact ⟨by rw [HY.out]; exact hw, .inr (by rw [HY.out, HX.out]; exact .inr ⟨q2, q3⟩)⟩)
                clear hw q1 q2 q3
                go_quiet (fail)
                go_wp2_with fail
                go_roundg (n - (k + 1))
                case measure => have := Hg.out; omega
                case rel =>
                  refine ⟨k + 1, k, rfl, by omega, by simp, rfl, ?_, ?_⟩
                  · rw [bestM_succ, HBM.out]; exact HST.out
                  · first | exact HB2.out | exact bel_drewN HB2.out _
              · have b3 : decide (y.ord < x.ord) = false := by simpa using q3
                have HST := Lib.hid (show stepM M k (q : Int) = q by rw [stepM, if_neg]; rintro ⟨-, h⟩; rw [HY.out, HX.out] at h; rcases h with h | h | ⟨-, h⟩ <;> omega)
                clear hw q1 q2 q3
                go_quiet (fail)
                go_wp2_with fail
                go_roundg (n - (k + 1))
                case measure => have := Hg.out; omega
                case rel =>
                  refine ⟨k + 1, q, rfl, by omega, by simp, rfl, ?_, ?_⟩
                  · rw [bestM_succ, HBM.out]; exact HST.out
                  · first | exact HB2.out | exact bel_drewN HB2.out _
            · have b2 : (y.due == x.due) = false := by simpa using q2
              have HST := Lib.hid (show stepM M k (q : Int) = q by rw [stepM, if_neg]; rintro ⟨-, h⟩; rw [HY.out, HX.out] at h; rcases h with h | h | ⟨h, -⟩ <;> omega)
              clear hw q1 q2
              go_quiet (fail)
              go_wp2_with fail
              go_roundg (n - (k + 1))
              case measure => have := Hg.out; omega
              case rel =>
                refine ⟨k + 1, q, rfl, by omega, by simp, rfl, ?_, ?_⟩
                · rw [bestM_succ, HBM.out]; exact HST.out
                · first | exact HB2.out | exact bel_drewN HB2.out _
      · have hwf : y.w = false := by simpa using hw
        rw [hwf] at k5
        have HST := Lib.hid (show stepM M k B = B by rw [stepM, if_neg]; rintro ⟨h, -⟩; rw [HY.out] at h; exact hw h)
        clear hw hwf
        go_quiet (fail)
        go_wp2_with fail
        go_roundg (n - (k + 1))
        case measure => have := Hg.out; omega
        case rel =>
          refine ⟨k + 1, B, rfl, by omega, by simp, rfl, ?_, ?_⟩
          · rw [bestM_succ, HBM.out]; exact HST.out
          · first | exact HB2.out | exact bel_drewN HB2.out _
    · have hkk : k = n := by omega
      subst hkk
      go_wp2_with fail
      go_ret
      exact ⟨by rw [← HC.out, HBM.out]; rfl, HB.out⟩
end
end Go.Proofs.Ytnamkckpgaopkaa
