/-
  find of the chapter's loop. ClearTimer of the chapter's loop.
-/
import Derived.Test.YtnamkckpgaopkaaXe
import Derived.Test.YtnamkckpgaopkaaKb
set_option linter.unusedVariables false
set_option linter.unusedSimpArgs false
namespace Go.Proofs.Ytnamkckpgaopkaa
section
open Go.RowKit Go.K
theorem rm_at (l : List RM) (k : Nat) (hk : k < l.length) (j : Nat) (hj : j < 6) : (flat RM.cells l)[k * 6 + j]? = (l[k].cells)[j]? := flat_at lenRM l k j hk hj
def ixM (l : List RM) (id : Int) : Int := match l.findIdx? (fun t => t.id == id) with
  | none => -1
  | some k => k
theorem ixM_some {l : List RM} {id : Int} {k : Nat} (hk : k < l.length) (h : l[k].id = id) (h2 : ∀ j (hj : j < l.length), j < k → l[j].id ≠ id) : ixM l id = k := by
  have hf : l.findIdx? (fun t => t.id == id) = some k := by
    rw [List.findIdx?_eq_some_iff_getElem]
    exact ⟨hk, by simp [h], fun j hj => by simpa using h2 j (by omega) hj⟩
  rw [ixM, hf]
theorem ixM_none {l : List RM} {id : Int} (h : ∀ t ∈ l, t.id ≠ id) : ixM l id = -1 := by
  have hf : l.findIdx? (fun t => t.id == id) = none := by
    rw [List.findIdx?_eq_none_iff]
    intro x hx
    simpa using h x hx
  rw [ixM, hf]
def RFindRel (M : List RM) (id : Int) (n : Nat) (w : World) (g : Nat) (v : Value) (wr : World) : Prop :=
  ∃ k : Nat, g = n - k ∧ k ≤ n ∧ v = .int .i64 k ∧ wr = w ∧ ∀ j (hj : j < M.length), j < k → M[j].id ≠ id
set_option maxHeartbeats 1000000 in
theorem rfind_st {w0 w : World} {L : List As} {b : Nat} {R : RL} (id : Int) (h : St w0 w (rlO b R :: L)) (hn : R.tms.length ≤ 100000) :
    Calls Try.prog 50 #[.pointer (some ⟨b, 0, none⟩), .int .i64 id] w fun e w' => e = .returned (.int .i64 (ixM R.tms id)) ∧ w = w' := by
  obtain ⟨p, h⟩ := rl_open h
  obtain ⟨-, -, -, c10⟩ := rl_s h
  have HS := Lib.hid (((foc_rrm h).swap.sl)).rd
  obtain ⟨n, hl⟩ : ∃ n, R.tms.length = n := ⟨_, rfl⟩
  obtain ⟨M, hM⟩ : ∃ M, R.tms = M := ⟨_, rfl⟩
  rw [hl] at c10 HS hn
  rw [hM] at HS hl
  rw [hM]
  have HL := Lib.hid hl
  clear h hl hM
  go_enter Try.func50, Try.ntmps50
  go_wp2_with fail
  go_loopg [11] n (RFindRel M id n w)
  case atStart => exact ⟨0, rfl, Nat.zero_le _, rfl, rfl, by intro j hj h; omega⟩
  case round =>
    obtain ⟨k, hg, hk, rfl, rfl, hall⟩ := hrel
    have Hg := Lib.hid hg
    have HA := Lib.hid hall
    clear hg hall
    by_cases hkn : k < n
    · have hkt : k < M.length := by rw [HL.out]; exact hkn
      obtain ⟨g, off, hga, hcell⟩ := HS.out.addr (by omega)
      have HGA := Lib.hid hga
      rw [hga] at c10
      have d0 := hcell _ _ ((rm_at M k hkt 0 (by omega)).trans rfl)
      simp only [Nat.add_zero] at d0
      clear hcell hga
      have hkn' : (k : Int) < (n : Int) := by omega
      by_cases hid : M[k].id = id
      · have hidb : (M[k].id == id) = true := by simp [hid]
        have HID := Lib.hid hid
        clear hid
        go_wp2_with fail
        go_ret
        exact ⟨by rw [ixM_some hkt HID.out (fun j hj hjk => HA.out j hj hjk)]; rfl, rfl⟩
      · have hidb : (M[k].id == id) = false := by simp [hid]
        have HID := Lib.hid hid
        clear hid
        go_wp2_with fail
        go_roundg (n - (k + 1))
        case measure => have := Hg.out; omega
        case rel =>
          refine ⟨k + 1, rfl, by omega, by simp, rfl, fun j hj hjk => ?_⟩
          by_cases e : j = k
          · subst e; exact HID.out
          · exact HA.out j hj (by omega)
    · go_wp2_with fail
      go_ret
      have hno : ∀ t ∈ M, t.id ≠ id := fun t ht => by
        obtain ⟨j, hj, rfl⟩ := List.getElem_of_mem ht
        exact HA.out j hj (by have := HL.out; omega)
      exact ⟨by rw [ixM_none hno]; rfl, rfl⟩
end
section
open Go.RowKit Go.K
theorem rm_take (M : List RM) (k : Nat) : (flat RM.cells M).take (k * 6) = flat RM.cells (M.take k) := flat_take lenRM M k
theorem rm_drop (M : List RM) (k : Nat) : (flat RM.cells M).drop (k * 6) = flat RM.cells (M.drop k) := flat_drop lenRM M k
theorem rh_take (M : List Int) (k : Nat) : (flat ic M).take (k * 1) = flat ic (M.take k) := flat_take lenIc M k
theorem rh_drop (M : List Int) (k : Nat) : (flat ic M).drop (k * 1) = flat ic (M.drop k) := flat_drop lenIc M k
def rclearB (R : RL) (id : Int) : Bool := (R.tms.findIdx? (fun c => c.id == id)).isSome
def rclearS (R : RL) (id : Int) : RL := match R.tms.findIdx? (fun c => c.id == id) with
  | none => R
  | some i => { R with tms := R.tms.eraseIdx i }
set_option maxRecDepth 100000 in
set_option maxHeartbeats 1000000 in
theorem rclear_st {w0 w : World} {L : List As} {b : Nat} {R : RL} (id : Int) (h : St w0 w (rlO b R :: L)) (hn : R.tms.length ≤ 100000) :
    Calls Try.prog 43 #[.pointer (some ⟨b, 0, none⟩), .int .i64 id] w (RetSt (.bool (rclearB R id)) w0 (rlO b (rclearS R id) :: L)) := by
  unfold rclearB rclearS
  have H := Lib.hid h
  clear h
  cases hf : R.tms.findIdx? (fun c => c.id == id) with
  | none =>
    have hix : ixM R.tms id = -1 := by simp [ixM, hf]
    have HIX := Lib.hid hix
    clear hf hix
    go_enter Try.func43, Try.ntmps43
    go_wp2_with (go_at_call 50; refine (rfind_st id H.out hn).mono ?_; rintro e w1 ⟨rfl, rfl⟩; simp only [HIX.out])
    go_ret
    exact ⟨rfl, H.out⟩
  | some k =>
    have hix : ixM R.tms id = k := by simp [ixM, hf]
    have hkn : k < R.tms.length := (List.findIdx?_eq_some_iff_getElem.1 hf).1
    have HIX := Lib.hid hix
    have hi0 : (0 : Int) ≤ (k : Int) := by omega
    have hi1 : (k : Int) ≤ 100000 := by omega
    clear hf hix
    go_enter Try.func43, Try.ntmps43
    go_upto_region 4 with (go_at_call 50; refine (rfind_st id H.out hn).mono ?_; rintro e w1 ⟨rfl, rfl⟩; simp only [HIX.out])
    obtain ⟨p, h⟩ := rl_open H.out
    have H2 := Lib.hid (foc_rrm (show St w0 w.drew _ from h.drew))
    clear h
    unfold rrm at H2
    obtain ⟨n, hl⟩ : ∃ n, R.tms.length = n := ⟨_, rfl⟩
    obtain ⟨M, hM⟩ : ∃ M, R.tms = M := ⟨_, rfl⟩
    have H2 := Lib.hid (show St w0 w.drew (As.cells b (rlc R p) 69 :: As.row 107 6 (p 3).1 n (p 3).2 (flat RM.cells M) :: (rst_rrm R p ++ L)) from by rw [← hl, ← hM]; exact H2.out)
    have hcl : ∀ v, rlc R p = v → v = rlc R p := fun _ h => h.symm
    clear hcl
    rw [hl] at hkn hn
    have HMR := Lib.hid hM
    have HL := Lib.hid (show M.length = n by rw [← hM]; exact hl)
    have HLR := Lib.hid hl
    clear hl hM
    have hlt := H2.out.blk.1.lt
    have hSl := H2.out.swap.sl
    obtain ⟨sa, hra, hA⟩ := hSl.cut_h elRM k (by omega)
    obtain ⟨sb, hrb, hB⟩ := hSl.cut_l elRM (k + 1) (by omega)
    rw [rm_take] at hA
    rw [rm_drop] at hB
    push_cast at hrb
    have RA := Lib.hid hA
    have RB := Lib.hid hB
    have c9 : w.drew.cell? ⟨b, 10, none⟩ = some (.slice (p 3).1 n (p 3).2) := by rw [H2.out.blk.1.cell, ← HLR.out]; rfl
    have KP := Lib.hid (show ∀ w', Below w.drew.heap.size w.drew w' → (fun w' : World => w'.cell? ⟨b, 10, none⟩ = some (.slice (p 3).1 n (p 3).2)) w' from fun w' h => (h.cell hlt).trans c9)
    have hS : (fun w' : World => w'.cell? ⟨b, 10, none⟩ = some (.slice (p 3).1 n (p 3).2)) w.drew := c9
    have hw1 : IntKind.i64.wrap ((k : Int) + 1) = (k : Int) + 1 := by rw [IntKind.wrap_i64]; omega
    have hk1 : (((k + 1 : Nat) : Int)) = (k : Int) + 1 := by omega
    clear hA hB c9 hSl
    refine wpLast.region (S := (fun w' : World => w'.cell? ⟨b, 10, none⟩ = some (.slice (p 3).1 n (p 3).2))) (c := 19) (by kernel_rfl) ?_
    refine' wpLast.take (i := 0) (v := _) rfl (by kernel_rfl) (fun _ _ _ h => h) (by kernel_rfl) _ _ _ _ (by kernel_rfl) (by kernel_rfl) (Or.inl ⟨by rfl, ?hy0⟩) hS ?rest0
    case hy0 => (intro w' hSw; obtain k9 := hSw; go_simp; try with_reducible rfl)
    try simp only [Act.put, List.setIfInBounds_toArray, List.set_cons_zero, List.set_cons_succ]
    refine' wpLast.take (i := 2) (v := _) rfl (by kernel_rfl) (fun _ _ _ h => h) (by kernel_rfl) _ _ _ _ (by kernel_rfl) (by kernel_rfl) (Or.inl ⟨by rfl, ?hy2⟩) hS ?rest2
    case hy2 => (intro w' hSw; obtain k9 := hSw; go_simp; try with_reducible rfl)
    try simp only [Act.put, List.setIfInBounds_toArray, List.set_cons_zero, List.set_cons_succ]
    refine' wpLast.take (i := 3) (v := _) rfl (by kernel_rfl) (fun _ _ _ h => h) (by kernel_rfl) _ _ _ _ (by kernel_rfl) (by kernel_rfl) (Or.inl ⟨by rfl, ?hy3⟩) hS ?rest3
    case hy3 => (intro w' hSw; obtain k9 := hSw; go_simp; try with_reducible rfl)
    try simp only [Act.put, List.setIfInBounds_toArray, List.set_cons_zero, List.set_cons_succ]
    refine' wpLast.take (i := 4) (v := _) rfl (by kernel_rfl) (fun _ _ _ h => h) (by kernel_rfl) _ _ _ _ (by kernel_rfl) (by kernel_rfl) (Or.inl ⟨by rfl, ?hy4⟩) hS ?rest4
    case hy4 => (intro w' hSw; obtain k9 := hSw; go_simp; try with_reducible rfl)
    try simp only [Act.put, List.setIfInBounds_toArray, List.set_cons_zero, List.set_cons_succ]
    refine' wpLast.take (i := 5) (v := _) rfl (by kernel_rfl) (fun _ _ _ h => h) (by kernel_rfl) _ _ _ _ (by kernel_rfl) (by kernel_rfl) (Or.inl ⟨by rfl, ?hy5⟩) hS ?rest5
    case hy5 => (intro w' hSw; obtain k9 := hSw; go_simp; try with_reducible rfl)
    try simp only [Act.put, List.setIfInBounds_toArray, List.set_cons_zero, List.set_cons_succ]
    refine' wpLast.take (i := 6) (v := _) rfl (by kernel_rfl) (fun _ _ _ h => h) (by kernel_rfl) _ _ _ _ (by kernel_rfl) (by kernel_rfl) (Or.inl ⟨by rfl, ?hy6⟩) hS ?rest6
    case hy6 => (intro w' hSw; obtain k9 := hSw; go_simp; try with_reducible rfl)
    try simp only [Act.put, List.setIfInBounds_toArray, List.set_cons_zero, List.set_cons_succ]
    refine' wpLast.take (i := 7) (v := _) rfl (by kernel_rfl) (fun _ _ _ h => h) (by kernel_rfl) _ _ _ _ (by kernel_rfl) (by kernel_rfl) (Or.inl ⟨by rfl, ?hy7⟩) hS ?rest7
    case hy7 => (intro w' hSw; obtain k9 := hSw; go_simp; try with_reducible rfl)
    try simp only [Act.put, List.setIfInBounds_toArray, List.set_cons_zero, List.set_cons_succ]
    refine' wpLast.take (i := 9) (v := _) rfl (by kernel_rfl) (fun _ _ _ h => h) (by kernel_rfl) _ _ _ _ (by kernel_rfl) (by kernel_rfl) (Or.inl ⟨by rfl, ?hy9⟩) hS ?rest9
    case hy9 => (intro w' hSw; obtain k9 := hSw; go_simp; try with_reducible rfl)
    try simp only [Act.put, List.setIfInBounds_toArray, List.set_cons_zero, List.set_cons_succ]
    refine' wpLast.take (i := 10) (v := _) rfl (by kernel_rfl) (fun _ _ _ h => h) (by kernel_rfl) _ _ _ _ (by kernel_rfl) (by kernel_rfl) (Or.inl ⟨by rfl, ?hy10⟩) hS ?rest10
    case hy10 => (intro w' hSw; obtain k9 := hSw; go_simp; try with_reducible rfl)
    try simp only [Act.put, List.setIfInBounds_toArray, List.set_cons_zero, List.set_cons_succ]
    refine' wpLast.take (i := 11) (v := _) rfl (by kernel_rfl) (fun _ _ _ h => h) (by kernel_rfl) _ _ _ _ (by kernel_rfl) (by kernel_rfl) (Or.inl ⟨by rfl, ?hy11⟩) hS ?rest11
    case hy11 => (intro w' hSw; obtain k9 := hSw; go_simp; try with_reducible rfl)
    try simp only [Act.put, List.setIfInBounds_toArray, List.set_cons_zero, List.set_cons_succ]
    refine' wpLast.take (i := 12) (v := _) rfl (by kernel_rfl) (fun _ _ _ h => h) (by kernel_rfl) _ _ _ _ (by kernel_rfl) (by kernel_rfl) (Or.inl ⟨by rfl, ?hy12⟩) hS ?rest12
    case hy12 => (intro w' hSw; obtain k9 := hSw; go_simp; try with_reducible rfl)
    try simp only [Act.put, List.setIfInBounds_toArray, List.set_cons_zero, List.set_cons_succ]
    refine' wpLast.take (i := 13) (v := _) rfl (by kernel_rfl) (fun _ _ _ h => h) (by kernel_rfl) _ _ _ _ (by kernel_rfl) (by kernel_rfl) (Or.inl ⟨by rfl, ?hy13⟩) hS ?rest13
    case hy13 => (intro w' hSw; obtain k9 := hSw; go_simp; try with_reducible rfl)
    try simp only [Act.put, List.setIfInBounds_toArray, List.set_cons_zero, List.set_cons_succ]
    refine' wpLast.take (i := 14) (v := _) rfl (by kernel_rfl) (fun _ _ _ h => h) (by kernel_rfl) _ _ _ _ (by kernel_rfl) (by kernel_rfl) (Or.inl ⟨by rfl, ?hy14⟩) hS ?rest14
    case hy14 => (intro w' hSw; obtain k9 := hSw; go_simp; try with_reducible rfl)
    try simp only [Act.put, List.setIfInBounds_toArray, List.set_cons_zero, List.set_cons_succ]
    refine' wpLast.take (i := 15) (v := _) rfl (by kernel_rfl) (fun _ _ _ h => h) (by kernel_rfl) _ _ _ _ (by kernel_rfl) (by kernel_rfl) (Or.inl ⟨by rfl, ?hy15⟩) hS ?rest15
    case hy15 => (intro w' hSw; obtain k9 := hSw; go_simp; try with_reducible rfl)
    try simp only [Act.put, List.setIfInBounds_toArray, List.set_cons_zero, List.set_cons_succ]
    refine wpLast.one (i := 1) rfl (by kernel_rfl) ?_
    intro K' hK; have HK' := Lib.hid hK; clear hK
    go_simp
    have o0 := Own.fresh (Below.refl w.drew.heap.size w.drew) 107 6
    have hS2 := KP.out _ o0.bel
    refine HK'.out _ _ ⟨fun _ => hS2, ?_⟩
    clear HK' K'
    try simp only [Act.put, List.setIfInBounds_toArray, List.set_cons_zero, List.set_cons_succ]
    refine wpLast.one (i := 8) rfl (by kernel_rfl) ?_
    intro K' hK; have HK' := Lib.hid hK; clear hK
    refine step_append_own (by rfl) _ _ 67 (by rfl) elRM _ 0 0 [] (by rfl) o0 sa k (p 3).2 _ (by rfl) (RA.out.1.below o0.bel).rd (by omega) (by omega) ?_
    intro s1 c1 w2 o1 f1 n1
    have hS3 := KP.out _ o1.bel
    refine HK'.out _ _ ⟨fun _ => hS3, ?_⟩
    clear HK' K' f1 n1
    try simp only [Act.put, List.setIfInBounds_toArray, List.set_cons_zero, List.set_cons_succ]
    refine wpLast.one (i := 16) rfl (by kernel_rfl) ?_
    intro K' hK; have HK' := Lib.hid hK; clear hK
    refine step_append_own (by rfl) _ _ 67 (by rfl) elRM _ _ _ _ (by rfl) o1 sb (n - (k + 1)) ((p 3).2 - (k + 1)) _ (by rfl) (RB.out.1.below o1.bel).rd (by omega) (by omega) ?_
    intro s2 c2 w3 o3 f2 n2
    have hS4 := KP.out _ o3.bel
    have hsz : 0 + k + (n - (k + 1)) = n - 1 := by omega
    have he : [] ++ flat RM.cells (M.take k) ++ flat RM.cells (M.drop (k + 1)) = flat RM.cells (M.eraseIdx k) := by rw [flat_erase]; rfl
    rw [hsz, he] at o3
    simp only [hsz]
    have H4 := Lib.hid (H2.out.own_new o3).swap
    have kf := H4.out.free 10
    refine HK'.out _ _ ⟨fun _ => hS4, ?_⟩
    clear HK' K' f2 n2
    try simp only [Act.put, List.setIfInBounds_toArray, List.set_cons_zero, List.set_cons_succ]
    refine wpLast.one (i := 17) rfl (by kernel_rfl) ?_
    intro K' hK; have HK' := Lib.hid hK; clear hK
    go_simp
    refine HK'.out _ _ ⟨fun _ => hS4, ?_⟩
    clear HK' K'
    try simp only [Act.put, List.setIfInBounds_toArray, List.set_cons_zero, List.set_cons_succ]
    refine wpLast.one (i := 18) rfl (by kernel_rfl) ?_
    intro K' hK; have HK' := Lib.hid hK; clear hK
    go_simp
    refine HK'.out _ _ ⟨fun _ => hS4, ?_⟩
    clear HK' K'
    try simp only [Act.put, List.setIfInBounds_toArray, List.set_cons_zero, List.set_cons_succ]
    refine wpLast.one (i := 19) rfl (by kernel_rfl) ?_
    intro K' hK; have HK' := Lib.hid hK; clear hK
    go_simp
    refine HK'.out _ _ ⟨fun h => absurd rfl h, ?_⟩
    clear HK' K'
    try simp only [Act.put, List.setIfInBounds_toArray, List.set_cons_zero, List.set_cons_succ]
    refine wpLast.done (by kernel_rfl) ?_
    have h7 := H4.out.set 10 (.slice s2 (n - 1) c2)
    obtain ⟨W7, hW7⟩ : ∃ W7, w3.setCell ⟨b, 10, none⟩ (.slice s2 (n - 1) c2) = W7 := ⟨_, rfl⟩
    rw [hW7] at h7
    rw [hW7]
    have H7 := Lib.hid (St.sh [_, _, _] [2, 0, 1] (by decide) h7).drop
    clear hW7 h7 kf hra hrb
    go_wp2_with fail
    go_ret
    refine ⟨rfl, ?_⟩
    rw [HMR.out]
    refine rl_shut (unf_rrm (n := n - 1) (M.eraseIdx k) ?_ H7.out)
    rw [List.length_eraseIdx_of_lt (by rw [HL.out]; exact hkn), HL.out]
end
end Go.Proofs.Ytnamkckpgaopkaa
