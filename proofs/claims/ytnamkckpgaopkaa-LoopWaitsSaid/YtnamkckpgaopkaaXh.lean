/-
  Cancel of the chapter's loop.
-/
import Derived.Test.YtnamkckpgaopkaaXg
set_option linter.unusedVariables false
set_option linter.unusedSimpArgs false
namespace Go.Proofs.Ytnamkckpgaopkaa
open Go.RowKit Go.K

theorem rh_at (l : List Int) (k : Nat) (hk : k < l.length) : (flat ic l)[k]? = some (.int .i64 l[k]) := by
  have := flat_at lenIc l k 0 hk (by omega)
  simpa [ic] using this
def rcanB (R : RL) (id : Int) : Bool := (R.shots.findIdx? (fun c => c == id)).isSome
def rcanS (R : RL) (id : Int) : RL := match R.shots.findIdx? (fun c => c == id) with
  | none => R
  | some i => { R with shots := R.shots.eraseIdx i }
def RCanRel (M : List Int) (id : Int) (n : Nat) (w : World) (g : Nat) (v : Value) (wr : World) : Prop :=
  ∃ k : Nat, g = n - k ∧ k ≤ n ∧ v = .int .i64 k ∧ wr = w ∧ ∀ j (hj : j < M.length), j < k → M[j] ≠ id
theorem fi_some {l : List Int} {id : Int} {k : Nat} (hk : k < l.length) (h : l[k] = id) (h2 : ∀ j (hj : j < l.length), j < k → l[j] ≠ id) : l.findIdx? (fun c => c == id) = some k := by
  rw [List.findIdx?_eq_some_iff_getElem]
  exact ⟨hk, by simp [h], fun j hj => by simpa using h2 j (by omega) hj⟩
theorem fi_none {l : List Int} {id : Int} (h : ∀ t ∈ l, t ≠ id) : l.findIdx? (fun c => c == id) = none := by
  rw [List.findIdx?_eq_none_iff]
  intro x hx
  simpa using h x hx
set_option maxRecDepth 100000 in
set_option maxHeartbeats 1000000 in
theorem rcan_st {w0 w : World} {L : List As} {b : Nat} {R : RL} (id : Int) (h : St w0 w (rlO b R :: L)) (hn : R.shots.length ≤ 100000) :
    Calls Try.prog 45 #[.pointer (some ⟨b, 0, none⟩), .int .i64 id] w (RetSt (.bool (rcanB R id)) w0 (rlO b (rcanS R id) :: L)) := by
  obtain ⟨B, hB⟩ : ∃ B, rcanB R id = B := ⟨_, rfl⟩
  obtain ⟨S2, hS2⟩ : ∃ S2, rcanS R id = S2 := ⟨_, rfl⟩
  rw [hB, hS2]
  have HB := Lib.hid hB
  have HS2 := Lib.hid hS2
  clear hB hS2
  have H := Lib.hid h
  obtain ⟨p, h⟩ := rl_open h
  obtain ⟨-, -, c9, -⟩ := rl_s h
  have HS := Lib.hid (((foc_rrh h).swap.sl)).rd
  obtain ⟨n, hl⟩ : ∃ n, R.shots.length = n := ⟨_, rfl⟩
  obtain ⟨M, hM⟩ : ∃ M, R.shots = M := ⟨_, rfl⟩
  have H2 := Lib.hid (show St w0 w.drew (As.cells b (rlc R p) 69 :: As.row 3 1 (p 2).1 n (p 2).2 (flat ic M) :: (rst_rrh R p ++ L)) from by rw [← hl, ← hM]; exact (foc_rrh (show St w0 w.drew _ from h.drew)))
  rw [hl] at c9 HS hn
  rw [hM] at HS
  have HMR := Lib.hid hM
  have HLR := Lib.hid hl
  have HL := Lib.hid (show M.length = n by rw [← hM]; exact hl)
  clear h hl hM
  go_enter Try.func45, Try.ntmps45
  go_wp2_with fail
  go_loopg [11] n (RCanRel M id n w)
  case atStart => exact ⟨0, rfl, Nat.zero_le _, rfl, rfl, by intro j hj h; omega⟩
  case round =>
    obtain ⟨k, hg, hk, rfl, rfl, hall⟩ := hrel
    have Hg := Lib.hid hg
    have HA := Lib.hid hall
    clear hg hall
    by_cases hkn : k < n
    · have hkt : k < M.length := by rw [HL.out]; exact hkn
      obtain ⟨g, off, hga, hcell⟩ := HS.out.addr (by omega)
      have HGA := Lib.hid hga
      have d0 := hcell _ _ (rh_at M k hkt)
      rw [hga] at c9
      clear hcell hga
      have hkn' : (k : Int) < (n : Int) := by omega
      by_cases hid : M[k] = id
      · have hidb : (M[k] == id) = true := by simp [hid]
        have HID := Lib.hid hid
        clear hid
        have hi0 : (0 : Int) ≤ (k : Int) := by omega
        have hi1 : (k : Int) ≤ 100000 := by omega
        go_upto_region 5 with fail
        clear d0 hidb hkn' c9
        try simp only [← HGA.out]
        have hlt := H2.out.blk.1.lt
        have hSl := H2.out.swap.sl
        obtain ⟨sa, hra, hA⟩ := hSl.cut_h el60 k (by omega)
        obtain ⟨sb, hrb, hB⟩ := hSl.cut_l el60 (k + 1) (by omega)
        rw [rh_take] at hA
        rw [rh_drop] at hB
        push_cast at hrb
        have RA := Lib.hid hA
        have RB := Lib.hid hB
        have c9 : wr.drew.cell? ⟨b, 9, none⟩ = some (.slice (p 2).1 n (p 2).2) := by rw [H2.out.blk.1.cell, ← HLR.out]; rfl
        have KP := Lib.hid (show ∀ w', Below wr.drew.heap.size wr.drew w' → (fun w' : World => w'.cell? ⟨b, 9, none⟩ = some (.slice (p 2).1 n (p 2).2)) w' from fun w' h => (h.cell hlt).trans c9)
        have hS : (fun w' : World => w'.cell? ⟨b, 9, none⟩ = some (.slice (p 2).1 n (p 2).2)) wr.drew := c9
        have hw1 : IntKind.i64.wrap ((k : Int) + 1) = (k : Int) + 1 := by rw [IntKind.wrap_i64]; omega
        have hk1 : (((k + 1 : Nat) : Int)) = (k : Int) + 1 := by omega
        clear hA hB c9 hSl
        refine wpLast.region (S := (fun w' : World => w'.cell? ⟨b, 9, none⟩ = some (.slice (p 2).1 n (p 2).2))) (c := 19) (by kernel_rfl) ?_
        refine' wpLast.take (i := 0) (v := _) rfl (by kernel_rfl) (fun _ _ _ h => h) (by kernel_rfl) _ _ _ _ (by kernel_rfl) (by kernel_rfl) (Or.inl ⟨by rfl, ?hy0⟩) hS ?rest0
        case hy0 => (intro w' hSw; obtain k9 := hSw; go_simp; try with_reducible rfl)
        try simp only [Act.put, List.setIfInBounds_toArray, List.set_cons_zero, List.set_cons_succ]
        refine' wpLast.take (i := 2) (v := _) rfl (by kernel_rfl) (fun _ _ _ h => h) (by kernel_rfl) _ _ _ _ (by kernel_rfl) (by kernel_rfl) (Or.inl ⟨by rfl, ?hy2⟩) hS ?rest2
        case hy2 => (intro w' hSw; obtain k9 := hSw; go_simp; try with_reducible rfl)
        try simp only [Act.put, List.setIfInBounds_toArray, List.set_cons_zero, List.set_cons_succ]
        refine' wpLast.take (i := 3) (v := _) rfl (by kernel_rfl) (fun _ _ _ h => h) (by kernel_rfl) _ _ _ _ (by kernel_rfl) (by kernel_rfl) (Or.inl ⟨by rfl, ?hy3⟩) hS ?rest3
        case hy3 => (intro w' hSw; obtain k9 := hSw; go_simp; try with_reducible rfl)
        try simp only [Act.put, List.setIfInBounds_toArray, List.set_cons_zero, List.set_cons_succ]
        refine' wpLast.take (i := 4) (v := _) rfl (by kernel_rfl) (fun _ _ _ h => h) (by kernel_rfl) _ _ _ _ (by kernel_rfl) (by kernel_rfl) (Or.inl ⟨by rfl, ?hy4⟩) hS ?rest4
        case hy4 => (intro w' hSw; obtain k9 := hSw; go_simp; try with_reducible rfl)
        try simp only [Act.put, List.setIfInBounds_toArray, List.set_cons_zero, List.set_cons_succ]
        refine' wpLast.take (i := 5) (v := _) rfl (by kernel_rfl) (fun _ _ _ h => h) (by kernel_rfl) _ _ _ _ (by kernel_rfl) (by kernel_rfl) (Or.inl ⟨by rfl, ?hy5⟩) hS ?rest5
        case hy5 => (intro w' hSw; obtain k9 := hSw; go_simp; try with_reducible rfl)
        try simp only [Act.put, List.setIfInBounds_toArray, List.set_cons_zero, List.set_cons_succ]
        refine' wpLast.take (i := 6) (v := _) rfl (by kernel_rfl) (fun _ _ _ h => h) (by kernel_rfl) _ _ _ _ (by kernel_rfl) (by kernel_rfl) (Or.inl ⟨by rfl, ?hy6⟩) hS ?rest6
        case hy6 => (intro w' hSw; obtain k9 := hSw; go_simp; try with_reducible rfl)
        try simp only [Act.put, List.setIfInBounds_toArray, List.set_cons_zero, List.set_cons_succ]
        refine' wpLast.take (i := 7) (v := _) rfl (by kernel_rfl) (fun _ _ _ h => h) (by kernel_rfl) _ _ _ _ (by kernel_rfl) (by kernel_rfl) (Or.inl ⟨by rfl, ?hy7⟩) hS ?rest7
        case hy7 => (intro w' hSw; obtain k9 := hSw; go_simp; try with_reducible rfl)
        try simp only [Act.put, List.setIfInBounds_toArray, List.set_cons_zero, List.set_cons_succ]
        refine' wpLast.take (i := 9) (v := _) rfl (by kernel_rfl) (fun _ _ _ h => h) (by kernel_rfl) _ _ _ _ (by kernel_rfl) (by kernel_rfl) (Or.inl ⟨by rfl, ?hy9⟩) hS ?rest9
        case hy9 => (intro w' hSw; obtain k9 := hSw; go_simp; try with_reducible rfl)
        try simp only [Act.put, List.setIfInBounds_toArray, List.set_cons_zero, List.set_cons_succ]
        refine' wpLast.take (i := 10) (v := _) rfl (by kernel_rfl) (fun _ _ _ h => h) (by kernel_rfl) _ _ _ _ (by kernel_rfl) (by kernel_rfl) (Or.inl ⟨by rfl, ?hy10⟩) hS ?rest10
        case hy10 => (intro w' hSw; obtain k9 := hSw; go_simp; try with_reducible rfl)
        try simp only [Act.put, List.setIfInBounds_toArray, List.set_cons_zero, List.set_cons_succ]
        refine' wpLast.take (i := 11) (v := _) rfl (by kernel_rfl) (fun _ _ _ h => h) (by kernel_rfl) _ _ _ _ (by kernel_rfl) (by kernel_rfl) (Or.inl ⟨by rfl, ?hy11⟩) hS ?rest11
        case hy11 => (intro w' hSw; obtain k9 := hSw; go_simp; try with_reducible rfl)
        try simp only [Act.put, List.setIfInBounds_toArray, List.set_cons_zero, List.set_cons_succ]
        refine' wpLast.take (i := 12) (v := _) rfl (by kernel_rfl) (fun _ _ _ h => h) (by kernel_rfl) _ _ _ _ (by kernel_rfl) (by kernel_rfl) (Or.inl ⟨by rfl, ?hy12⟩) hS ?rest12
        case hy12 => (intro w' hSw; obtain k9 := hSw; go_simp; try with_reducible rfl)
        try simp only [Act.put, List.setIfInBounds_toArray, List.set_cons_zero, List.set_cons_succ]
        refine' wpLast.take (i := 13) (v := _) rfl (by kernel_rfl) (fun _ _ _ h => h) (by kernel_rfl) _ _ _ _ (by kernel_rfl) (by kernel_rfl) (Or.inl ⟨by rfl, ?hy13⟩) hS ?rest13
        case hy13 => (intro w' hSw; obtain k9 := hSw; go_simp; try with_reducible rfl)
        try simp only [Act.put, List.setIfInBounds_toArray, List.set_cons_zero, List.set_cons_succ]
        refine' wpLast.take (i := 14) (v := _) rfl (by kernel_rfl) (fun _ _ _ h => h) (by kernel_rfl) _ _ _ _ (by kernel_rfl) (by kernel_rfl) (Or.inl ⟨by rfl, ?hy14⟩) hS ?rest14
        case hy14 => (intro w' hSw; obtain k9 := hSw; go_simp; try with_reducible rfl)
        try simp only [Act.put, List.setIfInBounds_toArray, List.set_cons_zero, List.set_cons_succ]
        refine' wpLast.take (i := 15) (v := _) rfl (by kernel_rfl) (fun _ _ _ h => h) (by kernel_rfl) _ _ _ _ (by kernel_rfl) (by kernel_rfl) (Or.inl ⟨by rfl, ?hy15⟩) hS ?rest15
        case hy15 => (intro w' hSw; obtain k9 := hSw; go_simp; try with_reducible rfl)
        try simp only [Act.put, List.setIfInBounds_toArray, List.set_cons_zero, List.set_cons_succ]
        refine wpLast.one (i := 1) rfl (by kernel_rfl) ?_
        intro K' hK; have HK' := Lib.hid hK; clear hK
        go_simp
        have o0 := Own.fresh (Below.refl wr.drew.heap.size wr.drew) 3 1
        have hS2 := KP.out _ o0.bel
        refine HK'.out _ _ ⟨fun _ => hS2, ?_⟩
        clear HK' K'
        try simp only [Act.put, List.setIfInBounds_toArray, List.set_cons_zero, List.set_cons_succ]
        refine wpLast.one (i := 8) rfl (by kernel_rfl) ?_
        intro K' hK; have HK' := Lib.hid hK; clear hK
        refine step_append_own (by rfl) _ _ 60 (by rfl) el60 _ 0 0 [] (by rfl) o0 sa k (p 2).2 _ (by rfl) (RA.out.1.below o0.bel).rd (by omega) (by omega) ?_
        intro s1 c1 w2 o1 f1 n1
        have hS3 := KP.out _ o1.bel
        refine HK'.out _ _ ⟨fun _ => hS3, ?_⟩
        clear HK' K' f1 n1
        try simp only [Act.put, List.setIfInBounds_toArray, List.set_cons_zero, List.set_cons_succ]
        refine wpLast.one (i := 16) rfl (by kernel_rfl) ?_
        intro K' hK; have HK' := Lib.hid hK; clear hK
        refine step_append_own (by rfl) _ _ 60 (by rfl) el60 _ _ _ _ (by rfl) o1 sb (n - (k + 1)) ((p 2).2 - (k + 1)) _ (by rfl) (RB.out.1.below o1.bel).rd (by omega) (by omega) ?_
        intro s2 c2 w3 o3 f2 n2
        have hS4 := KP.out _ o3.bel
        have hsz : 0 + k + (n - (k + 1)) = n - 1 := by omega
        have he : [] ++ flat ic (M.take k) ++ flat ic (M.drop (k + 1)) = flat ic (M.eraseIdx k) := by rw [flat_erase]; rfl
        rw [hsz, he] at o3
        simp only [hsz]
        have H4 := Lib.hid (H2.out.own_new o3).swap
        have kf := H4.out.free 9
        refine HK'.out _ _ ⟨fun _ => hS4, ?_⟩
        clear HK' K' f2 n2
        try simp only [Act.put, List.setIfInBounds_toArray, List.set_cons_zero, List.set_cons_succ]
        refine wpLast.one (i := 17) rfl (by kernel_rfl) ?_
        intro K' hK; have HK' := Lib.hid hK; clear hK
        go_simp
        refine HK'.out _ _ ⟨fun _ => hS4, ?_⟩
        clear HK' K'
        try simp only [Act.put, List.setIfInBounds_toArray, List.set_cons_zero, List.set_cons_succ]
        refine wpLast.one (i := 18) rfl (by kernel_rfl) ?_
        intro K' hK; have HK' := Lib.hid hK; clear hK
        go_simp
        refine HK'.out _ _ ⟨fun _ => hS4, ?_⟩
        clear HK' K'
        try simp only [Act.put, List.setIfInBounds_toArray, List.set_cons_zero, List.set_cons_succ]
        refine wpLast.one (i := 19) rfl (by kernel_rfl) ?_
        intro K' hK; have HK' := Lib.hid hK; clear hK
        go_simp
        refine HK'.out _ _ ⟨fun h => absurd rfl h, ?_⟩
        clear HK' K'
        try simp only [Act.put, List.setIfInBounds_toArray, List.set_cons_zero, List.set_cons_succ]
        refine wpLast.done (by kernel_rfl) ?_
        have h7 := H4.out.set 9 (.slice s2 (n - 1) c2)
        obtain ⟨W7, hW7⟩ : ∃ W7, w3.setCell ⟨b, 9, none⟩ (.slice s2 (n - 1) c2) = W7 := ⟨_, rfl⟩
        rw [hW7] at h7
        rw [hW7]
        have H7 := Lib.hid (St.sh [_, _, _] [2, 0, 1] (by decide) h7).drop
        clear hW7 h7 kf hra hrb
        go_wp2_with fail
        go_ret
        have hf := fi_some hkt HID.out (fun j hj hjk => HA.out j hj hjk)
        rw [← HB.out, ← HS2.out]
        unfold rcanB rcanS
        rw [HMR.out, hf]
        refine ⟨rfl, rl_shut (unf_rrh (n := n - 1) (M.eraseIdx k) ?_ H7.out)⟩
        rw [List.length_eraseIdx_of_lt hkt, HL.out]
      · have hidb : (M[k] == id) = false := by simp [hid]
        have HID := Lib.hid hid
        clear hid
        go_wp2_with fail
        go_roundg (n - (k + 1))
        case measure => have := Hg.out; omega
        case rel =>
          refine ⟨k + 1, rfl, by omega, by simp, rfl, fun j hj hjk => ?_⟩
          by_cases e : j = k
          · subst e; exact HID.out
          · exact HA.out j hj (by omega)
    · go_wp2_with fail
      go_ret
      have hno : ∀ t ∈ M, t ≠ id := fun t ht => by
        obtain ⟨j, hj, rfl⟩ := List.getElem_of_mem ht
        exact HA.out j hj (by have := HL.out; omega)
      rw [← HB.out, ← HS2.out]
      unfold rcanB rcanS
      rw [HMR.out, fi_none hno]
      exact ⟨rfl, H.out⟩

end Go.Proofs.Ytnamkckpgaopkaa
