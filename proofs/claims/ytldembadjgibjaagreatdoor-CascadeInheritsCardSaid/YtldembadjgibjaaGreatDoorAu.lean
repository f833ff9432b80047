/-
  Cascade: Decls, Properties.
-/
import Derived.Test.YtldembadjgibjaaGreatDoorAt
set_option linter.unusedVariables false
set_option linter.unusedSimpArgs false
namespace Go.Proofs.YtldembadjgibjaaGreatDoor
open Go.RowKit Go.K Go.PlainAid Go.Lib

theorem cleanM_len (s : List UInt8) : ∀ (f i : Nat) (q : UInt8), (cleanM s f i q).length ≤ f := by
  intro f
  induction f with
  | zero => intro i q; exact Nat.le_refl _
  | succ f ih =>
    intro i q
    unfold cleanM
    split
    · exact Nat.zero_le _
    · repeat' split
      all_goals (rw [List.length_cons]; have := ih; exact Nat.succ_le_succ (ih _ _))
theorem cleanT_len (s : List UInt8) : (cleanT s).length ≤ 4 * s.length + 1 := by
  have h := cleanM_len (repairM s) ((repairM s).length + 1) 0 0
  have h2 := repairM_len s
  unfold cleanT
  omega
/-- the declarations of a text -/
def declsOf (s : List UInt8) : List De := declsT (cleanT s)
set_option maxRecDepth 100000 in
set_option maxHeartbeats 4000000 in
theorem Decls_any [Inhabited TbBox] (s : List UInt8) (hs : s.length ≤ 4000) (w : World) (hT : Tabs w) (E : Env w) : Calls Tryz.prog 7 #[.string (S s)] w fun e w' => ∃ sl c, e = .returned (.slice sl (declsOf s).length c) ∧ K.Own w w' 70 5 sl (declsOf s).length c (flat De.cells (declsOf s)) := by
  have hc := clean_any s (by omega) w hT E
  have hl := cleanT_len s
  have hd := fun w E => decls_any (cleanT s) (by omega) w E
  unfold declsOf
  obtain ⟨t, ht⟩ : ∃ t, cleanT s = t := ⟨_, rfl⟩
  rw [ht] at hc hd ⊢
  obtain ⟨R, hR⟩ : ∃ z, declsT t = z := ⟨_, rfl⟩
  rw [hR] at hd ⊢
  have HC := Lib.hid hc
  have HD := Lib.hid hd
  have HE := Lib.hid E
  clear hc hd hR ht hl hT E
  go_enter Tryz.func7, Tryz.ntmps7
  go_wp2_with (first
    | (go_at_call 16; refine HC.out.mono ?_; rintro e w1 ⟨rfl, hb1⟩)
    | (go_at_call 15; refine (HD.out _ (HE.out.below hb1)).mono ?_; rintro e w2 ⟨sl, c, rfl, ho⟩))
  exact bodyPost_ret (results_tmp Tryz.results7 _ _ _) rfl ⟨sl, c, rfl, own_up hb1 ho⟩
set_option maxRecDepth 100000 in
set_option maxHeartbeats 4000000 in
theorem props_any [Inhabited TbBox] (w : World) (E : Env w) : Calls Tryz.prog 9 #[] w fun e w' => ∃ sl c, e = .returned (.slice sl 37 c) ∧ K.Own w w' 9 1 sl 37 c (tabE.map (fun x => vS x.1)) := by
  obtain ⟨tb, htb⟩ : ∃ t, tabE = t := ⟨_, rfl⟩
  have htn : tb.length = 37 := by rw [← htb]; rfl
  rw [htb]
  have HTB := Lib.hid htb
  have HTN := Lib.hid htn
  have HE := Lib.hid E
  have H0 := Lib.hid ((St.start w (Below.refl _ w)).row_nil 9 1)
  clear htb htn E
  go_enter Tryz.func9, Tryz.ntmps9
  go_wp2_with fail
  refine wp_load_mid 50 (.global 0) rfl 0 0 rfl tabC _ (fun j v h => by rw [Nat.zero_add]; exact HE.out.tab j v h) Tryz.underlying50 rfl (by kernel_rfl) ?_
  obtain ⟨TT, hTT⟩ : ∃ T, tabC.toArray = T := ⟨_, rfl⟩
  rw [hTT]
  have HTT := Lib.hid hTT
  clear hTT
  go_wp2_with fail
  have hTI : ∀ (k : Nat) (x : List UInt8 × Int × List UInt8), tb[k]? = some x → ∀ w, (Instr.index 50 (.agg TT) (.int .i64 (k : Nat))).run Tryz.prog w = .ok (.agg #[.string (S x.1), .int .i64 x.2.1, .string (S x.2.2)]) w := by
    intro k x hx w
    rw [← HTT.out]
    exact tab_index w k x (by rw [HTB.out]; exact hx)
  have HTI := Lib.hid hTI
  clear hTI HTT HTB
  go_loopg [5, 1, 3] 37 (fun g v5 v1 v3 wr => ∃ (k : Nat) (s : Option Addr) (c : Nat), g = 37 - k ∧ k ≤ 37 ∧ v5 = .int .i64 (k : Int) ∧ v1 = .slice s k c ∧ St w wr [As.row 9 1 s k c ((tb.take k).map (fun x => vS x.1))])
  case atStart => exact ⟨0, none, 0, rfl, Nat.zero_le _, rfl, rfl, H0.out⟩
  case round =>
    obtain ⟨k, s, c, hg, hk, rfl, rfl, hS⟩ := hrel
    have HG := Lib.hid hg
    have HS := Lib.hid hS
    clear hg hS
    by_cases hkn : k < 37
    · have htn := HTN.out
      obtain ⟨x, hx⟩ : ∃ x, tb[k]? = some x := ⟨_, List.getElem?_eq_getElem (by omega)⟩
      have hix := HTI.out k x hx
      have hkI : (k : Int) < 37 := by omega
      have g1 := wrapS (a := (k : Int) + 1) (by omega) (by omega)
      have HX := Lib.hid hx
      clear htn hx
      go_wp2_with (refine st_push rfl (.tmp 8) (.tmp 11) rfl el9 ((HS.out.alloc (.cells #[.string (S x.1), .int .i64 x.2.1, .string (S x.2.2)] 49)).alloc (.cells #[vS x.1] 9)) rfl #[vS x.1] (blk_new (wr.alloc (.cells #[.string (S x.1), .int .i64 x.2.1, .string (S x.2.2)] 49)) #[vS x.1] 9 (wr.heap.size + 1) (by simp)) rfl rfl (one_str [x.1]) (by omega) (by decide) ?_; intro s7 c7 W7 HW7; have H7 := Lib.hid HW7; clear HW7)
      go_roundg (37 - (k + 1))
      case measure => have := HG.out; omega
      case rel =>
        have e : (tb.take (k + 1)).map (fun x => vS x.1) = (tb.take k).map (fun x => vS x.1) ++ [vS x.1] := by
          rw [List.take_add_one, HX.out, List.map_append]
          rfl
        exact ⟨k + 1, s7, c7, rfl, by omega, by rw [Int.natCast_add]; rfl, rfl, by rw [e]; exact H7.out⟩
    · have hke : k = 37 := by omega
      subst hke
      have hs := HS.out
      rw [List.take_of_length_le (Nat.le_of_eq HTN.out)] at hs
      have HS2 := Lib.hid hs
      clear hs
      go_wp2_with fail
      exact bodyPost_ret (results_tmp Tryz.results9 _ _ _) rfl ⟨s, c, rfl, row_own HS2.out⟩
end Go.Proofs.YtldembadjgibjaaGreatDoor
