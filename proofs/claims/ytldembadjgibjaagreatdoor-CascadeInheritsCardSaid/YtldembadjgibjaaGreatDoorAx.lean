/-
  Cascade: valid.
-/
import Derived.Test.YtldembadjgibjaaGreatDoorAw
import Derived.Test.YtldembadjgibjaaGreatDoorAk
set_option linter.unusedVariables false
set_option linter.unusedSimpArgs false
namespace Go.Proofs.YtldembadjgibjaaGreatDoor
open Go.RowKit Go.K Go.PlainAid Go.Lib Go.Maps

theorem fmtM_len [Inhabited TbBox] (v : Va) (h : VOk v) : (fmtM v).length ≤ 100000 := by
  unfold fmtM
  split
  · exact h.wl
  · have h0 : 0 ≤ absD v.nm ∧ absD v.nm ≤ 1048999999 := by unfold absD; have := h.n0; have := h.n1; split <;> omega
    have hd : 0 ≤ (absD v.nm).tdiv 1000 ∧ (absD v.nm).tdiv 1000 ≤ 1048999 := by rw [Int.tdiv_eq_ediv_of_nonneg h0.1]; omega
    have hr : 0 ≤ (absD v.nm).tmod 1000 ∧ (absD v.nm).tmod 1000 < 1000 := by rw [Int.tmod_eq_emod_of_nonneg h0.1]; omega
    have l1 := itoaT_len ((absD v.nm).tdiv 1000) (by omega) (by omega)
    have l2 := fracD_len _ hr.1 hr.2
    have l3 : (fmtU v.kd).length ≤ 2 := (by unfold fmtU; (repeat' split) <;> decide)
    unfold fmtN
    have l4 : (if v.nm < 0 then ([45] : List UInt8) else []).length ≤ 1 := by split <;> decide
    have l5 : (if (absD v.nm).tmod 1000 = 0 then ([] : List UInt8) else 46 :: fracD ((absD v.nm).tmod 1000)).length ≤ 22 := by
      split
      · exact Nat.zero_le _
      · rw [List.length_cons]; omega
    simp only [List.length_append]
    omega
/-- is the value one of its property -/
def vM [Inhabited TbBox] (d : De) : Bool := decide ((parseM d.n (fmtM d.v)).2 = 0) && decide ((parseM d.n (fmtM d.v)).1 = d.v)
theorem eq68 (a b : Va) (w : World) : (binOp .eql 68 (.agg a.cells) (.agg b.cells)).run Tryz.prog w = .ok (.bool (decide (a = b))) w := by
  obtain ⟨a1, a2, a3⟩ := a
  obtain ⟨b1, b2, b3⟩ := b
  simp [go_sem, Va.cells, Tryz.underlying68]
  by_cases h1 : a1 = b1 <;> by_cases h2 : a2 = b2 <;> by_cases h3 : a3 = b3 <;> simp [h1, h2, h3]
/-- the map of what is known of declarations -/
def KnOk [Inhabited TbBox] (lk : De → Option Bool) : Prop := ∀ d x, DOk d → lk d = some x → x = vM d
abbrev knR : Bool → Value := fun x => Value.bool x
def As.kn [Inhabited TbBox] (b n : Nat) : As := As.ex fun lk : { lk : De → Option Bool // KnOk lk } => As.mp 70 kl knR DOk b n lk.1
theorem wpl_lookup {P : Program} (w : World) {ops : Array Oper} {rest : List Oper} {o : Oper} {a : Act} {Q : Exit → Act → World → Prop} (hg : o.guard = none) (m x : Operand) (t : TypeId) (hop : o.op = Op.lookup t m x true)
    (vm vx v : Value) (hm : a.eval m = vm) (hx : a.eval x = vx) (hrun : (Instr.lookup t vm vx true).run P w = .ok v w)
    (hK : wpList P ops Q rest (a.put o.dst v) w) : wpList P ops Q (o :: rest) a w := by
  refine wpList_plain hg fun K' hK' => ?_
  unfold Oper.wp
  simp [execOp, hop, hm, hx, hrun, Result.andThen]
  exact hK' _ _ hK
theorem look_kn {b n : Nat} {lk : De → Option Bool} {w : World} (h : MIs 70 kl knR DOk b n lk w) (d : De) (hd : DOk d) :
    (Instr.lookup 47 (.map (some b)) (.agg d.cells.toArray) true).run Tryz.prog w = .ok (.tuple #[.bool ((lk d).getD false), .bool (lk d).isSome]) w := by
  obtain ⟨D, ho, hl⟩ := h
  obtain ⟨v, ps, hrun, hv⟩ := ho.look_ok key70T Tryz.underlying47 (Tryz.zeroValue4 w) (zd := .held (.bool false)) (zp := []) rfl (key70 d hd)
  have := hl d hd
  cases e : lk d with
  | none =>
    rw [e] at this
    simp only at this
    rw [hrun, this]
    rw [Maps.atKey_of_not_has this] at hv
    simp only [heldR, Option.some.injEq, Prod.mk.injEq, DataW.held.injEq] at hv
    rw [hv.1]
    rfl
  | some x =>
    rw [e] at this
    simp only at this
    rw [hrun, this.1]
    rw [this.2] at hv
    simp only [heldR, Option.some.injEq, Prod.mk.injEq, DataW.held.injEq] at hv
    rw [hv.1]
    rfl
theorem put_kn {b n : Nat} {lk : De → Option Bool} {w' : World} {D : DataW Value} {d : De} (hd : DOk d) {x : Bool} (hl : LkOf kl knR DOk lk D) (hD : Maps.IsMap D) (ho : w'.ownsMap Tryz.prog 70 heldR b (n + 1) (D.put (kl d) (.held (knR x)))) :
    MIs 70 kl knR DOk b (n + 1) (fun a => if a = d then some x else lk a) w' :=
  ⟨_, ho, hl.put hD kl_key (fun a b ha hb h => kl_inj ha hb h) hd x⟩
set_option maxRecDepth 100000 in
set_option maxHeartbeats 8000000 in
theorem valid_st [Inhabited TbBox] (d : De) (hd : DOk d) (kb n : Nat) (hn : n ≤ 1000000) (w0 w : World) (L : List As) (HS : St w0 w (As.kn kb n :: L)) (E : Env w0) :
    Calls Tryz.prog 27 #[.agg d.cells.toArray, .map (some kb)] w fun e w' => e = .returned (.bool (vM d)) ∧ ∃ n', n' ≤ n + 1 ∧ St w0 w' (As.kn kb n' :: L) := by
  obtain ⟨⟨lk, hlk⟩, HS1⟩ := HS.open_ex
  clear HS
  have HS : St w0 w (As.mp 70 kl knR DOk kb n lk :: L) := HS1
  clear HS1
  obtain ⟨R, hR⟩ : ∃ r, vM d = r := ⟨_, rfl⟩
  rw [hR]
  have hkn := fun x => hlk d x hd
  have hfm := fun w E => fmt_any d.v hd.v.n0 hd.v.n1 w E
  have hfl := fmtM_len d.v hd.v
  have hpa := fun w E => parse_any d.n (fmtM d.v) hd.nl hfl w E
  rw [hR] at hkn
  unfold vM at hR
  have hlook := fun (w : World) h => look_kn (b := kb) (n := n) (lk := lk) (w := w) h d hd
  have hkey := key70 d hd
  obtain ⟨FV, hFV⟩ : ∃ z, fmtM d.v = z := ⟨_, rfl⟩
  rw [hFV] at hfm hpa hR
  obtain ⟨⟨⟨pk, pn, pw⟩, pe⟩, hP⟩ : ∃ p, parseM d.n FV = p := ⟨_, rfl⟩
  rw [hP] at hpa hR
  have hput := fun (w' : World) (D : DataW Value) (x : Bool) => put_kn (b := kb) (n := n) (lk := lk) (w' := w') (D := D) hd (x := x)
  have hknew : KnOk (fun a => if a = d then some R else lk a) := by
    intro a x ha hx
    dsimp only at hx
    by_cases e : a = d
    · rw [if_pos e] at hx
      have hvv : vM d = R := by
        unfold vM
        rw [hFV, hP]
        exact hR
      rw [e, hvv]
      exact (Option.some.inj hx).symm
    · rw [if_neg e] at hx
      exact hlk a x ha hx
  have heq := fun w => eq68 ⟨pk, pn, pw⟩ d.v w
  have KLd := kl d
  obtain ⟨KL, hKL⟩ : ∃ z, kl d = z := ⟨_, rfl⟩
  have hdz : d.cells.toArray = #[vS d.n, .int .i64 d.v.kd, .int .i64 d.v.nm, vS d.v.wd, .bool d.im] := rfl
  have H1 := Lib.hid (HS.new d.cells.toArray 70)
  have HKN := Lib.hid hkn
  have HFM := Lib.hid hfm
  have HPA := Lib.hid hpa
  have HLOOK := Lib.hid hlook
  have HKEY := Lib.hid hkey
  have HPUT := Lib.hid hput
  have HKNEW := Lib.hid hknew
  have HR := Lib.hid hR
  have HE := Lib.hid E
  have HHS := Lib.hid HS
  have HEQ := Lib.hid heq
  have HLK := Lib.hid hlk
  clear hkn hfm hpa hlook hkey hput hknew hR E HS heq hlk hfl hFV hP KLd hKL hdz
  obtain ⟨dn, ⟨dk, dm, dw⟩, di⟩ := d
  simp only [De.cells, Va.cells] at H1 HFM HPA HLOOK HKEY HEQ ⊢
  have hz1 : H1 = H1 := rfl
  clear hz1
  cases hl : lk ⟨dn, ⟨dk, dm, dw⟩, di⟩ with
  | some x =>
    have hx := HKN.out x hl
    subst hx
    have hrun := HLOOK.out _ (St.mpI H1.out (.tail _ (.head _)))
    rw [hl] at hrun
    simp only [Option.getD_some, Option.isSome_some] at hrun
    have HRUN := Lib.hid hrun
    clear hrun
    have c0 := H1.out.cell 0
    have c1 := H1.out.cell 1
    have c2 := H1.out.cell 2
    have c3 := H1.out.cell 3
    have c4 := H1.out.cell 4
    simp at c0 c1 c2 c3 c4
    go_enter Tryz.func27, Tryz.ntmps27
    go_wp2_with (first
      | (at_lookup; refine wpl_lookup _ rfl _ _ 47 rfl (.map (some kb)) (.agg #[vS dn, .int .i64 dk, .int .i64 dm, vS dw, .bool di]) _ rfl rfl HRUN.out ?_)
      | fail)
    exact bodyPost_ret (results_tmp Tryz.results27 _ _ _) rfl ⟨rfl, n, Nat.le_succ _, H1.out.drop.shut_ex ⟨lk, HLK.out⟩⟩
  | none =>
    have hrun := HLOOK.out _ (St.mpI H1.out (.tail _ (.head _)))
    rw [hl] at hrun
    simp only [Option.getD_none, Option.isSome_none] at hrun
    have HRUN := Lib.hid hrun
    clear hrun HLOOK
    have c0 := H1.out.cell 0
    have c1 := H1.out.cell 1
    have c2 := H1.out.cell 2
    have c3 := H1.out.cell 3
    have c4 := H1.out.cell 4
    simp at c0 c1 c2 c3 c4
    go_enter Tryz.func27, Tryz.ntmps27
    go_upto_region 3 with (first
      | (at_lookup; refine wpl_lookup _ rfl _ _ 47 rfl (.map (some kb)) (.agg #[vS dn, .int .i64 dk, .int .i64 dm, vS dw, .bool di]) _ rfl rfl HRUN.out ?_)
      | fail)
    obtain ⟨b0, hb0⟩ : ∃ b, w.heap.size = b := ⟨_, rfl⟩
    obtain ⟨W, hW⟩ : ∃ z, w.alloc (.cells #[vS dn, .int .i64 dk, .int .i64 dm, vS dw, .bool di] 70) = z := ⟨_, rfl⟩
    rw [hW, hb0] at H1
    rw [hW]
    simp only [hb0]
    clear hW hb0 c0 c1 c2 c3 c4 HRUN
    have hS : St w0 W.drew (As.cells b0 #[vS dn, .int .i64 dk, .int .i64 dm, vS dw, .bool di] 70 :: As.mp 70 kl (fun x : Bool => Value.bool x) DOk kb n lk :: L) := H1.out.drew
    refine wp_region_held (S := fun w' : World => St w0 w' (As.cells b0 #[vS dn, .int .i64 dk, .int .i64 dm, vS dw, .bool di] 70 :: As.mp 70 kl (fun x : Bool => Value.bool x) DOk kb n lk :: L)) (by kernel_rfl) ?_
    change wpAnyH _ _ _ _ _ _ _ _ (World.drew _)
    refine' wpAnyH_take (i := 0) (v := .pointer (some ⟨b0, 0, none⟩)) rfl (by kernel_rfl) (by kernel_rfl) (by kernel_rfl) (fun _ _ _ h => h) (Or.inl ⟨by rfl, ?hy0⟩) hS ?rest0
    case hy0 => (intro w' hSw; have k0 := hSw.cell 0; have k1 := hSw.cell 1; have k2 := hSw.cell 2; have k3 := hSw.cell 3; have k4 := hSw.cell 4; simp at k0 k1 k2 k3 k4; go_simp; try with_reducible rfl)
    try simp only [Act.put, List.getElem_toArray, List.getElem_cons_zero, List.getElem_cons_succ, List.setIfInBounds_toArray, List.set_cons_zero, List.set_cons_succ]
    refine' wpAnyH_take (i := 1) (v := vS dn) rfl (by kernel_rfl) (by kernel_rfl) (by kernel_rfl) (fun _ _ _ h => h) (Or.inl ⟨by rfl, ?hy1⟩) hS ?rest1
    case hy1 => (intro w' hSw; have k0 := hSw.cell 0; have k1 := hSw.cell 1; have k2 := hSw.cell 2; have k3 := hSw.cell 3; have k4 := hSw.cell 4; simp at k0 k1 k2 k3 k4; go_simp; try with_reducible rfl)
    try simp only [Act.put, List.getElem_toArray, List.getElem_cons_zero, List.getElem_cons_succ, List.setIfInBounds_toArray, List.set_cons_zero, List.set_cons_succ]
    refine' wpAnyH_take (i := 2) (v := .pointer (some ⟨b0, 1, none⟩)) rfl (by kernel_rfl) (by kernel_rfl) (by kernel_rfl) (fun _ _ _ h => h) (Or.inl ⟨by rfl, ?hy2⟩) hS ?rest2
    case hy2 => (intro w' hSw; have k0 := hSw.cell 0; have k1 := hSw.cell 1; have k2 := hSw.cell 2; have k3 := hSw.cell 3; have k4 := hSw.cell 4; simp at k0 k1 k2 k3 k4; go_simp; try with_reducible rfl)
    try simp only [Act.put, List.getElem_toArray, List.getElem_cons_zero, List.getElem_cons_succ, List.setIfInBounds_toArray, List.set_cons_zero, List.set_cons_succ]
    refine' wpAnyH_take (i := 3) (v := .agg #[.int .i64 dk, .int .i64 dm, vS dw]) rfl (by kernel_rfl) (by kernel_rfl) (by kernel_rfl) (fun _ _ _ h => h) (Or.inl ⟨by rfl, ?hy3⟩) hS ?rest3
    case hy3 => (intro w' hSw; have k0 := hSw.cell 0; have k1 := hSw.cell 1; have k2 := hSw.cell 2; have k3 := hSw.cell 3; have k4 := hSw.cell 4; simp at k0 k1 k2 k3 k4; go_simp; try with_reducible rfl)
    try simp only [Act.put, List.getElem_toArray, List.getElem_cons_zero, List.getElem_cons_succ, List.setIfInBounds_toArray, List.set_cons_zero, List.set_cons_succ]
    clear hS
    have H := Lib.hid H1.out.drew
    refine (?use : (∀ (W : World) (b : Nat), St w0 W (As.cells b #[.int .i64 pk, .int .i64 pn, vS pw] 68 :: As.cells b0 #[vS dn, .int .i64 dk, .int .i64 dm, vS dw, .bool di] 70 :: As.mp 70 kl (fun x : Bool => Value.bool x) DOk kb n lk :: L) → (?G : World → Nat → Prop) W b) → _) ?fin
    case use =>
      intro fin
      refine held2 (i := 4) (j := 9) rfl rfl (by kernel_rfl) ?_ ?_
      · apply hstep_call (HFM.out _ (HE.out.below H.out.bel)) H.out (fun _ h => h)
        case hg => rfl
        case ho => rfl
        case hf => exact Tryz.func54
        case hn => kernel_rfl
        case hb => kernel_rfl
        case ha => kernel_rfl
        intro w4 h4; have H4 := Lib.hid h4; clear h4
        try simp only [Act.put, List.getElem_toArray, List.getElem_cons_zero, List.getElem_cons_succ, List.setIfInBounds_toArray, List.set_cons_zero, List.set_cons_succ]
        refine held2 (i := 5) (j := 9) rfl rfl (by kernel_rfl) ?_ ?_
        · apply hstep_call (HPA.out _ (HE.out.below H4.out.bel)) H4.out (fun _ h => h)
          case hg => rfl
          case ho => rfl
          case hf => exact Tryz.func53
          case hn => kernel_rfl
          case hb => kernel_rfl
          case ha => kernel_rfl
          intro w4_5 h4_5; have H4_5 := Lib.hid h4_5; clear h4_5
          try simp only [Act.put, List.getElem_toArray, List.getElem_cons_zero, List.getElem_cons_succ, List.setIfInBounds_toArray, List.set_cons_zero, List.set_cons_succ]
          have hS : St w0 w4_5 (As.cells b0 #[vS dn, .int .i64 dk, .int .i64 dm, vS dw, .bool di] 70 :: As.mp 70 kl (fun x : Bool => Value.bool x) DOk kb n lk :: L) := H4_5.out
          refine' wpAnyH_take (i := 6) (v := .tuple #[.agg #[.int .i64 pk, .int .i64 pn, vS pw], .int .i64 pe]) rfl (by kernel_rfl) (by kernel_rfl) (by kernel_rfl) (fun _ _ _ h => h) (Or.inl ⟨by rfl, ?hy4_56⟩) hS ?rest4_56
          case hy4_56 => (intro w' hSw; have k0 := hSw.cell 0; have k1 := hSw.cell 1; have k2 := hSw.cell 2; have k3 := hSw.cell 3; have k4 := hSw.cell 4; simp at k0 k1 k2 k3 k4; go_simp; try with_reducible rfl)
          try simp only [Act.put, List.getElem_toArray, List.getElem_cons_zero, List.getElem_cons_succ, List.setIfInBounds_toArray, List.set_cons_zero, List.set_cons_succ]
          refine' wpAnyH_take (i := 7) (v := .agg #[.int .i64 pk, .int .i64 pn, vS pw]) rfl (by kernel_rfl) (by kernel_rfl) (by kernel_rfl) (fun _ _ _ h => h) (Or.inl ⟨by rfl, ?hy4_57⟩) hS ?rest4_57
          case hy4_57 => (intro w' hSw; have k0 := hSw.cell 0; have k1 := hSw.cell 1; have k2 := hSw.cell 2; have k3 := hSw.cell 3; have k4 := hSw.cell 4; simp at k0 k1 k2 k3 k4; go_simp; try with_reducible rfl)
          try simp only [Act.put, List.getElem_toArray, List.getElem_cons_zero, List.getElem_cons_succ, List.setIfInBounds_toArray, List.set_cons_zero, List.set_cons_succ]
          refine' wpAnyH_take (i := 8) (v := .int .i64 pe) rfl (by kernel_rfl) (by kernel_rfl) (by kernel_rfl) (fun _ _ _ h => h) (Or.inl ⟨by rfl, ?hy4_58⟩) hS ?rest4_58
          case hy4_58 => (intro w' hSw; have k0 := hSw.cell 0; have k1 := hSw.cell 1; have k2 := hSw.cell 2; have k3 := hSw.cell 3; have k4 := hSw.cell 4; simp at k0 k1 k2 k3 k4; go_simp; try with_reducible rfl)
          try simp only [Act.put, List.getElem_toArray, List.getElem_cons_zero, List.getElem_cons_succ, List.setIfInBounds_toArray, List.set_cons_zero, List.set_cons_succ]
          clear hS
          try simp only [Act.put, List.getElem_toArray, List.getElem_cons_zero, List.getElem_cons_succ, List.setIfInBounds_toArray, List.set_cons_zero, List.set_cons_succ]
          refine held1 (i := 9) rfl (by kernel_rfl) ?_
          apply hstep_alloc (z := .agg #[.int .i64 0, .int .i64 0, .string ⟨#[]⟩]) H4_5.out (fun _ _ h => h.drop)
          case hg => rfl
          case ho => rfl
          case hz => kernel_rfl
          intro b9 w4_5_9 h4_5_9; have H4_5_9 := Lib.hid h4_5_9; clear h4_5_9
          try simp only [Act.put, List.getElem_toArray, List.getElem_cons_zero, List.getElem_cons_succ, List.setIfInBounds_toArray, List.set_cons_zero, List.set_cons_succ]
          refine held1 (i := 10) rfl (by kernel_rfl) ?_
          apply hstep_store (vs := #[.int .i64 pk, .int .i64 pn, vS pw]) H4_5_9.out (fun _ h => h.drop)
          case hg => rfl
          case ho => rfl
          case hx => kernel_rfl
          case hy => kernel_rfl
          case hcs => kernel_rfl
          case ht => kernel_rfl
          case h1 => kernel_rfl
          intro w4_5_9_10 h4_5_9_10; have H4_5_9_10 := Lib.hid h4_5_9_10; clear h4_5_9_10
          try simp only [Act.put, List.getElem_toArray, List.getElem_cons_zero, List.getElem_cons_succ, List.setIfInBounds_toArray, List.set_cons_zero, List.set_cons_succ]
          have hS : St w0 w4_5_9_10 (As.cells b0 #[vS dn, .int .i64 dk, .int .i64 dm, vS dw, .bool di] 70 :: As.mp 70 kl (fun x : Bool => Value.bool x) DOk kb n lk :: L) := H4_5_9_10.out.drop
          refine' wpAnyH_take (i := 11) (v := .int .i64 pe) rfl (by kernel_rfl) (by kernel_rfl) (by kernel_rfl) (fun _ _ _ h => h) (Or.inl ⟨by rfl, ?hy4_5_9_1011⟩) hS ?rest4_5_9_1011
          case hy4_5_9_1011 => (intro w' hSw; have k0 := hSw.cell 0; have k1 := hSw.cell 1; have k2 := hSw.cell 2; have k3 := hSw.cell 3; have k4 := hSw.cell 4; simp at k0 k1 k2 k3 k4; go_simp; try with_reducible rfl)
          try simp only [Act.put, List.getElem_toArray, List.getElem_cons_zero, List.getElem_cons_succ, List.setIfInBounds_toArray, List.set_cons_zero, List.set_cons_succ]
          clear hS
          try simp only [Act.put, List.getElem_toArray, List.getElem_cons_zero, List.getElem_cons_succ, List.setIfInBounds_toArray, List.set_cons_zero, List.set_cons_succ]
          refine wpAnyH_done (by kernel_rfl) ?_ _
          exact fin _ _ H4_5_9_10.out
        · apply hstep_alloc (z := .agg #[.int .i64 0, .int .i64 0, .string ⟨#[]⟩]) H4.out (fun _ _ h => h.drop)
          case hg => rfl
          case ho => rfl
          case hz => kernel_rfl
          intro b9 w4_9 h4_9; have H4_9 := Lib.hid h4_9; clear h4_9
          try simp only [Act.put, List.getElem_toArray, List.getElem_cons_zero, List.getElem_cons_succ, List.setIfInBounds_toArray, List.set_cons_zero, List.set_cons_succ]
          refine held1 (i := 5) rfl (by kernel_rfl) ?_
          apply hstep_call (HPA.out _ (HE.out.below H4_9.out.bel)) H4_9.out (fun _ h => h.drop)
          case hg => rfl
          case ho => rfl
          case hf => exact Tryz.func53
          case hn => kernel_rfl
          case hb => kernel_rfl
          case ha => kernel_rfl
          intro w4_9_5 h4_9_5; have H4_9_5 := Lib.hid h4_9_5; clear h4_9_5
          try simp only [Act.put, List.getElem_toArray, List.getElem_cons_zero, List.getElem_cons_succ, List.setIfInBounds_toArray, List.set_cons_zero, List.set_cons_succ]
          have hS : St w0 w4_9_5 (As.cells b0 #[vS dn, .int .i64 dk, .int .i64 dm, vS dw, .bool di] 70 :: As.mp 70 kl (fun x : Bool => Value.bool x) DOk kb n lk :: L) := H4_9_5.out.drop
          refine' wpAnyH_take (i := 6) (v := .tuple #[.agg #[.int .i64 pk, .int .i64 pn, vS pw], .int .i64 pe]) rfl (by kernel_rfl) (by kernel_rfl) (by kernel_rfl) (fun _ _ _ h => h) (Or.inl ⟨by rfl, ?hy4_9_56⟩) hS ?rest4_9_56
          case hy4_9_56 => (intro w' hSw; have k0 := hSw.cell 0; have k1 := hSw.cell 1; have k2 := hSw.cell 2; have k3 := hSw.cell 3; have k4 := hSw.cell 4; simp at k0 k1 k2 k3 k4; go_simp; try with_reducible rfl)
          try simp only [Act.put, List.getElem_toArray, List.getElem_cons_zero, List.getElem_cons_succ, List.setIfInBounds_toArray, List.set_cons_zero, List.set_cons_succ]
          refine' wpAnyH_take (i := 7) (v := .agg #[.int .i64 pk, .int .i64 pn, vS pw]) rfl (by kernel_rfl) (by kernel_rfl) (by kernel_rfl) (fun _ _ _ h => h) (Or.inl ⟨by rfl, ?hy4_9_57⟩) hS ?rest4_9_57
          case hy4_9_57 => (intro w' hSw; have k0 := hSw.cell 0; have k1 := hSw.cell 1; have k2 := hSw.cell 2; have k3 := hSw.cell 3; have k4 := hSw.cell 4; simp at k0 k1 k2 k3 k4; go_simp; try with_reducible rfl)
          try simp only [Act.put, List.getElem_toArray, List.getElem_cons_zero, List.getElem_cons_succ, List.setIfInBounds_toArray, List.set_cons_zero, List.set_cons_succ]
          refine' wpAnyH_take (i := 8) (v := .int .i64 pe) rfl (by kernel_rfl) (by kernel_rfl) (by kernel_rfl) (fun _ _ _ h => h) (Or.inl ⟨by rfl, ?hy4_9_58⟩) hS ?rest4_9_58
          case hy4_9_58 => (intro w' hSw; have k0 := hSw.cell 0; have k1 := hSw.cell 1; have k2 := hSw.cell 2; have k3 := hSw.cell 3; have k4 := hSw.cell 4; simp at k0 k1 k2 k3 k4; go_simp; try with_reducible rfl)
          try simp only [Act.put, List.getElem_toArray, List.getElem_cons_zero, List.getElem_cons_succ, List.setIfInBounds_toArray, List.set_cons_zero, List.set_cons_succ]
          clear hS
          try simp only [Act.put, List.getElem_toArray, List.getElem_cons_zero, List.getElem_cons_succ, List.setIfInBounds_toArray, List.set_cons_zero, List.set_cons_succ]
          refine held1 (i := 10) rfl (by kernel_rfl) ?_
          apply hstep_store (vs := #[.int .i64 pk, .int .i64 pn, vS pw]) H4_9_5.out (fun _ h => h.drop)
          case hg => rfl
          case ho => rfl
          case hx => kernel_rfl
          case hy => kernel_rfl
          case hcs => kernel_rfl
          case ht => kernel_rfl
          case h1 => kernel_rfl
          intro w4_9_5_10 h4_9_5_10; have H4_9_5_10 := Lib.hid h4_9_5_10; clear h4_9_5_10
          try simp only [Act.put, List.getElem_toArray, List.getElem_cons_zero, List.getElem_cons_succ, List.setIfInBounds_toArray, List.set_cons_zero, List.set_cons_succ]
          have hS : St w0 w4_9_5_10 (As.cells b0 #[vS dn, .int .i64 dk, .int .i64 dm, vS dw, .bool di] 70 :: As.mp 70 kl (fun x : Bool => Value.bool x) DOk kb n lk :: L) := H4_9_5_10.out.drop
          refine' wpAnyH_take (i := 11) (v := .int .i64 pe) rfl (by kernel_rfl) (by kernel_rfl) (by kernel_rfl) (fun _ _ _ h => h) (Or.inl ⟨by rfl, ?hy4_9_5_1011⟩) hS ?rest4_9_5_1011
          case hy4_9_5_1011 => (intro w' hSw; have k0 := hSw.cell 0; have k1 := hSw.cell 1; have k2 := hSw.cell 2; have k3 := hSw.cell 3; have k4 := hSw.cell 4; simp at k0 k1 k2 k3 k4; go_simp; try with_reducible rfl)
          try simp only [Act.put, List.getElem_toArray, List.getElem_cons_zero, List.getElem_cons_succ, List.setIfInBounds_toArray, List.set_cons_zero, List.set_cons_succ]
          clear hS
          try simp only [Act.put, List.getElem_toArray, List.getElem_cons_zero, List.getElem_cons_succ, List.setIfInBounds_toArray, List.set_cons_zero, List.set_cons_succ]
          refine wpAnyH_done (by kernel_rfl) ?_ _
          exact fin _ _ H4_9_5_10.out
      · apply hstep_alloc (z := .agg #[.int .i64 0, .int .i64 0, .string ⟨#[]⟩]) H.out (fun _ _ h => h.drop)
        case hg => rfl
        case ho => rfl
        case hz => kernel_rfl
        intro b9 w9 h9; have H9 := Lib.hid h9; clear h9
        try simp only [Act.put, List.getElem_toArray, List.getElem_cons_zero, List.getElem_cons_succ, List.setIfInBounds_toArray, List.set_cons_zero, List.set_cons_succ]
        refine held1 (i := 4) rfl (by kernel_rfl) ?_
        apply hstep_call (HFM.out _ (HE.out.below H9.out.bel)) H9.out (fun _ h => h.drop)
        case hg => rfl
        case ho => rfl
        case hf => exact Tryz.func54
        case hn => kernel_rfl
        case hb => kernel_rfl
        case ha => kernel_rfl
        intro w9_4 h9_4; have H9_4 := Lib.hid h9_4; clear h9_4
        try simp only [Act.put, List.getElem_toArray, List.getElem_cons_zero, List.getElem_cons_succ, List.setIfInBounds_toArray, List.set_cons_zero, List.set_cons_succ]
        refine held1 (i := 5) rfl (by kernel_rfl) ?_
        apply hstep_call (HPA.out _ (HE.out.below H9_4.out.bel)) H9_4.out (fun _ h => h.drop)
        case hg => rfl
        case ho => rfl
        case hf => exact Tryz.func53
        case hn => kernel_rfl
        case hb => kernel_rfl
        case ha => kernel_rfl
        intro w9_4_5 h9_4_5; have H9_4_5 := Lib.hid h9_4_5; clear h9_4_5
        try simp only [Act.put, List.getElem_toArray, List.getElem_cons_zero, List.getElem_cons_succ, List.setIfInBounds_toArray, List.set_cons_zero, List.set_cons_succ]
        have hS : St w0 w9_4_5 (As.cells b0 #[vS dn, .int .i64 dk, .int .i64 dm, vS dw, .bool di] 70 :: As.mp 70 kl (fun x : Bool => Value.bool x) DOk kb n lk :: L) := H9_4_5.out.drop
        refine' wpAnyH_take (i := 6) (v := .tuple #[.agg #[.int .i64 pk, .int .i64 pn, vS pw], .int .i64 pe]) rfl (by kernel_rfl) (by kernel_rfl) (by kernel_rfl) (fun _ _ _ h => h) (Or.inl ⟨by rfl, ?hy9_4_56⟩) hS ?rest9_4_56
        case hy9_4_56 => (intro w' hSw; have k0 := hSw.cell 0; have k1 := hSw.cell 1; have k2 := hSw.cell 2; have k3 := hSw.cell 3; have k4 := hSw.cell 4; simp at k0 k1 k2 k3 k4; go_simp; try with_reducible rfl)
        try simp only [Act.put, List.getElem_toArray, List.getElem_cons_zero, List.getElem_cons_succ, List.setIfInBounds_toArray, List.set_cons_zero, List.set_cons_succ]
        refine' wpAnyH_take (i := 7) (v := .agg #[.int .i64 pk, .int .i64 pn, vS pw]) rfl (by kernel_rfl) (by kernel_rfl) (by kernel_rfl) (fun _ _ _ h => h) (Or.inl ⟨by rfl, ?hy9_4_57⟩) hS ?rest9_4_57
        case hy9_4_57 => (intro w' hSw; have k0 := hSw.cell 0; have k1 := hSw.cell 1; have k2 := hSw.cell 2; have k3 := hSw.cell 3; have k4 := hSw.cell 4; simp at k0 k1 k2 k3 k4; go_simp; try with_reducible rfl)
        try simp only [Act.put, List.getElem_toArray, List.getElem_cons_zero, List.getElem_cons_succ, List.setIfInBounds_toArray, List.set_cons_zero, List.set_cons_succ]
        refine' wpAnyH_take (i := 8) (v := .int .i64 pe) rfl (by kernel_rfl) (by kernel_rfl) (by kernel_rfl) (fun _ _ _ h => h) (Or.inl ⟨by rfl, ?hy9_4_58⟩) hS ?rest9_4_58
        case hy9_4_58 => (intro w' hSw; have k0 := hSw.cell 0; have k1 := hSw.cell 1; have k2 := hSw.cell 2; have k3 := hSw.cell 3; have k4 := hSw.cell 4; simp at k0 k1 k2 k3 k4; go_simp; try with_reducible rfl)
        try simp only [Act.put, List.getElem_toArray, List.getElem_cons_zero, List.getElem_cons_succ, List.setIfInBounds_toArray, List.set_cons_zero, List.set_cons_succ]
        clear hS
        try simp only [Act.put, List.getElem_toArray, List.getElem_cons_zero, List.getElem_cons_succ, List.setIfInBounds_toArray, List.set_cons_zero, List.set_cons_succ]
        refine held1 (i := 10) rfl (by kernel_rfl) ?_
        apply hstep_store (vs := #[.int .i64 pk, .int .i64 pn, vS pw]) H9_4_5.out (fun _ h => h.drop)
        case hg => rfl
        case ho => rfl
        case hx => kernel_rfl
        case hy => kernel_rfl
        case hcs => kernel_rfl
        case ht => kernel_rfl
        case h1 => kernel_rfl
        intro w9_4_5_10 h9_4_5_10; have H9_4_5_10 := Lib.hid h9_4_5_10; clear h9_4_5_10
        try simp only [Act.put, List.getElem_toArray, List.getElem_cons_zero, List.getElem_cons_succ, List.setIfInBounds_toArray, List.set_cons_zero, List.set_cons_succ]
        have hS : St w0 w9_4_5_10 (As.cells b0 #[vS dn, .int .i64 dk, .int .i64 dm, vS dw, .bool di] 70 :: As.mp 70 kl (fun x : Bool => Value.bool x) DOk kb n lk :: L) := H9_4_5_10.out.drop
        refine' wpAnyH_take (i := 11) (v := .int .i64 pe) rfl (by kernel_rfl) (by kernel_rfl) (by kernel_rfl) (fun _ _ _ h => h) (Or.inl ⟨by rfl, ?hy9_4_5_1011⟩) hS ?rest9_4_5_1011
        case hy9_4_5_1011 => (intro w' hSw; have k0 := hSw.cell 0; have k1 := hSw.cell 1; have k2 := hSw.cell 2; have k3 := hSw.cell 3; have k4 := hSw.cell 4; simp at k0 k1 k2 k3 k4; go_simp; try with_reducible rfl)
        try simp only [Act.put, List.getElem_toArray, List.getElem_cons_zero, List.getElem_cons_succ, List.setIfInBounds_toArray, List.set_cons_zero, List.set_cons_succ]
        clear hS
        try simp only [Act.put, List.getElem_toArray, List.getElem_cons_zero, List.getElem_cons_succ, List.setIfInBounds_toArray, List.set_cons_zero, List.set_cons_succ]
        refine wpAnyH_done (by kernel_rfl) ?_ _
        exact fin _ _ H9_4_5_10.out
    case' fin =>
      intro W3 b9 hW
      have H3 := Lib.hid hW
      clear hW H
    obtain ⟨D, ho, hmi⟩ := St.mpI H3.out (.tail _ (.tail _ (.head _)))
    have HO := Lib.hid ho
    have HMI := Lib.hid hmi
    clear ho hmi
    have e0 := H3.out.cell 0
    have e1 := H3.out.cell 1
    have e2 := H3.out.cell 2
    have c0 := H3.out.swap.cell 0
    have c1 := H3.out.swap.cell 1
    have c2 := H3.out.swap.cell 2
    have c3 := H3.out.swap.cell 3
    have c4 := H3.out.swap.cell 4
    simp at c0 c1 c2 c3 c4 e0 e1 e2
    by_cases hpe : pe = 0
    · subst hpe
      obtain ⟨r, hr⟩ : ∃ r, decide ((⟨pk, pn, pw⟩ : Va) = ⟨dk, dm, dw⟩) = r := ⟨_, rfl⟩
      have heq := HEQ.out
      rw [hr] at heq
      have hRr := HR.out
      rw [hr] at hRr
      obtain rfl : r = R := by simpa using hRr
      clear hr hRr
      go_wp2_with (first
        | (at_mapUpdate; refine wpList_mapUpdate_own _ rfl _ _ _ 47 rfl 70 4 key70T Tryz.underlying47 heldR kb n D rfl HO.out (by unfold maxLen; omega) (.agg #[vS dn, .int .i64 dk, .int .i64 dm, vS dw, .bool di]) (.bool r) (kl ⟨dn, ⟨dk, dm, dw⟩, di⟩) rfl rfl HKEY.out (.held (.bool r)) [] rfl ?_; intro w5 ho5 hg5)
        | fail)
      have H5 := (mp_put (St.sh [_, _, _] [2, 0, 1] (by decide) H3.out) hg5 (HPUT.out w5 D r HMI.out HO.out.isMap ho5)).swap.drop.swap.drop
      exact bodyPost_ret (results_tmp Tryz.results27 _ _ _) rfl ⟨rfl, n + 1, Nat.le_refl _, H5.shut_ex ⟨_, HKNEW.out⟩⟩
    · have hpb : (pe == 0) = false := by simpa using hpe
      obtain rfl : false = R := by have := HR.out; simpa [hpe] using this
      go_wp2_with (first
        | (at_mapUpdate; refine wpList_mapUpdate_own _ rfl _ _ _ 47 rfl 70 4 key70T Tryz.underlying47 heldR kb n D rfl HO.out (by unfold maxLen; omega) (.agg #[vS dn, .int .i64 dk, .int .i64 dm, vS dw, .bool di]) (.bool false) (kl ⟨dn, ⟨dk, dm, dw⟩, di⟩) rfl rfl HKEY.out (.held (.bool false)) [] rfl ?_; intro w5 ho5 hg5)
        | fail)
      have H5 := (mp_put (St.sh [_, _, _] [2, 0, 1] (by decide) H3.out) hg5 (HPUT.out w5 D false HMI.out HO.out.isMap ho5)).swap.drop.swap.drop
      exact bodyPost_ret (results_tmp Tryz.results27 _ _ _) rfl ⟨rfl, n + 1, Nat.le_refl _, H5.shut_ex ⟨_, HKNEW.out⟩⟩
end Go.Proofs.YtldembadjgibjaaGreatDoor
