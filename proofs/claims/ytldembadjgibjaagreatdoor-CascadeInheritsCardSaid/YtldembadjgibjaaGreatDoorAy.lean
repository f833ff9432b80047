/-
  Cascade: get of the computer.
-/
import Derived.Test.YtldembadjgibjaaGreatDoorAx
set_option linter.unusedVariables false
set_option linter.unusedSimpArgs false
namespace Go.Proofs.YtldembadjgibjaaGreatDoor
open Go.RowKit Go.K Go.PlainAid Go.Lib Go.Maps Go.WideMaps

abbrev Lk := List UInt8 → Option Va
abbrev sK : List UInt8 → Lit := fun s => .string s
abbrev vV : Va → Value := fun v => .agg v.cells
abbrev sOk : List UInt8 → Prop := fun s => s.length ≤ 100000
/-- what a property is, and what is demanded: 0 nothing, 1 inherit, 2 initial, 3 a value -/
def getM (lk : Lk) (s : List UInt8) : Va × Int := match lk s with
  | none => (⟨0, 0, []⟩, 0)
  | some v => (v, if v.kd = 1 ∧ v.wd = inheritL then 1 else if v.kd = 1 ∧ v.wd = initialL then 2 else 3)
/-- the computer -/
structure Comp (w : World) (bc bm n : Nat) (sz : Int) (lk : Lk) : Prop where
  blk : Blk w bc #[.map (some bm), .int .i64 sz] 66
  map : MIs 9 sK vV sOk bm n lk w
theorem MIs.below {k : TypeId} {α β : Type} {kf : α → Lit} {vf : β → Value} {ok : α → Prop} {b n : Nat} {lk : α → Option β} {w w' : World} (h : MIs k kf vf ok b n lk w) (hb : Below w.heap.size w w') : MIs k kf vf ok b n lk w' := by
  obtain ⟨D, ho, hl⟩ := h
  have hlt := ho.lt
  obtain ⟨es, clock, h1, r⟩ := ho
  exact ⟨D, ⟨es, clock, (hb.block b hlt).trans h1, r⟩, hl⟩
theorem Comp.below {w w' : World} {bc bm n : Nat} {sz : Int} {lk : Lk} (h : Comp w bc bm n sz lk) (hb : Below w.heap.size w w') : Comp w' bc bm n sz lk := ⟨h.blk.kept (Fr.of_below hb) (fun q => q), h.map.below hb⟩
theorem look_str {b n : Nat} {lk : Lk} {w : World} (h : ∃ D : DataW Value, w.ownsMap Tryz.prog 9 heldR b n D ∧ LkOf sK vV sOk lk D) (s : List UInt8) (hs : s.length ≤ 100000) :
    (Instr.lookup 64 (.map (some b)) (.string (S s)) true).run Tryz.prog w = .ok (.tuple #[.agg ((lk s).getD ⟨0, 0, []⟩).cells, .bool (lk s).isSome]) w := by
  obtain ⟨D, ho, hl⟩ := h
  have hkey := keyOf_string_mk (P := Tryz.prog) Tryz.underlying9 (s := S s) (by rw [S_size]; unfold maxLen; omega)
  obtain ⟨v, ps, hrun, hv⟩ := ho.look_ok key9T Tryz.underlying64 (Tryz.zeroValue68 w) (zd := .held (.agg #[.int .i64 0, .int .i64 0, .string ⟨#[]⟩])) (zp := []) rfl hkey
  rw [S_list] at hrun hv
  have := hl s hs
  cases e : lk s with
  | none =>
    rw [e] at this
    simp only at this
    rw [hrun, this]
    rw [Maps.atKey_of_not_has this] at hv
    simp only [heldR, Option.some.injEq, Prod.mk.injEq, DataW.held.injEq] at hv
    rw [hv.1]
    rfl
  | some x =>
    rw [e] at this
    simp only at this
    rw [hrun, this.1]
    rw [this.2] at hv
    simp only [heldR, Option.some.injEq, Prod.mk.injEq, DataW.held.injEq] at hv
    rw [hv.1]
    rfl
set_option maxRecDepth 100000 in
set_option maxHeartbeats 4000000 in
theorem get_any {w : World} {bc bm n : Nat} {sz : Int} {lk : Lk} (C : Comp w bc bm n sz lk) (s : List UInt8) (hs : s.length ≤ 100000) :
    Calls Tryz.prog 34 #[.pointer (some ⟨bc, 0, none⟩), .string (S s)] w fun e w' => e = .returned (.tuple #[.agg (getM lk s).1.cells, .int .i64 (getM lk s).2]) ∧ Below w.heap.size w w' := by
  obtain ⟨⟨gv, gh⟩, hG⟩ : ∃ g, getM lk s = g := ⟨_, rfl⟩
  rw [hG]
  unfold getM at hG
  have hlook := fun (w : World) h => look_str (b := bm) (n := n) (lk := lk) (w := w) h s hs
  have HC := Lib.hid (C.below ((Below.refl _ _).alloc (Nat.le_refl _) (.cells #[.int .i64 0, .int .i64 0, .string ⟨#[]⟩] 68)))
  have hrun := hlook _ HC.out.map
  have H0 := Lib.hid ((St.start w (Below.refl _ w)).new #[.int .i64 0, .int .i64 0, .string ⟨#[]⟩] 68)
  have c0 := HC.out.blk.cell 0
  simp at c0
  clear hlook C
  cases hl : lk s with
  | none =>
    rw [hl] at hG hrun
    simp only [Option.getD_none, Option.isSome_none, Va.cells] at hrun
    obtain ⟨rfl, rfl⟩ := Prod.mk.inj hG
    have HRUN := Lib.hid hrun
    clear hrun hG hl
    go_enter Tryz.func34, Tryz.ntmps34
    go_wp2_with (first
      | (at_lookup; refine wpl_lookup _ rfl _ _ 64 rfl (.map (some bm)) (.string (S s)) _ rfl rfl HRUN.out ?_)
      | fail)
    have H9 := Lib.hid (((St.start w (Below.refl _ w)).new #[.int .i64 0, .int .i64 0, .string (S [])] 68).alloc (.cells #[.int .i64 0, .int .i64 0, .string (S [])] 68))
    obtain ⟨w9, e9⟩ : ∃ z, (w.alloc (.cells #[.int .i64 0, .int .i64 0, .string (S [])] 68)).alloc (.cells #[.int .i64 0, .int .i64 0, .string (S [])] 68) = z := ⟨_, rfl⟩
    rw [e9] at H9
    rw [e9]
    have z0 := H9.out.cell 0
    have z1 := H9.out.cell 1
    have z2 := H9.out.cell 2
    simp at z0 z1 z2
    refine bodyPost_ret (v := .tuple #[.agg #[.int .i64 0, .int .i64 0, .string (S [])], .int .i64 0]) (by simp [results, Tryz.results34, go_sem, z0, z1, z2]) rfl ⟨by simp [Va.cells], H9.out.bel⟩
  | some v =>
    rw [hl] at hG hrun
    simp only [Option.getD_some, Option.isSome_some] at hrun
    obtain ⟨vk, vn, vw⟩ := v
    simp only [Va.cells] at hrun
    have HRUN := Lib.hid hrun
    clear hrun hl
    simp only at hG
    by_cases hk : vk = 1
    · subst hk
      by_cases h1 : vw = inheritL
      · subst h1
        obtain ⟨rfl, rfl⟩ : gv = ⟨1, vn, inheritL⟩ ∧ gh = 1 := by
          obtain ⟨q1, q2⟩ := Prod.mk.inj hG
          exact ⟨q1.symm, by rw [← q2]; simp⟩
        clear hG
        go_enter Tryz.func34, Tryz.ntmps34
        go_wp2_with (first
          | (at_lookup; refine wpl_lookup _ rfl _ _ 64 rfl (.map (some bm)) (.string (S s)) _ rfl rfl HRUN.out ?_)
          | fail)
        have H9 := Lib.hid (((St.start w (Below.refl _ w)).new #[.int .i64 1, .int .i64 vn, .string (S inheritL)] 68).alloc (.cells #[.int .i64 1, .int .i64 vn, .string (S inheritL)] 68))
        obtain ⟨w9, e9⟩ : ∃ z, (w.alloc (.cells #[.int .i64 1, .int .i64 vn, .string (S inheritL)] 68)).alloc (.cells #[.int .i64 1, .int .i64 vn, .string (S inheritL)] 68) = z := ⟨_, rfl⟩
        rw [e9] at H9
        rw [e9]
        have z0 := H9.out.cell 0
        have z1 := H9.out.cell 1
        have z2 := H9.out.cell 2
        simp at z0 z1 z2
        refine bodyPost_ret (v := .tuple #[.agg #[.int .i64 1, .int .i64 vn, .string (S inheritL)], .int .i64 1]) (by simp [results, Tryz.results34, go_sem, z0, z1, z2]) rfl ⟨by simp [Va.cells], H9.out.bel⟩
      · have b1 := l_beq h1
        by_cases h2 : vw = initialL
        · subst h2
          obtain ⟨rfl, rfl⟩ : gv = ⟨1, vn, initialL⟩ ∧ gh = 2 := by
            obtain ⟨q1, q2⟩ := Prod.mk.inj hG
            exact ⟨q1.symm, by rw [← q2]; simp⟩
          clear hG
          go_enter Tryz.func34, Tryz.ntmps34
          go_wp2_with (first
            | (at_lookup; refine wpl_lookup _ rfl _ _ 64 rfl (.map (some bm)) (.string (S s)) _ rfl rfl HRUN.out ?_)
            | fail)
          have H9 := Lib.hid (((St.start w (Below.refl _ w)).new #[.int .i64 1, .int .i64 vn, .string (S initialL)] 68).alloc (.cells #[.int .i64 1, .int .i64 vn, .string (S initialL)] 68))
          obtain ⟨w9, e9⟩ : ∃ z, (w.alloc (.cells #[.int .i64 1, .int .i64 vn, .string (S initialL)] 68)).alloc (.cells #[.int .i64 1, .int .i64 vn, .string (S initialL)] 68) = z := ⟨_, rfl⟩
          rw [e9] at H9
          rw [e9]
          have z0 := H9.out.cell 0
          have z1 := H9.out.cell 1
          have z2 := H9.out.cell 2
          simp at z0 z1 z2
          refine bodyPost_ret (v := .tuple #[.agg #[.int .i64 1, .int .i64 vn, .string (S initialL)], .int .i64 2]) (by simp [results, Tryz.results34, go_sem, z0, z1, z2]) rfl ⟨by simp [Va.cells], H9.out.bel⟩
        · have b2 := l_beq h2
          obtain ⟨rfl, rfl⟩ : gv = ⟨1, vn, vw⟩ ∧ gh = 3 := by
            obtain ⟨q1, q2⟩ := Prod.mk.inj hG
            exact ⟨q1.symm, by rw [← q2]; simp [h1, h2]⟩
          clear hG
          clear h1 h2
          go_enter Tryz.func34, Tryz.ntmps34
          go_wp2_with (first
            | (at_lookup; refine wpl_lookup _ rfl _ _ 64 rfl (.map (some bm)) (.string (S s)) _ rfl rfl HRUN.out ?_)
            | fail)
          have H9 := Lib.hid (((St.start w (Below.refl _ w)).new #[.int .i64 1, .int .i64 vn, .string (S vw)] 68).alloc (.cells #[.int .i64 1, .int .i64 vn, .string (S vw)] 68))
          obtain ⟨w9, e9⟩ : ∃ z, (w.alloc (.cells #[.int .i64 1, .int .i64 vn, .string (S vw)] 68)).alloc (.cells #[.int .i64 1, .int .i64 vn, .string (S vw)] 68) = z := ⟨_, rfl⟩
          rw [e9] at H9
          rw [e9]
          have z0 := H9.out.cell 0
          have z1 := H9.out.cell 1
          have z2 := H9.out.cell 2
          simp at z0 z1 z2
          refine bodyPost_ret (v := .tuple #[.agg #[.int .i64 1, .int .i64 vn, .string (S vw)], .int .i64 3]) (by simp [results, Tryz.results34, go_sem, z0, z1, z2]) rfl ⟨by simp [Va.cells], H9.out.bel⟩
    · have bk : (vk == 1) = false := by rw [beq_eq_false_iff_ne]; exact hk
      obtain ⟨rfl, rfl⟩ : gv = ⟨vk, vn, vw⟩ ∧ gh = 3 := by
        obtain ⟨q1, q2⟩ := Prod.mk.inj hG
        exact ⟨q1.symm, by rw [← q2]; simp [hk]⟩
      clear hG
      go_enter Tryz.func34, Tryz.ntmps34
      go_wp2_with (first
        | (at_lookup; refine wpl_lookup _ rfl _ _ 64 rfl (.map (some bm)) (.string (S s)) _ rfl rfl HRUN.out ?_)
        | fail)
      have H9 := Lib.hid (((St.start w (Below.refl _ w)).new #[.int .i64 vk, .int .i64 vn, .string (S vw)] 68).alloc (.cells #[.int .i64 vk, .int .i64 vn, .string (S vw)] 68))
      obtain ⟨w9, e9⟩ : ∃ z, (w.alloc (.cells #[.int .i64 vk, .int .i64 vn, .string (S vw)] 68)).alloc (.cells #[.int .i64 vk, .int .i64 vn, .string (S vw)] 68) = z := ⟨_, rfl⟩
      rw [e9] at H9
      rw [e9]
      have z0 := H9.out.cell 0
      have z1 := H9.out.cell 1
      have z2 := H9.out.cell 2
      simp at z0 z1 z2
      refine bodyPost_ret (v := .tuple #[.agg #[.int .i64 vk, .int .i64 vn, .string (S vw)], .int .i64 3]) (by simp [results, Tryz.results34, go_sem, z0, z1, z2]) rfl ⟨by simp [Va.cells], H9.out.bel⟩
end Go.Proofs.YtldembadjgibjaaGreatDoor
