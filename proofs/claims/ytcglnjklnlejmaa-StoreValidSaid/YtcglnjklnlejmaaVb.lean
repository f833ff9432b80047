/-
  store.Valid.
-/
import Derived.Test.YtcglnjklnlejmaaVa
set_option linter.unusedVariables false
set_option linter.unusedSimpArgs false
namespace Go.Proofs.Ytcglnjklnlejmaa
open Go.RowKit Go.K Go.K.Sr

theorem VS.no1 {P : List Pr} {T : List Gt} {nx : Int} (h : ¬ Asc Pr.k P) : ¬ VS P T nx := fun q => h q.1
def BPost (V : Prop) (w : World) (e : Ending) (w' : World) : Prop := ∃ b : Bool, e = .returned (.bool b) ∧ (b = true ↔ V) ∧ Below w.heap.size w w'
theorem bp_no {V : Prop} {w w' : World} (h : ¬ V) (hb : Below w.heap.size w w') : BPost V w (.returned (.bool false)) w' := ⟨false, rfl, ⟨fun q => (by cases q), fun q => absurd q h⟩, hb⟩
theorem bp_yes {V : Prop} {w w' : World} (h : V) (hb : Below w.heap.size w w') : BPost V w (.returned (.bool true)) w' := ⟨true, rfl, ⟨fun _ => h, fun _ => rfl⟩, hb⟩
theorem gy_at {T : List Gt} {k : Nat} (hk : k < T.length) (x : Gt) (hx : T[k] = x) : (T.map gy)[k]'(by rw [List.length_map]; exact hk) = (x.t, .slice x.s x.l.length x.c) := by rw [List.getElem_map, hx]; rfl
theorem VS.noT {P : List Pr} {T : List Gt} {nx : Int} (h : foldT T = none) : ¬ VS P T nx := fun q => by obtain ⟨-, last, h2, -⟩ := q; rw [h] at h2; cases h2
theorem step_bad1 {i : Nat} {last : Int} {x : Gt} (h : x.t.id ≤ last) : stepT (some (i, last)) x = none := by simp only [stepT]; rw [if_pos (.inl h)]
theorem step_bad2 {i : Nat} {last : Int} {x : Gt} (h : 0 < x.l.length) (h2 : 0 < i ∨ x.t.wr = false) : stepT (some (i, last)) x = none := by
  simp only [stepT]
  rw [if_pos (.inr ⟨fun e => by rw [e] at h; simp at h, h2⟩)]
theorem step_ok {i : Nat} {last : Int} {x : Gt} (h : ¬ x.t.id ≤ last) (h2 : x.l.length = 0 ∨ (i = 0 ∧ x.t.wr = true)) : stepT (some (i, last)) x = some (i + 1, x.t.id) := by
  simp only [stepT]
  rw [if_neg]
  rintro (q | ⟨q1, q2⟩)
  · exact h q
  · rcases h2 with r | ⟨r1, r2⟩
    · exact q1 (List.length_eq_zero_iff.1 r)
    · rcases q2 with q | q
      · omega
      · rw [r2] at q; cases q
theorem VS.spec {P : List Pr} {T : List Gt} {nx : Int} {i : Nat} {last : Int} (hf : foldT T = some (i, last)) (h : VS P T nx) : last ≤ nx ∧ 0 ≤ nx ∧ wz P ≤ 1048576 ∧ (∀ x r, T = x :: r → okC x.l ∧ wz (content P x.l) ≤ 1048576) := by
  obtain ⟨-, l2, h2, h3⟩ := h
  rw [hf] at h2
  simp only [Option.some.injEq, Prod.mk.injEq] at h2
  rw [h2.2]
  exact h3
theorem vs_noC {P : List Pr} {T : List Gt} {nx : Int} {i : Nat} {last : Int} {x : Gt} {r : List Gt} (hf : foldT T = some (i, last)) (hT : T = x :: r) (h : ¬ okC x.l) : ¬ VS P T nx := fun q => h ((VS.spec hf q).2.2.2 x r hT).1
def AjRel (P : List Pr) (w : World) (g : Nat) (v : Value) (wr : World) : Prop := ∃ k : Nat, g = P.length - k ∧ k ≤ P.length ∧ v = .int .i64 ((k : Int) + 1) ∧ (∀ i (_ : i < k) (h : i + 1 < P.length), klt P[i].k P[i + 1].k = true) ∧ Below w.heap.size w wr
def TxRel (T : List Gt) (w : World) (g : Nat) (v4 v34 : Value) (wr : World) : Prop := ∃ (k : Nat) (last : Int), g = T.length - k ∧ k ≤ T.length ∧ v34 = .int .i64 k ∧ v4 = .int .i64 last ∧ foldT (T.take k) = some (k, last) ∧ Below w.heap.size w wr
def CkB (l : List Ch) (k : Nat) : Prop := (∀ i (_ : i + 1 < k) (h : i + 1 < l.length), klt l[i].k l[i + 1].k = true) ∧ ∀ i (_ : i < k) (h : i < l.length), l[i].r = true → l[i].v = .empty
def CkRel (l : List Ch) (w : World) (g : Nat) (v : Value) (wr : World) : Prop := ∃ k : Nat, g = l.length - k ∧ k ≤ l.length ∧ v = .int .i64 k ∧ CkB l k ∧ Below w.heap.size w wr
theorem ckb_all {l : List Ch} (h : CkB l l.length) : okC l := by
  refine ⟨asc_adj (fun i hi => h.1 i hi hi), fun c hc hr => ?_⟩
  obtain ⟨i, hi, rfl⟩ := List.mem_iff_getElem.1 hc
  exact h.2 i hi hi hr
theorem ckb_zero (l : List Ch) : CkB l 0 := ⟨fun i h => by omega, fun i h => by omega⟩
theorem ckb_succ {l : List Ch} {k : Nat} (hk : k < l.length) (h : CkB l k) (h1 : ∀ i (e : k = i + 1), klt (l[i]'(by omega)).k l[k].k = true) (h2 : l[k].r = true → l[k].v = .empty) : CkB l (k + 1) := by
  refine ⟨fun i hi hl => ?_, fun i hi hl hr => ?_⟩
  · by_cases e : i + 1 < k
    · exact h.1 i e hl
    · have e2 : k = i + 1 := by omega
      subst e2
      exact h1 i rfl
  · by_cases e : i < k
    · exact h.2 i e hl hr
    · have e2 : i = k := by omega
      subst e2
      exact h2 hr
theorem nokC1 {l : List Ch} {i : Nat} (hi : i + 1 < l.length) (h : klt l[i].k l[i + 1].k = false) : ¬ okC l := fun q => asc_no (key := Ch.k) hi h q.1
theorem nokC2 {l : List Ch} {c : Ch} (hc : c ∈ l) (hr : c.r = true) (hv : c.v ≠ .empty) : ¬ okC l := fun q => hv (q.2 c hc hr)
theorem bempty (v : ByteArray) : (v.toList == []) = decide (v = .empty) := by
  by_cases h : v = .empty
  · subst h; rw [ByteArray.toList_eq]; rfl
  · have h2 : v.toList ≠ [] := by
      intro e
      apply h
      exact toList_inj (e.trans (by rw [ByteArray.toList_eq]; rfl))
    simp [h, h2]

set_option maxRecDepth 100000 in
set_option maxHeartbeats 8000000 in
theorem valid_st (v : Value) (P : List Pr) (T : List Gt) (nx : Int) (sp : Option Addr) (cp : Nat) (st : Option Addr) (ct : Nat) (w : World) (h : Gv w v P T nx sp cp st ct) (hp : P.length ≤ 100) (ht : T.length ≤ 100) (hc : ∀ x ∈ T, x.l.length ≤ 100) :
    Calls Try.prog 29 #[v] w (BPost (VS P T nx) w) := by
  have HA := Lib.hid h
  rw [h.eq]
  clear h
  go_enter Try.func29, Try.ntmps29
  go_upto_region 1 with fail
  obtain ⟨W, hW⟩ : ∃ W, w.alloc (.cells #[.slice sp P.length cp, .slice st T.length ct, .int .i64 nx] 28) = W := ⟨_, rfl⟩
  obtain ⟨b, hbz⟩ : ∃ b, w.heap.size = b := ⟨_, rfl⟩
  have HW := Lib.hid (show Below w.heap.size w W by rw [← hW]; exact (Below.refl _ w).alloc (Nat.le_refl _) _)
  have KA := Blk.new w #[.slice sp P.length cp, .slice st T.length ct, .int .i64 nx] 28
  rw [hW, hbz] at KA
  try simp only [hW, hbz]
  have H2 := Lib.hid (HA.out.below HW.out)
  have HKA := Lib.hid KA
  clear hW hbz KA
  go_wp2_with fail
  go_loopg [3] P.length (AjRel P W)
  case atStart => exact ⟨0, rfl, Nat.zero_le _, by simp, fun i hi => by omega, Below.refl _ _⟩
  case round =>
    obtain ⟨k, hg, hk, rfl, hadj, hb⟩ := hrel
    have Hg := Lib.hid hg
    have HB := Lib.hid hb
    have HADJ := Lib.hid hadj
    clear hg hb hadj
    obtain ⟨a0, a1, a2, -⟩ := (HKA.out.kept (Fr.of_below HB.out) (fun q => q)).three
    by_cases hkn : k + 1 < P.length
    · have hkI : (k : Int) + 1 < (P.length : Int) := by omega
      have hkI2 : (k : Int) < (P.length : Int) := by omega
      have hk0 : (0 : Int) ≤ (k : Int) := by omega
      have hk1 : (0 : Int) ≤ (k : Int) + 1 := by omega
      have hws : IntKind.i64.wrap ((k : Int) + 1 - 1) = (k : Int) := by rw [IntKind.wrap_i64]; omega
      have hwa : IntKind.i64.wrap ((k : Int) + 1 + 1) = (k : Int) + 1 + 1 := by rw [IntKind.wrap_i64]; omega
      have r1 := H2.out.ps.below HB.out
      obtain ⟨g1, o1, rfl, -⟩ := r1.addr (by omega)
      obtain ⟨x, hx⟩ : ∃ x, P[k] = x := ⟨_, rfl⟩
      obtain ⟨y, hy⟩ : ∃ y, P[k + 1] = y := ⟨_, rfl⟩
      obtain ⟨x0, -⟩ := p_at r1 (by omega) x hx
      obtain ⟨y0, -⟩ := p_at r1 hkn y hy
      have HXY := Lib.hid (show klt P[k].k P[k + 1].k = klt x.k y.k by rw [hx, hy])
      obtain ⟨v1, hv1⟩ : ∃ u, Op.bytesLess x.k.toList y.k.toList = u := ⟨_, rfl⟩
      have HV1 := Lib.hid (show klt x.k y.k = v1 from hv1)
      have hc1 : ((k : Int) + 1).toNat = k + 1 := by omega
      clear r1 hx hy
      obtain ⟨kk, hkk⟩ : ∃ kk : Nat, kk = k + 1 := ⟨_, rfl⟩
      have hkc : (k : Int) + 1 = (kk : Int) := by omega
      rw [← hkk] at y0 hc1
      rw [hkc] at hkI hk1 hws hwa hc1 ⊢
      have HKK := Lib.hid hkk
      clear hkk hkc hc1
      cases v1 with
      | true =>
        go_wp2_with go_quiet (fail)
        go_roundg (P.length - (k + 1))
        case measure => have := Hg.out; omega
        case rel =>
          refine ⟨k + 1, rfl, by omega, by have := HKK.out; simp; omega, fun i hi hl => ?_, ⟨HB.out.os, HB.out.tape, HB.out.output, HB.out.size, HB.out.block⟩⟩
          by_cases e : i < k
          · exact HADJ.out i e hl
          · have e2 : i = k := by omega
            subst e2
            rw [HXY.out, HV1.out]
      | false =>
        go_wp2_with go_quiet (fail)
        go_ret
        exact bp_no (fun q => absurd q.1 (asc_no (key := Pr.k) hkn (by rw [HXY.out, HV1.out]))) (HW.out.trans ((show Below W.heap.size W (wr.drewN nq) from ⟨HB.out.os, HB.out.tape, HB.out.output, HB.out.size, HB.out.block⟩).mono HW.out.size))
    · have hkI : ¬ ((k : Int) + 1 < (P.length : Int)) := by omega
      have hasc : Asc Pr.k P := asc_adj (fun i hi => HADJ.out i (by omega) hi)
      have HASC := Lib.hid hasc
      clear hasc HADJ
      have HB1 := Lib.hid HB.out
      have HW1 := Lib.hid (HW.out.trans (HB1.out.mono HW.out.size))
      obtain ⟨wx, hwx⟩ : ∃ x, x = wr := ⟨_, rfl⟩
      subst hwx
      go_wp2_with fail
      go_loopg [4, 34] T.length (TxRel T wx)
      case atStart => exact ⟨0, 0, rfl, Nat.zero_le _, rfl, rfl, rfl, Below.refl _ _⟩
      case round =>
        clear a0 a1 a2 Hg HB hkn hkI hk
        obtain ⟨k, last, hg, hk, rfl, rfl, hf, hb⟩ := hrel
        have Hg := Lib.hid hg
        have HB := Lib.hid hb
        have HF := Lib.hid hf
        clear hg hb hf
        obtain ⟨a0, a1, a2, -⟩ := (HKA.out.kept (Fr.of_below (HB1.out.trans (HB.out.mono HB1.out.size))) (fun q => q)).three
        by_cases hkn : k < T.length
        · have hkI : (k : Int) < (T.length : Int) := by omega
          have hk0 : (0 : Int) ≤ (k : Int) := by omega
          obtain ⟨x, hx⟩ : ∃ x, T[k] = x := ⟨_, rfl⟩
          have hxl : x.l.length ≤ 100 := hc x (by rw [← hx]; exact List.getElem_mem hkn)
          have r1 := (H2.out.below (HB1.out.trans (HB.out.mono HB1.out.size))).ts
          obtain ⟨g2, o2, hst, -⟩ := r1.addr (by omega)
          obtain ⟨d0, d1, d2, d3⟩ := y_at (hst ▸ r1) (by rw [List.length_map]; exact hkn) _ (gy_at hkn x hx)
          simp only at d0 d1 d2 d3
          have hsu := foldT_succ hkn x hx
          rw [HF.out] at hsu
          have HSU := Lib.hid hsu
          have HST := Lib.hid hst
          have HBX := Lib.hid (HB.out.alloc HB.out.size (.cells #[.int .i64 x.t.id, .string x.t.ow, .bool x.t.wr, .slice x.s x.l.length x.c] 36))
          have HWB := Lib.hid (HW1.out.trans (HBX.out.mono HW1.out.size))
          clear r1 hst hx hsu
          rw [HST.out]
          by_cases h1 : x.t.id ≤ last
          · have HP := Lib.hid (step_bad1 (i := k) h1)
            go_wp2_with fail
            go_ret
            exact bp_no (VS.noT (foldT_bad (k := k + 1) (by rw [HSU.out]; exact HP.out))) (HWB.out)
          · by_cases h2 : x.l.length = 0
            · have HP := Lib.hid (step_ok (i := k) h1 (.inl h2))
              have h2I : ¬ ((0 : Int) < (x.l.length : Int)) := by omega
              have hgt : last < x.t.id := by omega
              clear h2
              go_wp2_with fail
              try rw [← HST.out]
              go_roundg (T.length - (k + 1))
              case measure => have := Hg.out; omega
              case rel => exact ⟨k + 1, x.t.id, rfl, by omega, by simp, rfl, by rw [HSU.out]; exact HP.out, HBX.out⟩
            · have h2I : (0 : Int) < (x.l.length : Int) := by omega
              have hgt : last < x.t.id := by omega
              by_cases h3 : k = 0
              · have h3I : ¬ ((0 : Int) < (k : Int)) := by omega
                cases h4 : x.t.wr with
                | true =>
                  rw [h4] at d2
                  have HP := Lib.hid (step_ok (i := k) h1 (.inr ⟨h3, h4⟩))
                  have H4 := Lib.hid h4
                  have H3 := Lib.hid h3
                  rw [h4] at HBX HWB
                  clear h3 h4 h2
                  go_wp2_with fail
                  try rw [← HST.out]
                  go_roundg (T.length - (k + 1))
                  case measure => have := Hg.out; omega
                  case rel => exact ⟨k + 1, x.t.id, rfl, by omega, (by rw [H3.out]; rfl), rfl, by rw [HSU.out]; exact HP.out, HBX.out⟩
                | false =>
                  rw [h4] at d2
                  have HP := Lib.hid (step_bad2 (i := k) (last := last) (x := x) (by omega) (.inr h4))
                  rw [h4] at HBX HWB
                  clear h3 h4 h2
                  go_wp2_with fail
                  go_ret
                  exact bp_no (VS.noT (foldT_bad (k := k + 1) (by rw [HSU.out]; exact HP.out))) (HWB.out)
              · have h3I : (0 : Int) < (k : Int) := by omega
                have HP := Lib.hid (step_bad2 (i := k) (last := last) (x := x) (by omega) (.inl (by omega)))
                clear h3 h2
                go_wp2_with fail
                go_ret
                exact bp_no (VS.noT (foldT_bad (k := k + 1) (by rw [HSU.out]; exact HP.out))) (HWB.out)
        · obtain rfl : k = T.length := by omega
          rw [List.take_length] at HF
          have HB2 := Lib.hid (HB1.out.trans (HB.out.mono HB1.out.size))
          have HW2 := Lib.hid (HW.out.trans (HB2.out.mono HW.out.size))
          have HG := Lib.hid (H2.out.below HB2.out)
          have KS := Lib.hid (size_w sp cp P wr HG.out.ps (by omega))
          clear hkn hk
          by_cases q1 : nx < last
          · go_wp2_with fail
            go_ret
            exact bp_no (fun q => absurd (VS.spec HF.out q).1 (by omega)) HW2.out
          · have q1' : last ≤ nx := by omega
            by_cases q2 : nx < 0
            · go_wp2_with fail
              go_ret
              exact bp_no (fun q => absurd (VS.spec HF.out q).2.1 (by omega)) HW2.out
            · have q2' : 0 ≤ nx := by omega
              by_cases q3 : 1048576 < wz P
              · go_wp2_with (go_at_call 37; refine (KS.out).mono ?_; rintro e w5 ⟨rfl, hb5⟩; have HW5 := Lib.hid (HW2.out.trans (hb5.mono HW2.out.size)); clear hb5)
                go_ret
                exact bp_no (fun q => absurd (VS.spec HF.out q).2.2.1 (by omega)) HW5.out
              · have q3' : wz P ≤ 1048576 := by omega
                by_cases q4 : T.length = 0
                · have q4I : (T.length : Int) = 0 := by omega
                  have q4b : ((T.length : Int) == 0) = true := by simp [q4I]
                  have HT0 := Lib.hid (List.length_eq_zero_iff.1 q4)
                  have HQ := Lib.hid (show last ≤ nx ∧ 0 ≤ nx ∧ wz P ≤ 1048576 from ⟨q1', q2', q3'⟩)
                  have HFX := Lib.hid HF.out
                  clear q4
                  go_wp2_with (go_at_call 37; refine (KS.out).mono ?_; rintro e w5 ⟨rfl, hb5⟩; have HW5 := Lib.hid (HW2.out.trans (hb5.mono HW2.out.size)); have a1' := (hb5.cell (World.block_lt_of_cell? _ _ a1)).trans a1; clear hb5)
                  go_ret
                  exact bp_yes ⟨HASC.out, last, HF.out, HQ.out.1, HQ.out.2.1, HQ.out.2.2, fun x r q => by rw [HT0.out] at q; cases q⟩ HW5.out
                · obtain ⟨x0, r0, hT⟩ : ∃ x r, T = x :: r := by
                    cases T with
                    | nil => exact absurd rfl q4
                    | cons a b => exact ⟨a, b, rfl⟩
                  have HTT := Lib.hid hT
                  have hx0 : T[0]'(by omega) = x0 := by simp [hT]
                  have hx0m : x0 ∈ T := by rw [hT]; simp
                  have hxl := hc x0 hx0m
                  have q4I : ¬ ((T.length : Int) = 0) := by omega
                  have q4b : ((T.length : Int) == 0) = false := by rw [beq_eq_false_iff_ne]; exact q4I
                  have q4c : (0 : Int) < (T.length : Int) := by omega
                  have HQ := Lib.hid (show last ≤ nx ∧ 0 ≤ nx ∧ wz P ≤ 1048576 from ⟨q1', q2', q3'⟩)
                  have HX0 := Lib.hid hx0
                  have HXM := Lib.hid hx0m
                  clear hT hx0 hx0m
                  obtain ⟨g2, o2, hst, -⟩ := HG.out.ts.addr (by omega)
                  have HST := Lib.hid hst
                  clear hst
                  go_upto_region 18 with (go_at_call 37; refine (KS.out).mono ?_; rintro e w5 ⟨rfl, hb5⟩; have HW5 := Lib.hid (HW2.out.trans (hb5.mono HW2.out.size)); have HB5 := Lib.hid (HB2.out.trans (hb5.mono HB2.out.size)); clear hb5 a0 a1 a2; obtain ⟨a0, a1, a2, -⟩ := (HKA.out.kept (Fr.of_below HB5.out) (fun q => q)).three)
                  have HG5 := Lib.hid (H2.out.below HB5.out)
                  obtain ⟨d0, d1, d2, d3⟩ := y_at (HST.out ▸ HG5.out.ts) (k := 0) (by rw [List.length_map]; omega) _ (gy_at (by omega) x0 HX0.out)
                  simp only [Nat.zero_mul, Nat.add_zero] at d0 d1 d2 d3
                  rw [HST.out] at a1
                  go_wp2_with fail
                  clear d0 d1 d2 d3
                  go_loopg [87] x0.l.length (CkRel x0.l w5)
                  case atStart => exact ⟨0, rfl, Nat.zero_le _, rfl, ckb_zero _, Below.refl _ _⟩
                  case round =>
                    clear a0 a1 a2 Hg HB
                    obtain ⟨k, hg, hk, rfl, hck, hb⟩ := hrel
                    have Hg := Lib.hid hg
                    have HB := Lib.hid hb
                    have HK := Lib.hid hck
                    clear hg hb hck
                    obtain ⟨a0, a1, a2, -⟩ := (HKA.out.kept (Fr.of_below (HB5.out.trans (HB.out.mono HB5.out.size))) (fun q => q)).three
                    have hcr := (HG5.out.below HB.out).cs x0 HXM.out
                    by_cases hkn : k < x0.l.length
                    · have hkI : (k : Int) < (x0.l.length : Int) := by omega
                      have hk0 : (0 : Int) ≤ (k : Int) := by omega
                      obtain ⟨y, hy⟩ : ∃ y, x0.l[k] = y := ⟨_, rfl⟩
                      obtain ⟨g3, o3, hs3, -⟩ := hcr.addr (by omega)
                      obtain ⟨d0, d1, d2⟩ := c_at (hs3 ▸ hcr) hkn y hy
                      have HS3 := Lib.hid hs3
                      have HY := Lib.hid hy
                      have HBX := Lib.hid (HB.out.alloc HB.out.size (.cells #[.string y.k, .string y.v, .bool y.r] 59))
                      rw [HS3.out]
                      by_cases hkz : k = 0
                      · have hkz' : ¬ ((0 : Int) < (k : Int)) := by omega
                        clear hy hs3 hcr
                        subst hkz
                        simp only [Nat.zero_mul, Nat.add_zero] at d0 d1 d2
                        rw [show (((0 : Nat) : Int)) = 0 from rfl] at hkI hk0 hkz'
                        simp only [Int.natCast_zero]
                        cases hr : y.r with
                        | false =>
                          rw [hr] at d2 HBX
                          have HCK := Lib.hid (ckb_succ hkn HK.out (fun i e => by omega) (fun q => by rw [HY.out, hr] at q; cases q))
                          clear hr
                          go_upto_region 22 with fail
                          go_quiet (fail)
                          go_wp2_with fail
                          try rw [← HS3.out]
                          go_roundg (x0.l.length - (0 + 1))
                          case measure => have := Hg.out; omega
                          case rel => exact ⟨0 + 1, rfl, by omega, by simp, HCK.out, ⟨HBX.out.os, HBX.out.tape, HBX.out.output, HBX.out.size, HBX.out.block⟩⟩
                        | true =>
                          rw [hr] at d2 HBX
                          obtain ⟨u, hu⟩ : ∃ u, (y.v.toList == []) = u := ⟨_, rfl⟩
                          have HU := Lib.hid ((bempty y.v).symm.trans hu)
                          have HRR := Lib.hid hr
                          clear hr
                          cases u with
                          | true =>
                            have HCK := Lib.hid (ckb_succ hkn HK.out (fun i e => by omega) (fun _ => by rw [HY.out]; simpa using HU.out))
                            go_upto_region 22 with fail
                            go_quiet (fail)
                            go_wp2_with fail
                            try rw [← HS3.out]
                            go_roundg (x0.l.length - (0 + 1))
                            case measure => have := Hg.out; omega
                            case rel => exact ⟨0 + 1, rfl, by omega, by simp, HCK.out, ⟨HBX.out.os, HBX.out.tape, HBX.out.output, HBX.out.size, HBX.out.block⟩⟩
                          | false =>
                            have HNO := Lib.hid (nokC2 (l := x0.l) (c := y) (by rw [← HY.out]; exact List.getElem_mem hkn) HRR.out (by simpa using HU.out))
                            go_upto_region 22 with fail
                            go_quiet (fail)
                            go_wp2_with fail
                            go_ret
                            exact bp_no (vs_noC HF.out HTT.out HNO.out) (HW5.out.trans ((below_dn HBX.out).mono HW5.out.size))
                      · obtain ⟨j, hj⟩ : ∃ j, k = j + 1 := ⟨k - 1, by omega⟩
                        have hjl : j < x0.l.length := by omega
                        obtain ⟨z, hz⟩ : ∃ z, x0.l[j] = z := ⟨_, rfl⟩
                        obtain ⟨e0, -, -⟩ := c_at (hs3 ▸ hcr) hjl z hz
                        have hkz' : (0 : Int) < (k : Int) := by omega
                        have hdec : 0 < k := by omega
                        have hjI : (j : Int) < (x0.l.length : Int) := by omega
                        have hj0 : (0 : Int) ≤ (j : Int) := by omega
                        have hws : IntKind.i64.wrap ((k : Int) - 1) = (j : Int) := by rw [IntKind.wrap_i64]; omega
                        obtain ⟨v1, hv1⟩ : ∃ v, Op.bytesLess z.k.toList y.k.toList = v := ⟨_, rfl⟩
                        have HZY := Lib.hid (show klt z.k y.k = v1 from hv1)
                        have HJ := Lib.hid hj
                        have HZ := Lib.hid hz
                        have hgl3 : g3 < wr.heap.size := World.block_lt_of_cell? _ _ e0
                        clear hkz hy hs3 hcr hj hz
                        cases v1 with
                        | true =>
                          cases hr : y.r with
                          | false =>
                            rw [hr] at d2 HBX
                            have HCK := Lib.hid (ckb_succ hkn HK.out (fun i e => by have e2 : i = j := (by have := HJ.out; omega); subst e2; rw [HZ.out, HY.out, HZY.out]) (fun q => by rw [HY.out, hr] at q; cases q))
                            clear hr
                            go_upto_region 22 with fail
                            go_quiet (fail)
                            go_wp2_with fail
                            try rw [← HS3.out]
                            go_roundg (x0.l.length - (k + 1))
                            case measure => have := Hg.out; omega
                            case rel => exact ⟨k + 1, rfl, by omega, by simp, HCK.out, ⟨HBX.out.os, HBX.out.tape, HBX.out.output, HBX.out.size, HBX.out.block⟩⟩
                          | true =>
                            rw [hr] at d2 HBX
                            obtain ⟨u, hu⟩ : ∃ u, (y.v.toList == []) = u := ⟨_, rfl⟩
                            have HU := Lib.hid ((bempty y.v).symm.trans hu)
                            have HRR := Lib.hid hr
                            clear hr
                            cases u with
                            | true =>
                              have HCK := Lib.hid (ckb_succ hkn HK.out (fun i e => by have e2 : i = j := (by have := HJ.out; omega); subst e2; rw [HZ.out, HY.out, HZY.out]) (fun _ => by rw [HY.out]; simpa using HU.out))
                              go_upto_region 22 with fail
                              go_quiet (fail)
                              go_wp2_with fail
                              try rw [← HS3.out]
                              go_roundg (x0.l.length - (k + 1))
                              case measure => have := Hg.out; omega
                              case rel => exact ⟨k + 1, rfl, by omega, by simp, HCK.out, ⟨HBX.out.os, HBX.out.tape, HBX.out.output, HBX.out.size, HBX.out.block⟩⟩
                            | false =>
                              have HNO := Lib.hid (nokC2 (l := x0.l) (c := y) (by rw [← HY.out]; exact List.getElem_mem hkn) HRR.out (by simpa using HU.out))
                              go_upto_region 22 with fail
                              go_quiet (fail)
                              go_wp2_with fail
                              go_ret
                              exact bp_no (vs_noC HF.out HTT.out HNO.out) (HW5.out.trans ((below_dn HBX.out).mono HW5.out.size))
                        | false =>
                          have HNO := Lib.hid (show ¬ okC x0.l from by
                            have hj := HJ.out
                            subst hj
                            exact nokC1 hkn (by rw [HZ.out, HY.out, HZY.out]))
                          go_upto_region 22 with fail
                          go_quiet (fail)
                          go_wp2_with fail
                          go_ret
                          exact bp_no (vs_noC HF.out HTT.out HNO.out) (HW5.out.trans ((below_dn HBX.out).mono HW5.out.size))
                    · obtain rfl : k = x0.l.length := by omega
                      have HOK := Lib.hid (ckb_all HK.out)
                      have HGR := Lib.hid (HG5.out.below HB.out)
                      have KC := Lib.hid (content_any sp cp P x0.s x0.c x0.l wr HGR.out.ps HGR.out.pc.nil hcr (by omega) (by omega) HASC.out)
                      obtain ⟨C, hC⟩ : ∃ C, content P x0.l = C := ⟨_, rfl⟩
                      have HCC := Lib.hid hC
                      have hcl := content_len x0.l P
                      rw [hC] at hcl
                      clear hC hcr
                      go_wp2_with (first
                        | (go_at_call 35; refine (KC.out).mono ?_; rintro e w6 ⟨s6, c6, rfl, h6⟩; rw [HCC.out] at h6 ⊢; have HW6 := Lib.hid ((HW5.out.trans (HB.out.mono HW5.out.size)).trans (h6.bel.mono (HW5.out.trans (HB.out.mono HW5.out.size)).size)); have KZ := Lib.hid (size_w s6 c6 C w6 h6.sl.rd (by omega)); clear h6)
                        | (go_at_call 37; refine (KZ.out).mono ?_; rintro e w7 ⟨rfl, h7⟩; have HW7 := Lib.hid (HW6.out.trans (h7.mono HW6.out.size)); clear h7))
                      go_ret
                      refine ⟨decide (wz C ≤ 1048576), rfl, ?_, HW7.out⟩
                      rw [decide_eq_true_eq, ← HCC.out]
                      constructor
                      · intro q
                        exact ⟨HASC.out, last, HF.out, HQ.out.1, HQ.out.2.1, HQ.out.2.2, fun x r e => by
                          rw [HTT.out] at e
                          simp only [List.cons.injEq] at e
                          rw [← e.1]
                          exact ⟨HOK.out, q⟩⟩
                      · intro q
                        exact ((VS.spec HF.out q).2.2.2 x0 r0 HTT.out).2


end Go.Proofs.Ytcglnjklnlejmaa
