/-
  The reference: Valid.
-/
import Derived.Test.YtcglnjklnlejmaaVb
set_option linter.unusedVariables false
set_option linter.unusedSimpArgs false
namespace Go.Proofs.Ytcglnjklnlejmaa
open Go.RowKit Go.K Go.K.Sr

def VR (P : List Pr) (T : List Gt) (nx : Int) : Prop :=
  Asc Pr.k P ∧ wz P ≤ 1048576 ∧ 0 ≤ nx ∧ (∃ last, foldT T = some (T.length, last)) ∧ ∀ x ∈ T, x.t.id ≤ nx ∧ okC x.l ∧ wz (content P x.l) ≤ 1048576
theorem fold_all : ∀ {T : List Gt} {a : Nat} {z : Int} {i : Nat} {last : Int}, T.foldl stepT (some (a, z)) = some (i, last) → z ≤ last ∧ (∀ x ∈ T, x.t.id ≤ last) ∧ (0 < a → ∀ x ∈ T, x.l = []) ∧ (last = z ∨ ∃ x ∈ T, last = x.t.id)
  | [], a, z, i, last, h => by
    simp only [List.foldl_nil, Option.some.injEq, Prod.mk.injEq] at h
    rw [← h.2]
    exact ⟨Int.le_refl _, fun x hx => (by cases hx), fun _ x hx => (by cases hx), .inl rfl⟩
  | x :: T, a, z, i, last, h => by
    rw [List.foldl_cons] at h
    by_cases hc : x.t.id ≤ z ∨ (x.l ≠ [] ∧ (0 < a ∨ x.t.wr = false))
    · have e : stepT (some (a, z)) x = none := by simp only [stepT]; rw [if_pos hc]
      rw [e, foldT_none] at h
      cases h
    · have e : stepT (some (a, z)) x = some (a + 1, x.t.id) := by simp only [stepT]; rw [if_neg hc]
      rw [e] at h
      obtain ⟨h1, h2, h3, h4⟩ := fold_all h
      have hz : z < x.t.id := by
        rcases Int.lt_or_le z x.t.id with q | q
        · exact q
        · exact absurd (.inl q) hc
      refine ⟨by omega, fun y hy => ?_, fun ha y hy => ?_, ?_⟩
      · rcases List.mem_cons.1 hy with rfl | hy
        · exact h1
        · exact h2 y hy
      · rcases List.mem_cons.1 hy with rfl | hy
        · by_cases hl : y.l = []
          · exact hl
          · exact absurd (.inr ⟨hl, .inl ha⟩) hc
        · exact h3 (by omega) y hy
      · rcases h4 with q | ⟨y, hy, q⟩
        · exact .inr ⟨x, by simp, q⟩
        · exact .inr ⟨y, by simp [hy], q⟩
theorem okC_nil : okC [] := ⟨List.Pairwise.nil, fun c hc => by cases hc⟩
theorem vs_iff (P : List Pr) (T : List Gt) (nx : Int) : VS P T nx ↔ VR P T nx := by
  constructor
  · rintro ⟨h1, last, h2, h3, h4, h5, h6⟩
    refine ⟨h1, h5, h4, ⟨last, h2⟩, fun x hx => ?_⟩
    obtain ⟨-, g2, -, -⟩ := fold_all (T := T) (a := 0) (z := 0) h2
    have hid := g2 x hx
    refine ⟨by omega, ?_⟩
    cases T with
    | nil => cases hx
    | cons y r =>
      rcases List.mem_cons.1 hx with rfl | hx
      · exact h6 x r rfl
      · have hfr : ∃ z, r.foldl stepT (some (1, z)) = some ((y :: r).length, last) := by
          have h := h2
          unfold foldT at h
          rw [List.foldl_cons] at h
          by_cases hc : y.t.id ≤ 0 ∨ (y.l ≠ [] ∧ (0 < 0 ∨ y.t.wr = false))
          · have e : stepT (some (0, 0)) y = none := by simp only [stepT]; rw [if_pos hc]
            rw [e, foldT_none] at h
            cases h
          · have e : stepT (some (0, 0)) y = some (0 + 1, y.t.id) := by simp only [stepT]; rw [if_neg hc]
            rw [e] at h
            exact ⟨_, h⟩
        obtain ⟨z, hz⟩ := hfr
        have hl := (fold_all hz).2.2.1 (by omega) x hx
        rw [hl]
        exact ⟨okC_nil, h5⟩
  · rintro ⟨h1, h2, h3, ⟨last, h4⟩, h5⟩
    refine ⟨h1, last, h4, ?_, h3, h2, fun x r e => (h5 x (by rw [e]; simp)).2⟩
    rcases (fold_all (T := T) (a := 0) (z := 0) h4).2.2.2 with q | ⟨x, hx, q⟩
    · omega
    · have := (h5 x hx).1
      omega
def PkRel (P : List Pr) (w : World) (g : Nat) (v : Value) (wr : World) : Prop := ∃ k : Nat, g = P.length - k ∧ k ≤ P.length ∧ v = .int .i64 k ∧ (∀ i (_ : i + 1 < k) (h : i + 1 < P.length), klt P[i].k P[i + 1].k = true) ∧ Below w.heap.size w wr
def TrRel (P : List Pr) (T : List Gt) (nx : Int) (w : World) (g : Nat) (v4 v5 : Value) (wr : World) : Prop := ∃ (k : Nat) (last : Int), g = T.length - k ∧ k ≤ T.length ∧ v5 = .int .i64 k ∧ v4 = .int .i64 last ∧ foldT (T.take k) = some (k, last) ∧ (∀ x ∈ T.take k, x.t.id ≤ nx ∧ okC x.l ∧ wz (content P x.l) ≤ 1048576) ∧ Below w.heap.size w wr
theorem VR.noT {P : List Pr} {T : List Gt} {nx : Int} (h : foldT T = none) : ¬ VR P T nx := fun q => by obtain ⟨-, -, -, ⟨last, h2⟩, -⟩ := q; rw [h] at h2; cases h2
theorem VR.noX {P : List Pr} {T : List Gt} {nx : Int} {x : Gt} (hx : x ∈ T) (h : ¬ (x.t.id ≤ nx ∧ okC x.l ∧ wz (content P x.l) ≤ 1048576)) : ¬ VR P T nx := fun q => h (q.2.2.2.2 x hx)

theorem blk4v {w : World} {b : Nat} {a0 a1 a2 a3 : Value} {t : TypeId} (h : Blk w b #[a0, a1, a2, a3] t) :
    w.cell? ⟨b, 0, none⟩ = some a0 ∧ w.cell? ⟨b, 1, none⟩ = some a1 ∧ w.cell? ⟨b, 2, none⟩ = some a2 ∧ w.cell? ⟨b, 3, none⟩ = some a3 ∧ True :=
  ⟨h.cell 0, h.cell 1, h.cell 2, h.cell 3, trivial⟩

set_option maxRecDepth 100000 in
set_option maxHeartbeats 12000000 in
theorem valid_ref (v : Value) (P : List Pr) (T : List Gt) (nx : Int) (sp : Option Addr) (cp : Nat) (st : Option Addr) (ct : Nat) (w : World) (h : Gv w v P T nx sp cp st ct) (hp : P.length ≤ 100) (ht : T.length ≤ 100) (hc : ∀ x ∈ T, x.l.length ≤ 100) :
    Calls Try.prog 30 #[v] w (BPost (VR P T nx) w) := by
  have HA := Lib.hid h
  rw [h.eq]
  clear h
  go_enter Try.func30, Try.ntmps30
  go_upto_region 1 with fail
  obtain ⟨W, hW⟩ : ∃ W, w.alloc (.cells #[.slice sp P.length cp, .slice st T.length ct, .int .i64 nx] 43) = W := ⟨_, rfl⟩
  obtain ⟨b, hbz⟩ : ∃ b, w.heap.size = b := ⟨_, rfl⟩
  have HW := Lib.hid (show Below w.heap.size w W by rw [← hW]; exact (Below.refl _ w).alloc (Nat.le_refl _) _)
  have KA := Blk.new w #[.slice sp P.length cp, .slice st T.length ct, .int .i64 nx] 43
  rw [hW, hbz] at KA
  try simp only [hW, hbz]
  have H2 := Lib.hid (HA.out.below HW.out)
  have HKA := Lib.hid KA
  clear hW hbz KA
  go_wp2_with fail
  go_loopg [3] P.length (PkRel P W)
  case atStart => exact ⟨0, rfl, Nat.zero_le _, rfl, fun i hi => by omega, Below.refl _ _⟩
  case round =>
    obtain ⟨k, hg, hk, rfl, hadj, hb⟩ := hrel
    have Hg := Lib.hid hg
    have HB := Lib.hid hb
    have HADJ := Lib.hid hadj
    clear hg hb hadj
    obtain ⟨a0, a1, a2, -⟩ := (HKA.out.kept (Fr.of_below HB.out) (fun q => q)).three
    by_cases hkn : k < P.length
    · have hkI : (k : Int) < (P.length : Int) := by omega
      have hk0I : (0 : Int) ≤ (k : Int) := by omega
      have r1 := H2.out.ps.below HB.out
      obtain ⟨g1, o1, hs1, -⟩ := r1.addr (by omega)
      subst hs1
      by_cases hkz : k = 0
      · subst hkz
        have HAD := Lib.hid (show ∀ i (_ : i + 1 < 0 + 1) (h : i + 1 < P.length), klt P[i].k P[i + 1].k = true from fun i hi => by omega)
        have hkz' : ¬ ((0 : Int) < ((0 : Nat) : Int)) := by omega
        rw [show (((0 : Nat) : Int)) = 0 from rfl] at hkI hk0I hkz'
        simp only [Int.natCast_zero]
        clear r1
        go_wp2_with go_quiet (fail)
        go_roundg (P.length - (0 + 1))
        case measure => have := Hg.out; omega
        case rel => exact ⟨0 + 1, rfl, by omega, rfl, HAD.out, ⟨HB.out.os, HB.out.tape, HB.out.output, HB.out.size, HB.out.block⟩⟩
      · obtain ⟨j, hj⟩ : ∃ j, k = j + 1 := ⟨k - 1, by omega⟩
        have hjl : j < P.length := by omega
        have hkp : j + 1 < P.length := by omega
        obtain ⟨x, hx⟩ : ∃ x, P[j] = x := ⟨_, rfl⟩
        obtain ⟨y, hy⟩ : ∃ y, P[k] = y := ⟨_, rfl⟩
        have hy' : P[j + 1] = y := by subst hj; exact hy
        obtain ⟨x0, -⟩ := p_at r1 hjl x hx
        obtain ⟨y0, -⟩ := p_at r1 hkn y hy
        have hdec : 0 < k := by omega
        have hkz' : (0 : Int) < (k : Int) := by omega
        have hjI : (j : Int) < (P.length : Int) := by omega
        have hj0I : (0 : Int) ≤ (j : Int) := by omega
        have hws : IntKind.i64.wrap ((k : Int) - 1) = (j : Int) := by rw [IntKind.wrap_i64]; omega
        have HXY := Lib.hid (show klt P[j].k P[j + 1].k = klt x.k y.k by rw [hx, hy'])
        obtain ⟨v1, hv1⟩ : ∃ u, Op.bytesLess x.k.toList y.k.toList = u := ⟨_, rfl⟩
        have HV1 := Lib.hid (show klt x.k y.k = v1 from hv1)
        have HJ := Lib.hid hj
        clear r1 hx hy hy' hj hkz
        cases v1 with
        | true =>
          have HAD := Lib.hid (show ∀ i (_ : i + 1 < k + 1) (h : i + 1 < P.length), klt P[i].k P[i + 1].k = true from fun i hi hl => by
            by_cases e : i + 1 < k
            · exact HADJ.out i e hl
            · have e2 : i = j := by have := HJ.out; omega
              subst e2
              rw [HXY.out, HV1.out])
          go_wp2_with go_quiet (fail)
          go_roundg (P.length - (k + 1))
          case measure => have := Hg.out; omega
          case rel => exact ⟨k + 1, rfl, by omega, by simp, HAD.out, ⟨HB.out.os, HB.out.tape, HB.out.output, HB.out.size, HB.out.block⟩⟩
        | false =>
          go_wp2_with go_quiet (fail)
          go_ret
          exact bp_no (fun q => absurd q.1 (asc_no (key := Pr.k) hkp (by rw [HXY.out, HV1.out]))) (HW.out.trans ((below_dn HB.out).mono HW.out.size))
    · obtain rfl : k = P.length := by omega
      have hasc : Asc Pr.k P := asc_adj (fun i hi => HADJ.out i hi hi)
      have HASC := Lib.hid hasc
      have HB1 := Lib.hid HB.out
      have HW1 := Lib.hid (HW.out.trans (HB1.out.mono HW.out.size))
      have KS := Lib.hid (size_wr sp cp P wr (H2.out.ps.below HB.out) (by omega))
      clear hasc HADJ hkn
      by_cases q3 : 1048576 < wz P
      · go_wp2_with (go_at_call 41; refine (KS.out).mono ?_; rintro e w5 ⟨rfl, hb5⟩; have HW5 := Lib.hid (HW1.out.trans (hb5.mono HW1.out.size)); clear hb5)
        go_ret
        exact bp_no (fun q => absurd q.2.1 (by omega)) HW5.out
      · have q3' : wz P ≤ 1048576 := by omega
        by_cases q2 : nx < 0
        · go_wp2_with (go_at_call 41; refine (KS.out).mono ?_; rintro e w5 ⟨rfl, hb5⟩; have HW5 := Lib.hid (HW1.out.trans (hb5.mono HW1.out.size)); have a2' := (hb5.cell (World.block_lt_of_cell? _ _ a2)).trans a2; clear hb5)
          go_ret
          exact bp_no (fun q => absurd q.2.2.1 (by omega)) HW5.out
        · have q2' : 0 ≤ nx := by omega
          have HQ := Lib.hid (show wz P ≤ 1048576 ∧ 0 ≤ nx from ⟨q3', q2'⟩)
          go_upto_region 8 with (go_at_call 41; refine (KS.out).mono ?_; rintro e w5 ⟨rfl, hb5⟩; have HW5 := Lib.hid (HW1.out.trans (hb5.mono HW1.out.size)); have HB5 := Lib.hid (HB1.out.trans (hb5.mono HB1.out.size)); clear hb5 a0 a1 a2; obtain ⟨a0, a1, a2, -⟩ := (HKA.out.kept (Fr.of_below HB5.out) (fun q => q)).three)
          clear q3 q3' q2 q2'
          go_wp2_with fail
          go_loopg [4, 5] T.length (TrRel P T nx w5)
          case atStart => exact ⟨0, 0, rfl, Nat.zero_le _, rfl, rfl, rfl, fun x hx => by simp at hx, Below.refl _ _⟩
          case round =>
            clear a0 a1 a2 Hg HB
            obtain ⟨k, last, hg, hk, rfl, rfl, hf, hall, hb⟩ := hrel
            have Hg := Lib.hid hg
            have HB := Lib.hid hb
            have HF := Lib.hid hf
            have HALL := Lib.hid hall
            clear hg hb hf hall
            obtain ⟨a0, a1, a2, -⟩ := (HKA.out.kept (Fr.of_below (HB5.out.trans (HB.out.mono HB5.out.size))) (fun q => q)).three
            by_cases hkn : k < T.length
            · have hkI : (k : Int) < (T.length : Int) := by omega
              have hk0 : (0 : Int) ≤ (k : Int) := by omega
              obtain ⟨x, hx⟩ : ∃ x, T[k] = x := ⟨_, rfl⟩
              have hxm : x ∈ T := by rw [← hx]; exact List.getElem_mem hkn
              have hxl : x.l.length ≤ 100 := hc x hxm
              have r1 := (H2.out.below (HB5.out.trans (HB.out.mono HB5.out.size))).ts
              obtain ⟨g2, o2, hst, -⟩ := r1.addr (by omega)
              obtain ⟨d0, d1, d2, d3⟩ := y_at (hst ▸ r1) (by rw [List.length_map]; exact hkn) _ (gy_at hkn x hx)
              simp only at d0 d1 d2 d3
              have hsu := foldT_succ hkn x hx
              rw [HF.out] at hsu
              have HSU := Lib.hid hsu
              have HST := Lib.hid hst
              have HX := Lib.hid hx
              have HXM := Lib.hid hxm
              have HBX0 := Lib.hid (HB.out.alloc HB.out.size (.cells #[.int .i64 x.t.id, .string x.t.ow, .bool x.t.wr, .slice x.s x.l.length x.c] 36))
              have HWB := Lib.hid (HW5.out.trans (HBX0.out.mono HW5.out.size))
              have hbl : b < wr.heap.size := World.block_lt_of_cell? _ _ a0
              clear r1 hst hx hsu hxm
              rw [HST.out] at a1
              by_cases h1 : x.t.id ≤ last
              · have HP := Lib.hid (step_bad1 (i := k) h1)
                go_wp2_with fail
                go_ret
                exact bp_no (VR.noT (foldT_bad (k := k + 1) (by rw [HSU.out]; exact HP.out))) (HWB.out)
              · have h1' : last < x.t.id := by omega
                by_cases h0 : nx < x.t.id
                · go_wp2_with fail
                  go_ret
                  exact bp_no (VR.noX HXM.out (fun q => absurd q.1 (by omega))) HWB.out
                · have h0' : x.t.id ≤ nx := by omega
                  have HID := Lib.hid h0'
                  by_cases h2 : x.l.length = 0
                  · have HP := Lib.hid (step_ok (i := k) h1 (.inl h2))
                    have h2I : ¬ ((0 : Int) < (x.l.length : Int)) := by omega
                    have H20 := Lib.hid h2
                    clear h2
                    go_upto_region 15 with fail
                    clear h2I h0 h0' h1 h1'
                    obtain ⟨w6, hw6⟩ : ∃ w6, wr.alloc (.cells #[.int .i64 x.t.id, .string x.t.ow, .bool x.t.wr, .slice x.s x.l.length x.c] 36) = w6 := ⟨_, rfl⟩
                    obtain ⟨b6, hb6⟩ : ∃ b6, wr.heap.size = b6 := ⟨_, rfl⟩
                    have k6 := blk_new wr #[.int .i64 x.t.id, .string x.t.ow, .bool x.t.wr, .slice x.s x.l.length x.c] 36 b6 hb6
                    rw [hw6] at k6 HBX0 HWB
                    try simp only [hw6, hb6]
                    have HK6 := Lib.hid k6
                    have HW6 := Lib.hid HWB.out
                    have HB6 := Lib.hid (HB5.out.trans (HBX0.out.mono HB5.out.size))
                    obtain ⟨m0, m1, m2, m3, -⟩ := blk4v k6
                    clear k6 hw6 hb6 a0 a1 a2 d0 d1 d2 d3
                    go_wp2_with fail
                    go_loopg [7] x.l.length (CkRel x.l w6)
                    case atStart => exact ⟨0, rfl, Nat.zero_le _, rfl, ckb_zero _, Below.refl _ _⟩
                    case round =>
                      clear m0 m1 m2 m3
                      obtain ⟨i, hg3, hi, rfl, hck, hb⟩ := hrel
                      have Hg3 := Lib.hid hg3
                      have HBi := Lib.hid hb
                      have HK := Lib.hid hck
                      clear hg3 hb hck
                      obtain ⟨m0, m1, m2, m3, -⟩ := blk4v (HK6.out.kept (S := fun _ => False) (Fr.of_below HBi.out) (fun q => q))
                      have HGi := Lib.hid (H2.out.below (HB6.out.trans (HBi.out.mono HB6.out.size)))
                      have hcr := HGi.out.cs x HXM.out
                      have hb6l : b6 < wr.heap.size := World.block_lt_of_cell? _ _ m0
                      by_cases hin : i < x.l.length
                      · exact absurd hin (by have := H20.out; omega)
                      · obtain rfl : i = x.l.length := by omega
                        have HOK := Lib.hid (ckb_all HK.out)
                        obtain ⟨a0, a1, a2, -⟩ := (HKA.out.kept (Fr.of_below (HB6.out.trans (HBi.out.mono HB6.out.size))) (fun q => q)).three
                        have KC := Lib.hid (content_ref sp cp P x.s x.c x.l wr HGi.out.pc hcr (by omega) HASC.out)
                        obtain ⟨C, hC⟩ : ∃ C, content P x.l = C := ⟨_, rfl⟩
                        have HCC := Lib.hid hC
                        have hcl := content_len x.l P
                        rw [hC] at hcl
                        have HWi := Lib.hid (HW6.out.trans (HBi.out.mono HW6.out.size))
                        clear hC hcr
                        by_cases q5 : 1048576 < wz C
                        · go_wp2_with (first
                            | (go_at_call 25; refine (KC.out).mono ?_; rintro e w7 ⟨s7, c7, rfl, h7, -, hb7⟩; rw [HCC.out] at h7 ⊢; have HW7 := Lib.hid (HWi.out.trans (hb7.mono HWi.out.size)); have KZ := Lib.hid (size_wr s7 c7 C w7 h7.rd (by omega)); clear h7 hb7)
                            | (go_at_call 41; refine (KZ.out).mono ?_; rintro e w8 ⟨rfl, h8⟩; have HW8 := Lib.hid (HW7.out.trans (h8.mono HW7.out.size)); clear h8))
                          go_ret
                          exact bp_no (VR.noX HXM.out (fun q => absurd q.2.2 (by rw [HCC.out]; omega))) HW8.out
                        · have q5' : wz C ≤ 1048576 := by omega
                          go_wp2_with (first
                            | (go_at_call 25; refine (KC.out).mono ?_; rintro e w7 ⟨s7, c7, rfl, h7, -, hb7⟩; rw [HCC.out] at h7 ⊢; have HB7 := Lib.hid (HBX0.out.trans ((HBi.out.trans (hb7.mono HBi.out.size)).mono HBX0.out.size)); have KZ := Lib.hid (size_wr s7 c7 C w7 h7.rd (by omega)); clear h7 hb7)
                            | (go_at_call 41; refine (KZ.out).mono ?_; rintro e w8 ⟨rfl, h8⟩; have HB8 := Lib.hid (HB7.out.trans (h8.mono HB7.out.size)); clear h8))
                          try rw [← HST.out]
                          go_roundg (T.length - (k + 1))
                          case measure => have := Hg.out; omega
                          case rel => exact ⟨k + 1, x.t.id, rfl, by omega, by simp, rfl, by rw [HSU.out]; exact HP.out, fun y hy => by
                            rw [List.take_succ_eq_append_getElem hkn, HX.out] at hy
                            rcases List.mem_append.1 hy with q | q
                            · exact HALL.out y q
                            · rw [List.mem_singleton.1 q]; exact ⟨HID.out, HOK.out, by rw [HCC.out]; exact q5'⟩, HB8.out⟩
                  · have h2I : (0 : Int) < (x.l.length : Int) := by omega
                    by_cases h3 : k = 0
                    · have h3I : ¬ ((0 : Int) < (k : Int)) := by omega
                      cases h4 : x.t.wr with
                      | true =>
                        have HP := Lib.hid (step_ok (i := k) h1 (.inr ⟨h3, h4⟩))
                        rw [h4] at d2 HBX0 HWB
                        have H3 := Lib.hid h3
                        clear h3 h2 h4
                        go_upto_region 15 with fail
                        clear h2I h0 h0' h1 h1' h3I
                        obtain ⟨w6, hw6⟩ : ∃ w6, wr.alloc (.cells #[.int .i64 x.t.id, .string x.t.ow, .bool true, .slice x.s x.l.length x.c] 36) = w6 := ⟨_, rfl⟩
                        obtain ⟨b6, hb6⟩ : ∃ b6, wr.heap.size = b6 := ⟨_, rfl⟩
                        have k6 := blk_new wr #[.int .i64 x.t.id, .string x.t.ow, .bool true, .slice x.s x.l.length x.c] 36 b6 hb6
                        rw [hw6] at k6 HBX0 HWB
                        try simp only [hw6, hb6]
                        have HK6 := Lib.hid k6
                        have HW6 := Lib.hid HWB.out
                        have HB6 := Lib.hid (HB5.out.trans (HBX0.out.mono HB5.out.size))
                        obtain ⟨m0, m1, m2, m3, -⟩ := blk4v k6
                        clear k6 hw6 hb6 a0 a1 a2 d0 d1 d2 d3
                        go_wp2_with fail
                        go_loopg [7] x.l.length (CkRel x.l w6)
                        case atStart => exact ⟨0, rfl, Nat.zero_le _, rfl, ckb_zero _, Below.refl _ _⟩
                        case round =>
                          clear m0 m1 m2 m3
                          obtain ⟨i, hg3, hi, rfl, hck, hb⟩ := hrel
                          have Hg3 := Lib.hid hg3
                          have HBi := Lib.hid hb
                          have HK := Lib.hid hck
                          clear hg3 hb hck
                          obtain ⟨m0, m1, m2, m3, -⟩ := blk4v (HK6.out.kept (S := fun _ => False) (Fr.of_below HBi.out) (fun q => q))
                          have HGi := Lib.hid (H2.out.below (HB6.out.trans (HBi.out.mono HB6.out.size)))
                          have hcr := HGi.out.cs x HXM.out
                          have hb6l : b6 < wr.heap.size := World.block_lt_of_cell? _ _ m0
                          by_cases hin : i < x.l.length
                          · have hiI : (i : Int) < (x.l.length : Int) := by omega
                            have hi0 : (0 : Int) ≤ (i : Int) := by omega
                            obtain ⟨y, hy⟩ : ∃ y, x.l[i] = y := ⟨_, rfl⟩
                            obtain ⟨g3, o3, hs3, -⟩ := hcr.addr (by omega)
                            obtain ⟨d0, d1, d2⟩ := c_at (hs3 ▸ hcr) hin y hy
                            have HS3 := Lib.hid hs3
                            have HY := Lib.hid hy
                            have HBX := Lib.hid (HBi.out.alloc HBi.out.size (.cells #[.string y.k, .string y.v, .bool y.r] 59))
                            rw [HS3.out] at m3
                            by_cases hkz : i = 0
                            · clear hy hs3 hcr
                              subst hkz
                              simp only [Nat.zero_mul, Nat.add_zero] at d0 d1 d2
                              have hkz' : ¬ ((0 : Int) < ((0 : Nat) : Int)) := by omega
                              rw [show (((0 : Nat) : Int)) = 0 from rfl] at hiI hi0 hkz'
                              simp only [Int.natCast_zero]
                              cases hr : y.r with
                              | false =>
                                rw [hr] at d2 HBX
                                have HCK := Lib.hid (ckb_succ hin HK.out (fun i e => by omega) (fun q => by rw [HY.out, hr] at q; cases q))
                                clear hr
                                go_upto_region 20 with fail
                                go_quiet (fail)
                                go_wp2_with fail
                                try rw [← HS3.out]
                                go_roundg (x.l.length - (0 + 1))
                                case measure => have := Hg3.out; omega
                                case rel => exact ⟨0 + 1, rfl, by omega, by simp, HCK.out, ⟨HBX.out.os, HBX.out.tape, HBX.out.output, HBX.out.size, HBX.out.block⟩⟩
                              | true =>
                                rw [hr] at d2 HBX
                                obtain ⟨u, hu⟩ : ∃ u, (y.v.toList == []) = u := ⟨_, rfl⟩
                                have HU := Lib.hid ((bempty y.v).symm.trans hu)
                                have HRR := Lib.hid hr
                                clear hr
                                cases u with
                                | true =>
                                  have HCK := Lib.hid (ckb_succ hin HK.out (fun i e => by omega) (fun _ => by rw [HY.out]; simpa using HU.out))
                                  go_upto_region 20 with fail
                                  go_quiet (fail)
                                  go_wp2_with fail
                                  try rw [← HS3.out]
                                  go_roundg (x.l.length - (0 + 1))
                                  case measure => have := Hg3.out; omega
                                  case rel => exact ⟨0 + 1, rfl, by omega, by simp, HCK.out, ⟨HBX.out.os, HBX.out.tape, HBX.out.output, HBX.out.size, HBX.out.block⟩⟩
                                | false =>
                                  have HNO := Lib.hid (nokC2 (l := x.l) (c := y) (by rw [← HY.out]; exact List.getElem_mem hin) HRR.out (by simpa using HU.out))
                                  go_upto_region 20 with fail
                                  go_quiet (fail)
                                  go_wp2_with fail
                                  go_ret
                                  exact bp_no (VR.noX HXM.out (fun q => HNO.out q.2.1)) (HW6.out.trans ((below_dn HBX.out).mono HW6.out.size))
                            · obtain ⟨j, hj⟩ : ∃ j, i = j + 1 := ⟨i - 1, by omega⟩
                              have hjl : j < x.l.length := by omega
                              obtain ⟨z, hz⟩ : ∃ z, x.l[j] = z := ⟨_, rfl⟩
                              obtain ⟨e0, -, -⟩ := c_at (hs3 ▸ hcr) hjl z hz
                              have hdec : 0 < i := by omega
                              have hkz' : (0 : Int) < (i : Int) := by omega
                              have hjI : (j : Int) < (x.l.length : Int) := by omega
                              have hj0 : (0 : Int) ≤ (j : Int) := by omega
                              have hws : IntKind.i64.wrap ((i : Int) - 1) = (j : Int) := by rw [IntKind.wrap_i64]; omega
                              obtain ⟨v1, hv1⟩ : ∃ v, Op.bytesLess z.k.toList y.k.toList = v := ⟨_, rfl⟩
                              have HZY := Lib.hid (show klt z.k y.k = v1 from hv1)
                              have HJ := Lib.hid hj
                              have HZ := Lib.hid hz
                              have hgl3 : g3 < wr.heap.size := World.block_lt_of_cell? _ _ e0
                              clear hkz hy hs3 hcr hj hz
                              cases v1 with
                              | true =>
                                cases hr : y.r with
                                | false =>
                                  rw [hr] at d2 HBX
                                  have HCK := Lib.hid (ckb_succ hin HK.out (fun i2 e => by have e2 : i2 = j := (by have := HJ.out; omega); subst e2; rw [HZ.out, HY.out, HZY.out]) (fun q => by rw [HY.out, hr] at q; cases q))
                                  clear hr
                                  go_upto_region 20 with fail
                                  go_quiet (fail)
                                  go_wp2_with fail
                                  try rw [← HS3.out]
                                  go_roundg (x.l.length - (i + 1))
                                  case measure => have := Hg3.out; omega
                                  case rel => exact ⟨i + 1, rfl, by omega, by simp, HCK.out, ⟨HBX.out.os, HBX.out.tape, HBX.out.output, HBX.out.size, HBX.out.block⟩⟩
                                | true =>
                                  rw [hr] at d2 HBX
                                  obtain ⟨u, hu⟩ : ∃ u, (y.v.toList == []) = u := ⟨_, rfl⟩
                                  have HU := Lib.hid ((bempty y.v).symm.trans hu)
                                  have HRR := Lib.hid hr
                                  clear hr
                                  cases u with
                                  | true =>
                                    have HCK := Lib.hid (ckb_succ hin HK.out (fun i2 e => by have e2 : i2 = j := (by have := HJ.out; omega); subst e2; rw [HZ.out, HY.out, HZY.out]) (fun _ => by rw [HY.out]; simpa using HU.out))
                                    go_upto_region 20 with fail
                                    go_quiet (fail)
                                    go_wp2_with fail
                                    try rw [← HS3.out]
                                    go_roundg (x.l.length - (i + 1))
                                    case measure => have := Hg3.out; omega
                                    case rel => exact ⟨i + 1, rfl, by omega, by simp, HCK.out, ⟨HBX.out.os, HBX.out.tape, HBX.out.output, HBX.out.size, HBX.out.block⟩⟩
                                  | false =>
                                    have HNO := Lib.hid (nokC2 (l := x.l) (c := y) (by rw [← HY.out]; exact List.getElem_mem hin) HRR.out (by simpa using HU.out))
                                    go_upto_region 20 with fail
                                    go_quiet (fail)
                                    go_wp2_with fail
                                    go_ret
                                    exact bp_no (VR.noX HXM.out (fun q => HNO.out q.2.1)) (HW6.out.trans ((below_dn HBX.out).mono HW6.out.size))
                              | false =>
                                have HNO := Lib.hid (show ¬ okC x.l from by
                                  have hj := HJ.out
                                  subst hj
                                  exact nokC1 hin (by rw [HZ.out, HY.out, HZY.out]))
                                go_upto_region 20 with fail
                                go_quiet (fail)
                                go_wp2_with fail
                                go_ret
                                exact bp_no (VR.noX HXM.out (fun q => HNO.out q.2.1)) (HW6.out.trans ((below_dn HBX.out).mono HW6.out.size))
                          · obtain rfl : i = x.l.length := by omega
                            have HOK := Lib.hid (ckb_all HK.out)
                            obtain ⟨a0, a1, a2, -⟩ := (HKA.out.kept (Fr.of_below (HB6.out.trans (HBi.out.mono HB6.out.size))) (fun q => q)).three
                            have KC := Lib.hid (content_ref sp cp P x.s x.c x.l wr HGi.out.pc hcr (by omega) HASC.out)
                            obtain ⟨C, hC⟩ : ∃ C, content P x.l = C := ⟨_, rfl⟩
                            have HCC := Lib.hid hC
                            have hcl := content_len x.l P
                            rw [hC] at hcl
                            have HWi := Lib.hid (HW6.out.trans (HBi.out.mono HW6.out.size))
                            clear hC hcr
                            by_cases q5 : 1048576 < wz C
                            · go_wp2_with (first
                                | (go_at_call 25; refine (KC.out).mono ?_; rintro e w7 ⟨s7, c7, rfl, h7, -, hb7⟩; rw [HCC.out] at h7 ⊢; have HW7 := Lib.hid (HWi.out.trans (hb7.mono HWi.out.size)); have KZ := Lib.hid (size_wr s7 c7 C w7 h7.rd (by omega)); clear h7 hb7)
                                | (go_at_call 41; refine (KZ.out).mono ?_; rintro e w8 ⟨rfl, h8⟩; have HW8 := Lib.hid (HW7.out.trans (h8.mono HW7.out.size)); clear h8))
                              go_ret
                              exact bp_no (VR.noX HXM.out (fun q => absurd q.2.2 (by rw [HCC.out]; omega))) HW8.out
                            · have q5' : wz C ≤ 1048576 := by omega
                              go_wp2_with (first
                                | (go_at_call 25; refine (KC.out).mono ?_; rintro e w7 ⟨s7, c7, rfl, h7, -, hb7⟩; rw [HCC.out] at h7 ⊢; have HB7 := Lib.hid (HBX0.out.trans ((HBi.out.trans (hb7.mono HBi.out.size)).mono HBX0.out.size)); have KZ := Lib.hid (size_wr s7 c7 C w7 h7.rd (by omega)); clear h7 hb7)
                                | (go_at_call 41; refine (KZ.out).mono ?_; rintro e w8 ⟨rfl, h8⟩; have HB8 := Lib.hid (HB7.out.trans (h8.mono HB7.out.size)); clear h8))
                              try rw [← HST.out]
                              go_roundg (T.length - (k + 1))
                              case measure => have := Hg.out; omega
                              case rel => exact ⟨k + 1, x.t.id, rfl, by omega, (by rw [H3.out]; rfl), rfl, by rw [HSU.out]; exact HP.out, fun y hy => by
                                rw [List.take_succ_eq_append_getElem hkn, HX.out] at hy
                                rcases List.mem_append.1 hy with q | q
                                · exact HALL.out y q
                                · rw [List.mem_singleton.1 q]; exact ⟨HID.out, HOK.out, by rw [HCC.out]; exact q5'⟩, HB8.out⟩
                      | false =>
                        rw [h4] at d2
                        have HP := Lib.hid (step_bad2 (i := k) (last := last) (x := x) (by omega) (.inr h4))
                        rw [h4] at HBX0 HWB
                        clear h3 h4 h2
                        go_wp2_with fail
                        go_ret
                        exact bp_no (VR.noT (foldT_bad (k := k + 1) (by rw [HSU.out]; exact HP.out))) (HWB.out)
                    · have h3I : (0 : Int) < (k : Int) := by omega
                      have HP := Lib.hid (step_bad2 (i := k) (last := last) (x := x) (by omega) (.inl (by omega)))
                      clear h3 h2
                      go_wp2_with fail
                      go_ret
                      exact bp_no (VR.noT (foldT_bad (k := k + 1) (by rw [HSU.out]; exact HP.out))) (HWB.out)

            · obtain rfl : k = T.length := by omega
              go_wp2_with fail
              go_ret
              rw [List.take_length] at HF HALL
              exact bp_yes ⟨HASC.out, HQ.out.1, HQ.out.2, ⟨last, HF.out⟩, HALL.out⟩ (HW5.out.trans (HB.out.mono HW5.out.size))

end Go.Proofs.Ytcglnjklnlejmaa
