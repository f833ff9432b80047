/-
  The source of the next task of a State.
-/
import Derived.Test.YtnamkckpgaopkaaLn
import Derived.BigQuiet
set_option linter.unusedVariables false
set_option linter.unusedSimpArgs false
namespace Go.Proofs.Ytnamkckpgaopkaa
open Go.RowKit Go.K

theorem lenQ (c : Qt) : c.cells.length = 5 := rfl
theorem oneQ : ∀ c : Qt, ∀ u ∈ c.cells, u.oneCell' = true := by
  intro c u hu
  simp only [Qt.cells, List.mem_cons, List.not_mem_nil, or_false] at hu
  rcases hu with rfl | rfl | rfl | rfl | rfl <;> rfl
theorem headQ {w : World} {g off n : Nat} {x : Qt} {l : List Qt} (h : Rd w 5 (some ⟨g, off, none⟩) n (flat Qt.cells (x :: l))) :
    w.cell? ⟨g, off, none⟩ = some (.int .i64 x.o) ∧ w.cell? ⟨g, off + 1, none⟩ = some (.int .i64 x.k) ∧ w.cell? ⟨g, off + 2, none⟩ = some (.int .i64 x.n) ∧ w.cell? ⟨g, off + 3, none⟩ = some (.string { data := #[] }) ∧ w.cell? ⟨g, off + 4, none⟩ = some (.slice none 0 0) := by
  have key : ∀ i v, (x.cells)[i]? = some v → w.cell? ⟨g, off + i, none⟩ = some v := fun i v hv => by
    have h1 : (flat Qt.cells (x :: l))[i]? = some v := by
      rw [flat_cons, List.getElem?_append_left (by have := (List.getElem?_eq_some_iff.1 hv).1; exact this)]
      exact hv
    have h2 := h.cells _ rfl _ _ h1
    rwa [Addr.add_lit] at h2
  exact ⟨key 0 _ rfl, key 1 _ rfl, key 2 _ rfl, key 3 _ rfl, key 4 _ rfl⟩

theorem bel_drewN {B : Nat} {w0 w : World} (h : Below B w0 w) (d : Nat) : Below B w0 (w.drewN d) := ⟨h.os, h.tape, h.output, h.size, h.block⟩
def stepB (S : LS) (i : Nat) (bo : Int × Int) : Int × Int := match S.q i with
  | [] => bo
  | x :: _ => if i ≠ 0 ∧ (bo.1 < 0 ∨ x.o < bo.2) then ((i : Int), x.o) else bo
/-- the source with the oldest first task among the first k, and its order -/
def bestN (S : LS) (k : Nat) : Int × Int := (List.range k).foldl (fun bo i => stepB S i bo) (-1, 0)
theorem bestN_succ (S : LS) (k : Nat) : bestN S (k + 1) = stepB S k (bestN S k) := by
  unfold bestN
  rw [List.range_succ, List.foldl_append]
  rfl
def srcR (S : LS) : Int := if 0 < (S.q 0).length ∧ ((bestN S 5).1 < 0 ∨ S.users < 4) then 0 else (bestN S 5).1
def SrRel (S : LS) (w : World) (g : Nat) (v3 v4 v8 : Value) (wr : World) : Prop :=
  ∃ (k : Nat) (B O : Int), g = 5 - k ∧ k ≤ 5 ∧ v8 = .int .i64 k ∧ v3 = .int .i64 B ∧ v4 = .int .i64 O ∧ bestN S k = (B, O) ∧ Below w.heap.size w wr
set_option maxRecDepth 100000 in
set_option maxHeartbeats 2000000 in
theorem source_st {w0 w : World} {L : List As} {b : Nat} {S : LS} (h : St w0 w (stO b S :: L)) (hn : ∀ i, (S.q i).length ≤ 100000) :
    Calls Try.prog 60 #[.pointer (some ⟨b, 0, none⟩)] w fun e w' => e = .returned (.int .i64 (srcR S)) ∧ Below w.heap.size w w' := by
  obtain ⟨p, G, hb, h⟩ := st_open h
  have H := Lib.hid h
  have HN := Lib.hid hn
  clear h hb hn
  obtain ⟨R, hR⟩ : ∃ R, srcR S = R := ⟨_, rfl⟩
  rw [hR]
  have HR := Lib.hid hR
  clear hR
  go_enter Try.func60, Try.ntmps60
  go_wp2_with fail
  go_loopg [3, 4, 8] 5 (SrRel S w)
  case atStart => exact ⟨0, -1, 0, rfl, by omega, rfl, rfl, rfl, rfl, Below.refl _ _⟩
  case round =>
    obtain ⟨k, B, O, hg, hk, rfl, rfl, rfl, hbn, hbel⟩ := hrel
    have Hg := Lib.hid hg
    have HBN := Lib.hid hbn
    have HB := Lib.hid hbel
    clear hg hbn hbel
    by_cases hk5 : k < 5
    · have hkI : (k : Int) < 5 := by omega
      have hkI0 : (0 : Int) ≤ (k : Int) := by omega
      have hs := H.out.of_below HB.out
      have HQ := Lib.hid (st_q hs k hk5)
      have HD := Lib.hid (foc_q hk5 hs).swap.sl.rd
      clear hs
      cases hS : S.q k with
      | nil =>
        have HS := Lib.hid hS
        clear hS
        go_upto_region 6 with (go_at_call 71; refine (peek0Q (b := b) (o := 1 + k) (s := (p k).1) (c := (p k).2) (by have := HQ.out; rw [HS.out] at this; exact this)).mono ?_; rintro e w2 ⟨rfl, hb2⟩; have HB2 := Lib.hid (hb2.alloc hb2.size (.cells #[.int .i64 0, .int .i64 0, .int .i64 0, .string { data := #[] }, .slice none 0 0] 91)); clear hb2)
        go_wp2_with fail
        go_roundg (5 - (k + 1))
        case measure => have := Hg.out; omega
        case rel =>
          refine ⟨k + 1, B, O, rfl, by omega, by simp, rfl, rfl, ?_, HB.out.trans (HB2.out.mono HB.out.size)⟩
          rw [bestN_succ, HBN.out]
          unfold stepB; rw [HS.out]
      | cons x r =>
        have HS := Lib.hid hS
        have hq := HQ.out
        have hd := HD.out
        rw [hS] at hq hd
        clear hS
        obtain ⟨g, off, hpk, -⟩ := hd.addr (by simp)
        rw [hpk] at hq hd
        have hx := headQ hd
        have HX := Lib.hid hx
        have HQ2 := Lib.hid (show wr.cell? ⟨b, 1 + k, none⟩ = some (.slice (some ⟨g, off, none⟩) (r.length + 1) (p k).2) from hq)
        clear hq hd hpk hx
        go_upto_region 6 with (go_at_call 71; refine (peek1Q (b := b) (o := 1 + k) (g := g) (off := off) (n := r.length) (c := (p k).2) x.o x.k x.n HQ2.out HX.out).mono ?_; rintro e w2 ⟨rfl, hb2⟩; have HB2 := Lib.hid (hb2.alloc hb2.size (.cells #[.int .i64 x.o, .int .i64 x.k, .int .i64 x.n, .string { data := #[] }, .slice none 0 0] 91)); clear hb2)
        by_cases hk0 : k = 0
        · have hk0b : ((k : Int) != 0) = false := by simp [hk0]
          have HK0 := Lib.hid hk0
          clear hk0
          go_wp2_with fail
          go_roundg (5 - (k + 1))
          case measure => have := Hg.out; omega
          case rel =>
            refine ⟨k + 1, B, O, rfl, by omega, by simp, rfl, rfl, ?_, HB.out.trans (HB2.out.mono HB.out.size)⟩
            rw [bestN_succ, HBN.out]
            unfold stepB; rw [HS.out]; simp [HK0.out]
        · have hk0b : ((k : Int) != 0) = true := by simp; omega
          by_cases hB0 : B < 0
          · go_upto_region 7 with fail
            go_quiet (fail)
            go_wp2_with fail
            go_roundg (5 - (k + 1))
            case measure => have := Hg.out; omega
            case rel =>
              refine ⟨k + 1, k, x.o, rfl, by omega, by simp, rfl, rfl, ?_, HB.out.trans (bel_drewN (HB2.out.mono HB.out.size) _)⟩
              rw [bestN_succ, HBN.out]
              unfold stepB; rw [HS.out]; simp [hk0, hB0]
          · by_cases hO : x.o < O
            · go_upto_region 7 with fail
              go_quiet (fail)
              go_wp2_with fail
              go_roundg (5 - (k + 1))
              case measure => have := Hg.out; omega
              case rel =>
                refine ⟨k + 1, k, x.o, rfl, by omega, by simp, rfl, rfl, ?_, HB.out.trans (bel_drewN (HB2.out.mono HB.out.size) _)⟩
                rw [bestN_succ, HBN.out]
                unfold stepB; rw [HS.out]; simp [hk0, hO]
            · go_wp2_with fail
              go_roundg (5 - (k + 1))
              case measure => have := Hg.out; omega
              case rel =>
                refine ⟨k + 1, B, O, rfl, by omega, by simp, rfl, rfl, ?_, HB.out.trans (HB2.out.mono HB.out.size)⟩
                rw [bestN_succ, HBN.out]
                have hno : ¬ (k ≠ 0 ∧ (B < 0 ∨ x.o < O)) := fun q => by have := q.2; omega
                unfold stepB; rw [HS.out]; exact if_neg hno
    · have hke : k = 5 := by omega
      subst hke
      have hkI : ¬ ((5 : Nat) : Int) < 5 := by omega
      have hs := H.out.of_below HB.out
      have hq0 := st_q hs 0 (by omega)
      have HB5 : (bestN S 5).1 = B := by rw [HBN.out]
      have hr := HR.out
      unfold srcR at hr
      rw [HB5] at hr
      obtain ⟨-, -, -, -, -, -, c15⟩ := st_c hs
      have HR2 := Lib.hid hr
      clear hr HB5 hs
      have hq1 : wr.cell? ⟨b, 1, none⟩ = some (.slice (p 0).1 (S.q 0).length (p 0).2) := hq0
      clear hq0
      by_cases h0 : 0 < (S.q 0).length
      · have h0I : (0 : Int) < ((S.q 0).length : Int) := by omega
        by_cases hB0 : B < 0
        · have hR0 : R = 0 := by rw [← HR2.out, if_pos ⟨h0, .inl hB0⟩]
          go_wp2_with (go_at_call 68; refine (qlenQ hq1).mono ?_; rintro e w2 ⟨rfl, rfl⟩)
          go_ret
          exact ⟨by rw [hR0]; rfl, HB.out⟩
        · by_cases hU : S.users < 4
          · have hR0 : R = 0 := by rw [← HR2.out, if_pos ⟨h0, .inr hU⟩]
            go_wp2_with (go_at_call 68; refine (qlenQ hq1).mono ?_; rintro e w2 ⟨rfl, rfl⟩)
            go_ret
            exact ⟨by rw [hR0]; rfl, HB.out⟩
          · have hR0 : R = B := by rw [← HR2.out, if_neg (fun q => by have := q.2; omega)]
            have HR3 := Lib.hid hR0
            clear hR0
            go_wp2_with (go_at_call 68; refine (qlenQ hq1).mono ?_; rintro e w2 ⟨rfl, rfl⟩)
            go_ret
            exact ⟨by rw [HR3.out]; rfl, HB.out⟩
      · have h0I : ¬ (0 : Int) < ((S.q 0).length : Int) := by omega
        have hR0 : R = B := by rw [← HR2.out, if_neg (fun q => h0 q.1)]
        have HR3 := Lib.hid hR0
        clear hR0
        go_wp2_with (go_at_call 68; refine (qlenQ hq1).mono ?_; rintro e w2 ⟨rfl, rfl⟩)
        go_ret
        exact ⟨by rw [HR3.out]; rfl, HB.out⟩

end Go.Proofs.Ytnamkckpgaopkaa
