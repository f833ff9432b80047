/-
  PaintDraws: fill.
-/
import Derived.Test.YtifgjccnhbbadaaNl
set_option linter.unusedVariables false
set_option linter.unusedSimpArgs false
namespace Go.Proofs.Ytifgjccnhbbadaa
open Go.RowKit Go.K Go.PlainAid Go.Lib

theorem cv_in (X A B : As) (l L : List As) : (X :: A :: B :: (l ++ L)).Perm (A :: B :: (l ++ X :: L)) :=
  (List.Perm.swap A X _).trans (((List.Perm.swap B X _).trans ((List.perm_middle.symm).cons B)).cons A)
def fillF (v : R4) (ch : Int) (f : Nat → Nat → Int) (r x : Nat) : Int := if hasR v (8 * x + 4) (16 * r + 8) then ch else f r x
def partF (v : R4) (ch : Int) (f : Nat → Nat → Int) (r x : Nat) (r' c' : Nat) : Int := if r' < r ∨ (r' = r ∧ c' < x) then fillF v ch f r' c' else f r' c'
def FlR (w0 : World) (bc W : Nat) (s : Option Addr) (c : Nat) (hs : List Hd) (f : Nat → Nat → Int) (L : List As) (v : R4) (ch : Int) (r x : Nat) (wr : World) : Prop :=
  ∃ F, St w0 wr (cvL bc W s c hs F L) ∧ ∀ r' c', c' < W → F r' c' = partF v ch f r x r' c'
set_option maxRecDepth 100000 in
set_option maxHeartbeats 2000000 in
theorem fill_any {w0 w : World} {bc W : Nat} {s : Option Addr} {c : Nat} {hs : List Hd} {f : Nat → Nat → Int} {L : List As} (h : St w0 w (cvL bc W s c hs f L)) (v : R4) (hv : Bd 1000000000 v) (ch : Int) (hW : W ≤ 13) (hH : hs.length ≤ 7) :
    Calls Try.prog 17 #[.pointer (some ⟨bc, 0, none⟩), rv v, .int .i32 ch] w fun e w' => e = .returned (.tuple #[]) ∧ FlR w0 bc W s c hs f L v ch hs.length 0 w' := by
  have H := Lib.hid ((h.new #[.int .i64 v.x, .int .i64 v.y, .int .i64 v.w, .int .i64 v.h] 31).perm (cv_in _ _ _ _ _))
  obtain ⟨v0, v1, v2, v3⟩ := v
  have HV := Lib.hid hv
  clear h hv
  go_enter Try.func17, Try.ntmps17
  go_upto_region 1 with fail
  obtain ⟨b0, hb0⟩ : ∃ b, w.heap.size = b := ⟨_, rfl⟩
  obtain ⟨w1, hw1⟩ : ∃ W, w.alloc (.cells #[.int .i64 v0, .int .i64 v1, .int .i64 v2, .int .i64 v3] 31) = W := ⟨_, rfl⟩
  simp only [hb0, hw1] at H ⊢
  obtain ⟨t0, t1, t2⟩ := cv_three H.out
  go_wp2_with fail
  go_loopg [12] hs.length (fun g x wr => ∃ r : Nat, g = hs.length - r ∧ r ≤ hs.length ∧ x = .int .i64 r ∧ FlR w0 bc W s c hs f (As.cells b0 #[.int .i64 v0, .int .i64 v1, .int .i64 v2, .int .i64 v3] 31 :: L) ⟨v0, v1, v2, v3⟩ ch r 0 wr)
  case atStart => exact ⟨0, rfl, Nat.zero_le _, rfl, f, H.out, fun r' c' _ => by unfold partF; rw [if_neg (by omega)]⟩
  case round =>
    obtain ⟨r, hg, hr, rfl, hF⟩ := hrel
    have Hg := Lib.hid hg
    have HF := Lib.hid hF
    clear hg hF t0 t1 t2
    by_cases hrn : r < hs.length
    · have hrI : (r : Int) < (hs.length : Int) := by omega
      obtain ⟨F, h1, -⟩ := HF.out
      obtain ⟨t0, t1, t2⟩ := cv_three h1
      clear h1
      go_wp2_with fail
      go_loopg [19] W (fun g x wr => ∃ q : Nat, g = W - q ∧ q ≤ W ∧ x = .int .i64 q ∧ FlR w0 bc W s c hs f (As.cells b0 #[.int .i64 v0, .int .i64 v1, .int .i64 v2, .int .i64 v3] 31 :: L) ⟨v0, v1, v2, v3⟩ ch r q wr)
      case atStart => exact ⟨0, rfl, Nat.zero_le _, rfl, HF.out⟩
      case round =>
        obtain ⟨q, hg2, hq, rfl, F2, h2, hF2⟩ := hrel
        have Hg2 := Lib.hid hg2
        have HF2 := Lib.hid hF2
        clear hg2 hF2 t0 t1 t2 HF
        by_cases hqn : q < W
        · have hqI : (q : Int) < (W : Int) := by omega
          have hbx := h2.blkm (b := b0) (cs := #[.int .i64 v0, .int .i64 v1, .int .i64 v2, .int .i64 v3]) (t := 31) (by simp [cvL])
          have d0 := hbx.cell 0
          have d1 := hbx.cell 1
          have d2 := hbx.cell 2
          have d3 := hbx.cell 3
          simp at d0 d1 d2 d3
          have e1 := wrapS (a := (q : Int) * 8) (by omega) (by omega)
          have e2 := wrapS (a := (q : Int) * 8 + 4) (by omega) (by omega)
          have e3 := wrapS (a := (r : Int) * 16) (by omega) (by omega)
          have e4 := wrapS (a := (r : Int) * 16 + 8) (by omega) (by omega)
          have e5 := wrapS (a := (q : Int) + 1) (by omega) (by omega)
          have H2 := Lib.hid h2
          obtain ⟨bb, hbb⟩ : ∃ b, hasR ⟨v0, v1, v2, v3⟩ ((q : Int) * 8 + 4) ((r : Int) * 16 + 8) = b := ⟨_, rfl⟩
          have hwi := fun w => within_any ⟨v0, v1, v2, v3⟩ ((q : Int) * 8 + 4) ((r : Int) * 16 + 8) w HV.out
          simp only [hbb] at hwi
          have HWI := Lib.hid hwi
          have hBB : hasR ⟨v0, v1, v2, v3⟩ (8 * (q : Int) + 4) (16 * (r : Int) + 8) = bb := by rw [Int.mul_comm 8, Int.mul_comm 16]; exact hbb
          have HBB := Lib.hid hBB
          clear hwi hbb hBB hbx h2
          cases bb with
          | false =>
            go_wp2_with (go_at_call 28; refine (HWI.out _).mono ?_; rintro e w3 ⟨rfl, hb3⟩; have H2 := Lib.hid (H2.out.of_below hb3))
            go_roundg (W - (q + 1))
            case measure => have := Hg2.out; omega
            case rel =>
              refine ⟨q + 1, rfl, by omega, by rw [Int.natCast_add]; rfl, F2, H2.out, fun r' c' hc' => ?_⟩
              rw [HF2.out r' c' hc']
              unfold partF
              by_cases k : r' = r ∧ c' = q
              · obtain ⟨rfl, rfl⟩ := k
                rw [if_neg (by omega), if_pos (by omega)]
                unfold fillF
                rw [HBB.out]; rfl
              · by_cases k2 : r' < r ∨ (r' = r ∧ c' < q)
                · rw [if_pos k2, if_pos (by omega)]
                · rw [if_neg k2, if_neg (by omega)]
          | true =>
            go_upto_region 8 with (go_at_call 28; refine (HWI.out _).mono ?_; rintro e w3 ⟨rfl, hb3⟩; have H2 := Lib.hid (H2.out.of_below hb3))
            obtain ⟨t0, t1, t2⟩ := cv_three H2.out
            obtain ⟨g1, o1, rfl, u1⟩ := cv_hd H2.out hrn
            obtain ⟨g2, o2, k2, hh, u2, u3, u4⟩ := cv_row H2.out hrn hqn
            rw [hh] at u1
            simp only [hdV] at u1
            have U4 := Lib.hid (u4 ch)
            clear u4 hh
            go_wp2_with fail
            go_roundg (W - (q + 1))
            case measure => have := Hg2.out; omega
            case rel =>
              refine ⟨q + 1, rfl, by omega, by rw [Int.natCast_add]; rfl, _, U4.out, fun r' c' hc' => ?_⟩
              unfold putF
              by_cases k : r' = r ∧ c' = q
              · rw [if_pos k]
                obtain ⟨rfl, rfl⟩ := k
                unfold partF
                rw [if_pos (by omega)]
                unfold fillF
                rw [HBB.out]; rfl
              · rw [if_neg k, HF2.out r' c' hc']
                unfold partF
                by_cases k2 : r' < r ∨ (r' = r ∧ c' < q)
                · rw [if_pos k2, if_pos (by omega)]
                · rw [if_neg k2, if_neg (by omega)]
        · have hqe : q = W := by omega
          subst hqe
          have hqI : ¬ (q : Int) < (q : Int) := by omega
          have e5 := wrapS (a := (r : Int) + 1) (by omega) (by omega)
          have H2 := Lib.hid h2
          clear h2
          go_wp2_with fail
          go_roundg (hs.length - (r + 1))
          case measure => have := Hg.out; omega
          case rel =>
            refine ⟨r + 1, rfl, by omega, by rw [Int.natCast_add]; rfl, F2, H2.out, fun r' c' hc' => ?_⟩
            rw [HF2.out r' c' hc']
            unfold partF
            by_cases k2 : r' < r ∨ (r' = r ∧ c' < q)
            · rw [if_pos k2, if_pos (by omega)]
            · rw [if_neg k2, if_neg (by omega)]
    · have hre : r = hs.length := by omega
      subst hre
      have hrI : ¬ (hs.length : Int) < (hs.length : Int) := by omega
      go_wp2_with fail
      obtain ⟨F, h1, h3⟩ := HF.out
      exact bodyPost_end (v := .tuple #[]) (by simp [results, Try.results17, go_sem]) rfl ⟨rfl, F, (h1.perm (cv_in _ _ _ _ _).symm).drop, h3⟩
end Go.Proofs.Ytifgjccnhbbadaa
