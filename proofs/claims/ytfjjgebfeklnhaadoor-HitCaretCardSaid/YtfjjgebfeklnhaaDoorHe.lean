/-
  slices.Index and slices.Contains at numbers; the chapter's Covering; few, rect and items of the law.
-/
import Derived.Test.YtfjjgebfeklnhaaDoorHd
set_option linter.unusedVariables false
set_option linter.unusedSimpArgs false
namespace Go.Proofs.YtfjjgebfeklnhaaDoor
open Go.RowKit Go.K

def ints (l : List Int) : List Value := l.map (Value.int .i64)
theorem ints_len (l : List Int) : (ints l).length = l.length := by simp [ints]
theorem ints_app (a b : List Int) : ints (a ++ b) = ints a ++ ints b := by simp [ints]
theorem ints_at {w : World} {g o n : Nat} {CS : List Int} (h : Rd w 1 (some ⟨g, o, none⟩) n (ints CS)) (k : Nat) (hk : k < CS.length) (x : Int) (hx : CS[k] = x) : w.cell? ⟨g, o + k, none⟩ = some (.int .i64 x) := by
  have := h.cells _ rfl k (.int .i64 x) (by simp [ints, List.getElem?_eq_getElem hk, hx])
  simpa [Addr.add_lit] using this
theorem infoI : (Tryd.prog.info? 3).map (fun i => (i.zero, i.size, i.bytes)) = some (some (.int .i64 0), 1, 8) := by kernel_rfl
theorem elI : El Tryd.prog 27 3 1 8 := by
  obtain ⟨i, hi, h1, h2, h3⟩ := info_parts infoI
  exact ⟨by kernel_rfl, ⟨i, _, hi, h1, h2, h3, rfl⟩, by decide⟩
/-- the indices from k on of the items that cover a point, the last first -/
def covD (x y : Int) (ls : List GI) (k : Nat) : List Int := (((List.range ls.length).drop k).filter (fun i => cov (ls.getD i default).1.r (ls.getD i default).1.c x y)).reverse.map (fun i : Nat => (i : Int))
theorem covD_last (x y : Int) (ls : List GI) : covD x y ls ls.length = [] := by rw [covD, List.drop_of_length_le (by simp)]; rfl
theorem covD_step (x y : Int) (ls : List GI) (m : Nat) (hm : m < ls.length) (g : GI) (hg : ls[m] = g) : covD x y ls m = covD x y ls (m + 1) ++ (if cov g.1.r g.1.c x y then [(m : Int)] else []) := by
  unfold covD
  rw [List.drop_eq_getElem_cons (by simpa using hm)]
  have e : ls.getD m default = g := by simp [List.getElem?_eq_getElem hm, hg]
  simp only [List.getElem_range, List.filter_cons, e]
  by_cases h : cov g.1.r g.1.c x y = true
  · simp [h]
  · simp [h]
theorem covD_len (x y : Int) (ls : List GI) (k : Nat) : (covD x y ls k).length ≤ ls.length := by
  unfold covD
  rw [List.length_map, List.length_reverse]
  refine Nat.le_trans (List.length_filter_le _ _) (by simp)

def CvRel (x y : Int) (ls : List GI) (w : World) (g : Nat) (v7 v8 : Value) (wr : World) : Prop :=
  ∃ (k : Nat) (s : Option Addr) (c : Nat), g = k ∧ k ≤ ls.length ∧ v8 = .int .i64 ((k : Int) - 1) ∧ v7 = .slice s (covD x y ls k).length c ∧ K.Own w wr 3 1 s (covD x y ls k).length c (ints (covD x y ls k))
def CvPost (x y : Int) (ls : List GI) (w : World) (e : Ending) (w' : World) : Prop :=
  ∃ s c, e = .returned (.slice s (covD x y ls 0).length c) ∧ K.Own w w' 3 1 s (covD x y ls 0).length c (ints (covD x y ls 0))

set_option maxRecDepth 100000 in
set_option maxHeartbeats 1000000 in
theorem covering_any (s : Option Addr) (c : Nat) (ls : List GI) (x y : Int) (w : World) (h : Rd w 13 s ls.length (flat icells ls)) (hn : ls.length ≤ 1000000) :
    Calls Tryd.prog 7 #[.slice s ls.length c, .int .i64 x, .int .i64 y] w (CvPost x y ls w) := by
  have HR := Lib.hid h
  clear h
  have hnI : (ls.length : Int) ≤ 1000000 := by omega
  go_enter Tryd.func7, Tryd.ntmps7
  go_wp2_with fail
  go_loopg [7, 8] ls.length (CvRel x y ls w)
  case atStart => exact ⟨ls.length, none, 0, rfl, Nat.le_refl _, rfl, by rw [covD_last]; rfl, by rw [covD_last]; exact K.Own.nil (Below.refl _ _) _ _⟩
  case round =>
    obtain ⟨k, so, co, hg, hk, rfl, rfl, hp⟩ := hrel
    have Hg := Lib.hid hg
    have Hp := Lib.hid hp
    clear hg hp
    cases k with
    | zero =>
      go_wp2_with fail
      go_ret
      exact ⟨so, co, rfl, Hp.out⟩
    | succ m =>
      have hm : m < ls.length := by omega
      have e1 : ((m + 1 : Nat) : Int) - 1 = (m : Int) := by omega
      rw [e1]
      have hr := HR.out.below Hp.out.bel
      obtain ⟨g, off, rfl, -⟩ := hr.addr (by omega)
      obtain ⟨xg, hx⟩ : ∃ xg, ls[m] = xg := ⟨_, rfl⟩
      have HS := Lib.hid (covD_step x y ls m hm xg hx)
      have hcl := covD_len x y ls (m + 1)
      obtain ⟨d0, d1, d2, d3, d4, d5, d6, d7, d8, d9, d10, d11, d12⟩ := i_at hr hm xg hx
      have hmI : (m : Int) < (ls.length : Int) := by omega
      have hm0 : (0 : Int) ≤ (m : Int) := by omega
      obtain ⟨O, hO⟩ : ∃ O, covD x y ls (m + 1) = O := ⟨_, rfl⟩
      rw [hO] at Hp HS hcl
      simp only [hO]
      obtain ⟨cv, hcv⟩ : ∃ cv, cov xg.1.r xg.1.c x y = cv := ⟨_, rfl⟩
      rw [hcv] at HS
      have HCV := Lib.hid hcv
      clear hcv hx hO hr
      cases cv with
      | false =>
        go_wp2_with (go_at_call 16; refine (refcovers_c (r := false) _ xg.2.1 xg.2.2.1 HCV.out).mono ?_; rintro e w2 ⟨rfl, hb2⟩; have Hp2 := Lib.hid (Hp.out.to hb2))
        go_roundg m
        case measure => have := Hg.out; omega
        case rel =>
          have he := HS.out
          simp at he
          exact ⟨m, so, co, rfl, by omega, rfl, by rw [he], by rw [he]; exact Hp2.out⟩
      | true =>
        go_wp2_with (first
          | (go_at_call 16; refine (refcovers_c (r := true) _ xg.2.1 xg.2.2.1 HCV.out).mono ?_; rintro e w2 ⟨rfl, hb2⟩; have Hp2 := Lib.hid (Hp.out.to hb2); clear hb2 d0 d1 d2 d3 d4 d5 d6 d7 d8 d9 d10 d11 d12; have H3 := Lib.hid (Hp2.out.alloc (.cells #[.int .i64 (m : Int)] 3)); have r2 := rd_built_at w2 #[.int .i64 (m : Int)] 3 1 1 w2.heap.size rfl rfl (by simp [Value.oneCell']))
          | (refine wpList_append_own' rfl (.tmp 23) (.tmp 25) 27 rfl elI so _ co _ rfl H3.out _ 1 _ _ rfl r2 (by omega) (by omega) ?_; intro so' co' w4 p1 p2 p3; have H4 := Lib.hid p1; clear p1 p2 p3))
        go_roundg m
        case measure => have := Hg.out; omega
        case rel =>
          have he := HS.out
          simp at he
          refine ⟨m, so', co', rfl, by omega, rfl, by rw [he]; simp, ?_⟩
          rw [he, ints_app]
          simpa [ints] using H4.out
end Go.Proofs.YtfjjgebfeklnhaaDoor
