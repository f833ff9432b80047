/-
  Cascade: the plain law of CascadeInherits.
-/
import Derived.Test.YtldembadjgibjaaGreatDoorBg
import Derived.Test.YtldembadjgibjaaGreatDoorBh
set_option linter.unusedVariables false
set_option linter.unusedSimpArgs false
namespace Go.Proofs.YtldembadjgibjaaGreatDoor
open Go.RowKit Go.K Go.PlainAid Go.Lib Go.Maps Go.WideMaps

abbrev noLk : Lk := fun _ => none
theorem law1 (up : Sty) : ((((((((applyM noLk iniS).cells.toArray.setIfInBounds 35 (vS (up.T 35))).setIfInBounds 34 (vS (up.T 35))).setIfInBounds 37 (.int .i64 (up.I 37))).setIfInBounds 38 (.int .i64 (up.I 38))).setIfInBounds 39 (.int .i64 (up.I 39))).setIfInBounds 40 (.int .i64 (up.I 40))).setIfInBounds 52 (.int .i64 (up.I 52))) = (applyM noLk up).cells.toArray := by kernel_rfl
theorem fix_fix (d q : Int) : fixM (fixM d q) q = fixM d q := by
  unfold fixM
  split
  · rename_i h
    rw [if_neg]
    rintro ⟨-, h2⟩
    omega
  · rfl
theorem apply_fix (lk : Lk) (p : Sty) : fixM ((applyM lk p).I 0) ((applyM lk p).I 1) = (applyM lk p).I 0 := fix_fix _ _
abbrev inhV : Va := ⟨1, 0, inheritL⟩
theorem get_inh {lk : Lk} {s : List UInt8} (h : lk s = some inhV) : getM lk s = (inhV, 1) := by
  unfold getM
  rw [h]
  rfl
/-- the property names of the table -/
def allN : List (List UInt8) := tabE.map (fun x => x.1)
structure AllInh (lk : Lk) : Prop where
  h : ∀ s ∈ allN, lk s = some inhV
theorem AllInh.get {lk : Lk} (H : AllInh lk) (s : List UInt8) (hs : allN.contains s = true) : getM lk s = (inhV, 1) := get_inh (H.h s (by simpa using hs))
theorem wd_inh {lk : Lk} (H : AllInh lk) (s w : List UInt8) (hs : allN.contains s = true) (a b : Int) (c : Bool) : wdM lk s w a b c = a := by unfold wdM; rw [H.get s hs]; rfl
theorem num_inh {lk : Lk} (H : AllInh lk) (s : List UInt8) (hs : allN.contains s = true) (a b c : Int) : numM lk s a b c = b := by unfold numM; rw [H.get s hs]; rfl
theorem long_inh {lk : Lk} (H : AllInh lk) (z : Int) (s : List UInt8) (hs : allN.contains s = true) (a b : Int × Int) : longM lk z s a b = a := by unfold longM; rw [H.get s hs]; rfl
theorem law2 (lk : Lk) (H : AllInh lk) (up : Sty) (hfix : fixM (up.I 0) (up.I 1) = up.I 0) : (applyM lk up).cells = up.cells := by
  have hf : fontM lk (up.I 37) = up.I 37 := by unfold fontM; rw [H.get fontL (by decide +kernel)]; rfl
  rw [Sty.list, Sty.list]
  have e0 : (applyM lk up).I 0 = up.I 0 := by
    show fixM (wdM lk displayS displayW (up.I 0) 2 false) (wdM lk positionS positionW (up.I 1) 0 false) = up.I 0
    rw [wd_inh H displayS displayW (by decide +kernel), wd_inh H positionS positionW (by decide +kernel)]; exact hfix
  have e1 : (applyM lk up).I 1 = up.I 1 := wd_inh H positionS positionW (by decide +kernel) _ _ _
  have e2 : (applyM lk up).I 2 = up.I 2 := by show (longM lk (fontM lk (up.I 37)) leftS (up.I 2, up.I 3) (0, 0)).1 = _; rw [long_inh H _ leftS (by decide +kernel)]
  have e3 : (applyM lk up).I 3 = up.I 3 := by show (longM lk (fontM lk (up.I 37)) leftS (up.I 2, up.I 3) (0, 0)).2 = _; rw [long_inh H _ leftS (by decide +kernel)]
  have e4 : (applyM lk up).I 4 = up.I 4 := by show (longM lk (fontM lk (up.I 37)) topS (up.I 4, up.I 5) (0, 0)).1 = _; rw [long_inh H _ topS (by decide +kernel)]
  have e5 : (applyM lk up).I 5 = up.I 5 := by show (longM lk (fontM lk (up.I 37)) topS (up.I 4, up.I 5) (0, 0)).2 = _; rw [long_inh H _ topS (by decide +kernel)]
  have e6 : (applyM lk up).I 6 = up.I 6 := by show (longM lk (fontM lk (up.I 37)) widthS (up.I 6, up.I 7) (0, 0)).1 = _; rw [long_inh H _ widthS (by decide +kernel)]
  have e7 : (applyM lk up).I 7 = up.I 7 := by show (longM lk (fontM lk (up.I 37)) widthS (up.I 6, up.I 7) (0, 0)).2 = _; rw [long_inh H _ widthS (by decide +kernel)]
  have e8 : (applyM lk up).I 8 = up.I 8 := by show (longM lk (fontM lk (up.I 37)) heightS (up.I 8, up.I 9) (0, 0)).1 = _; rw [long_inh H _ heightS (by decide +kernel)]
  have e9 : (applyM lk up).I 9 = up.I 9 := by show (longM lk (fontM lk (up.I 37)) heightS (up.I 8, up.I 9) (0, 0)).2 = _; rw [long_inh H _ heightS (by decide +kernel)]
  have e10 : (applyM lk up).I 10 = up.I 10 := by show (longM lk (fontM lk (up.I 37)) minwidthS (up.I 10, up.I 11) (1, 0)).1 = _; rw [long_inh H _ minwidthS (by decide +kernel)]
  have e11 : (applyM lk up).I 11 = up.I 11 := by show (longM lk (fontM lk (up.I 37)) minwidthS (up.I 10, up.I 11) (1, 0)).2 = _; rw [long_inh H _ minwidthS (by decide +kernel)]
  have e12 : (applyM lk up).I 12 = up.I 12 := by show (longM lk (fontM lk (up.I 37)) maxwidthS (up.I 12, up.I 13) (0, 0)).1 = _; rw [long_inh H _ maxwidthS (by decide +kernel)]
  have e13 : (applyM lk up).I 13 = up.I 13 := by show (longM lk (fontM lk (up.I 37)) maxwidthS (up.I 12, up.I 13) (0, 0)).2 = _; rw [long_inh H _ maxwidthS (by decide +kernel)]
  have e39 : (applyM lk up).I 39 = up.I 39 := wd_inh H textalignS textalignW (by decide +kernel) _ _ _
  have e40 : (applyM lk up).I 40 = up.I 40 := wd_inh H whitespaceS whitespaceW (by decide +kernel) _ _ _
  have e41 : (applyM lk up).I 41 = up.I 41 := wd_inh H verticalalignS verticalalignW (by decide +kernel) _ _ _
  have e42 : (applyM lk up).I 42 = up.I 42 := wd_inh H flexdirectionS flexdirectionW (by decide +kernel) _ _ _
  have e43 : (applyM lk up).B 43 = up.B 43 := by
    show (wdM lk flexwrapS flexwrapW (if up.B 43 = true then 1 else 0) 0 false == 1) = _
    rw [wd_inh H flexwrapS flexwrapW (by decide +kernel)]
    cases up.B 43 <;> rfl
  have e44 : (applyM lk up).I 44 = up.I 44 := num_inh H flexgrowS (by decide +kernel) _ _ _
  have e45 : (applyM lk up).I 45 = up.I 45 := num_inh H flexshrinkS (by decide +kernel) _ _ _
  have e46 : (applyM lk up).I 46 = up.I 46 := by show (longM lk (fontM lk (up.I 37)) flexbasisS (up.I 46, up.I 47) (0, 0)).1 = _; rw [long_inh H _ flexbasisS (by decide +kernel)]
  have e47 : (applyM lk up).I 47 = up.I 47 := by show (longM lk (fontM lk (up.I 37)) flexbasisS (up.I 46, up.I 47) (0, 0)).2 = _; rw [long_inh H _ flexbasisS (by decide +kernel)]
  have e48 : (applyM lk up).I 48 = up.I 48 := num_inh H orderS (by decide +kernel) _ _ _
  have e49 : (applyM lk up).I 49 = up.I 49 := num_inh H zindexS (by decide +kernel) _ _ _
  have e51 : (applyM lk up).I 51 = up.I 51 := wd_inh H overflowS overflowW (by decide +kernel) _ _ _
  have e52 : (applyM lk up).I 52 = up.I 52 := wd_inh H visibilityS visibilityW (by decide +kernel) _ _ _
  have e14 : (applyM lk up).I 14 = up.I 14 := by show (longM lk (fontM lk (up.I 37)) (marP ++ sideW.getD 0 []) (up.I 14, up.I 15) (1, 0)).1 = _; rw [long_inh H _ (marP ++ sideW.getD 0 []) (by decide +kernel)]
  have e15 : (applyM lk up).I 15 = up.I 15 := by show (longM lk (fontM lk (up.I 37)) (marP ++ sideW.getD 0 []) (up.I 14, up.I 15) (1, 0)).2 = _; rw [long_inh H _ (marP ++ sideW.getD 0 []) (by decide +kernel)]
  have e22 : (applyM lk up).I 22 = up.I 22 := by show (longM lk (fontM lk (up.I 37)) (padP ++ sideW.getD 0 []) (up.I 22, up.I 23) (1, 0)).1 = _; rw [long_inh H _ (padP ++ sideW.getD 0 []) (by decide +kernel)]
  have e23 : (applyM lk up).I 23 = up.I 23 := by show (longM lk (fontM lk (up.I 37)) (padP ++ sideW.getD 0 []) (up.I 22, up.I 23) (1, 0)).2 = _; rw [long_inh H _ (padP ++ sideW.getD 0 []) (by decide +kernel)]
  have e30 : (applyM lk up).I 30 = up.I 30 := by show (longM lk (fontM lk (up.I 37)) ((borP ++ sideW.getD 0 []) ++ widP) (1, up.I 30) (1, 0)).2 = _; rw [long_inh H _ ((borP ++ sideW.getD 0 []) ++ widP) (by decide +kernel)]
  have e16 : (applyM lk up).I 16 = up.I 16 := by show (longM lk (fontM lk (up.I 37)) (marP ++ sideW.getD 1 []) (up.I 16, up.I 17) (1, 0)).1 = _; rw [long_inh H _ (marP ++ sideW.getD 1 []) (by decide +kernel)]
  have e17 : (applyM lk up).I 17 = up.I 17 := by show (longM lk (fontM lk (up.I 37)) (marP ++ sideW.getD 1 []) (up.I 16, up.I 17) (1, 0)).2 = _; rw [long_inh H _ (marP ++ sideW.getD 1 []) (by decide +kernel)]
  have e24 : (applyM lk up).I 24 = up.I 24 := by show (longM lk (fontM lk (up.I 37)) (padP ++ sideW.getD 1 []) (up.I 24, up.I 25) (1, 0)).1 = _; rw [long_inh H _ (padP ++ sideW.getD 1 []) (by decide +kernel)]
  have e25 : (applyM lk up).I 25 = up.I 25 := by show (longM lk (fontM lk (up.I 37)) (padP ++ sideW.getD 1 []) (up.I 24, up.I 25) (1, 0)).2 = _; rw [long_inh H _ (padP ++ sideW.getD 1 []) (by decide +kernel)]
  have e31 : (applyM lk up).I 31 = up.I 31 := by show (longM lk (fontM lk (up.I 37)) ((borP ++ sideW.getD 1 []) ++ widP) (1, up.I 31) (1, 0)).2 = _; rw [long_inh H _ ((borP ++ sideW.getD 1 []) ++ widP) (by decide +kernel)]
  have e18 : (applyM lk up).I 18 = up.I 18 := by show (longM lk (fontM lk (up.I 37)) (marP ++ sideW.getD 2 []) (up.I 18, up.I 19) (1, 0)).1 = _; rw [long_inh H _ (marP ++ sideW.getD 2 []) (by decide +kernel)]
  have e19 : (applyM lk up).I 19 = up.I 19 := by show (longM lk (fontM lk (up.I 37)) (marP ++ sideW.getD 2 []) (up.I 18, up.I 19) (1, 0)).2 = _; rw [long_inh H _ (marP ++ sideW.getD 2 []) (by decide +kernel)]
  have e26 : (applyM lk up).I 26 = up.I 26 := by show (longM lk (fontM lk (up.I 37)) (padP ++ sideW.getD 2 []) (up.I 26, up.I 27) (1, 0)).1 = _; rw [long_inh H _ (padP ++ sideW.getD 2 []) (by decide +kernel)]
  have e27 : (applyM lk up).I 27 = up.I 27 := by show (longM lk (fontM lk (up.I 37)) (padP ++ sideW.getD 2 []) (up.I 26, up.I 27) (1, 0)).2 = _; rw [long_inh H _ (padP ++ sideW.getD 2 []) (by decide +kernel)]
  have e32 : (applyM lk up).I 32 = up.I 32 := by show (longM lk (fontM lk (up.I 37)) ((borP ++ sideW.getD 2 []) ++ widP) (1, up.I 32) (1, 0)).2 = _; rw [long_inh H _ ((borP ++ sideW.getD 2 []) ++ widP) (by decide +kernel)]
  have e20 : (applyM lk up).I 20 = up.I 20 := by show (longM lk (fontM lk (up.I 37)) (marP ++ sideW.getD 3 []) (up.I 20, up.I 21) (1, 0)).1 = _; rw [long_inh H _ (marP ++ sideW.getD 3 []) (by decide +kernel)]
  have e21 : (applyM lk up).I 21 = up.I 21 := by show (longM lk (fontM lk (up.I 37)) (marP ++ sideW.getD 3 []) (up.I 20, up.I 21) (1, 0)).2 = _; rw [long_inh H _ (marP ++ sideW.getD 3 []) (by decide +kernel)]
  have e28 : (applyM lk up).I 28 = up.I 28 := by show (longM lk (fontM lk (up.I 37)) (padP ++ sideW.getD 3 []) (up.I 28, up.I 29) (1, 0)).1 = _; rw [long_inh H _ (padP ++ sideW.getD 3 []) (by decide +kernel)]
  have e29 : (applyM lk up).I 29 = up.I 29 := by show (longM lk (fontM lk (up.I 37)) (padP ++ sideW.getD 3 []) (up.I 28, up.I 29) (1, 0)).2 = _; rw [long_inh H _ (padP ++ sideW.getD 3 []) (by decide +kernel)]
  have e33 : (applyM lk up).I 33 = up.I 33 := by show (longM lk (fontM lk (up.I 37)) ((borP ++ sideW.getD 3 []) ++ widP) (1, up.I 33) (1, 0)).2 = _; rw [long_inh H _ ((borP ++ sideW.getD 3 []) ++ widP) (by decide +kernel)]
  have e37 : (applyM lk up).I 37 = up.I 37 := hf
  have e38 : (applyM lk up).I 38 = up.I 38 := by show lineM lk (fontM lk (up.I 37)) (up.I 38) = _; unfold lineM; rw [H.get lineL (by decide +kernel)]; rfl
  have e35 : (applyM lk up).T 35 = up.T 35 := by show colM lk (up.T 35) = _; unfold colM; rw [H.get colorL (by decide +kernel)]; rfl
  have e34 : (applyM lk up).T 34 = up.T 34 := by show bcM lk (colM lk (up.T 35)) (up.T 34) = _; unfold bcM; rw [H.get bcolL (by decide +kernel)]; rfl
  have e36 : (applyM lk up).T 36 = up.T 36 := by show bgM lk (up.T 36) [] = _; unfold bgM; rw [H.get backL (by decide +kernel)]; rfl
  have e50 : (applyM lk up).B 50 = up.B 50 := by show zaM lk (up.B 50) = _; unfold zaM; rw [H.get zindexS (by decide +kernel)]; rfl
  rw [e0, e1, e2, e3, e4, e5, e6, e7, e8, e9, e10, e11, e12, e13, e39, e40, e41, e42, e43, e44, e45, e46, e47, e48, e49, e51, e52, e14, e15, e22, e23, e30, e16, e17, e24, e25, e31, e18, e19, e26, e27, e32, e20, e21, e28, e29, e33, e37, e38, e35, e34, e36, e50]
end Go.Proofs.YtldembadjgibjaaGreatDoor
