/-
  PaintDraws: Draw.
-/
import Derived.Test.YtifgjccnhbbadaaNs
import Derived.Test.YtifgjccnhbbadaaNj
import Derived.Test.YtifgjccnhbbadaaKq
set_option linter.unusedVariables false
set_option linter.unusedSimpArgs false
namespace Go.Proofs.Ytifgjccnhbbadaa
open Go.RowKit Go.K Go.PlainAid Go.Lib

theorem conv_row {w : World} {s : Option Addr} {n c : Nat} {zs : List Int} (h : Rd w 1 s n (zs.map (Value.int .i32))) : (convert 55 9 (.slice s n c)).run Try.prog w = .ok (.string (runesBytes zs)) w := by
  have hl := h.len
  rw [List.length_map, Nat.mul_one] at hl
  cases s with
  | none =>
    have n0 : n = 0 := h.nil rfl
    subst n0
    have hz : zs = [] := List.eq_nil_of_length_eq_zero hl
    subst hz
    rw [run_convert_runes_string w 55 9 21 none 0 c (by kernel_rfl) (by kernel_rfl) (by kernel_rfl)]
    rfl
  | some a =>
    have := run_convert_runes (P := Try.prog) w 55 9 21 a n c zs (by omega) (by kernel_rfl) (by kernel_rfl) (by kernel_rfl) (fun j hj => h.cells _ rfl j _ (by simp [List.getElem?_eq_getElem (show j < zs.length by omega)]))
    rw [this, ← hl, List.take_length]
abbrev scr (W H : Nat) (s : Option Addr) (n c : Nat) : Array Value := #[.int .i64 W, .int .i64 H, .slice s n c]
def f32 : Nat → Nat → Int := fun _ _ => 32
def cvK (bc W H : Nat) (s : Option Addr) (c : Nat) (hs : List Hd) (f : Nat → Nat → Int) (L : List As) : List As := As.cells bc (scr W H s hs.length c) 54 :: As.row 55 1 s hs.length c (hs.map (hdV W)) :: (rowsL W hs f ++ L)
theorem cvK_full (bc W : Nat) (s : Option Addr) (c : Nat) (hs : List Hd) (f : Nat → Nat → Int) (L : List As) : cvK bc W hs.length s c hs f L = cvL bc W s c hs f L := rfl
theorem rowsL_snoc (W : Nat) (hs : List Hd) (p : Hd) : rowsL W (hs ++ [p]) f32 = rowsL W hs f32 ++ [As.row 21 1 p.1 W p.2 (List.replicate W (.int .i32 32))] := by
  unfold rowsL
  rw [List.length_append, List.length_singleton, List.range_succ, List.map_append, List.map_singleton]
  congr 1
  · apply List.map_congr_left
    intro r hr
    have hr := List.mem_range.1 hr
    unfold rowA hdAt
    rw [List.getD_eq_getElem?_getD, List.getElem?_append_left hr]
    rfl
  · unfold rowA hdAt
    rw [List.getD_eq_getElem?_getD, List.getElem?_append_right (Nat.le_refl _), rowV_const]
    simp
    rfl
theorem cvK_snoc {w0 w : World} {bc W H : Nat} {s : Option Addr} {c : Nat} {hs : List Hd} {p : Hd} {L : List As} (h : St w0 w (As.cells bc (scr W H s (hs.length + 1) c) 54 :: As.row 55 1 s (hs.length + 1) c (hs.map (hdV W) ++ [hdV W p]) :: As.row 21 1 p.1 W p.2 (List.replicate W (.int .i32 32)) :: (rowsL W hs f32 ++ L))) :
    St w0 w (cvK bc W H s c (hs ++ [p]) f32 L) := by
  unfold cvK
  rw [rowsL_snoc, List.length_append, List.length_singleton, List.map_append, List.map_singleton]
  refine h.perm (.cons _ (.cons _ ?_))
  rw [List.append_assoc]
  exact List.perm_middle.symm
theorem three_of {w0 w : World} {bc W H : Nat} {v : Value} {L : List As} (h : St w0 w (As.cells bc #[.int .i64 W, .int .i64 H, v] 54 :: L)) : w.cell? ⟨bc, 0, none⟩ = some (.int .i64 W) ∧ w.cell? ⟨bc, 1, none⟩ = some (.int .i64 H) ∧ w.cell? ⟨bc, 2, none⟩ = some v := ⟨h.cell 0, h.cell 1, h.cell 2⟩
theorem cv_rd {w0 w : World} {bc W : Nat} {s : Option Addr} {c : Nat} {hs : List Hd} {f : Nat → Nat → Int} {L : List As} (h : St w0 w (cvL bc W s c hs f L)) {r : Nat} (hr : r < hs.length) : Rd w 1 (hdAt hs r).1 W (((List.range W).map (f r)).map (Value.int .i32)) := by
  have hl : r < (rowsL W hs f).length := by rw [rowsL_len]; exact hr
  have h1 := h.perm (cv_perm hl _ _ _)
  rw [rowsL_at hr] at h1
  have := h1.sl.rd
  unfold rowV at this
  rw [List.map_map]
  exact this
def DvR (bc W H : Nat) (L : List As) (w0 : World) (g : Nat) (v : Value) (wr : World) : Prop :=
  ∃ (s : Option Addr) (c : Nat) (hs : List Hd), g = H - hs.length ∧ hs.length ≤ H ∧ v = .int .i64 hs.length ∧ St w0 wr (cvK bc W H s c hs f32 L)
def DiR (bc W : Nat) (s : Option Addr) (c : Nat) (hs : List Hd) (ls : List Im) (L : List As) (w0 : World) (g : Nat) (v : Value) (wr : World) : Prop :=
  ∃ (k : Nat) (F : Nat → Nat → Int), g = ls.length - k ∧ k ≤ ls.length ∧ v = .int .i64 k ∧ St w0 wr (cvL bc W s c hs F L) ∧ ∀ r' c', r' < hs.length → c' < W → F r' c' = cellR (ls.take k) c' r'
def strR (W : Nat) (f : Nat → Nat → Int) (r : Nat) : ByteArray := runesBytes ((List.range W).map (f r))
def strs (W : Nat) (f : Nat → Nat → Int) (k : Nat) : List Value := (List.range k).map fun r => .string (strR W f r)
theorem strs_len (W : Nat) (f : Nat → Nat → Int) (k : Nat) : (strs W f k).length = k := by simp [strs]
theorem strs_succ (W : Nat) (f : Nat → Nat → Int) (k : Nat) : strs W f (k + 1) = strs W f k ++ [.string (strR W f k)] := by simp [strs, List.range_succ]
def DsR (b10 bc W H : Nat) (s : Option Addr) (c : Nat) (hs : List Hd) (f : Nat → Nat → Int) (L : List As) (w0 : World) (g : Nat) (v : Value) (wr : World) : Prop :=
  ∃ (k : Nat) (so : Option Addr) (co : Nat), g = H - k ∧ k ≤ H ∧ v = .int .i64 k ∧ St w0 wr (As.cells b10 (scr W H so k co) 37 :: As.row 9 1 so k co (strs W f k) :: cvL bc W s c hs f L)
def DrP (W H : Nat) (ls : List Im) (w : World) (e : Ending) (w' : World) : Prop :=
  ∃ (s : Option Addr) (c : Nat) (F : Nat → Nat → Int), e = .returned (.agg (scr W H s H c)) ∧ (∀ r' c', r' < H → c' < W → F r' c' = cellR ls c' r') ∧ K.Own w w' 9 1 s H c (strs W F H)

set_option maxRecDepth 100000 in
set_option maxHeartbeats 4000000 in
theorem draw_any (ls : List Im) (hok : ∀ i ∈ ls, i.ok) (wd ht : Int) (W H : Nat) (hw1 : wd ≤ 100) (hh1 : ht ≤ 100) (hW : (max wd 0 + 8 - 1) / 8 = (W : Int)) (hH : (max ht 0 + 16 - 1) / 16 = (H : Int)) (w : World) {s : Option Addr} {cp : Nat} (hs : Rd w 13 s ls.length (flat Im.cells ls)) (hl : ls.length ≤ 12) :
    Calls Try.prog 7 #[.slice s ls.length cp, .int .i64 wd, .int .i64 ht] w (DrP W H ls w) := by
  have hW13 : W ≤ 13 := by omega
  have hH7 : H ≤ 7 := by omega
  have hp1 := fun w => parts_any wd 8 w (by omega) (.inl rfl)
  have hp2 := fun w => parts_any ht 16 w (by omega) (.inr rfl)
  rw [hW] at hp1
  rw [hH] at hp2
  have HP1 := Lib.hid hp1
  have HP2 := Lib.hid hp2
  have HS := Lib.hid hs
  have HH := Lib.hid ((St.start w (Below.refl _ w)).new zScr 37)
  clear hp1 hp2 hW hH hs
  go_enter Try.func7, Try.ntmps7
  go_upto_region 2 with (first
    | (go_at_call 15; with_reducible refine (HP1.out _).mono ?_; rintro e w1 ⟨rfl, hw'⟩; rw [hw']; clear hw' HP1)
    | (go_at_call 15; with_reducible refine (HP2.out _).mono ?_; rintro e w1 ⟨rfl, hw'⟩; rw [hw']; clear hw' HP2))
  have h1 := (((HH.out.new (scr W H none 0 0) 54).row_nil 55 1).swap)
  obtain ⟨W1, hW1⟩ : ∃ W1, (w.alloc (.cells zScr 37)).alloc (.cells (scr W H none 0 0) 54) = W1 := ⟨_, rfl⟩
  simp only [World.size_alloc] at h1
  obtain ⟨b6, hb6⟩ : ∃ b, w.heap.size = b := ⟨_, rfl⟩
  obtain ⟨bc, hbc⟩ : ∃ b, b6 + 1 = b := ⟨_, rfl⟩
  rw [hW1] at h1
  rw [hW1]
  simp only [hb6, hbc] at h1 ⊢
  have h1 : St w W1 (cvK bc W H none 0 [] f32 [As.cells b6 zScr 37]) := h1
  have H1 := Lib.hid h1
  obtain ⟨c0, c1, c2⟩ := three_of h1
  clear h1 hW1 hb6 hbc HH
  go_wp2_with fail
  go_loopg [23] H (DvR bc W H [As.cells b6 zScr 37] w)
  case atStart => exact ⟨none, 0, [], rfl, Nat.zero_le _, rfl, H1.out⟩
  case round =>
    clear c0 c1 c2
    obtain ⟨s1, c1, hs, hg, hk, rfl, h1⟩ := hrel
    have H1 := Lib.hid h1
    have Hg := Lib.hid hg
    clear h1 hg
    by_cases hkn : hs.length < H
    · have hkI : (hs.length : Int) < (H : Int) := by omega
      go_upto_region 4 with fail
      have hd := H1.out.drew
      obtain ⟨Wd, hWd⟩ : ∃ W, wr.drew = W := ⟨_, rfl⟩
      rw [hWd] at hd
      have H1d := Lib.hid hd
      have hS : (fun w' : World => w'.cell? ⟨bc, 0, none⟩ = some (.int .i64 W) ∧ w'.cell? ⟨bc, 1, none⟩ = some (.int .i64 H) ∧ w'.cell? ⟨bc, 2, none⟩ = some (.slice s1 hs.length c1)) Wd := (three_of hd)
      refine wpLast.region (S := (fun w' : World => w'.cell? ⟨bc, 0, none⟩ = some (.int .i64 W) ∧ w'.cell? ⟨bc, 1, none⟩ = some (.int .i64 H) ∧ w'.cell? ⟨bc, 2, none⟩ = some (.slice s1 hs.length c1))) (c := 15) (by kernel_rfl) ?_
      change wpLast _ _ _ _ _ _ _ _ (World.drew _)
      rw [hWd]
      clear hWd
      refine' wpLast.take (i := 0) (v := .pointer (some ⟨bc, 0, none⟩)) rfl (by kernel_rfl) (fun _ _ _ h => h) (by kernel_rfl) _ _ _ _ (by kernel_rfl) (by kernel_rfl) (Or.inl ⟨by rfl, ?hyr0⟩) hS ?restr0
      case hyr0 => (intro w' hSw; obtain ⟨c0, c1, c2⟩ := hSw; go_simp; try with_reducible rfl)
      try simp only [Act.put, List.getElem_toArray, List.getElem_cons_zero, List.getElem_cons_succ, List.setIfInBounds_toArray, List.set_cons_zero, List.set_cons_succ]
      refine' wpLast.take (i := 1) (v := .pointer (some ⟨bc, 0, none⟩)) rfl (by kernel_rfl) (fun _ _ _ h => h) (by kernel_rfl) _ _ _ _ (by kernel_rfl) (by kernel_rfl) (Or.inl ⟨by rfl, ?hyr1⟩) hS ?restr1
      case hyr1 => (intro w' hSw; obtain ⟨c0, c1, c2⟩ := hSw; go_simp; try with_reducible rfl)
      try simp only [Act.put, List.getElem_toArray, List.getElem_cons_zero, List.getElem_cons_succ, List.setIfInBounds_toArray, List.set_cons_zero, List.set_cons_succ]
      refine' wpLast.take (i := 2) (v := .pointer (some ⟨bc, 0, none⟩)) rfl (by kernel_rfl) (fun _ _ _ h => h) (by kernel_rfl) _ _ _ _ (by kernel_rfl) (by kernel_rfl) (Or.inl ⟨by rfl, ?hyr2⟩) hS ?restr2
      case hyr2 => (intro w' hSw; obtain ⟨c0, c1, c2⟩ := hSw; go_simp; try with_reducible rfl)
      try simp only [Act.put, List.getElem_toArray, List.getElem_cons_zero, List.getElem_cons_succ, List.setIfInBounds_toArray, List.set_cons_zero, List.set_cons_succ]
      refine' wpLast.take (i := 3) (v := .pointer (some ⟨bc, 2, none⟩)) rfl (by kernel_rfl) (fun _ _ _ h => h) (by kernel_rfl) _ _ _ _ (by kernel_rfl) (by kernel_rfl) (Or.inl ⟨by rfl, ?hyr3⟩) hS ?restr3
      case hyr3 => (intro w' hSw; obtain ⟨c0, c1, c2⟩ := hSw; go_simp; try with_reducible rfl)
      try simp only [Act.put, List.getElem_toArray, List.getElem_cons_zero, List.getElem_cons_succ, List.setIfInBounds_toArray, List.set_cons_zero, List.set_cons_succ]
      refine' wpLast.take (i := 4) (v := .slice s1 hs.length c1) rfl (by kernel_rfl) (fun _ _ _ h => h) (by kernel_rfl) _ _ _ _ (by kernel_rfl) (by kernel_rfl) (Or.inl ⟨by rfl, ?hyr4⟩) hS ?restr4
      case hyr4 => (intro w' hSw; obtain ⟨c0, c1, c2⟩ := hSw; go_simp; try with_reducible rfl)
      try simp only [Act.put, List.getElem_toArray, List.getElem_cons_zero, List.getElem_cons_succ, List.setIfInBounds_toArray, List.set_cons_zero, List.set_cons_succ]
      refine' wpLast.take (i := 6) (v := .pointer (some ⟨bc, 0, none⟩)) rfl (by kernel_rfl) (fun _ _ _ h => h) (by kernel_rfl) _ _ _ _ (by kernel_rfl) (by kernel_rfl) (Or.inl ⟨by rfl, ?hyr6⟩) hS ?restr6
      case hyr6 => (intro w' hSw; obtain ⟨c0, c1, c2⟩ := hSw; go_simp; try with_reducible rfl)
      try simp only [Act.put, List.getElem_toArray, List.getElem_cons_zero, List.getElem_cons_succ, List.setIfInBounds_toArray, List.set_cons_zero, List.set_cons_succ]
      refine' wpLast.take (i := 7) (v := .pointer (some ⟨bc, 0, none⟩)) rfl (by kernel_rfl) (fun _ _ _ h => h) (by kernel_rfl) _ _ _ _ (by kernel_rfl) (by kernel_rfl) (Or.inl ⟨by rfl, ?hyr7⟩) hS ?restr7
      case hyr7 => (intro w' hSw; obtain ⟨c0, c1, c2⟩ := hSw; go_simp; try with_reducible rfl)
      try simp only [Act.put, List.getElem_toArray, List.getElem_cons_zero, List.getElem_cons_succ, List.setIfInBounds_toArray, List.set_cons_zero, List.set_cons_succ]
      refine' wpLast.take (i := 8) (v := .pointer (some ⟨bc, 0, none⟩)) rfl (by kernel_rfl) (fun _ _ _ h => h) (by kernel_rfl) _ _ _ _ (by kernel_rfl) (by kernel_rfl) (Or.inl ⟨by rfl, ?hyr8⟩) hS ?restr8
      case hyr8 => (intro w' hSw; obtain ⟨c0, c1, c2⟩ := hSw; go_simp; try with_reducible rfl)
      try simp only [Act.put, List.getElem_toArray, List.getElem_cons_zero, List.getElem_cons_succ, List.setIfInBounds_toArray, List.set_cons_zero, List.set_cons_succ]
      refine' wpLast.take (i := 9) (v := .int .i64 (W : Nat)) rfl (by kernel_rfl) (fun _ _ _ h => h) (by kernel_rfl) _ _ _ _ (by kernel_rfl) (by kernel_rfl) (Or.inl ⟨by rfl, ?hyr9⟩) hS ?restr9
      case hyr9 => (intro w' hSw; obtain ⟨c0, c1, c2⟩ := hSw; go_simp; try with_reducible rfl)
      try simp only [Act.put, List.getElem_toArray, List.getElem_cons_zero, List.getElem_cons_succ, List.setIfInBounds_toArray, List.set_cons_zero, List.set_cons_succ]
      clear hS hd
      refine wpLast.one (i := 5) rfl (by kernel_rfl) ?_
      intro K' hK; have HK := Lib.hid hK; clear hK
      have h2 := H1d.out.new #[.int .i32 32] 21
      have r2 := rd_built Wd #[.int .i32 32] 21 1 1 rfl (by simp [Value.oneCell'])
      go_simp
      obtain ⟨W2, hW2⟩ : ∃ W2, Wd.alloc (.cells #[.int .i32 32] 21) = W2 := ⟨_, rfl⟩
      obtain ⟨bq, hbq⟩ : ∃ b, Wd.heap.size = b := ⟨_, rfl⟩
      rw [hW2, hbq] at h2 r2
      try rw [hW2]
      try simp only [hbq]
      refine HK.out _ _ ⟨fun _ => three_of h2.drop, ?_⟩
      try simp only [Act.put, List.getElem_toArray, List.getElem_cons_zero, List.getElem_cons_succ, List.setIfInBounds_toArray, List.set_cons_zero, List.set_cons_succ]
      clear HK K'
      have H2 := Lib.hid h2; have R2 := Lib.hid r2; clear h2 r2 hW2 hbq
      refine wpLast.one (i := 10) rfl (by kernel_rfl) ?_
      intro K' hK; have HK := Lib.hid hK; clear hK
      refine wp_call (by rfl) (by rfl) Try.func16 (by kernel_rfl) (by kernel_rfl) (by kernel_rfl) (repeat_n W hW13 (c := 1) H2.out R2.out) ?_
      rintro e w5 ⟨s5, c5, rfl, h5⟩
      have h5 := h5.swap.drop
      refine ⟨_, rfl, HK.out _ _ ⟨fun _ => three_of h5.drop, ?_⟩⟩
      try simp only [Act.put, List.getElem_toArray, List.getElem_cons_zero, List.getElem_cons_succ, List.setIfInBounds_toArray, List.set_cons_zero, List.set_cons_succ]
      have H5 := Lib.hid h5; clear h5 HK K'
      refine wpLast.one (i := 11) rfl (by kernel_rfl) ?_
      intro K' hK; have HK := Lib.hid hK; clear hK
      have h6 := H5.out.front2.alloc (.cells #[.slice s5 W c5] 55)
      have r6 := rd_built w5 #[.slice s5 W c5] 55 1 1 rfl (by simp [Value.oneCell'])
      go_simp
      obtain ⟨W6, hW6⟩ : ∃ W6, w5.alloc (.cells #[.slice s5 W c5] 55) = W6 := ⟨_, rfl⟩
      obtain ⟨br, hbr⟩ : ∃ b, w5.heap.size = b := ⟨_, rfl⟩
      rw [hW6] at h6 r6
      rw [hbr] at r6
      try rw [hW6]
      try simp only [hbr]
      refine HK.out _ _ ⟨fun _ => three_of h6.front2, ?_⟩
      try simp only [Act.put, List.getElem_toArray, List.getElem_cons_zero, List.getElem_cons_succ, List.setIfInBounds_toArray, List.set_cons_zero, List.set_cons_succ]
      clear HK K'
      have H6 := Lib.hid h6; have R6 := Lib.hid r6; clear h6 r6 hW6 hbr
      refine wpLast.one (i := 12) rfl (by kernel_rfl) ?_
      intro K' hK; have HK := Lib.hid hK; clear hK
      refine step_append_any (by rfl) _ _ 52 (by rfl) elRow s1 _ c1 _ (by rfl) H6.out.sl _ 1 _ _ (by rfl) R6.out (by omega) (by omega) ?_
      intro so3 co3 w7 p1 p2 p3
      have h7 := (H6.out.row_step p1 p2 p3).front2
      refine HK.out _ _ ⟨fun _ => three_of h7, ?_⟩
      try simp only [Act.put, List.getElem_toArray, List.getElem_cons_zero, List.getElem_cons_succ, List.setIfInBounds_toArray, List.set_cons_zero, List.set_cons_succ]
      clear HK K' p1 p2 p3
      have H7 := Lib.hid h7; clear h7
      refine wpLast.one (i := 13) rfl (by kernel_rfl) ?_
      intro K' hK; have HK := Lib.hid hK; clear hK
      go_simp
      refine HK.out _ _ ⟨fun _ => three_of H7.out, ?_⟩
      try simp only [Act.put, List.getElem_toArray, List.getElem_cons_zero, List.getElem_cons_succ, List.setIfInBounds_toArray, List.set_cons_zero, List.set_cons_succ]
      clear HK K'
      have hS := three_of H7.out
      refine' wpLast.take (i := 14) (v := .pointer (some ⟨bc, 2, none⟩)) rfl (by kernel_rfl) (fun _ _ _ h => h) (by kernel_rfl) _ _ _ _ (by kernel_rfl) (by kernel_rfl) (Or.inl ⟨by rfl, ?hyr14⟩) hS ?restr14
      case hyr14 => (intro w' hSw; obtain ⟨c0, c1, c2⟩ := hSw; go_simp; try with_reducible rfl)
      try simp only [Act.put, List.getElem_toArray, List.getElem_cons_zero, List.getElem_cons_succ, List.setIfInBounds_toArray, List.set_cons_zero, List.set_cons_succ]
      clear hS
      refine wpLast.one (i := 15) rfl (by kernel_rfl) ?_
      have d2 := H7.out.cell 2; have f2 := H7.out.free 2; simp at d2
      intro K' hK; have HK := Lib.hid hK; clear hK
      go_simp
      have h8 := (show St w _ (As.cells bc (scr W H so3 (hs.length + 1) co3) 54 :: _) from H7.out.set 2 (.slice so3 (hs.length + 1) co3))
      obtain ⟨W8, hW8⟩ : ∃ W8, w7.setCell ⟨bc, 2, none⟩ (.slice so3 (hs.length + 1) co3) = W8 := ⟨_, rfl⟩
      rw [hW8] at h8
      try rw [hW8]
      refine HK.out _ _ ⟨fun q => absurd rfl q, ?_⟩
      try simp only [Act.put, List.getElem_toArray, List.getElem_cons_zero, List.getElem_cons_succ, List.setIfInBounds_toArray, List.set_cons_zero, List.set_cons_succ]
      clear HK K' d2 f2 hW8
      have H8 := Lib.hid (cvK_snoc (p := (s5, c5)) h8)
      refine wpLast.done (by kernel_rfl) ?_
      clear h8 H7 H6 H5 H2 R6 R2 H1d
      go_wp2_with fail
      go_roundg (H - (hs.length + 1))
      case measure => have := Hg.out; omega
      case rel => exact ⟨so3, co3, hs ++ [(s5, c5)], by rw [List.length_append]; rfl, by rw [List.length_append, List.length_singleton]; omega, by rw [List.length_append, List.length_singleton, Int.natCast_add]; rfl, H8.out⟩
    · have hkI : ¬ (hs.length : Int) < (H : Int) := by omega
      have hkH : hs.length = H := by omega
      subst hkH
      have H2 : Hid (St w wr (cvL bc W s1 c1 hs f32 [As.cells b6 zScr 37])) := H1
      clear H1 Hg
      go_wp2_with fail
      go_loopg [43] ls.length (DiR bc W s1 c1 hs ls [As.cells b6 zScr 37] w)
      case atStart => exact ⟨0, f32, rfl, Nat.zero_le _, rfl, H2.out, fun _ _ _ _ => rfl⟩
      case round =>
        obtain ⟨k, F, hg, hkl, rfl, h2, hF⟩ := hrel
        have H2 := Lib.hid h2
        have Hg2 := Lib.hid hg
        have HF := Lib.hid hF
        clear h2 hg hF
        by_cases hkn2 : k < ls.length
        · have hkI2 : (k : Int) < (ls.length : Int) := by omega
          obtain ⟨g, off, rfl, -⟩ := HS.out.addr (by omega)
          obtain ⟨x, hx⟩ : ∃ x, ls[k] = x := ⟨_, rfl⟩
          have hxo := hok x (hx ▸ List.getElem_mem hkn2)
          have HSN := Lib.hid (fun c' r' => take_snoc hkn2 x hx c' r')
          obtain ⟨i0, i1, i2, i3, i4', i5, i6, i7, i8, i9, i10, i11, i12⟩ := im_at (rd_st H2.out HS.out) hkn2 x hx
          obtain ⟨kd, ⟨a0, a1, a2, a3⟩, ⟨e0, e1, e2, e3⟩, co, tx, z⟩ := x
          have HOK := Lib.hid hxo
          obtain ⟨hx1, hx2, hx3, hx4, hx5, hx6, hx7⟩ := hxo
          have B1 : Bd 1000000000 ⟨a0, a1, a2, a3⟩ := Bd.mono hx1 (by omega)
          have B2 : Bd 1000000000 ⟨e0, e1, e2, e3⟩ := Bd.mono hx2 (by omega)
          have BM : Bd 10000000 (meetR ⟨a0, a1, a2, a3⟩ ⟨e0, e1, e2, e3⟩) := bd_meetR (Bd.mono hx1 (by omega)) (Bd.mono hx2 (by omega))
          obtain ⟨⟨m0, m1, m2, m3⟩, hm⟩ : ∃ m, meetR ⟨a0, a1, a2, a3⟩ ⟨e0, e1, e2, e3⟩ = m := ⟨_, rfl⟩
          rw [hm] at BM
          have HBM := Lib.hid (Bd.mono BM (show (10000000 : Int) ≤ 1000000000 by omega))
          have HVI := Lib.hid (fun w => visible_any (k := kd) (z := z) (n := 0) (s1 := co) (s2 := tx) w B1 B2 hm)
          have HXM := Lib.hid hm
          have hkd : kd = 1 ∨ kd = 2 ∨ kd = 3 := by simp only at hx6 hx7; omega
          have hk1 := wrapS (a := (k : Int) + 1) (by omega) (by omega)
          have h3 := cv_add (H2.out.new #[.int .i64 kd, .int .i64 a0, .int .i64 a1, .int .i64 a2, .int .i64 a3, .int .i64 e0, .int .i64 e1, .int .i64 e2, .int .i64 e3, .string co, .string tx, .int .i64 z, .int .i64 0] 33)
          clear hx hm BM B1 B2 hx1 hx2 hx3 hx4 hx5 hx6 hx7
          go_upto_region 9 with fail
          obtain ⟨W3, hW3⟩ : ∃ W3, wr.alloc (.cells #[.int .i64 kd, .int .i64 a0, .int .i64 a1, .int .i64 a2, .int .i64 a3, .int .i64 e0, .int .i64 e1, .int .i64 e2, .int .i64 e3, .string co, .string tx, .int .i64 z, .int .i64 0] 33) = W3 := ⟨_, rfl⟩
          obtain ⟨b9, hb9⟩ : ∃ b, wr.heap.size = b := ⟨_, rfl⟩
          rw [hW3, hb9] at h3
          rw [hW3]
          simp only [hb9]
          have H3 := Lib.hid h3
          have hB := h3.blkm (b := b9) (cv_mem (.head _))
          have j0 := hB.cell 0
          have j1 := hB.cell 1
          have j2 := hB.cell 2
          have j3 := hB.cell 3
          have j4 := hB.cell 4
          have j5 := hB.cell 5
          have j6 := hB.cell 6
          have j7 := hB.cell 7
          have j8 := hB.cell 8
          have j9 := hB.cell 9
          have j10 := hB.cell 10
          have j11 := hB.cell 11
          have j12 := hB.cell 12
          simp at j0 j1 j2 j3 j4 j5 j6 j7 j8 j9 j10 j11 j12
          clear h3 hB hW3 hb9 i0 i1 i2 i3 i4' i5 i6 i7 i8 i9 i10 i11 i12
          rcases hkd with rfl | rfl | rfl
          · by_cases hco : co = ⟨#[]⟩
            · subst hco
              go_wp2_with fail
              go_roundg (ls.length - (k + 1))
              case measure => have := Hg2.out; omega
              case rel =>
                refine ⟨k + 1, F, rfl, by omega, by rw [Int.natCast_add]; rfl, cv_drop H3.out, fun r' c' h1 h2 => ?_⟩
                rw [HSN.out c' r', ← HF.out r' c' h1 h2]
                unfold itemR
                simp
            · have hc1 : co.toList.isEmpty = false := not_empty hco
              go_wp2_with (first
                | (go_at_call 14; refine (HVI.out _).mono ?_; rintro e w4 ⟨rfl, hb4⟩; have H4 := Lib.hid (H3.out.of_below hb4))
                | (go_at_call 17; refine (fill_any H4.out ⟨m0, m1, m2, m3⟩ HBM.out 46 hW13 hH7).mono ?_; rintro e w5 ⟨rfl, F5, h5, hF5⟩; have H5 := Lib.hid h5; have HF5 := Lib.hid hF5; clear h5 hF5))
              go_roundg (ls.length - (k + 1))
              case measure => have := Hg2.out; omega
              case rel =>
                refine ⟨k + 1, F5, rfl, by omega, by rw [Int.natCast_add]; rfl, cv_drop H5.out, fun r' c' h1 h2 => ?_⟩
                rw [HSN.out c' r', ← HF.out r' c' h1 h2]
                rw [HF5.out r' c' h2]
                unfold partF fillF itemR inC
                rw [if_pos (.inl h1), HXM.out]
                simp [hco]
          · go_wp2_with (first
              | (go_at_call 14; refine (HVI.out _).mono ?_; rintro e w4 ⟨rfl, hb4⟩; have H4 := Lib.hid (H3.out.of_below hb4))
              | (go_at_call 17; refine (fill_any H4.out ⟨m0, m1, m2, m3⟩ HBM.out 43 hW13 hH7).mono ?_; rintro e w5 ⟨rfl, F5, h5, hF5⟩; have H5 := Lib.hid h5; have HF5 := Lib.hid hF5; clear h5 hF5))
            go_roundg (ls.length - (k + 1))
            case measure => have := Hg2.out; omega
            case rel =>
              refine ⟨k + 1, F5, rfl, by omega, by rw [Int.natCast_add]; rfl, cv_drop H5.out, fun r' c' h1 h2 => ?_⟩
              rw [HSN.out c' r', ← HF.out r' c' h1 h2]
              rw [HF5.out r' c' h2]
              unfold partF fillF itemR inC
              rw [if_pos (.inl h1), HXM.out]
              simp []
          · go_wp2_with (go_at_call 18; refine (words_any H3.out (by intro A hA; simp only [List.mem_cons, List.not_mem_nil, or_false] at hA; rcases hA with rfl | rfl <;> exact As.cells_co _ _ _) _ HOK.out hW13 hH7).mono ?_; rintro e w5 ⟨rfl, F5, h5, hF5⟩; have H5 := Lib.hid h5; have HF5 := Lib.hid hF5; clear h5 hF5)
            go_roundg (ls.length - (k + 1))
            case measure => have := Hg2.out; omega
            case rel =>
              refine ⟨k + 1, F5, rfl, by omega, by rw [Int.natCast_add]; rfl, cv_drop H5.out, fun r' c' h1 h2 => ?_⟩
              rw [HSN.out c' r', ← HF.out r' c' h1 h2]
              rw [HF5.out r' c' h1 h2]
              unfold itemR
              simp
        · have hke : k = ls.length := by omega
          subst hke
          rw [List.take_length] at HF
          have hkI2 : ¬ (ls.length : Int) < (ls.length : Int) := by omega
          go_upto_region 16 with fail
          obtain ⟨c0, c1_, c2⟩ := cv_three H2.out
          have hlt := H2.out.blk.1.lt
          go_region
          all_goals
            have h3 := ((H2.out.new (scr W hs.length none 0 0) 37).drew)
            obtain ⟨W3, hW3⟩ : ∃ V, (wr.alloc (.cells (scr W hs.length none 0 0) 37)).drew = V := ⟨_, rfl⟩
            obtain ⟨b10, hb10⟩ : ∃ b, wr.heap.size = b := ⟨_, rfl⟩
            rw [hW3, hb10] at h3
            rw [hW3]
            simp only [hb10]
            have H3 := Lib.hid h3
            clear hW3 hb10 c0 c1_ c2 h3
            obtain ⟨c0, c1_, c2⟩ := cv_three H3.out.drop
            go_wp2_with fail
            go_loopg [12, 90] hs.length (fun g v12 v wr => DsR b10 bc W hs.length s1 c1 hs F [As.cells b6 zScr 37] w g v wr)
            case atStart => exact ⟨0, none, 0, rfl, Nat.zero_le _, rfl, (H3.out.row_nil 9 1).swap⟩
            case round =>
              obtain ⟨r, so, co, hg3, hrl, rfl, h4⟩ := hrel
              have H4 := Lib.hid h4
              have Hg3 := Lib.hid hg3
              obtain ⟨d0, d1, d2⟩ := (show _ from And.intro (h4.cell 0) (And.intro (h4.cell 1) (h4.cell 2)))
              have f2 := h4.free 2
              simp [scr] at d0 d1 d2
              clear h4 hg3 c0 c1_ c2
              by_cases hrn : r < hs.length
              · have hrI : (r : Int) < (hs.length : Int) := by omega
                have hr1 := wrapS (a := (r : Int) + 1) (by omega) (by omega)
                obtain ⟨g1, o1, rfl, u1⟩ := cv_hd H4.out.drop.drop hrn
                have hrd := cv_rd H4.out.drop.drop hrn
                obtain ⟨⟨q1, q2⟩, hq⟩ : ∃ q, hdAt hs r = q := ⟨_, rfl⟩
                rw [hq] at u1 hrd
                simp only [hdV] at u1 hrd
                have hcv := conv_row (c := q2) hrd
                obtain ⟨str, hstr⟩ : ∃ str, strR W F r = str := ⟨_, rfl⟩
                have hstr2 : runesBytes ((List.range W).map (F r)) = str := hstr
                rw [hstr2] at hcv
                have HSTR := Lib.hid hstr
                clear hrd hq hstr hstr2
                have h6 := H4.out.swap.alloc (.cells #[.string str] 9)
                have H6 := Lib.hid h6
                clear h6
                go_wp2_with (refine wpList_append_any rfl _ _ 35 rfl elStr so _ co _ rfl H6.out.sl _ 1 _ _ rfl (rd_built _ #[.string str] 9 1 1 rfl (by simp [Value.oneCell'])) (by omega) (by omega) ?_; intro so3 co3 w6 p1 p2 p3; have H7 := Lib.hid ((H6.out.row_step p1 p2 p3).swap); have z2 := H7.out.cell 2; have zf := H7.out.free 2; simp [scr] at z2)
                have H8 := Lib.hid (show St w _ (As.cells b10 (scr W hs.length so3 (r + 1) co3) 37 :: _) from H7.out.set 2 (.slice so3 (r + 1) co3))
                clear p1 p2 p3 z2 zf
                go_roundg (hs.length - (r + 1))
                case rel => exact ⟨r + 1, so3, co3, rfl, by omega, by rw [Int.natCast_add]; rfl, by rw [strs_succ, HSTR.out]; exact H8.out⟩
                case measure => have := Hg3.out; omega
              · have hre : r = hs.length := by omega
                subst hre
                have hrI : ¬ (hs.length : Int) < (hs.length : Int) := by omega
                have h9 := (H4.out.drop.perm ((cv_in _ _ _ _ _).symm.cons _)).swap
                have m0 := h9.cell 0
                have m1 := h9.cell 1
                have m2 := h9.cell 2
                have n0 := h9.free 0
                have n1 := h9.free 1
                have n2 := h9.free 2
                simp [zScr] at m0 m1 m2
                have H9 := Lib.hid (((h9.set 0 (.int .i64 W)).set 1 (.int .i64 hs.length)).set 2 (.slice so hs.length co))
                clear h9
                go_wp2_with fail
                obtain ⟨w9, hw9⟩ : ∃ w9, ((wr.setCell ⟨b6, 0, none⟩ (.int .i64 W)).setCell ⟨b6, 1, none⟩ (.int .i64 hs.length)).setCell ⟨b6, 2, none⟩ (.slice so hs.length co) = w9 := ⟨_, rfl⟩
                rw [hw9] at H9 ⊢
                have hbk := (show Blk w9 b6 (scr W hs.length so hs.length co) 37 from H9.out.blk.1)
                have z0 := hbk.cell 0
                have z1 := hbk.cell 1
                have z2 := hbk.cell 2
                simp [scr] at z0 z1 z2
                have h10 := H9.out.swap
                refine bodyPost_ret (v := .agg (scr W hs.length so hs.length co)) (by simp [results, Try.results7, go_sem, z0, z1, z2]) rfl ⟨_, _, F, rfl, HF.out, h10.sl, h10.bel, fun k hk => (h10.row_blk k hk).2.1⟩
end Go.Proofs.Ytifgjccnhbbadaa
