/-
  PaintDraws: words.
-/
import Derived.Test.YtifgjccnhbbadaaNr
import Derived.Test.YtifgjccnhbbadaaNp
import Derived.Test.YtifgjccnhbbadaaKh
import Derived.Sort.CutIn
import Derived.Sort.QuietIn
set_option linter.unusedVariables false
set_option linter.unusedSimpArgs false
namespace Go.Proofs.Ytifgjccnhbbadaa
open Go.RowKit Go.Shelf Go.K Go.PlainAid Go.Lib Go.Sort

attribute [local go_sem] Oper.semAt_some

def hitX (i : Im) (x : Int) (j : Nat) (c r : Nat) : Bool :=
  decide (0 < chW i.z (rn i.tx j)) && !spR (rn i.tx j) && hasR (meetR i.r i.c) (x + chW i.z (rn i.tx j) / 2) (wy i) && decide ((x + chW i.z (rn i.tx j) / 2) / 8 = c) && decide (wy i / 16 = r)
def sStep (i : Im) (s : Int × (Nat → Nat → Int)) (j : Nat) : Int × (Nat → Nat → Int) :=
  (s.1 + chW i.z (rn i.tx j), fun r c => if hitX i s.1 j c r then rn i.tx j else s.2 r c)
def sF (i : Im) (f : Nat → Nat → Int) (l : List Nat) : Int × (Nat → Nat → Int) := l.foldl (sStep i) (i.r.x, f)
theorem sF_snoc (i : Im) (f : Nat → Nat → Int) (l : List Nat) (j : Nat) : sF i f (l ++ [j]) = sStep i (sF i f l) j := by unfold sF; rw [List.foldl_append]; rfl
theorem sF_range (i : Im) (f : Nat → Nat → Int) : ∀ j, sF i f (List.range j) = (wx i j, fun r c => wordR i c r (f r c) j)
  | 0 => rfl
  | j + 1 => by
    rw [List.range_succ, sF_snoc, sF_range i f j]
    rfl
theorem sF_bd (i : Im) (f : Nat → Nat → Int) (h0 : 0 ≤ i.z) (h1 : i.z ≤ 100) (l : List Nat) : i.r.x ≤ (sF i f l).1 ∧ (sF i f l).1 ≤ i.r.x + 101 * l.length := by
  have : ∀ (l : List Nat) (s : Int × (Nat → Nat → Int)), s.1 ≤ (l.foldl (sStep i) s).1 ∧ (l.foldl (sStep i) s).1 ≤ s.1 + 101 * l.length := by
    intro l
    induction l with
    | nil => intro s; simp
    | cons j l ih =>
      intro s
      have h := chW_le i.z (rn i.tx j) h0 h1
      have := ih (sStep i s j)
      have e : (sStep i s j).1 = s.1 + chW i.z (rn i.tx j) := rfl
      rw [e] at this
      simp only [List.foldl_cons, List.length_cons]
      omega
  exact this l _
theorem cv_add {w0 w : World} {X : As} {bc W : Nat} {s : Option Addr} {c : Nat} {hs : List Hd} {f : Nat → Nat → Int} {L : List As} (h : St w0 w (X :: cvL bc W s c hs f L)) : St w0 w (cvL bc W s c hs f (X :: L)) := h.perm (cv_in _ _ _ _ _)
theorem cv_out {w0 w : World} {X : As} {bc W : Nat} {s : Option Addr} {c : Nat} {hs : List Hd} {f : Nat → Nat → Int} {L : List As} (h : St w0 w (cvL bc W s c hs f (X :: L))) : St w0 w (X :: cvL bc W s c hs f L) := h.perm (cv_in _ _ _ _ _).symm
theorem cv_add3 {w0 w : World} {X Y Z : As} {bc W : Nat} {s : Option Addr} {c : Nat} {hs : List Hd} {f : Nat → Nat → Int} {L : List As} (h : St w0 w (X :: Y :: Z :: cvL bc W s c hs f L)) : St w0 w (cvL bc W s c hs f (X :: Y :: Z :: L)) :=
  h.perm ((((cv_in Z _ _ _ _).cons Y).cons X).trans (((cv_in Y _ _ _ _).cons X).trans (cv_in X _ _ _ _)))
theorem cv_mem {X : As} {bc W : Nat} {s : Option Addr} {c : Nat} {hs : List Hd} {f : Nat → Nat → Int} {L : List As} (h : X ∈ L) : X ∈ cvL bc W s c hs f L := by simp [cvL, h]
theorem cv_co {bc W : Nat} {s : Option Addr} {c : Nat} {hs : List Hd} {f : Nat → Nat → Int} {L : List As} (hL : ∀ A ∈ L, A.co) : ∀ A ∈ cvL bc W s c hs f L, A.co := by
  intro A hA
  simp only [cvL, rowsL, List.mem_cons, List.mem_append, List.mem_map, List.mem_range] at hA
  rcases hA with rfl | rfl | ⟨r, _, rfl⟩ | hA
  · exact As.cells_co _ _ _
  · exact As.row_co _ _ _ _ _ _
  · exact As.row_co _ _ _ _ _ _
  · exact hL A hA
theorem cv_drop {w0 w : World} {X : As} {bc W : Nat} {s : Option Addr} {c : Nat} {hs : List Hd} {f : Nat → Nat → Int} {L : List As} (h : St w0 w (cvL bc W s c hs f (X :: L))) : St w0 w (cvL bc W s c hs f L) := (cv_out h).drop
theorem ne_box {w : World} {b g o t : Nat} {s : ByteArray} {k : IntKind} {v : Int} (hb : Blk w b #[.string s] t) (hc : w.cell? ⟨g, o, none⟩ = some (.int k v)) : g ≠ b := by
  rintro rfl
  rw [hb.cell] at hc
  cases o with
  | zero => simp at hc
  | succ o => simp at hc
theorem has_w {a0 a1 a2 a3 i j : Int} {b : Bool} (w : World) (ha : Bd 1000000000 ⟨a0, a1, a2, a3⟩) (hr : hasR ⟨a0, a1, a2, a3⟩ i j = b) :
    Calls Try.prog 28 #[r4 a0 a1 a2 a3, .int .i64 i, .int .i64 j] w fun e w' => e = .returned (.bool b) ∧ Below w.heap.size w w' := by
  have := within_any ⟨a0, a1, a2, a3⟩ i j w ha
  rw [hr] at this
  exact this
theorem hit_y {a0 a1 a2 a3 e0 e1 e2 e3 m0 m1 m2 m3 hh : Int} (hm : meetR ⟨a0, a1, a2, a3⟩ ⟨e0, e1, e2, e3⟩ = ⟨m0, m1, m2, m3⟩) (hh2 : a3.tdiv 2 = hh) (mm : Int) :
    hasR ⟨m0, m1, m2, m3⟩ mm (a1 + a3 / 2) = hasR ⟨m0, m1, m2, m3⟩ mm (a1 + hh) ∧ (hasR ⟨m0, m1, m2, m3⟩ mm (a1 + hh) = true → a1 + a3 / 2 = a1 + hh) := by
  by_cases h : 0 ≤ a3
  · have : a3 / 2 = hh := by rw [← hh2, Int.tdiv_eq_ediv_of_nonneg h]
    rw [this]
    exact ⟨rfl, fun _ => rfl⟩
  · have hz : (⟨m0, m1, m2, m3⟩ : R4) = .zero := by
      rw [← hm]
      unfold meetR
      rw [if_pos (.inr (.inl (by simp only; omega)))]
    rw [hz]
    have hf : ∀ x y, hasR R4.zero x y = false := by
      intro x y
      cases hq : hasR R4.zero x y with
      | false => rfl
      | true =>
        have := (has_iff _ _ _).1 hq
        simp only [R4.zero] at this
        omega
    rw [hf, hf]
    exact ⟨rfl, fun q => by cases q⟩
def WdR (w0 : World) (bc W : Nat) (s : Option Addr) (c : Nat) (hs : List Hd) (f : Nat → Nat → Int) (L : List As) (i : Im) (wr : World) : Prop :=
  ∃ F, St w0 wr (cvL bc W s c hs F L) ∧ ∀ r' c', r' < hs.length → c' < W → F r' c' = wordR i c' r' (f r' c') (runeCount i.tx)
abbrev wdC (b2 bc b3 b4 : Nat) (kd a0 a1 a2 a3 e0 e1 e2 e3 : Int) (co tx : ByteArray) (z m0 m1 m2 m3 : Int) (L : List As) : List As :=
  As.cells b4 (i4 m0 m1 m2 m3) 31 :: As.cells b3 #[.int .i64 kd, .int .i64 a0, .int .i64 a1, .int .i64 a2, .int .i64 a3, .int .i64 e0, .int .i64 e1, .int .i64 e2, .int .i64 e3, .string co, .string tx, .int .i64 z, .int .i64 0] 33 :: As.cells b2 #[.pointer (some ⟨bc, 0, none⟩)] 51 :: L
theorem wd_cells {w0 w : World} {A B : As} {bc W : Nat} {s : Option Addr} {c : Nat} {hs : List Hd} {f : Nat → Nat → Int} {L : List As} {b2 b3 b4 b6 : Nat} {kd a0 a1 a2 a3 e0 e1 e2 e3 yv : Int} {co tx : ByteArray} {z m0 m1 m2 m3 : Int} (h : St w0 w (cvL bc W s c hs f (A :: B :: As.cells b6 #[.int .i64 yv] 3 :: wdC b2 bc b3 b4 kd a0 a1 a2 a3 e0 e1 e2 e3 co tx z m0 m1 m2 m3 L))) :
    w.cell? ⟨b2, 0, none⟩ = some (.pointer (some ⟨bc, 0, none⟩)) ∧ w.cell? ⟨b6, 0, none⟩ = some (.int .i64 yv) ∧ w.cell? ⟨b4, 0, none⟩ = some (.int .i64 m0) ∧ w.cell? ⟨b4, 1, none⟩ = some (.int .i64 m1) ∧ w.cell? ⟨b4, 2, none⟩ = some (.int .i64 m2) ∧ w.cell? ⟨b4, 3, none⟩ = some (.int .i64 m3) ∧
      w.cell? ⟨bc, 0, none⟩ = some (.int .i64 W) ∧ w.cell? ⟨bc, 1, none⟩ = some (.int .i64 hs.length) ∧ w.cell? ⟨bc, 2, none⟩ = some (.slice s hs.length c) := by
  have h4 := h.blkm (b := b4) (cv_mem (.tail _ (.tail _ (.tail _ (.head _)))))
  have h6 := h.blkm (b := b6) (cv_mem (.tail _ (.tail _ (.head _))))
  have h2 := h.blkm (b := b2) (cv_mem (.tail _ (.tail _ (.tail _ (.tail _ (.tail _ (.head _)))))))
  obtain ⟨t0, t1, t2⟩ := cv_three h
  exact ⟨h2.cell 0, h6.cell 0, h4.cell 0, h4.cell 1, h4.cell 2, h4.cell 3, t0, t1, t2⟩
theorem it_cells {w0 w : World} {bc W : Nat} {s : Option Addr} {c : Nat} {hs : List Hd} {f : Nat → Nat → Int} {L : List As} {b2 b3 b4 : Nat} {kd a0 a1 a2 a3 e0 e1 e2 e3 : Int} {co tx : ByteArray} {z m0 m1 m2 m3 : Int} (h : St w0 w (cvL bc W s c hs f (wdC b2 bc b3 b4 kd a0 a1 a2 a3 e0 e1 e2 e3 co tx z m0 m1 m2 m3 L))) :
    w.cell? ⟨b3, 1, none⟩ = some (.int .i64 a0) ∧ w.cell? ⟨b3, 1 + 1, none⟩ = some (.int .i64 a1) ∧ w.cell? ⟨b3, 1 + 3, none⟩ = some (.int .i64 a3) := by
  have hI := h.blkm (cv_mem (.tail _ (.head _)))
  exact ⟨hI.cell 1, hI.cell 2, hI.cell 4⟩

set_option maxRecDepth 100000 in
set_option maxHeartbeats 4000000 in
theorem words_any {w0 w : World} {bc W : Nat} {s : Option Addr} {c : Nat} {hs : List Hd} {f : Nat → Nat → Int} {L : List As} (h : St w0 w (cvL bc W s c hs f L)) (hL : ∀ A ∈ L, A.co) (i : Im) (hi : i.ok) (hW : W ≤ 13) (hH : hs.length ≤ 7) :
    Calls Try.prog 18 #[.pointer (some ⟨bc, 0, none⟩), .agg i.cells.toArray] w fun e w' => e = .returned (.tuple #[]) ∧ WdR w0 bc W s c hs f L i w' := by
  obtain ⟨kd, ⟨a0, a1, a2, a3⟩, ⟨e0, e1, e2, e3⟩, co, tx, z⟩ := i
  obtain ⟨hx1, hx2, hx3, hx4, hx5, hx6, hx7⟩ := hi
  simp only at hx3 hx4 hx5
  have B1 : Bd 1000000000 ⟨a0, a1, a2, a3⟩ := Bd.mono hx1 (by omega)
  have B2 : Bd 1000000000 ⟨e0, e1, e2, e3⟩ := Bd.mono hx2 (by omega)
  have BM : Bd 10000000 (meetR ⟨a0, a1, a2, a3⟩ ⟨e0, e1, e2, e3⟩) := bd_meetR (Bd.mono hx1 (by omega)) (Bd.mono hx2 (by omega))
  obtain ⟨⟨m0, m1, m2, m3⟩, hm⟩ : ∃ m, meetR ⟨a0, a1, a2, a3⟩ ⟨e0, e1, e2, e3⟩ = m := ⟨_, rfl⟩
  rw [hm] at BM
  have HBM := Lib.hid (Bd.mono BM (show (10000000 : Int) ≤ 1000000000 by omega))
  have HVI := Lib.hid (fun w => visible_any (k := kd) (z := z) (n := 0) (s1 := co) (s2 := tx) w B1 B2 hm)
  have HM := Lib.hid hm
  have hxa : -1000 ≤ a1 ∧ a1 ≤ 1000 ∧ -1000 ≤ a3 ∧ a3 ≤ 1000 ∧ -1000 ≤ a0 ∧ a0 ≤ 1000 := by unfold Bd at hx1; simp only at hx1; omega
  clear hm BM B1 B2 hx1 hx2 hx6 hx7
  obtain ⟨i, hie⟩ : ∃ i : Im, i = ⟨kd, ⟨a0, a1, a2, a3⟩, ⟨e0, e1, e2, e3⟩, co, tx, z⟩ := ⟨_, rfl⟩
  have HIE := Lib.hid hie
  have HIR := Lib.hid (show i.r.x = a0 by rw [hie])
  have HIT := Lib.hid (show i.tx = tx by rw [hie])
  have HIZ := Lib.hid (show i.z = z by rw [hie])
  have HIM := Lib.hid (show meetR i.r i.c = ⟨m0, m1, m2, m3⟩ by rw [hie]; exact HM.out)
  have HIY := Lib.hid (show wy i = a1 + a3 / 2 by rw [hie]; rfl)
  show Calls Try.prog 18 #[.pointer (some ⟨bc, 0, none⟩), .agg #[.int .i64 kd, .int .i64 a0, .int .i64 a1, .int .i64 a2, .int .i64 a3, .int .i64 e0, .int .i64 e1, .int .i64 e2, .int .i64 e3, .string co, .string tx, .int .i64 z, .int .i64 0]] w fun e w' => e = .returned (.tuple #[]) ∧ WdR w0 bc W s c hs f L ⟨kd, ⟨a0, a1, a2, a3⟩, ⟨e0, e1, e2, e3⟩, co, tx, z⟩ w'
  rw [← hie]
  clear hie
  refine (callsIn_wide (n := 6)).1 ?_
  refine callsIn_of_wp_marks Try.func18 rfl trivial ?_ rfl
  simp only [Try.ntmps18, List.size_toArray, List.length_cons, List.length_nil, Nat.reduceAdd, Nat.reduceSub, Array.replicate_succ, Array.replicate_zero, List.push_toArray, List.append_toArray, List.nil_append, List.cons_append]
  have h2 := cv_add ((cv_add (h.new #[.pointer (some ⟨bc, 0, none⟩)] 51)).new #[.int .i64 kd, .int .i64 a0, .int .i64 a1, .int .i64 a2, .int .i64 a3, .int .i64 e0, .int .i64 e1, .int .i64 e2, .int .i64 e3, .string co, .string tx, .int .i64 z, .int .i64 0] 33)
  simp only [World.size_alloc] at h2
  have H2 := Lib.hid h2
  clear h h2
  obtain ⟨yv, hyv⟩ : ∃ y, a1 + a3.tdiv 2 = y := ⟨_, rfl⟩
  obtain ⟨hh, hhh⟩ : ∃ y, a3.tdiv 2 = y := ⟨_, rfl⟩
  rw [hhh] at hyv
  have hhb : -501 ≤ hh ∧ hh ≤ 501 := by
    rw [← hhh]
    rcases Int.le_total 0 a3 with q | q
    · rw [Int.tdiv_eq_ediv_of_nonneg q]; omega
    · have e : a3.tdiv 2 = -((-a3) / 2) := by rw [← Int.tdiv_eq_ediv_of_nonneg (by omega), Int.neg_tdiv, Int.neg_neg]
      rw [e]; omega
  have HHQ := Lib.hid (show IntKind.i64.wrap (a3.tdiv 2) = hh by rw [hhh]; exact wrapS (by omega) (by omega))
  have HYQ := Lib.hid (show IntKind.i64.wrap (a1 + hh) = yv by rw [hyv]; exact wrapS (by omega) (by omega))
  have HYV := Lib.hid hyv
  have HHH := Lib.hid hhh
  clear hyv hhh
  gi_upto_region 2 with (refine ⟨trivial, ?_⟩; gi_at_call 14; refine (callsIn_wide.2 (HVI.out _)).mono ?_; rintro e w3 ⟨rfl, hb3⟩; have H3 := Lib.hid ((H2.out.of_below hb3).new (i4 m0 m1 m2 m3) 31))
  have h4 := cv_add H3.out
  obtain ⟨W4, hW4⟩ : ∃ W, w3.alloc (.cells (i4 m0 m1 m2 m3) 31) = W := ⟨_, rfl⟩
  obtain ⟨b2, hb2⟩ : ∃ b, w.heap.size = b := ⟨_, rfl⟩
  obtain ⟨b3, hb3'⟩ : ∃ b, b2 + 1 = b := ⟨_, rfl⟩
  obtain ⟨b4, hb4⟩ : ∃ b, w3.heap.size = b := ⟨_, rfl⟩
  rw [hW4, hb4] at h4
  rw [hW4]
  simp only [hb4, hb2, hb3'] at h4 ⊢
  have H4 := Lib.hid h4
  clear h4 hW4 hb2 hb3' hb4 H3 H2
  have hS := H4.out.drew
  have H4d := Lib.hid hS
  refine region_wide (by omega) (by kernel_rfl) (by kernel_rfl) (wpAny_of_held (S := fun w' : World => St w0 w' (cvL bc W s c hs f (wdC b2 bc b3 b4 kd a0 a1 a2 a3 e0 e1 e2 e3 co tx z m0 m1 m2 m3 L))) _ _ _ _ ?_)
  change wpAnyH _ _ _ _ _ _ _ _ (World.drew _)
  refine' wpAnyH_take (i := 0) (v := .pointer (some ⟨b3, 1, none⟩)) rfl (by kernel_rfl) (by kernel_rfl) (by kernel_rfl) (fun _ _ _ h => absurd h.1 (by intro q; cases q)) (Or.inl ⟨by rfl, ?hy0⟩) hS ?rest0
  case hy0 => (intro w' hSw; obtain ⟨i1, i2, i4'⟩ := it_cells hSw; go_simp; try with_reducible rfl)
  try simp only [Act.put, List.getElem_toArray, List.getElem_cons_zero, List.getElem_cons_succ, List.setIfInBounds_toArray, List.set_cons_zero, List.set_cons_succ]
  refine' wpAnyH_take (i := 1) (v := .pointer (some ⟨b3, 1, none⟩)) rfl (by kernel_rfl) (by kernel_rfl) (by kernel_rfl) (fun _ _ _ h => absurd h.1 (by intro q; cases q)) (Or.inl ⟨by rfl, ?hy1⟩) hS ?rest1
  case hy1 => (intro w' hSw; obtain ⟨i1, i2, i4'⟩ := it_cells hSw; go_simp; try with_reducible rfl)
  try simp only [Act.put, List.getElem_toArray, List.getElem_cons_zero, List.getElem_cons_succ, List.setIfInBounds_toArray, List.set_cons_zero, List.set_cons_succ]
  refine' wpAnyH_take (i := 2) (v := .int .i64 a0) rfl (by kernel_rfl) (by kernel_rfl) (by kernel_rfl) (fun _ _ _ h => absurd h.1 (by intro q; cases q)) (Or.inl ⟨by rfl, ?hy2⟩) hS ?rest2
  case hy2 => (intro w' hSw; obtain ⟨i1, i2, i4'⟩ := it_cells hSw; go_simp; try with_reducible rfl)
  try simp only [Act.put, List.getElem_toArray, List.getElem_cons_zero, List.getElem_cons_succ, List.setIfInBounds_toArray, List.set_cons_zero, List.set_cons_succ]
  refine' wpAnyH_take (i := 3) (v := .pointer (some ⟨b3, 1, none⟩)) rfl (by kernel_rfl) (by kernel_rfl) (by kernel_rfl) (fun _ _ _ h => absurd h.1 (by intro q; cases q)) (Or.inl ⟨by rfl, ?hy3⟩) hS ?rest3
  case hy3 => (intro w' hSw; obtain ⟨i1, i2, i4'⟩ := it_cells hSw; go_simp; try with_reducible rfl)
  try simp only [Act.put, List.getElem_toArray, List.getElem_cons_zero, List.getElem_cons_succ, List.setIfInBounds_toArray, List.set_cons_zero, List.set_cons_succ]
  refine' wpAnyH_take (i := 4) (v := .pointer (some ⟨b3, 1 + 1, none⟩)) rfl (by kernel_rfl) (by kernel_rfl) (by kernel_rfl) (fun _ _ _ h => absurd h.1 (by intro q; cases q)) (Or.inl ⟨by rfl, ?hy4⟩) hS ?rest4
  case hy4 => (intro w' hSw; obtain ⟨i1, i2, i4'⟩ := it_cells hSw; go_simp; try with_reducible rfl)
  try simp only [Act.put, List.getElem_toArray, List.getElem_cons_zero, List.getElem_cons_succ, List.setIfInBounds_toArray, List.set_cons_zero, List.set_cons_succ]
  refine' wpAnyH_take (i := 5) (v := .int .i64 a1) rfl (by kernel_rfl) (by kernel_rfl) (by kernel_rfl) (fun _ _ _ h => absurd h.1 (by intro q; cases q)) (Or.inl ⟨by rfl, ?hy5⟩) hS ?rest5
  case hy5 => (intro w' hSw; obtain ⟨i1, i2, i4'⟩ := it_cells hSw; go_simp; try with_reducible rfl)
  try simp only [Act.put, List.getElem_toArray, List.getElem_cons_zero, List.getElem_cons_succ, List.setIfInBounds_toArray, List.set_cons_zero, List.set_cons_succ]
  refine' wpAnyH_take (i := 6) (v := .pointer (some ⟨b3, 1, none⟩)) rfl (by kernel_rfl) (by kernel_rfl) (by kernel_rfl) (fun _ _ _ h => absurd h.1 (by intro q; cases q)) (Or.inl ⟨by rfl, ?hy6⟩) hS ?rest6
  case hy6 => (intro w' hSw; obtain ⟨i1, i2, i4'⟩ := it_cells hSw; go_simp; try with_reducible rfl)
  try simp only [Act.put, List.getElem_toArray, List.getElem_cons_zero, List.getElem_cons_succ, List.setIfInBounds_toArray, List.set_cons_zero, List.set_cons_succ]
  refine' wpAnyH_take (i := 7) (v := .pointer (some ⟨b3, 1 + 3, none⟩)) rfl (by kernel_rfl) (by kernel_rfl) (by kernel_rfl) (fun _ _ _ h => absurd h.1 (by intro q; cases q)) (Or.inl ⟨by rfl, ?hy7⟩) hS ?rest7
  case hy7 => (intro w' hSw; obtain ⟨i1, i2, i4'⟩ := it_cells hSw; go_simp; try with_reducible rfl)
  try simp only [Act.put, List.getElem_toArray, List.getElem_cons_zero, List.getElem_cons_succ, List.setIfInBounds_toArray, List.set_cons_zero, List.set_cons_succ]
  refine' wpAnyH_take (i := 8) (v := .int .i64 a3) rfl (by kernel_rfl) (by kernel_rfl) (by kernel_rfl) (fun _ _ _ h => absurd h.1 (by intro q; cases q)) (Or.inl ⟨by rfl, ?hy8⟩) hS ?rest8
  case hy8 => (intro w' hSw; obtain ⟨i1, i2, i4'⟩ := it_cells hSw; go_simp; try with_reducible rfl)
  try simp only [Act.put, List.getElem_toArray, List.getElem_cons_zero, List.getElem_cons_succ, List.setIfInBounds_toArray, List.set_cons_zero, List.set_cons_succ]
  refine' wpAnyH_take (i := 9) (v := .int .i64 hh) rfl (by kernel_rfl) (by kernel_rfl) (by kernel_rfl) (fun _ _ _ h => absurd h.1 (by intro q; cases q)) (Or.inl ⟨by rfl, ?hy9⟩) hS ?rest9
  case hy9 => (intro w' hSw; have q := HHQ.out; go_simp; try simp [q])
  try simp only [Act.put, List.getElem_toArray, List.getElem_cons_zero, List.getElem_cons_succ, List.setIfInBounds_toArray, List.set_cons_zero, List.set_cons_succ]
  refine' wpAnyH_take (i := 10) (v := .int .i64 yv) rfl (by kernel_rfl) (by kernel_rfl) (by kernel_rfl) (fun _ _ _ h => absurd h.1 (by intro q; cases q)) (Or.inl ⟨by rfl, ?hy10⟩) hS ?rest10
  case hy10 => (intro w' hSw; have q := HYQ.out; go_simp; try simp [q])
  try simp only [Act.put, List.getElem_toArray, List.getElem_cons_zero, List.getElem_cons_succ, List.setIfInBounds_toArray, List.set_cons_zero, List.set_cons_succ]
  clear hS
  refine (?use : (∀ (W' : World) (b5 b6 : Nat), St w0 W' (As.cells b5 #[.int .i64 a0] 3 :: As.cells b6 #[.int .i64 yv] 3 :: cvL bc W s c hs f (wdC b2 bc b3 b4 kd a0 a1 a2 a3 e0 e1 e2 e3 co tx z m0 m1 m2 m3 L)) → (?G : World → Nat → Nat → Prop) W' b5 b6) → _) ?fin
  case use =>
    intro fin
    refine held2 (i := 11) (j := 12) rfl rfl (by kernel_rfl) ?_ ?_
    · apply hstep_alloc (z := .int .i64 0) H4d.out (fun _ _ h => h.drop)
      case hg => rfl
      case ho => rfl
      case hz => kernel_rfl
      intro b5 w11 h11
      have H11 := Lib.hid h11; clear h11
      try simp only [Act.put, List.getElem_toArray, List.getElem_cons_zero, List.getElem_cons_succ, List.setIfInBounds_toArray, List.set_cons_zero, List.set_cons_succ]
      refine held1 (i := 12) rfl (by kernel_rfl) ?_
      apply hstep_alloc (z := .int .i64 0) H11.out (fun _ _ h => h.drop.drop)
      case hg => rfl
      case ho => rfl
      case hz => kernel_rfl
      intro b6 w11_12 h11_12
      have h11_12 := h11_12.swap
      have H11_12 := Lib.hid h11_12; clear h11_12
      try simp only [Act.put, List.getElem_toArray, List.getElem_cons_zero, List.getElem_cons_succ, List.setIfInBounds_toArray, List.set_cons_zero, List.set_cons_succ]
      refine held1 (i := 13) rfl (by kernel_rfl) ?_
      have cc := H11_12.out.cell 0; have ff := H11_12.out.free 0; simp [Value.cells] at cc
      refine hstep_put (w' := World.setCell _ ⟨b5, 0, none⟩ (.int .i64 a0)) rfl ?_ (H11_12.out.set 0 (.int .i64 a0)) (fun _ h => h.drop.drop) ?_
      · go_simp; try with_reducible rfl
      clear cc ff; intro w11_12_13 h11_12_13; have H11_12_13 := Lib.hid h11_12_13; clear h11_12_13
      try simp only [Act.put, List.getElem_toArray, List.getElem_cons_zero, List.getElem_cons_succ, List.setIfInBounds_toArray, List.set_cons_zero, List.set_cons_succ]
      refine held1 (i := 14) rfl (by kernel_rfl) ?_
      have cc := H11_12_13.out.swap.cell 0; have ff := H11_12_13.out.swap.free 0; simp [Value.cells] at cc
      refine hstep_put (w' := World.setCell _ ⟨b6, 0, none⟩ (.int .i64 yv)) rfl ?_ (H11_12_13.out.swap.set 0 (.int .i64 yv)).swap (fun _ h => h.drop.drop) ?_
      · go_simp; try with_reducible rfl
      clear cc ff; intro w11_12_13_14 h11_12_13_14; have H11_12_13_14 := Lib.hid h11_12_13_14; clear h11_12_13_14
      try simp only [Act.put, List.getElem_toArray, List.getElem_cons_zero, List.getElem_cons_succ, List.setIfInBounds_toArray, List.set_cons_zero, List.set_cons_succ]
      refine wpAnyH_done (by kernel_rfl) ?_ _
      refine ⟨rfl, ?_⟩
      exact fin _ b5 b6 H11_12_13_14.out
    · apply hstep_alloc (z := .int .i64 0) H4d.out (fun _ _ h => h.drop)
      case hg => rfl
      case ho => rfl
      case hz => kernel_rfl
      intro b6 w12 h12
      have H12 := Lib.hid h12; clear h12
      try simp only [Act.put, List.getElem_toArray, List.getElem_cons_zero, List.getElem_cons_succ, List.setIfInBounds_toArray, List.set_cons_zero, List.set_cons_succ]
      refine held1 (i := 11) rfl (by kernel_rfl) ?_
      apply hstep_alloc (z := .int .i64 0) H12.out (fun _ _ h => h.drop.drop)
      case hg => rfl
      case ho => rfl
      case hz => kernel_rfl
      intro b5 w12_11 h12_11
      have H12_11 := Lib.hid h12_11; clear h12_11
      try simp only [Act.put, List.getElem_toArray, List.getElem_cons_zero, List.getElem_cons_succ, List.setIfInBounds_toArray, List.set_cons_zero, List.set_cons_succ]
      refine held1 (i := 13) rfl (by kernel_rfl) ?_
      have cc := H12_11.out.cell 0; have ff := H12_11.out.free 0; simp [Value.cells] at cc
      refine hstep_put (w' := World.setCell _ ⟨b5, 0, none⟩ (.int .i64 a0)) rfl ?_ (H12_11.out.set 0 (.int .i64 a0)) (fun _ h => h.drop.drop) ?_
      · go_simp; try with_reducible rfl
      clear cc ff; intro w12_11_13 h12_11_13; have H12_11_13 := Lib.hid h12_11_13; clear h12_11_13
      try simp only [Act.put, List.getElem_toArray, List.getElem_cons_zero, List.getElem_cons_succ, List.setIfInBounds_toArray, List.set_cons_zero, List.set_cons_succ]
      refine held1 (i := 14) rfl (by kernel_rfl) ?_
      have cc := H12_11_13.out.swap.cell 0; have ff := H12_11_13.out.swap.free 0; simp [Value.cells] at cc
      refine hstep_put (w' := World.setCell _ ⟨b6, 0, none⟩ (.int .i64 yv)) rfl ?_ (H12_11_13.out.swap.set 0 (.int .i64 yv)).swap (fun _ h => h.drop.drop) ?_
      · go_simp; try with_reducible rfl
      clear cc ff; intro w12_11_13_14 h12_11_13_14; have H12_11_13_14 := Lib.hid h12_11_13_14; clear h12_11_13_14
      try simp only [Act.put, List.getElem_toArray, List.getElem_cons_zero, List.getElem_cons_succ, List.setIfInBounds_toArray, List.set_cons_zero, List.set_cons_succ]
      refine wpAnyH_done (by kernel_rfl) ?_ _
      refine ⟨rfl, ?_⟩
      exact fin _ b5 b6 H12_11_13_14.out
  case' fin =>
    intro W5 b5 b6 h5
    have H5 := Lib.hid h5
    clear h5
  have c10 : W5.cell? ⟨b3, 10, none⟩ = some (.string tx) := by
    have hI := H5.out.blkm (b := b3) (.tail _ (.tail _ (cv_mem (.tail _ (.head _)))))
    exact hI.cell 10
  gi_wp2_with (refine ⟨trivial, ?_⟩; gi_at_call 29; refine (callsIn_wide.2 (pts_any _ _)).mono ?_; rintro e w' ⟨rfl, rfl⟩)
  have h6 := cv_add3 (H5.out.new #[.string tx] 9).swap
  obtain ⟨W6, hW6⟩ : ∃ W, W5.alloc (.cells #[.string tx] 9) = W := ⟨_, rfl⟩
  obtain ⟨bs, hbs⟩ : ∃ b, W5.heap.size = b := ⟨_, rfl⟩
  have HSZ6 := Lib.hid (show W6.heap.size = bs + 1 by rw [← hW6, ← hbs]; simp)
  rw [hW6, hbs] at h6
  rw [hW6]
  simp only [hbs]
  have H6 := Lib.hid h6
  clear h6 hW6 hbs c10 H5
  obtain ⟨n, hn⟩ : ∃ n, runeCount tx = n := ⟨_, rfl⟩
  have hn30 : n ≤ 30 := by rw [← hn]; exact (repS_le tx hx3).2
  have cBs : W6.cell? ⟨bs, 0, none⟩ = some (.string tx) := (H6.out.blkm (cv_mem (.tail _ (.head _)))).cell 0
  refine wpIn_rangeFunc_ownG_of_H rfl (by omega) (gf := 37) (lb := #[.pointer (some ⟨bs, 0, none⟩)]) rfl trivial (enters_of Try.func37 (by kernel_rfl) rfl)
    (pts_stops Fence.wide _ trivial rfl (by omega) bs tx (by omega) W6 cBs) KW.trans (fun W l o o' hl h1 h2 h3 => kw_b (by have := HSZ6.out; omega) W l o o' hl h1 h3) (Below.refl _ _) (fun _ => rfl)
    (fun pre WW => ∃ F, St w0 WW (cvL bc W s c hs F (As.cells b5 #[.int .i64 (sF i f pre).1] 3 :: As.cells bs #[.string tx] 9 :: As.cells b6 #[.int .i64 yv] 3 :: wdC b2 bc b3 b4 kd a0 a1 a2 a3 e0 e1 e2 e3 co tx z m0 m1 m2 m3 L)) ∧ ∀ r' c', r' < hs.length → c' < W → F r' c' = (sF i f pre).2 r' c')
    (fun _ _ _ => False)
    (fun pre X Y row hst hg hr => by
      obtain ⟨F, h1, h2⟩ := hst
      exact ⟨F, st_own (β := Unit) (L := fun _ => cvL bc W s c hs F (As.cells b5 #[.int .i64 (sF i f pre).1] 3 :: As.cells bs #[.string tx] 9 :: As.cells b6 #[.int .i64 yv] 3 :: wdC b2 bc b3 b4 kd a0 a1 a2 a3 e0 e1 e2 e3 co tx z m0 m1 m2 m3 L)) (fun _ => cv_co (by
        intro A hA
        simp only [List.mem_cons] at hA
        rcases hA with rfl | rfl | rfl | rfl | rfl | rfl | hA
        · exact As.cells_co _ _ _
        · exact As.cells_co _ _ _
        · exact As.cells_co _ _ _
        · exact As.cells_co _ _ _
        · exact As.cells_co _ _ _
        · exact As.cells_co _ _ _
        · exact hL A hA)) (B := W6.heap.size) H6.out.bel.size () X Y row h1 hg hr, h2⟩)
    (fun _ _ _ _ _ hs _ _ => hs) ⟨f, by have : (sF i f []).1 = a0 := HIR.out; rw [this]; exact H6.out, fun _ _ _ _ => rfl⟩ ?a1 ?assign ?body ?done ?stop (KW.refl bs)
  case assign =>
    intro l x WW K hK
    gi_wp2
    exact hK
  case stop =>
    rintro D c' pre WW hD _ hF
    exact hF.elim
  case done =>
    rintro D ys WW hD rfl ⟨F, h7, hF⟩ hK
    have HK := Lib.hid hK
    have H7 := Lib.hid h7
    clear hK h7
    gi_wp2
    refine ⟨by simp, .inl ⟨_, _, rfl, run_takeDeferred HK.out, ?_⟩⟩
    have h8 := st_put (cv_co (by
        intro A hA
        simp only [List.mem_cons] at hA
        rcases hA with rfl | rfl | rfl | rfl | rfl | rfl | hA
        · exact As.cells_co _ _ _
        · exact As.cells_co _ _ _
        · exact As.cells_co _ _ _
        · exact As.cells_co _ _ _
        · exact As.cells_co _ _ _
        · exact As.cells_co _ _ _
        · exact hL A hA)) H7.out (D := D) (by have := H6.out.bel.size; omega) HK.out rfl (.deferred none)
    refine ⟨.tuple #[], by simp [results, Try.f18, go_sem], rfl, F, cv_drop (cv_drop (cv_drop (cv_drop (cv_drop (cv_drop h8))))), fun r' c' h1 h2 => ?_⟩
    rw [hF r' c' h1 h2, HIT.out, sF_range]
  case body =>
    rintro l pre x WW ⟨F, h7, hF⟩ hlt
    have hxb := sF_bd i f (by rw [HIZ.out]; exact hx4) (by rw [HIZ.out]; exact hx5) pre
    rw [HIR.out] at hxb
    obtain ⟨q, hq⟩ : ∃ q, rn tx x = q := ⟨_, rfl⟩
    have hqo : okRune q := hq ▸ rn_ok tx x
    have hcwb := chW_le z q hx4 hx5
    obtain ⟨cw, hcw⟩ : ∃ v, chW z q = v := ⟨_, rfl⟩
    rw [hcw] at hcwb
    obtain ⟨hcw0, hcw1⟩ := hcwb
    have hchar := fun w => char_any q z w
    simp only [hcw] at hchar
    have HCW := Lib.hid hchar
    have hsn := sF_snoc i f pre x
    obtain ⟨G, hG⟩ : ∃ G, (sF i f pre).2 = G := ⟨_, rfl⟩
    obtain ⟨xx, hxx⟩ : ∃ v, (sF i f pre).1 = v := ⟨_, rfl⟩
    have hs1 : (sF i f (pre ++ [x])).1 = xx + cw := by rw [hsn]; unfold sStep; simp only; rw [hxx, HIZ.out, HIT.out, hq, hcw]
    have hs2 : ∀ r c, (sF i f (pre ++ [x])).2 r c = if hitX i xx x c r then q else G r c := by intro r c; rw [hsn]; unfold sStep; simp only; rw [hxx, hG, HIT.out, hq]
    rw [hxx] at hxb h7
    rw [hG] at hF
    obtain ⟨sp, hsp⟩ : ∃ v, spR q = v := ⟨_, rfl⟩
    have hxb2 : xx ≤ a0 + 3030 := by omega
    have hcd : cw.tdiv 2 = cw / 2 := Int.tdiv_eq_ediv_of_nonneg hcw0
    have hw1 := wrapS (a := cw / 2) (by omega) (by omega)
    have hw2 := wrapS (a := xx + cw / 2) (by omega) (by omega)
    have hw3 := wrapS (a := xx + cw) (by omega) (by omega)
    obtain ⟨hc2, hhc2⟩ : ∃ v, cw / 2 = v := ⟨_, rfl⟩
    have hcb2 : 0 ≤ hc2 ∧ hc2 ≤ 60 := by omega
    obtain ⟨mm, hmm⟩ : ∃ v, xx + hc2 = v := ⟨_, rfl⟩
    have hmb : -2000 ≤ mm ∧ mm ≤ 5000 := by omega
    rw [hhc2] at hcd hw1 hw2
    have hyq := hit_y HM.out HHH.out mm
    rw [HYV.out] at hyq
    obtain ⟨hb, hhb⟩ : ∃ v, hasR ⟨m0, m1, m2, m3⟩ mm yv = v := ⟨_, rfl⟩
    rw [hhb] at hyq
    obtain ⟨hyq1, hyq2⟩ := hyq
    have hhx : ∀ c r : Nat, hitX i xx x c r = (decide (0 < cw) && !sp && hb && decide (mm / 8 = c) && decide ((a1 + a3 / 2) / 16 = r)) := by
      intro c r
      unfold hitX
      rw [HIT.out, HIZ.out, hq, hcw, hhc2, hmm, HIM.out, HIY.out, hyq1, hsp]
    rw [hmm] at hw2
    have HWI := Lib.hid (fun w => has_w w HBM.out hhb)
    have HS1 := Lib.hid hs1
    have HS2 := Lib.hid hs2
    have HHX := Lib.hid hhx
    have HYQ2 := Lib.hid hyq2
    have HF := Lib.hid hF
    have H7 := Lib.hid h7
    have hyb : -2000 ≤ yv ∧ yv ≤ 2000 := by have := HYV.out; omega
    have hmm2 : IntKind.i64.wrap (xx + hc2) = mm := by rw [hmm]; exact hw2
    have c11 : WW.cell? ⟨b3, 11, none⟩ = some (.int .i64 z) := (h7.blkm (cv_mem (.tail _ (.tail _ (.tail _ (.tail _ (.head _))))))).cell 11
    have c5 : WW.cell? ⟨b5, 0, none⟩ = some (.int .i64 xx) := (h7.blkm (cv_mem (.head _))).cell 0
    have f5 : WW.frozen? ⟨b5, 0, none⟩ = false := (h7.blkm (cv_mem (.head _))).free 0
    have h8 := cv_add ((cv_out h7).set 0 (.int .i64 (xx + cw)))
    have H8 := Lib.hid h8
    have K8 := Lib.hid (show KeepsFrom W6.heap.size WW _ ∧ KW bs WW _ from ⟨kf_set (v := .int .i64 (xx + cw)) c5, KW.set (v := .int .i64 (xx + cw)) c5 (ne_box (h7.blkm (cv_mem (.tail _ (.head _)))) c5)⟩)
    clear hs1 hs2 hhx hyq1 hyq2 hF h7 h8 hsn hG hxx hcw hchar hmm hhb hhc2 hxb hn hlt
    simp only [hq]
    by_cases h128 : q < 128
    · have hq0 : 0 ≤ q := by unfold okRune at hqo; omega
      have hsp2 : isSp q = sp := by rw [← hsp]; unfold spR; rw [decide_eq_true h128, Bool.true_and]
      have hq8 : IntKind.u8.wrap q = q := by show q % 256 = q; omega
      have hspa := fun w => space_any q w (by omega)
      simp only [hsp2] at hspa
      have HSP := Lib.hid hspa
      clear hsp2 hspa hsp hqo hq
      gi_upto_region 9 with (first
        | (refine ⟨trivial, ?_⟩; gi_at_call 23; refine (CallsIn.inRound l (callsIn_wide.2 (HCW.out _))).mono ?_; rintro e w' ⟨rfl, hw'⟩; rw [hw']; clear hw')
        | (refine ⟨trivial, ?_⟩; gi_at_call 30; refine (CallsIn.inRound l (callsIn_wide.2 (HSP.out _))).mono ?_; rintro e w' ⟨rfl, hw'⟩; rw [hw']; clear hw'))
      obtain ⟨W8, hW8⟩ : ∃ W8, WW.setCell ⟨b5, 0, none⟩ (.int .i64 (xx + cw)) = W8 := ⟨_, rfl⟩
      rw [hW8] at H8 K8
      rw [hW8]
      clear hW8 c5 f5 c11
      obtain ⟨k0, k1, k2, k3, k4, k5, k6, k7, -⟩ := wd_cells H8.out
      have k0 := cell_regrown k0
      have k1 := cell_regrown k1
      have k2 := cell_regrown k2
      have k3 := cell_regrown k3
      have k4 := cell_regrown k4
      have k5 := cell_regrown k5
      have k6 := cell_regrown k6
      have k7 := cell_regrown k7
      have cJ := Lib.hid (fun d os => Calls.regrown_of (w := W8) (d := d) (os := os) (HWI.out _))
      cases sp with
      | true =>
        refine region_round_below (by kernel_rfl) (by kernel_rfl) (by kernel_rfl) ?_
        repeat (go_big_quiet_step (exact cJ.out _ _))
        refine wpQuiet_nil ?_
        intro _ hw'
        obtain ⟨⟨dq, osq⟩, hw''⟩ := hw'
        subst hw''
        obtain ⟨W9, hW9⟩ : ∃ W9, W9 = Go.Sort.grow (redrawn W8 dq) osq := ⟨_, rfl⟩
        have hb9 := below_regrown W8 dq osq
        rw [← hW9] at hb9
        simp only [← hW9]
        clear hW9 k0 k1 k2 k3 k4 k5 k6 k7 cJ
        have H9 := Lib.hid (H8.out.of_below hb9)
        have K9 := Lib.hid (And.intro (K8.out.1.trans (keepsFrom_below hb9 W6.heap.size)) (K8.out.2.trans (KW.below hb9)))
        clear hb9
        gi_wp2
        refine ⟨K9.out.1, K9.out.2, F, by rw [HS1.out]; exact H9.out, fun r' c' h1 h2 => ?_⟩
        rw [HS2.out, HHX.out, HF.out r' c' h1 h2, if_neg (by simp)]
      | false =>
        by_cases hcp : 0 < cw
        · have hcl : ¬ cw ≤ 0 := by omega
          have hcl2 : decide (cw ≤ 0) = false := decide_eq_false hcl
          cases hb with
          | false =>
            refine region_round_below (by kernel_rfl) (by kernel_rfl) (by kernel_rfl) ?_
            repeat (go_big_quiet_step (exact cJ.out _ _))
            refine wpQuiet_nil ?_
            intro _ hw'
            obtain ⟨⟨dq, osq⟩, hw''⟩ := hw'
            subst hw''
            obtain ⟨W9, hW9⟩ : ∃ W9, W9 = Go.Sort.grow (redrawn W8 dq) osq := ⟨_, rfl⟩
            have hb9 := below_regrown W8 dq osq
            rw [← hW9] at hb9
            simp only [← hW9]
            clear hW9 k0 k1 k2 k3 k4 k5 k6 k7 cJ
            have H9 := Lib.hid (H8.out.of_below hb9)
            have K9 := Lib.hid (And.intro (K8.out.1.trans (keepsFrom_below hb9 W6.heap.size)) (K8.out.2.trans (KW.below hb9)))
            clear hb9
            gi_wp2
            refine ⟨K9.out.1, K9.out.2, F, by rw [HS1.out]; exact H9.out, fun r' c' h1 h2 => ?_⟩
            rw [HS2.out, HHX.out, HF.out r' c' h1 h2, if_neg (by simp)]
          | true =>
            by_cases hmn : mm < 0
            · have hmd : decide (mm < 0) = true := decide_eq_true hmn
              refine region_round_below (by kernel_rfl) (by kernel_rfl) (by kernel_rfl) ?_
              repeat (go_big_quiet_step (exact cJ.out _ _))
              refine wpQuiet_nil ?_
              intro _ hw'
              obtain ⟨⟨dq, osq⟩, hw''⟩ := hw'
              subst hw''
              obtain ⟨W9, hW9⟩ : ∃ W9, W9 = Go.Sort.grow (redrawn W8 dq) osq := ⟨_, rfl⟩
              have hb9 := below_regrown W8 dq osq
              rw [← hW9] at hb9
              simp only [← hW9]
              clear hW9 k0 k1 k2 k3 k4 k5 k6 k7 cJ
              have H9 := Lib.hid (H8.out.of_below hb9)
              have K9 := Lib.hid (And.intro (K8.out.1.trans (keepsFrom_below hb9 W6.heap.size)) (K8.out.2.trans (KW.below hb9)))
              clear hb9
              gi_wp2
              refine ⟨K9.out.1, K9.out.2, F, by rw [HS1.out]; exact H9.out, fun r' c' h1 h2 => ?_⟩
              rw [HS2.out, HHX.out, HF.out r' c' h1 h2, if_neg (by have this : ¬ (mm / 8 = (c' : Int)) := (by omega); simp [this])]
            · have hmd : decide (mm < 0) = false := decide_eq_false hmn
              by_cases hyn : yv < 0
              · have hyd : decide (yv < 0) = true := decide_eq_true hyn
                refine region_round_below (by kernel_rfl) (by kernel_rfl) (by kernel_rfl) ?_
                repeat (go_big_quiet_step (exact cJ.out _ _))
                refine wpQuiet_nil ?_
                intro _ hw'
                obtain ⟨⟨dq, osq⟩, hw''⟩ := hw'
                subst hw''
                obtain ⟨W9, hW9⟩ : ∃ W9, W9 = Go.Sort.grow (redrawn W8 dq) osq := ⟨_, rfl⟩
                have hb9 := below_regrown W8 dq osq
                rw [← hW9] at hb9
                simp only [← hW9]
                clear hW9 k0 k1 k2 k3 k4 k5 k6 k7 cJ
                have H9 := Lib.hid (H8.out.of_below hb9)
                have K9 := Lib.hid (And.intro (K8.out.1.trans (keepsFrom_below hb9 W6.heap.size)) (K8.out.2.trans (KW.below hb9)))
                clear hb9
                gi_wp2
                refine ⟨K9.out.1, K9.out.2, F, by rw [HS1.out]; exact H9.out, fun r' c' h1 h2 => ?_⟩
                rw [HS2.out, HHX.out, HF.out r' c' h1 h2, if_neg (by rw [HYQ2.out (by simp)]; have this : ¬ (yv / 16 = (r' : Int)) := (by omega); simp [this])]
              · have hyd : decide (yv < 0) = false := decide_eq_false hyn
                obtain ⟨p8, hp8⟩ : ∃ p : Nat, mm / 8 = (p : Int) := ⟨(mm / 8).toNat, by omega⟩
                obtain ⟨p16, hp16⟩ : ∃ p : Nat, yv / 16 = (p : Int) := ⟨(yv / 16).toNat, by omega⟩
                have hq8' : mm.tdiv 8 = (p8 : Int) := by rw [Int.tdiv_eq_ediv_of_nonneg (by omega), hp8]
                have hq16 : yv.tdiv 16 = (p16 : Int) := by rw [Int.tdiv_eq_ediv_of_nonneg (by omega), hp16]
                have hv8 := wrapS (a := (p8 : Int)) (by omega) (by omega)
                have hv16 := wrapS (a := (p16 : Int)) (by omega) (by omega)
                have HP8 := Lib.hid hp8
                have HP16 := Lib.hid hp16
                clear hp8 hp16
                by_cases hx8 : p8 < W
                · have hx8a : ¬ (W : Int) ≤ (p8 : Int) := by omega
                  have hx8b : decide ((W : Int) ≤ (p8 : Int)) = false := decide_eq_false hx8a
                  by_cases hr16 : p16 < hs.length
                  · have hr16a : ¬ (hs.length : Int) ≤ (p16 : Int) := by omega
                    have hr16b : decide ((hs.length : Int) ≤ (p16 : Int)) = false := decide_eq_false hr16a
                    have hr16c : (p16 : Int) < (hs.length : Int) := by omega
                    have hx8c : (p8 : Int) < (W : Int) := by omega
                    refine region_round_below (by kernel_rfl) (by kernel_rfl) (by kernel_rfl) ?_
                    repeat (go_big_quiet_step (exact cJ.out _ _))
                    refine wpQuiet_nil ?_
                    intro _ hw'
                    obtain ⟨⟨dq, osq⟩, hw''⟩ := hw'
                    subst hw''
                    obtain ⟨W9, hW9⟩ : ∃ W9, W9 = Go.Sort.grow (redrawn W8 dq) osq := ⟨_, rfl⟩
                    have hb9 := below_regrown W8 dq osq
                    rw [← hW9] at hb9
                    simp only [← hW9]
                    clear hW9 k0 k1 k2 k3 k4 k5 k6 k7 cJ
                    have H9 := Lib.hid (H8.out.of_below hb9)
                    have K9 := Lib.hid (And.intro (K8.out.1.trans (keepsFrom_below hb9 W6.heap.size)) (K8.out.2.trans (KW.below hb9)))
                    clear hb9
                    gi_upto_region 10 with fail
                    obtain ⟨g1, o1, rfl, -⟩ := cv_hd H9.out hr16
                    obtain ⟨g2, o2, k2, hh2, u2, -, -⟩ := cv_row H9.out hr16 hx8
                    have n2 := ne_box (H9.out.blkm (cv_mem (.tail _ (.head _)))) u2
                    have hd9 : Below W9.heap.size W9 W9.drew := below_drewN (n := 1) (Below.refl _ W9)
                    have H10 := Lib.hid (H9.out.of_below hd9)
                    have K10 := Lib.hid (And.intro (K9.out.1.trans (keepsFrom_below hd9 W6.heap.size)) (K9.out.2.trans (KW.below hd9)))
                    clear hd9 u2
                    have hS : ∃ F', St w0 W9.drew (cvL bc W (some ⟨g1, o1, none⟩) c hs F' (As.cells b5 #[.int .i64 (xx + cw)] 3 :: As.cells bs #[.string tx] 9 :: As.cells b6 #[.int .i64 yv] 3 :: wdC b2 bc b3 b4 kd a0 a1 a2 a3 e0 e1 e2 e3 co tx z m0 m1 m2 m3 L)) := ⟨F, H10.out⟩
                    refine region_round (by kernel_rfl) (by kernel_rfl) (wpAny_of_held (S := fun w' : World => ∃ F', St w0 w' (cvL bc W (some ⟨g1, o1, none⟩) c hs F' (As.cells b5 #[.int .i64 (xx + cw)] 3 :: As.cells bs #[.string tx] 9 :: As.cells b6 #[.int .i64 yv] 3 :: wdC b2 bc b3 b4 kd a0 a1 a2 a3 e0 e1 e2 e3 co tx z m0 m1 m2 m3 L))) _ _ _ _ ?_)
                    refine' wpAnyH_take (i := 0) (v := .pointer (some ⟨bc, 0, none⟩)) rfl (by kernel_rfl) (by kernel_rfl) (by kernel_rfl) (fun _ _ _ h => absurd h.1 (by intro q; cases q)) (Or.inl ⟨by rfl, ?hyb0⟩) hS ?restb0
                    case hyb0 => (intro w' hSw; obtain ⟨F', hSw⟩ := hSw; obtain ⟨k0, k1, -, -, -, -, k6, k7, k8⟩ := wd_cells hSw; obtain ⟨g1', o1', e1', u1⟩ := cv_hd hSw hr16; cases e1'; rw [hh2] at u1; simp only [hdV] at u1; go_simp; try with_reducible rfl)
                    try simp only [Act.put, List.getElem_toArray, List.getElem_cons_zero, List.getElem_cons_succ, List.setIfInBounds_toArray, List.set_cons_zero, List.set_cons_succ]
                    refine' wpAnyH_take (i := 1) (v := .pointer (some ⟨bc, 0, none⟩)) rfl (by kernel_rfl) (by kernel_rfl) (by kernel_rfl) (fun _ _ _ h => absurd h.1 (by intro q; cases q)) (Or.inl ⟨by rfl, ?hyb1⟩) hS ?restb1
                    case hyb1 => (intro w' hSw; obtain ⟨F', hSw⟩ := hSw; obtain ⟨k0, k1, -, -, -, -, k6, k7, k8⟩ := wd_cells hSw; obtain ⟨g1', o1', e1', u1⟩ := cv_hd hSw hr16; cases e1'; rw [hh2] at u1; simp only [hdV] at u1; go_simp; try with_reducible rfl)
                    try simp only [Act.put, List.getElem_toArray, List.getElem_cons_zero, List.getElem_cons_succ, List.setIfInBounds_toArray, List.set_cons_zero, List.set_cons_succ]
                    refine' wpAnyH_take (i := 2) (v := .pointer (some ⟨bc, 2, none⟩)) rfl (by kernel_rfl) (by kernel_rfl) (by kernel_rfl) (fun _ _ _ h => absurd h.1 (by intro q; cases q)) (Or.inl ⟨by rfl, ?hyb2⟩) hS ?restb2
                    case hyb2 => (intro w' hSw; obtain ⟨F', hSw⟩ := hSw; obtain ⟨k0, k1, -, -, -, -, k6, k7, k8⟩ := wd_cells hSw; obtain ⟨g1', o1', e1', u1⟩ := cv_hd hSw hr16; cases e1'; rw [hh2] at u1; simp only [hdV] at u1; go_simp; try with_reducible rfl)
                    try simp only [Act.put, List.getElem_toArray, List.getElem_cons_zero, List.getElem_cons_succ, List.setIfInBounds_toArray, List.set_cons_zero, List.set_cons_succ]
                    refine' wpAnyH_take (i := 3) (v := .slice (some ⟨g1, o1, none⟩) hs.length c) rfl (by kernel_rfl) (by kernel_rfl) (by kernel_rfl) (fun _ _ _ h => absurd h.1 (by intro q; cases q)) (Or.inl ⟨by rfl, ?hyb3⟩) hS ?restb3
                    case hyb3 => (intro w' hSw; obtain ⟨F', hSw⟩ := hSw; obtain ⟨k0, k1, -, -, -, -, k6, k7, k8⟩ := wd_cells hSw; obtain ⟨g1', o1', e1', u1⟩ := cv_hd hSw hr16; cases e1'; rw [hh2] at u1; simp only [hdV] at u1; go_simp; try with_reducible rfl)
                    try simp only [Act.put, List.getElem_toArray, List.getElem_cons_zero, List.getElem_cons_succ, List.setIfInBounds_toArray, List.set_cons_zero, List.set_cons_succ]
                    refine' wpAnyH_take (i := 4) (v := .int .i64 yv) rfl (by kernel_rfl) (by kernel_rfl) (by kernel_rfl) (fun _ _ _ h => absurd h.1 (by intro q; cases q)) (Or.inl ⟨by rfl, ?hyb4⟩) hS ?restb4
                    case hyb4 => (intro w' hSw; obtain ⟨F', hSw⟩ := hSw; obtain ⟨k0, k1, -, -, -, -, k6, k7, k8⟩ := wd_cells hSw; obtain ⟨g1', o1', e1', u1⟩ := cv_hd hSw hr16; cases e1'; rw [hh2] at u1; simp only [hdV] at u1; go_simp; try with_reducible rfl)
                    try simp only [Act.put, List.getElem_toArray, List.getElem_cons_zero, List.getElem_cons_succ, List.setIfInBounds_toArray, List.set_cons_zero, List.set_cons_succ]
                    refine' wpAnyH_take (i := 5) (v := .int .i64 (p16 : Nat)) rfl (by kernel_rfl) (by kernel_rfl) (by kernel_rfl) (fun _ _ _ h => absurd h.1 (by intro q; cases q)) (Or.inl ⟨by rfl, ?hyb5⟩) hS ?restb5
                    case hyb5 => (intro w' hSw; obtain ⟨F', hSw⟩ := hSw; obtain ⟨k0, k1, -, -, -, -, k6, k7, k8⟩ := wd_cells hSw; obtain ⟨g1', o1', e1', u1⟩ := cv_hd hSw hr16; cases e1'; rw [hh2] at u1; simp only [hdV] at u1; go_simp; try simp [hq16, hv16])
                    try simp only [Act.put, List.getElem_toArray, List.getElem_cons_zero, List.getElem_cons_succ, List.setIfInBounds_toArray, List.set_cons_zero, List.set_cons_succ]
                    refine' wpAnyH_take (i := 6) (v := .pointer (some ⟨g1, o1 + p16, none⟩)) rfl (by kernel_rfl) (by kernel_rfl) (by kernel_rfl) (fun _ _ _ h => absurd h.1 (by intro q; cases q)) (Or.inl ⟨by rfl, ?hyb6⟩) hS ?restb6
                    case hyb6 => (intro w' hSw; obtain ⟨F', hSw⟩ := hSw; obtain ⟨k0, k1, -, -, -, -, k6, k7, k8⟩ := wd_cells hSw; obtain ⟨g1', o1', e1', u1⟩ := cv_hd hSw hr16; cases e1'; rw [hh2] at u1; simp only [hdV] at u1; go_simp; try with_reducible rfl)
                    try simp only [Act.put, List.getElem_toArray, List.getElem_cons_zero, List.getElem_cons_succ, List.setIfInBounds_toArray, List.set_cons_zero, List.set_cons_succ]
                    refine' wpAnyH_take (i := 7) (v := .slice (some ⟨g2, o2, none⟩) W k2) rfl (by kernel_rfl) (by kernel_rfl) (by kernel_rfl) (fun _ _ _ h => absurd h.1 (by intro q; cases q)) (Or.inl ⟨by rfl, ?hyb7⟩) hS ?restb7
                    case hyb7 => (intro w' hSw; obtain ⟨F', hSw⟩ := hSw; obtain ⟨k0, k1, -, -, -, -, k6, k7, k8⟩ := wd_cells hSw; obtain ⟨g1', o1', e1', u1⟩ := cv_hd hSw hr16; cases e1'; rw [hh2] at u1; simp only [hdV] at u1; go_simp; try with_reducible rfl)
                    try simp only [Act.put, List.getElem_toArray, List.getElem_cons_zero, List.getElem_cons_succ, List.setIfInBounds_toArray, List.set_cons_zero, List.set_cons_succ]
                    refine' wpAnyH_take (i := 8) (v := .int .i64 mm) rfl (by kernel_rfl) (by kernel_rfl) (by kernel_rfl) (fun _ _ _ h => absurd h.1 (by intro q; cases q)) (Or.inl ⟨by rfl, ?hyb8⟩) hS ?restb8
                    case hyb8 => (intro w' hSw; obtain ⟨F', hSw⟩ := hSw; obtain ⟨k0, k1, -, -, -, -, k6, k7, k8⟩ := wd_cells hSw; obtain ⟨g1', o1', e1', u1⟩ := cv_hd hSw hr16; cases e1'; rw [hh2] at u1; simp only [hdV] at u1; go_simp; try with_reducible rfl)
                    try simp only [Act.put, List.getElem_toArray, List.getElem_cons_zero, List.getElem_cons_succ, List.setIfInBounds_toArray, List.set_cons_zero, List.set_cons_succ]
                    refine' wpAnyH_take (i := 9) (v := .int .i64 (p8 : Nat)) rfl (by kernel_rfl) (by kernel_rfl) (by kernel_rfl) (fun _ _ _ h => absurd h.1 (by intro q; cases q)) (Or.inl ⟨by rfl, ?hyb9⟩) hS ?restb9
                    case hyb9 => (intro w' hSw; obtain ⟨F', hSw⟩ := hSw; obtain ⟨k0, k1, -, -, -, -, k6, k7, k8⟩ := wd_cells hSw; obtain ⟨g1', o1', e1', u1⟩ := cv_hd hSw hr16; cases e1'; rw [hh2] at u1; simp only [hdV] at u1; go_simp; try simp [hq8', hv8])
                    try simp only [Act.put, List.getElem_toArray, List.getElem_cons_zero, List.getElem_cons_succ, List.setIfInBounds_toArray, List.set_cons_zero, List.set_cons_succ]
                    refine' wpAnyH_take (i := 10) (v := .int .i32 q) rfl (by kernel_rfl) (by kernel_rfl) (by kernel_rfl) (fun _ _ _ h => absurd h.1 (by intro q; cases q)) (Or.inl ⟨by rfl, ?hyb10⟩) hS ?restb10
                    case hyb10 => (intro w' hSw; obtain ⟨F', hSw⟩ := hSw; obtain ⟨k0, k1, -, -, -, -, k6, k7, k8⟩ := wd_cells hSw; obtain ⟨g1', o1', e1', u1⟩ := cv_hd hSw hr16; cases e1'; rw [hh2] at u1; simp only [hdV] at u1; go_simp; try with_reducible rfl)
                    try simp only [Act.put, List.getElem_toArray, List.getElem_cons_zero, List.getElem_cons_succ, List.setIfInBounds_toArray, List.set_cons_zero, List.set_cons_succ]
                    refine' wpAnyH_take (i := 11) (v := .pointer (some ⟨g2, o2 + p8, none⟩)) rfl (by kernel_rfl) (by kernel_rfl) (by kernel_rfl) (fun _ _ _ h => absurd h.1 (by intro q; cases q)) (Or.inl ⟨by rfl, ?hyb11⟩) hS ?restb11
                    case hyb11 => (intro w' hSw; obtain ⟨F', hSw⟩ := hSw; obtain ⟨k0, k1, -, -, -, -, k6, k7, k8⟩ := wd_cells hSw; obtain ⟨g1', o1', e1', u1⟩ := cv_hd hSw hr16; cases e1'; rw [hh2] at u1; simp only [hdV] at u1; go_simp; try with_reducible rfl)
                    try simp only [Act.put, List.getElem_toArray, List.getElem_cons_zero, List.getElem_cons_succ, List.setIfInBounds_toArray, List.set_cons_zero, List.set_cons_succ]
                    clear hS
                    obtain ⟨g2', o2', k2', e2, u2, u3, u4⟩ := cv_row H10.out hr16 hx8
                    rw [hh2] at e2
                    cases e2
                    have U4 := Lib.hid (u4 q)
                    have K11 := Lib.hid (And.intro (K10.out.1.trans (kf_set (v := .int .i32 q) u2)) (K10.out.2.trans (KW.set (v := .int .i32 q) u2 n2)))
                    clear u4
                    refine held1 (i := 12) rfl (by kernel_rfl) ?_
                    apply hstep_skip (w' := World.setCell W9.drew ⟨g2, o2 + p8, none⟩ (.int .i32 q))
                    case hg => rfl
                    case hr => go_simp; try with_reducible rfl
                    case hS => exact ⟨_, U4.out⟩
                    try simp only [Act.put, List.getElem_toArray, List.getElem_cons_zero, List.getElem_cons_succ, List.setIfInBounds_toArray, List.set_cons_zero, List.set_cons_succ]
                    clear u2 u3
                    refine wpAnyH_done (by kernel_rfl) ?_ _
                    refine ⟨rfl, ?_⟩
                    gi_wp2
                    refine ⟨K11.out.1, K11.out.2, _, by rw [HS1.out]; exact U4.out, fun r' c' h1 h2 => ?_⟩
                    rw [HS2.out, HHX.out]
                    unfold putF
                    by_cases hc : r' = p16 ∧ c' = p8
                    · rw [if_pos hc, if_pos (by rw [HYQ2.out (by simp), HP8.out, HP16.out, hc.1, hc.2]; simp [hcp])]
                    · rw [if_neg hc, HF.out r' c' h1 h2, if_neg (by
                        rw [HYQ2.out (by simp), HP8.out, HP16.out]
                        simp only [Bool.and_eq_true, decide_eq_true_eq]
                        rintro ⟨⟨_, q1⟩, q2⟩
                        exact hc ⟨by omega, by omega⟩)]
                  · have hr16a : (hs.length : Int) ≤ (p16 : Int) := by omega
                    have hr16b : decide ((hs.length : Int) ≤ (p16 : Int)) = true := decide_eq_true hr16a
                    refine region_round_below (by kernel_rfl) (by kernel_rfl) (by kernel_rfl) ?_
                    repeat (go_big_quiet_step (exact cJ.out _ _))
                    refine wpQuiet_nil ?_
                    intro _ hw'
                    obtain ⟨⟨dq, osq⟩, hw''⟩ := hw'
                    subst hw''
                    obtain ⟨W9, hW9⟩ : ∃ W9, W9 = Go.Sort.grow (redrawn W8 dq) osq := ⟨_, rfl⟩
                    have hb9 := below_regrown W8 dq osq
                    rw [← hW9] at hb9
                    simp only [← hW9]
                    clear hW9 k0 k1 k2 k3 k4 k5 k6 k7 cJ
                    have H9 := Lib.hid (H8.out.of_below hb9)
                    have K9 := Lib.hid (And.intro (K8.out.1.trans (keepsFrom_below hb9 W6.heap.size)) (K8.out.2.trans (KW.below hb9)))
                    clear hb9
                    gi_wp2
                    refine ⟨K9.out.1, K9.out.2, F, by rw [HS1.out]; exact H9.out, fun r' c' h1 h2 => ?_⟩
                    rw [HS2.out, HHX.out, HF.out r' c' h1 h2, if_neg (by rw [HYQ2.out (by simp), HP8.out, HP16.out]; have this : ¬ ((p16 : Int) = (r' : Int)) := (by omega); simp [this])]
                · have hx8a : (W : Int) ≤ (p8 : Int) := by omega
                  have hx8b : decide ((W : Int) ≤ (p8 : Int)) = true := decide_eq_true hx8a
                  refine region_round_below (by kernel_rfl) (by kernel_rfl) (by kernel_rfl) ?_
                  repeat (go_big_quiet_step (exact cJ.out _ _))
                  refine wpQuiet_nil ?_
                  intro _ hw'
                  obtain ⟨⟨dq, osq⟩, hw''⟩ := hw'
                  subst hw''
                  obtain ⟨W9, hW9⟩ : ∃ W9, W9 = Go.Sort.grow (redrawn W8 dq) osq := ⟨_, rfl⟩
                  have hb9 := below_regrown W8 dq osq
                  rw [← hW9] at hb9
                  simp only [← hW9]
                  clear hW9 k0 k1 k2 k3 k4 k5 k6 k7 cJ
                  have H9 := Lib.hid (H8.out.of_below hb9)
                  have K9 := Lib.hid (And.intro (K8.out.1.trans (keepsFrom_below hb9 W6.heap.size)) (K8.out.2.trans (KW.below hb9)))
                  clear hb9
                  gi_wp2
                  refine ⟨K9.out.1, K9.out.2, F, by rw [HS1.out]; exact H9.out, fun r' c' h1 h2 => ?_⟩
                  rw [HS2.out, HHX.out, HF.out r' c' h1 h2, if_neg (by rw [HYQ2.out (by simp), HP8.out, HP16.out]; have this : ¬ ((p8 : Int) = (c' : Int)) := (by omega); simp [this])]
        · have hcl : cw ≤ 0 := by omega
          have hcl2 : decide (cw ≤ 0) = true := decide_eq_true hcl
          refine region_round_below (by kernel_rfl) (by kernel_rfl) (by kernel_rfl) ?_
          repeat (go_big_quiet_step (exact cJ.out _ _))
          refine wpQuiet_nil ?_
          intro _ hw'
          obtain ⟨⟨dq, osq⟩, hw''⟩ := hw'
          subst hw''
          obtain ⟨W9, hW9⟩ : ∃ W9, W9 = Go.Sort.grow (redrawn W8 dq) osq := ⟨_, rfl⟩
          have hb9 := below_regrown W8 dq osq
          rw [← hW9] at hb9
          simp only [← hW9]
          clear hW9 k0 k1 k2 k3 k4 k5 k6 k7 cJ
          have H9 := Lib.hid (H8.out.of_below hb9)
          have K9 := Lib.hid (And.intro (K8.out.1.trans (keepsFrom_below hb9 W6.heap.size)) (K8.out.2.trans (KW.below hb9)))
          clear hb9
          gi_wp2
          refine ⟨K9.out.1, K9.out.2, F, by rw [HS1.out]; exact H9.out, fun r' c' h1 h2 => ?_⟩
          rw [HS2.out, HHX.out, HF.out r' c' h1 h2, if_neg (by rw [decide_eq_false (show ¬ 0 < cw by omega)]; simp)]
    · have hsp2 : sp = false := by rw [← hsp]; unfold spR; rw [decide_eq_false h128, Bool.false_and]
      subst hsp2
      clear hsp hqo hq
      gi_upto_region 9 with (refine ⟨trivial, ?_⟩; gi_at_call 23; refine (CallsIn.inRound l (callsIn_wide.2 (HCW.out _))).mono ?_; rintro e w' ⟨rfl, hw'⟩; rw [hw']; clear hw')
      refine ⟨trivial, ?_⟩
      gi_upto_region 9 with fail
      obtain ⟨W8, hW8⟩ : ∃ W8, WW.setCell ⟨b5, 0, none⟩ (.int .i64 (xx + cw)) = W8 := ⟨_, rfl⟩
      rw [hW8] at H8 K8
      rw [hW8]
      clear hW8 c5 f5 c11
      obtain ⟨k0, k1, k2, k3, k4, k5, k6, k7, -⟩ := wd_cells H8.out
      have k0 := cell_regrown k0
      have k1 := cell_regrown k1
      have k2 := cell_regrown k2
      have k3 := cell_regrown k3
      have k4 := cell_regrown k4
      have k5 := cell_regrown k5
      have k6 := cell_regrown k6
      have k7 := cell_regrown k7
      have cJ := Lib.hid (fun d os => Calls.regrown_of (w := W8) (d := d) (os := os) (HWI.out _))
      by_cases hcp : 0 < cw
      · have hcl : ¬ cw ≤ 0 := by omega
        have hcl2 : decide (cw ≤ 0) = false := decide_eq_false hcl
        cases hb with
        | false =>
          refine region_round_below (by kernel_rfl) (by kernel_rfl) (by kernel_rfl) ?_
          repeat (go_big_quiet_step (exact cJ.out _ _))
          refine wpQuiet_nil ?_
          intro _ hw'
          obtain ⟨⟨dq, osq⟩, hw''⟩ := hw'
          subst hw''
          obtain ⟨W9, hW9⟩ : ∃ W9, W9 = Go.Sort.grow (redrawn W8 dq) osq := ⟨_, rfl⟩
          have hb9 := below_regrown W8 dq osq
          rw [← hW9] at hb9
          simp only [← hW9]
          clear hW9 k0 k1 k2 k3 k4 k5 k6 k7 cJ
          have H9 := Lib.hid (H8.out.of_below hb9)
          have K9 := Lib.hid (And.intro (K8.out.1.trans (keepsFrom_below hb9 W6.heap.size)) (K8.out.2.trans (KW.below hb9)))
          clear hb9
          gi_wp2
          refine ⟨K9.out.1, K9.out.2, F, by rw [HS1.out]; exact H9.out, fun r' c' h1 h2 => ?_⟩
          rw [HS2.out, HHX.out, HF.out r' c' h1 h2, if_neg (by simp)]
        | true =>
          by_cases hmn : mm < 0
          · have hmd : decide (mm < 0) = true := decide_eq_true hmn
            refine region_round_below (by kernel_rfl) (by kernel_rfl) (by kernel_rfl) ?_
            repeat (go_big_quiet_step (exact cJ.out _ _))
            refine wpQuiet_nil ?_
            intro _ hw'
            obtain ⟨⟨dq, osq⟩, hw''⟩ := hw'
            subst hw''
            obtain ⟨W9, hW9⟩ : ∃ W9, W9 = Go.Sort.grow (redrawn W8 dq) osq := ⟨_, rfl⟩
            have hb9 := below_regrown W8 dq osq
            rw [← hW9] at hb9
            simp only [← hW9]
            clear hW9 k0 k1 k2 k3 k4 k5 k6 k7 cJ
            have H9 := Lib.hid (H8.out.of_below hb9)
            have K9 := Lib.hid (And.intro (K8.out.1.trans (keepsFrom_below hb9 W6.heap.size)) (K8.out.2.trans (KW.below hb9)))
            clear hb9
            gi_wp2
            refine ⟨K9.out.1, K9.out.2, F, by rw [HS1.out]; exact H9.out, fun r' c' h1 h2 => ?_⟩
            rw [HS2.out, HHX.out, HF.out r' c' h1 h2, if_neg (by have this : ¬ (mm / 8 = (c' : Int)) := (by omega); simp [this])]
          · have hmd : decide (mm < 0) = false := decide_eq_false hmn
            by_cases hyn : yv < 0
            · have hyd : decide (yv < 0) = true := decide_eq_true hyn
              refine region_round_below (by kernel_rfl) (by kernel_rfl) (by kernel_rfl) ?_
              repeat (go_big_quiet_step (exact cJ.out _ _))
              refine wpQuiet_nil ?_
              intro _ hw'
              obtain ⟨⟨dq, osq⟩, hw''⟩ := hw'
              subst hw''
              obtain ⟨W9, hW9⟩ : ∃ W9, W9 = Go.Sort.grow (redrawn W8 dq) osq := ⟨_, rfl⟩
              have hb9 := below_regrown W8 dq osq
              rw [← hW9] at hb9
              simp only [← hW9]
              clear hW9 k0 k1 k2 k3 k4 k5 k6 k7 cJ
              have H9 := Lib.hid (H8.out.of_below hb9)
              have K9 := Lib.hid (And.intro (K8.out.1.trans (keepsFrom_below hb9 W6.heap.size)) (K8.out.2.trans (KW.below hb9)))
              clear hb9
              gi_wp2
              refine ⟨K9.out.1, K9.out.2, F, by rw [HS1.out]; exact H9.out, fun r' c' h1 h2 => ?_⟩
              rw [HS2.out, HHX.out, HF.out r' c' h1 h2, if_neg (by rw [HYQ2.out (by simp)]; have this : ¬ (yv / 16 = (r' : Int)) := (by omega); simp [this])]
            · have hyd : decide (yv < 0) = false := decide_eq_false hyn
              obtain ⟨p8, hp8⟩ : ∃ p : Nat, mm / 8 = (p : Int) := ⟨(mm / 8).toNat, by omega⟩
              obtain ⟨p16, hp16⟩ : ∃ p : Nat, yv / 16 = (p : Int) := ⟨(yv / 16).toNat, by omega⟩
              have hq8' : mm.tdiv 8 = (p8 : Int) := by rw [Int.tdiv_eq_ediv_of_nonneg (by omega), hp8]
              have hq16 : yv.tdiv 16 = (p16 : Int) := by rw [Int.tdiv_eq_ediv_of_nonneg (by omega), hp16]
              have hv8 := wrapS (a := (p8 : Int)) (by omega) (by omega)
              have hv16 := wrapS (a := (p16 : Int)) (by omega) (by omega)
              have HP8 := Lib.hid hp8
              have HP16 := Lib.hid hp16
              clear hp8 hp16
              by_cases hx8 : p8 < W
              · have hx8a : ¬ (W : Int) ≤ (p8 : Int) := by omega
                have hx8b : decide ((W : Int) ≤ (p8 : Int)) = false := decide_eq_false hx8a
                by_cases hr16 : p16 < hs.length
                · have hr16a : ¬ (hs.length : Int) ≤ (p16 : Int) := by omega
                  have hr16b : decide ((hs.length : Int) ≤ (p16 : Int)) = false := decide_eq_false hr16a
                  have hr16c : (p16 : Int) < (hs.length : Int) := by omega
                  have hx8c : (p8 : Int) < (W : Int) := by omega
                  refine region_round_below (by kernel_rfl) (by kernel_rfl) (by kernel_rfl) ?_
                  repeat (go_big_quiet_step (exact cJ.out _ _))
                  refine wpQuiet_nil ?_
                  intro _ hw'
                  obtain ⟨⟨dq, osq⟩, hw''⟩ := hw'
                  subst hw''
                  obtain ⟨W9, hW9⟩ : ∃ W9, W9 = Go.Sort.grow (redrawn W8 dq) osq := ⟨_, rfl⟩
                  have hb9 := below_regrown W8 dq osq
                  rw [← hW9] at hb9
                  simp only [← hW9]
                  clear hW9 k0 k1 k2 k3 k4 k5 k6 k7 cJ
                  have H9 := Lib.hid (H8.out.of_below hb9)
                  have K9 := Lib.hid (And.intro (K8.out.1.trans (keepsFrom_below hb9 W6.heap.size)) (K8.out.2.trans (KW.below hb9)))
                  clear hb9
                  gi_upto_region 10 with fail
                  obtain ⟨g1, o1, rfl, -⟩ := cv_hd H9.out hr16
                  obtain ⟨g2, o2, k2, hh2, u2, -, -⟩ := cv_row H9.out hr16 hx8
                  have n2 := ne_box (H9.out.blkm (cv_mem (.tail _ (.head _)))) u2
                  have hd9 : Below W9.heap.size W9 W9.drew := below_drewN (n := 1) (Below.refl _ W9)
                  have H10 := Lib.hid (H9.out.of_below hd9)
                  have K10 := Lib.hid (And.intro (K9.out.1.trans (keepsFrom_below hd9 W6.heap.size)) (K9.out.2.trans (KW.below hd9)))
                  clear hd9 u2
                  have hS : ∃ F', St w0 W9.drew (cvL bc W (some ⟨g1, o1, none⟩) c hs F' (As.cells b5 #[.int .i64 (xx + cw)] 3 :: As.cells bs #[.string tx] 9 :: As.cells b6 #[.int .i64 yv] 3 :: wdC b2 bc b3 b4 kd a0 a1 a2 a3 e0 e1 e2 e3 co tx z m0 m1 m2 m3 L)) := ⟨F, H10.out⟩
                  refine region_round (by kernel_rfl) (by kernel_rfl) (wpAny_of_held (S := fun w' : World => ∃ F', St w0 w' (cvL bc W (some ⟨g1, o1, none⟩) c hs F' (As.cells b5 #[.int .i64 (xx + cw)] 3 :: As.cells bs #[.string tx] 9 :: As.cells b6 #[.int .i64 yv] 3 :: wdC b2 bc b3 b4 kd a0 a1 a2 a3 e0 e1 e2 e3 co tx z m0 m1 m2 m3 L))) _ _ _ _ ?_)
                  refine' wpAnyH_take (i := 0) (v := .pointer (some ⟨bc, 0, none⟩)) rfl (by kernel_rfl) (by kernel_rfl) (by kernel_rfl) (fun _ _ _ h => absurd h.1 (by intro q; cases q)) (Or.inl ⟨by rfl, ?hye0⟩) hS ?reste0
                  case hye0 => (intro w' hSw; obtain ⟨F', hSw⟩ := hSw; obtain ⟨k0, k1, -, -, -, -, k6, k7, k8⟩ := wd_cells hSw; obtain ⟨g1', o1', e1', u1⟩ := cv_hd hSw hr16; cases e1'; rw [hh2] at u1; simp only [hdV] at u1; go_simp; try with_reducible rfl)
                  try simp only [Act.put, List.getElem_toArray, List.getElem_cons_zero, List.getElem_cons_succ, List.setIfInBounds_toArray, List.set_cons_zero, List.set_cons_succ]
                  refine' wpAnyH_take (i := 1) (v := .pointer (some ⟨bc, 0, none⟩)) rfl (by kernel_rfl) (by kernel_rfl) (by kernel_rfl) (fun _ _ _ h => absurd h.1 (by intro q; cases q)) (Or.inl ⟨by rfl, ?hye1⟩) hS ?reste1
                  case hye1 => (intro w' hSw; obtain ⟨F', hSw⟩ := hSw; obtain ⟨k0, k1, -, -, -, -, k6, k7, k8⟩ := wd_cells hSw; obtain ⟨g1', o1', e1', u1⟩ := cv_hd hSw hr16; cases e1'; rw [hh2] at u1; simp only [hdV] at u1; go_simp; try with_reducible rfl)
                  try simp only [Act.put, List.getElem_toArray, List.getElem_cons_zero, List.getElem_cons_succ, List.setIfInBounds_toArray, List.set_cons_zero, List.set_cons_succ]
                  refine' wpAnyH_take (i := 2) (v := .pointer (some ⟨bc, 2, none⟩)) rfl (by kernel_rfl) (by kernel_rfl) (by kernel_rfl) (fun _ _ _ h => absurd h.1 (by intro q; cases q)) (Or.inl ⟨by rfl, ?hye2⟩) hS ?reste2
                  case hye2 => (intro w' hSw; obtain ⟨F', hSw⟩ := hSw; obtain ⟨k0, k1, -, -, -, -, k6, k7, k8⟩ := wd_cells hSw; obtain ⟨g1', o1', e1', u1⟩ := cv_hd hSw hr16; cases e1'; rw [hh2] at u1; simp only [hdV] at u1; go_simp; try with_reducible rfl)
                  try simp only [Act.put, List.getElem_toArray, List.getElem_cons_zero, List.getElem_cons_succ, List.setIfInBounds_toArray, List.set_cons_zero, List.set_cons_succ]
                  refine' wpAnyH_take (i := 3) (v := .slice (some ⟨g1, o1, none⟩) hs.length c) rfl (by kernel_rfl) (by kernel_rfl) (by kernel_rfl) (fun _ _ _ h => absurd h.1 (by intro q; cases q)) (Or.inl ⟨by rfl, ?hye3⟩) hS ?reste3
                  case hye3 => (intro w' hSw; obtain ⟨F', hSw⟩ := hSw; obtain ⟨k0, k1, -, -, -, -, k6, k7, k8⟩ := wd_cells hSw; obtain ⟨g1', o1', e1', u1⟩ := cv_hd hSw hr16; cases e1'; rw [hh2] at u1; simp only [hdV] at u1; go_simp; try with_reducible rfl)
                  try simp only [Act.put, List.getElem_toArray, List.getElem_cons_zero, List.getElem_cons_succ, List.setIfInBounds_toArray, List.set_cons_zero, List.set_cons_succ]
                  refine' wpAnyH_take (i := 4) (v := .int .i64 yv) rfl (by kernel_rfl) (by kernel_rfl) (by kernel_rfl) (fun _ _ _ h => absurd h.1 (by intro q; cases q)) (Or.inl ⟨by rfl, ?hye4⟩) hS ?reste4
                  case hye4 => (intro w' hSw; obtain ⟨F', hSw⟩ := hSw; obtain ⟨k0, k1, -, -, -, -, k6, k7, k8⟩ := wd_cells hSw; obtain ⟨g1', o1', e1', u1⟩ := cv_hd hSw hr16; cases e1'; rw [hh2] at u1; simp only [hdV] at u1; go_simp; try with_reducible rfl)
                  try simp only [Act.put, List.getElem_toArray, List.getElem_cons_zero, List.getElem_cons_succ, List.setIfInBounds_toArray, List.set_cons_zero, List.set_cons_succ]
                  refine' wpAnyH_take (i := 5) (v := .int .i64 (p16 : Nat)) rfl (by kernel_rfl) (by kernel_rfl) (by kernel_rfl) (fun _ _ _ h => absurd h.1 (by intro q; cases q)) (Or.inl ⟨by rfl, ?hye5⟩) hS ?reste5
                  case hye5 => (intro w' hSw; obtain ⟨F', hSw⟩ := hSw; obtain ⟨k0, k1, -, -, -, -, k6, k7, k8⟩ := wd_cells hSw; obtain ⟨g1', o1', e1', u1⟩ := cv_hd hSw hr16; cases e1'; rw [hh2] at u1; simp only [hdV] at u1; go_simp; try simp [hq16, hv16])
                  try simp only [Act.put, List.getElem_toArray, List.getElem_cons_zero, List.getElem_cons_succ, List.setIfInBounds_toArray, List.set_cons_zero, List.set_cons_succ]
                  refine' wpAnyH_take (i := 6) (v := .pointer (some ⟨g1, o1 + p16, none⟩)) rfl (by kernel_rfl) (by kernel_rfl) (by kernel_rfl) (fun _ _ _ h => absurd h.1 (by intro q; cases q)) (Or.inl ⟨by rfl, ?hye6⟩) hS ?reste6
                  case hye6 => (intro w' hSw; obtain ⟨F', hSw⟩ := hSw; obtain ⟨k0, k1, -, -, -, -, k6, k7, k8⟩ := wd_cells hSw; obtain ⟨g1', o1', e1', u1⟩ := cv_hd hSw hr16; cases e1'; rw [hh2] at u1; simp only [hdV] at u1; go_simp; try with_reducible rfl)
                  try simp only [Act.put, List.getElem_toArray, List.getElem_cons_zero, List.getElem_cons_succ, List.setIfInBounds_toArray, List.set_cons_zero, List.set_cons_succ]
                  refine' wpAnyH_take (i := 7) (v := .slice (some ⟨g2, o2, none⟩) W k2) rfl (by kernel_rfl) (by kernel_rfl) (by kernel_rfl) (fun _ _ _ h => absurd h.1 (by intro q; cases q)) (Or.inl ⟨by rfl, ?hye7⟩) hS ?reste7
                  case hye7 => (intro w' hSw; obtain ⟨F', hSw⟩ := hSw; obtain ⟨k0, k1, -, -, -, -, k6, k7, k8⟩ := wd_cells hSw; obtain ⟨g1', o1', e1', u1⟩ := cv_hd hSw hr16; cases e1'; rw [hh2] at u1; simp only [hdV] at u1; go_simp; try with_reducible rfl)
                  try simp only [Act.put, List.getElem_toArray, List.getElem_cons_zero, List.getElem_cons_succ, List.setIfInBounds_toArray, List.set_cons_zero, List.set_cons_succ]
                  refine' wpAnyH_take (i := 8) (v := .int .i64 mm) rfl (by kernel_rfl) (by kernel_rfl) (by kernel_rfl) (fun _ _ _ h => absurd h.1 (by intro q; cases q)) (Or.inl ⟨by rfl, ?hye8⟩) hS ?reste8
                  case hye8 => (intro w' hSw; obtain ⟨F', hSw⟩ := hSw; obtain ⟨k0, k1, -, -, -, -, k6, k7, k8⟩ := wd_cells hSw; obtain ⟨g1', o1', e1', u1⟩ := cv_hd hSw hr16; cases e1'; rw [hh2] at u1; simp only [hdV] at u1; go_simp; try with_reducible rfl)
                  try simp only [Act.put, List.getElem_toArray, List.getElem_cons_zero, List.getElem_cons_succ, List.setIfInBounds_toArray, List.set_cons_zero, List.set_cons_succ]
                  refine' wpAnyH_take (i := 9) (v := .int .i64 (p8 : Nat)) rfl (by kernel_rfl) (by kernel_rfl) (by kernel_rfl) (fun _ _ _ h => absurd h.1 (by intro q; cases q)) (Or.inl ⟨by rfl, ?hye9⟩) hS ?reste9
                  case hye9 => (intro w' hSw; obtain ⟨F', hSw⟩ := hSw; obtain ⟨k0, k1, -, -, -, -, k6, k7, k8⟩ := wd_cells hSw; obtain ⟨g1', o1', e1', u1⟩ := cv_hd hSw hr16; cases e1'; rw [hh2] at u1; simp only [hdV] at u1; go_simp; try simp [hq8', hv8])
                  try simp only [Act.put, List.getElem_toArray, List.getElem_cons_zero, List.getElem_cons_succ, List.setIfInBounds_toArray, List.set_cons_zero, List.set_cons_succ]
                  refine' wpAnyH_take (i := 10) (v := .int .i32 q) rfl (by kernel_rfl) (by kernel_rfl) (by kernel_rfl) (fun _ _ _ h => absurd h.1 (by intro q; cases q)) (Or.inl ⟨by rfl, ?hye10⟩) hS ?reste10
                  case hye10 => (intro w' hSw; obtain ⟨F', hSw⟩ := hSw; obtain ⟨k0, k1, -, -, -, -, k6, k7, k8⟩ := wd_cells hSw; obtain ⟨g1', o1', e1', u1⟩ := cv_hd hSw hr16; cases e1'; rw [hh2] at u1; simp only [hdV] at u1; go_simp; try with_reducible rfl)
                  try simp only [Act.put, List.getElem_toArray, List.getElem_cons_zero, List.getElem_cons_succ, List.setIfInBounds_toArray, List.set_cons_zero, List.set_cons_succ]
                  refine' wpAnyH_take (i := 11) (v := .pointer (some ⟨g2, o2 + p8, none⟩)) rfl (by kernel_rfl) (by kernel_rfl) (by kernel_rfl) (fun _ _ _ h => absurd h.1 (by intro q; cases q)) (Or.inl ⟨by rfl, ?hye11⟩) hS ?reste11
                  case hye11 => (intro w' hSw; obtain ⟨F', hSw⟩ := hSw; obtain ⟨k0, k1, -, -, -, -, k6, k7, k8⟩ := wd_cells hSw; obtain ⟨g1', o1', e1', u1⟩ := cv_hd hSw hr16; cases e1'; rw [hh2] at u1; simp only [hdV] at u1; go_simp; try with_reducible rfl)
                  try simp only [Act.put, List.getElem_toArray, List.getElem_cons_zero, List.getElem_cons_succ, List.setIfInBounds_toArray, List.set_cons_zero, List.set_cons_succ]
                  clear hS
                  obtain ⟨g2', o2', k2', e2, u2, u3, u4⟩ := cv_row H10.out hr16 hx8
                  rw [hh2] at e2
                  cases e2
                  have U4 := Lib.hid (u4 q)
                  have K11 := Lib.hid (And.intro (K10.out.1.trans (kf_set (v := .int .i32 q) u2)) (K10.out.2.trans (KW.set (v := .int .i32 q) u2 n2)))
                  clear u4
                  refine held1 (i := 12) rfl (by kernel_rfl) ?_
                  apply hstep_skip (w' := World.setCell W9.drew ⟨g2, o2 + p8, none⟩ (.int .i32 q))
                  case hg => rfl
                  case hr => go_simp; try with_reducible rfl
                  case hS => exact ⟨_, U4.out⟩
                  try simp only [Act.put, List.getElem_toArray, List.getElem_cons_zero, List.getElem_cons_succ, List.setIfInBounds_toArray, List.set_cons_zero, List.set_cons_succ]
                  clear u2 u3
                  refine wpAnyH_done (by kernel_rfl) ?_ _
                  refine ⟨rfl, ?_⟩
                  gi_wp2
                  refine ⟨K11.out.1, K11.out.2, _, by rw [HS1.out]; exact U4.out, fun r' c' h1 h2 => ?_⟩
                  rw [HS2.out, HHX.out]
                  unfold putF
                  by_cases hc : r' = p16 ∧ c' = p8
                  · rw [if_pos hc, if_pos (by rw [HYQ2.out (by simp), HP8.out, HP16.out, hc.1, hc.2]; simp [hcp])]
                  · rw [if_neg hc, HF.out r' c' h1 h2, if_neg (by
                      rw [HYQ2.out (by simp), HP8.out, HP16.out]
                      simp only [Bool.and_eq_true, decide_eq_true_eq]
                      rintro ⟨⟨_, q1⟩, q2⟩
                      exact hc ⟨by omega, by omega⟩)]
                · have hr16a : (hs.length : Int) ≤ (p16 : Int) := by omega
                  have hr16b : decide ((hs.length : Int) ≤ (p16 : Int)) = true := decide_eq_true hr16a
                  refine region_round_below (by kernel_rfl) (by kernel_rfl) (by kernel_rfl) ?_
                  repeat (go_big_quiet_step (exact cJ.out _ _))
                  refine wpQuiet_nil ?_
                  intro _ hw'
                  obtain ⟨⟨dq, osq⟩, hw''⟩ := hw'
                  subst hw''
                  obtain ⟨W9, hW9⟩ : ∃ W9, W9 = Go.Sort.grow (redrawn W8 dq) osq := ⟨_, rfl⟩
                  have hb9 := below_regrown W8 dq osq
                  rw [← hW9] at hb9
                  simp only [← hW9]
                  clear hW9 k0 k1 k2 k3 k4 k5 k6 k7 cJ
                  have H9 := Lib.hid (H8.out.of_below hb9)
                  have K9 := Lib.hid (And.intro (K8.out.1.trans (keepsFrom_below hb9 W6.heap.size)) (K8.out.2.trans (KW.below hb9)))
                  clear hb9
                  gi_wp2
                  refine ⟨K9.out.1, K9.out.2, F, by rw [HS1.out]; exact H9.out, fun r' c' h1 h2 => ?_⟩
                  rw [HS2.out, HHX.out, HF.out r' c' h1 h2, if_neg (by rw [HYQ2.out (by simp), HP8.out, HP16.out]; have this : ¬ ((p16 : Int) = (r' : Int)) := (by omega); simp [this])]
              · have hx8a : (W : Int) ≤ (p8 : Int) := by omega
                have hx8b : decide ((W : Int) ≤ (p8 : Int)) = true := decide_eq_true hx8a
                refine region_round_below (by kernel_rfl) (by kernel_rfl) (by kernel_rfl) ?_
                repeat (go_big_quiet_step (exact cJ.out _ _))
                refine wpQuiet_nil ?_
                intro _ hw'
                obtain ⟨⟨dq, osq⟩, hw''⟩ := hw'
                subst hw''
                obtain ⟨W9, hW9⟩ : ∃ W9, W9 = Go.Sort.grow (redrawn W8 dq) osq := ⟨_, rfl⟩
                have hb9 := below_regrown W8 dq osq
                rw [← hW9] at hb9
                simp only [← hW9]
                clear hW9 k0 k1 k2 k3 k4 k5 k6 k7 cJ
                have H9 := Lib.hid (H8.out.of_below hb9)
                have K9 := Lib.hid (And.intro (K8.out.1.trans (keepsFrom_below hb9 W6.heap.size)) (K8.out.2.trans (KW.below hb9)))
                clear hb9
                gi_wp2
                refine ⟨K9.out.1, K9.out.2, F, by rw [HS1.out]; exact H9.out, fun r' c' h1 h2 => ?_⟩
                rw [HS2.out, HHX.out, HF.out r' c' h1 h2, if_neg (by rw [HYQ2.out (by simp), HP8.out, HP16.out]; have this : ¬ ((p8 : Int) = (c' : Int)) := (by omega); simp [this])]
      · have hcl : cw ≤ 0 := by omega
        have hcl2 : decide (cw ≤ 0) = true := decide_eq_true hcl
        refine region_round_below (by kernel_rfl) (by kernel_rfl) (by kernel_rfl) ?_
        repeat (go_big_quiet_step (exact cJ.out _ _))
        refine wpQuiet_nil ?_
        intro _ hw'
        obtain ⟨⟨dq, osq⟩, hw''⟩ := hw'
        subst hw''
        obtain ⟨W9, hW9⟩ : ∃ W9, W9 = Go.Sort.grow (redrawn W8 dq) osq := ⟨_, rfl⟩
        have hb9 := below_regrown W8 dq osq
        rw [← hW9] at hb9
        simp only [← hW9]
        clear hW9 k0 k1 k2 k3 k4 k5 k6 k7 cJ
        have H9 := Lib.hid (H8.out.of_below hb9)
        have K9 := Lib.hid (And.intro (K8.out.1.trans (keepsFrom_below hb9 W6.heap.size)) (K8.out.2.trans (KW.below hb9)))
        clear hb9
        gi_wp2
        refine ⟨K9.out.1, K9.out.2, F, by rw [HS1.out]; exact H9.out, fun r' c' h1 h2 => ?_⟩
        rw [HS2.out, HHX.out, HF.out r' c' h1 h2, if_neg (by rw [decide_eq_false (show ¬ 0 < cw by omega)]; simp)]
end Go.Proofs.Ytifgjccnhbbadaa
