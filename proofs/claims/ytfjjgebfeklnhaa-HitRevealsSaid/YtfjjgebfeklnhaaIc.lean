/-
  Fragments: the tree, how it lies in memory; the object that a list of them is.
-/
import Derived.Test.YtfjjgebfeklnhaaIb
set_option linter.unusedVariables false
set_option linter.unusedSimpArgs false
namespace Go.Proofs.Ytfjjgebfeklnhaa
open Go.RowKit Go.K

structure Fa where
  kd : Int
  nd : Int
  x : Int
  y : Int
  w : Int
  h : Int
  bd : Int
  ov : Int
  s : Option Addr
  c : Nat
inductive Ft where
  | mk (a : Fa) (ks : List Ft) : Ft
def Ft.a : Ft → Fa
  | .mk a _ => a
def Ft.ks : Ft → List Ft
  | .mk _ ks => ks
def fv (a : Fa) (n : Nat) : List Value := [.int .i64 a.kd, .int .i64 a.nd, .int .i64 a.x, .int .i64 a.y, .int .i64 a.w, .int .i64 a.h, .int .i64 0, .string ByteArray.empty, .int .i64 0, .int .i64 0, .int .i64 0, .int .i64 0, .int .i64 0, .int .i64 0, .int .i64 0, .int .i64 0, .int .i64 0, .int .i64 0, .int .i64 0, .int .i64 0, .int .i64 0, .int .i64 0, .int .i64 0, .int .i64 0, .int .i64 0, .int .i64 0, .int .i64 0, .int .i64 0, .int .i64 0, .int .i64 0, .int .i64 0, .int .i64 0, .int .i64 0, .int .i64 0, .int .i64 0, .int .i64 0, .int .i64 0, .int .i64 0, .int .i64 a.bd, .int .i64 a.bd, .int .i64 a.bd, .int .i64 a.bd, .string ByteArray.empty, .string ByteArray.empty, .string ByteArray.empty, .int .i64 0, .int .i64 0, .int .i64 0, .int .i64 0, .int .i64 0, .int .i64 0, .bool false, .int .i64 0, .int .i64 0, .int .i64 0, .int .i64 0, .int .i64 0, .int .i64 0, .bool false, .int .i64 a.ov, .int .i64 0, .int .i64 0, .int .i64 0, .int .i64 0, .int .i64 0, .bool false, .slice a.s n a.c]
def fc (t : Ft) : List Value := fv t.a t.ks.length
theorem fv_len (a : Fa) (n : Nat) : (fv a n).length = 67 := rfl
theorem fc_len (t : Ft) : (fc t).length = 67 := rfl
theorem fv_one (a : Fa) (n : Nat) : ∀ u ∈ fv a n, u.oneCell' = true := by
  intro u hu
  simp only [fv, List.mem_cons, List.not_mem_nil, or_false] at hu
  rcases hu with rfl | rfl | rfl | rfl | rfl | rfl | rfl | rfl | rfl | rfl | rfl | rfl | rfl | rfl | rfl | rfl | rfl | rfl | rfl | rfl | rfl | rfl | rfl | rfl | rfl | rfl | rfl | rfl | rfl | rfl | rfl | rfl | rfl | rfl | rfl | rfl | rfl | rfl | rfl | rfl | rfl | rfl | rfl | rfl | rfl | rfl | rfl | rfl | rfl | rfl | rfl | rfl | rfl | rfl | rfl | rfl | rfl | rfl | rfl | rfl | rfl | rfl | rfl | rfl | rfl | rfl | rfl <;> rfl
theorem fv_all (a : Fa) (n : Nat) : (fv a n).toArray.all (·.oneCell') = true := Array.all_eq_true_iff_forall_mem.2 (fun v hv => fv_one a n v (by simpa using hv))
inductive FtAt (w : World) : Ft → Prop
  | mk (a : Fa) (ks : List Ft) : (a.s = none → a.c = 0) → Rd w 67 a.s ks.length (flat fc ks) → (∀ k ∈ ks, FtAt w k) → FtAt w (.mk a ks)
theorem FtAt.rd {w : World} {t : Ft} (h : FtAt w t) : Rd w 67 t.a.s t.ks.length (flat fc t.ks) := by cases h; assumption
theorem FtAt.kid {w : World} {t : Ft} (h : FtAt w t) : ∀ k ∈ t.ks, FtAt w k := by cases h; assumption
theorem FtAt.stay {w w' : World} {t : Ft} (h : FtAt w t) (hb : Below w.heap.size w w') : FtAt w' t := by
  induction h with
  | mk a ks h0 h1 h2 ih => exact .mk a ks h0 (h1.below hb) ih
/-- the blocks of a tree -/
inductive Ft.blk (k : Nat) : Ft → Prop
  | here (a : Fa) (ks : List Ft) : rowOf a.s = some k → ks ≠ [] → Ft.blk k (.mk a ks)
  | kid (a : Fa) (ks : List Ft) (x : Ft) : x ∈ ks → Ft.blk k x → Ft.blk k (.mk a ks)
theorem _root_.Go.K.Rd.hold {w w' : World} {sz : Nat} {s : Option Addr} {n : Nat} {xs : List Value} (h : Rd w sz s n xs) (hk : ∀ k, rowOf s = some k → xs ≠ [] → w'.heap[k]? = w.heap[k]?) : Rd w' sz s n xs :=
  ⟨h.len, h.one, h.nil, fun ad had j u hu => by
    have hb : (ad.add j).block = ad.block := by unfold Addr.add; split <;> rfl
    exact (World.cell?_of_block (by rw [hb]; exact hk _ (by rw [had]; rfl) (by rintro rfl; simp at hu))).trans (h.cells ad had j u hu)⟩
theorem _root_.Go.K.Rd.blt {w : World} {sz : Nat} {s : Option Addr} {n : Nat} {xs : List Value} (h : Rd w sz s n xs) {k : Nat} (hk : rowOf s = some k) (hn : xs ≠ []) : k < w.heap.size := by
  cases s with
  | none => cases hk
  | some ad =>
    cases xs with
    | nil => exact absurd rfl hn
    | cons u r =>
      have h1 := World.block_lt_of_cell? _ _ (h.cells ad rfl 0 u rfl)
      have hb : (ad.add 0).block = ad.block := by unfold Addr.add; split <;> rfl
      rw [hb] at h1
      have : ad.block = k := by simpa [rowOf] using hk
      omega
theorem flat_nil {ks : List Ft} (h : flat fc ks ≠ []) : ks ≠ [] := by rintro rfl; exact h rfl
theorem flat_cons {ks : List Ft} (h : ks ≠ []) : flat fc ks ≠ [] := by
  cases ks with
  | nil => exact absurd rfl h
  | cons k r => simp [flat, fc, fv]
theorem FtAt.hold {w w' : World} {t : Ft} (h : FtAt w t) : (∀ k, t.blk k → w'.heap[k]? = w.heap[k]?) → FtAt w' t := by
  induction h with
  | mk a ks h0 h1 h2 ih =>
    intro hk
    exact .mk a ks h0 (h1.hold (fun k hr hn => hk k (.here a ks hr (flat_nil hn)))) (fun x hx => ih x hx (fun k hb => hk k (.kid a ks x hx hb)))
theorem FtAt.blt {w : World} {t : Ft} (h : FtAt w t) : ∀ k, t.blk k → k < w.heap.size := by
  induction h with
  | mk a ks h0 h1 h2 ih =>
    intro k hb
    cases hb with
    | here _ _ hr hn => exact h1.blt hr (flat_cons hn)
    | kid _ _ x hx hb => exact ih x hx k hb
/-- a list of fragments is an object -/
def As.fts (l : List Ft) : As where
  holds w F := (∀ k, F k ↔ ∃ t ∈ l, t.blk k) ∧ (∀ t ∈ l, FtAt w t)
  keep {w w' F} h hk := ⟨h.1, fun t ht => (h.2 t ht).hold (fun k hb => hk k ((h.1 k).2 ⟨t, ht, hb⟩))⟩
  lt h k hk := by
    obtain ⟨t, ht, hb⟩ := (h.1 k).1 hk
    exact (h.2 t ht).blt k hb
theorem fts_nil {w0 w : World} {L : List As} (h : St w0 w L) : St w0 w (As.fts [] :: L) := by
  refine (h.row_nil 9 1).to (fun F hF => ?_)
  have hr : ∀ k, ¬ F k := fun k q => by have := (hF.1 k).1 q; cases this
  exact ⟨fun k => ⟨fun q => absurd q (hr k), fun ⟨e, he, _⟩ => by cases he⟩, fun e he => by cases he⟩
theorem st_merge {w0 w : World} {L : List As} {A B C : As} (h : St w0 w (A :: B :: L)) (hC : ∀ F G, A.holds w F → B.holds w G → ∃ H, C.holds w H ∧ ∀ k, H k → F k ∨ G k) : St w0 w (C :: L) := by
  obtain ⟨F, ⟨F1, F2, h1, ⟨G1, G2, g1, g2, g3, g4⟩, h3, h4⟩, h5⟩ := h.sep
  obtain ⟨H, hH, hs⟩ := hC F1 G1 h1 g1
  refine ⟨h.bel, fun k => H k ∨ G2 k, ⟨H, G2, hH, g2, fun k => Iff.rfl, fun k hk hg => ?_⟩, fun k hk => ?_⟩
  · rcases hs k hk with q | q
    · exact h4 k q ((g3 k).2 (.inr hg))
    · exact g4 k q hg
  · rcases hk with q | q
    · rcases hs k q with q | q
      · exact h5 k ((h3 k).2 (.inl q))
      · exact h5 k ((h3 k).2 (.inr ((g3 k).2 (.inl q))))
    · exact h5 k ((h3 k).2 (.inr ((g3 k).2 (.inr q))))
theorem fts_app {w0 w : World} {L : List As} {l : List Ft} {t : Ft} (h : St w0 w (As.fts [t] :: As.fts l :: L)) : St w0 w (As.fts (l ++ [t]) :: L) := by
  refine st_merge h (fun F G hF hG => ⟨fun k => ∃ x ∈ l ++ [t], x.blk k, ⟨fun k => Iff.rfl, fun x hx => ?_⟩, fun k hk => ?_⟩)
  · rcases List.mem_append.1 hx with q | q
    · exact hG.2 x q
    · exact hF.2 x q
  · obtain ⟨x, hx, hb⟩ := hk
    rcases List.mem_append.1 hx with q | q
    · exact .inr ((hG.1 k).2 ⟨x, q, hb⟩)
    · exact .inl ((hF.1 k).2 ⟨x, q, hb⟩)
theorem fts_up {w0 w : World} {L : List As} {l : List Ft} (a : Fa) (h : St w0 w (As.row 51 67 a.s l.length a.c (flat fc l) :: As.fts l :: L)) : St w0 w (As.fts [.mk a l] :: L) := by
  refine st_merge h (fun F G hF hG => ⟨fun k => ∃ x ∈ [Ft.mk a l], x.blk k, ⟨fun k => Iff.rfl, fun x hx => ?_⟩, fun k hk => ?_⟩)
  · rw [List.mem_singleton.1 hx]
    have hs : Sl w 51 67 a.s l.length a.c (flat fc l) := hF.2
    refine .mk a l (fun e => ?_) hs.rd hG.2
    rcases hs.row with ⟨_, _, h2⟩ | ⟨_, _, _, h2, _⟩
    · exact h2
    · rw [e] at h2; cases h2
  · obtain ⟨x, hx, hb⟩ := hk
    rw [List.mem_singleton.1 hx] at hb
    cases hb with
    | here _ _ hr hn => exact .inl ((hF.1 k).2 hr)
    | kid _ _ x hx hb => exact .inr ((hG.1 k).2 ⟨x, hx, hb⟩)
theorem fts_at {w0 w : World} {L : List As} {l : List Ft} (h : St w0 w L) (hm : As.fts l ∈ L) : ∀ t ∈ l, FtAt w t := by
  obtain ⟨G, g⟩ := h.mem hm
  exact g.2

/-! cells and ranges -/
theorem blk_range {w : World} {b : Nat} {cs : List Value} {t : TypeId} (h : Blk w b cs.toArray t) : w.rangeAt b 0 cs := fun j v hv => by
  rw [Nat.zero_add, h.cell j]
  simpa using hv
theorem blk_there {w : World} {b : Nat} {cs : List Value} {t : TypeId} (h : Blk w b cs.toArray t) {n : Nat} (hn : n ≤ cs.length) : w.there b 0 n := fun j hj => by
  rw [Nat.zero_add, h.cell j]
  exact ⟨by simp; omega, h.free j⟩
theorem row_range {w : World} {g off n : Nat} {ls : List Ft} (hs : Rd w 67 (some ⟨g, off, none⟩) n (flat fc ls)) {k : Nat} (hk : k < ls.length) : w.rangeAt g (off + k * 67) (fc ls[k]) := by
  have e := fun j hj => flat_at (f := fc) (sz := 67) (fun _ => rfl) ls k j hk hj
  have c := fun j u h => hs.cells _ rfl j u h
  simp only [Addr.add_lit] at c
  intro j v hv
  have hj : j < 67 := by
    have := (List.getElem?_eq_some_iff.1 hv).1
    rwa [fc_len] at this
  have := c _ _ ((e j hj).trans hv)
  rwa [← Nat.add_assoc] at this
theorem load51 {w : World} {b o : Nat} {a : Fa} {n : Nat} (h : w.rangeAt b o (fv a n)) : (Instr.loadAt 51 (.pointer (some ⟨b, o, none⟩))).run Try.prog w = .ok (.agg (fv a n).toArray) w :=
  run_loadAt_mid w b o 51 (fv a n) _ h Try.underlying51 rfl (by kernel_rfl)
theorem zero51 : (Try.prog.info? 51).map (fun i => (i.zero, i.size, i.bytes)) = some (some (.agg (fv ⟨0, 0, 0, 0, 0, 0, 0, 0, none, 0⟩ 0).toArray), 67, 584) := by kernel_rfl
theorem el51 : El Try.prog 49 51 67 584 := by
  obtain ⟨i, hi, h1, h2, h3⟩ := info_parts zero51
  exact ⟨by kernel_rfl, ⟨i, _, hi, h1, h2, h3, rfl⟩, by decide⟩
end Go.Proofs.Ytfjjgebfeklnhaa
