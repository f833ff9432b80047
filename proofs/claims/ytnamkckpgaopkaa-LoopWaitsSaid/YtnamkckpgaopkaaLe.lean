/-
  The set of timers within a State: insert.
-/
import Derived.Test.YtnamkckpgaopkaaLb
import Derived.Deep.RegionWith
import Derived.Deep.LoopGhost
import Derived.Test.YtnamkckpgaopkaaKo
set_option linter.unusedVariables false
set_option linter.unusedSimpArgs false
namespace Go.Proofs.Ytnamkckpgaopkaa
open Go.RowKit Go.K
def insAt (ts : List Tm) (i : Nat) (t : Tm) : List Tm := ts.take i ++ t :: ts.drop i

theorem insAt_len (ts : List Tm) (i : Nat) (t : Tm) (h : i ≤ ts.length) : (insAt ts i t).length = ts.length + 1 := by
  simp only [insAt, List.length_append, List.length_take, List.length_cons, List.length_drop]; omega



/-- a set of timers at block b -/
def tObj (b : Nat) (v : Nat → Value) (ts : List Tm) (nx : Int) : As := As.ex fun p : Option Addr × Nat => As.star (As.cells b #[v 0, v 1, v 2, v 3, v 4, v 5, v 6, v 7, .slice p.1 ts.length p.2, .int .i64 nx, v 10, v 11, v 12, v 13, v 14, v 15] 37) (As.row 95 3 p.1 ts.length p.2 (tcells ts))

theorem t_open {w0 w : World} {L : List As} {b : Nat} {v : Nat → Value} {ts : List Tm} {nx : Int} (h : St w0 w (tObj b v ts nx :: L)) : ∃ s c, St w0 w (As.cells b #[v 0, v 1, v 2, v 3, v 4, v 5, v 6, v 7, .slice s ts.length c, .int .i64 nx, v 10, v 11, v 12, v 13, v 14, v 15] 37 :: As.row 95 3 s ts.length c (tcells ts) :: L) := by
  obtain ⟨⟨s, c⟩, h⟩ := h.open_ex
  exact ⟨s, c, h.open_star⟩
theorem t_shut {w0 w : World} {L : List As} {b : Nat} {v : Nat → Value} {ts : List Tm} {nx : Int} {s : Option Addr} {c : Nat} (h : St w0 w (As.cells b #[v 0, v 1, v 2, v 3, v 4, v 5, v 6, v 7, .slice s ts.length c, .int .i64 nx, v 10, v 11, v 12, v 13, v 14, v 15] 37 :: As.row 95 3 s ts.length c (tcells ts) :: L)) : St w0 w (tObj b v ts nx :: L) :=
  St.shut_ex (f := fun p : Option Addr × Nat => As.star (As.cells b #[v 0, v 1, v 2, v 3, v 4, v 5, v 6, v 7, .slice p.1 ts.length p.2, .int .i64 nx, v 10, v 11, v 12, v 13, v 14, v 15] 37) (As.row 95 3 p.1 ts.length p.2 (tcells ts))) (s, c) h.shut_star
theorem tcells_app (a b : List Tm) : tcells (a ++ b) = tcells a ++ tcells b := by simp [tcells]
theorem tcells_cons (t : Tm) (b : List Tm) : tcells (t :: b) = t.cells ++ tcells b := by simp [tcells]
theorem tcells_split (ts : List Tm) (i : Nat) : tcells ts = tcells (ts.take i) ++ tcells (ts.drop i) := by rw [← tcells_app, List.take_append_drop]
theorem tcells_ins (ts : List Tm) (i : Nat) (t : Tm) : tcells (insAt ts i t) = tcells (ts.take i) ++ t.cells ++ tcells (ts.drop i) := by
  rw [insAt, tcells_app, tcells_cons, List.append_assoc]

def TInsPost (b : Nat) (v : Nat → Value) (ts : List Tm) (t : Tm) (nx : Int) (w0 : World) (L : List As) (E : Ending) (w' : World) : Prop :=
  E = .returned (.tuple #[]) ∧ ∃ i, Found ts t i ∧ St w0 w' (tObj b v (insAt ts i t) nx :: L)

theorem tins_fin {w0 w2 : World} {L : List As} {b : Nat} {v : Nat → Value} {ts : List Tm} {t : Tm} {nx : Int} {i : Nat} {s s' : Option Addr} {c c' gx : Nat} (hf : Found ts t i)
    (h : St w0 w2 (As.row 95 3 s' (ts.length + 1) c' (tcells (ts.take i) ++ t.cells ++ tcells (ts.drop i)) :: As.cells b #[v 0, v 1, v 2, v 3, v 4, v 5, v 6, v 7, .slice s ts.length c, .int .i64 nx, v 10, v 11, v 12, v 13, v 14, v 15] 37 :: L)) :
    TInsPost b v ts t nx w0 L (.returned (.tuple #[])) (w2.setCell ⟨b, 8, none⟩ (.slice s' (ts.length + 1) c')) := by
  refine ⟨rfl, i, hf, ?_⟩
  have h2 := h.swap.set 8 (.slice s' (ts.length + 1) c')
  have e1 := insAt_len ts i t hf.1
  refine t_shut (s := s') (c := c') ?_
  rw [e1, tcells_ins]
  simpa using h2

set_option maxHeartbeats 1000000 in
theorem tins_st {w0 w : World} {L : List As} {b : Nat} {v : Nat → Value} {ts : List Tm} {nx : Int} (t : Tm) (h : St w0 w (tObj b v ts nx :: L)) (hn : ts.length ≤ 100000) :
    Calls Try.prog 63 #[.pointer (some ⟨b, 8, none⟩), t.val] w (TInsPost b v ts t nx w0 L) := by
  obtain ⟨s, c, h⟩ := t_open h
  have H := Lib.hid h
  obtain ⟨hb, -⟩ := h.blk
  have hs := h.swap.sl
  clear h
  obtain ⟨t0, t1, t2⟩ := t
  unfold Tm.val
  have hc := (hb.alloc (.cells #[.int .i64 t0, .int .i64 t1, .int .i64 t2] 95)).cell 8
  simp at hc
  have hs1 := hs.alloc (.cells #[.int .i64 t0, .int .i64 t1, .int .i64 t2] 95)
  have keep4 : ∀ w', Below (w.heap.size + 1) ((w.alloc (.cells #[.int .i64 t0, .int .i64 t1, .int .i64 t2] 95)).drew) w' → w'.cell? ⟨b, 8, none⟩ = some (.slice s ts.length c) ∧ w'.cell? ⟨w.heap.size, 0, none⟩ = some (.int .i64 t0) ∧ w'.cell? ⟨w.heap.size, 1, none⟩ = some (.int .i64 t1) ∧ w'.cell? ⟨w.heap.size, 2, none⟩ = some (.int .i64 t2) := by
    intro w' h
    have := hb.lt
    refine ⟨(h.cell (by simp; omega)).trans hc, (h.cell (by simp)).trans ?_, (h.cell (by simp)).trans ?_, (h.cell (by simp)).trans ?_⟩ <;> simp
  have Keep4 := Lib.hid keep4
  clear keep4
  go_enter Try.func63, Try.ntmps63
  go_wp2_with fail
  go_region_held3 (fun w' => w'.cell? ⟨b, 8, none⟩ = some (.slice s ts.length c) ∧ w'.cell? ⟨w.heap.size, 0, none⟩ = some (.int .i64 t0) ∧ w'.cell? ⟨w.heap.size, 1, none⟩ = some (.int .i64 t1) ∧ w'.cell? ⟨w.heap.size, 2, none⟩ = some (.int .i64 t2))
    (first | go_keep | exact Keep4.out _ (by simpa using hbw))
    (first
      | (go_at_call 72; refine (search_any s _ c ts ⟨t0, t1, t2⟩ _ hs1.drew.rd (by omega)).mono ?_; rintro e w' ⟨i, ok, rfl, hf, hbw⟩))
  clear Keep4 hc hs1
  have hbB := ((Below.refl w.heap.size w).alloc (Nat.le_refl _) (.cells #[.int .i64 t0, .int .i64 t1, .int .i64 t2] 95)).drew.trans (hbw.mono (by simp))
  have h1 : Blk w' b #[v 0, v 1, v 2, v 3, v 4, v 5, v 6, v 7, .slice s ts.length c, .int .i64 nx, v 10, v 11, v 12, v 13, v 14, v 15] 37 := hb.kept (Fr.of_below hbB) (fun h => h)
  have h3 : Blk w' w.heap.size #[.int .i64 t0, .int .i64 t1, .int .i64 t2] 95 := (Blk.new w #[.int .i64 t0, .int .i64 t1, .int .i64 t2] 95).drew.kept (Fr.of_below hbw) (fun h => h)
  have H1 := H.out.of_below hbB
  have hc := h1.cell 8
  have q0 := h3.cell 0
  have q1 := h3.cell 1
  have q2 := h3.cell 2
  simp at hc q0 q1 q2
  have H2 := (H1.drew.alloc (.cells #[.int .i64 t0, .int .i64 t1, .int .i64 t2] 95)).swap
  rw [tcells_split ts i] at H2
  have hlt := h3.lt
  have hlt' := h1.lt
  have hn0 : b ≠ w'.heap.size := by omega
  have hil := hf.1
  have C := insertT w'.heap.size #[.int .i64 t0, .int .i64 t1, .int .i64 t2] (i : Int) i (ts.length - i) _ _ H2 (Blk.new w'.drew _ 95) (fun h => by have := hs.lt _ h; have := hbB.size; omega) rfl (by simp [Value.oneCell']) (by rw [tcells_len]; simp; omega) (by rw [tcells_len]; simp) (by omega) rfl (by omega)
  have HC := Lib.hid C
  have Hf := Lib.hid hf
  clear C H2 H1 h3 hf hil hb hs
  go_wp2_with fail
  go_region_with (first | (go_at_call 76; refine HC.out.mono ?_; rintro e w2 ⟨s', c', rfl, g1⟩; have hc2 := g1.swap.cell 8; have hf2 := g1.swap.free 8; simp at hc2))
  all_goals
    go_end0
    exact tins_fin (gx := 0) Hf.out g1

end Go.Proofs.Ytnamkckpgaopkaa
