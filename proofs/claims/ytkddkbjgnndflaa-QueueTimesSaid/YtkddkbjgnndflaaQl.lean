/-
  Contracts of the set of timers over objects that lie apart: insert, Add, Len, First.
-/
import Derived.Test.YtkddkbjgnndflaaQk
import Derived.Test.YtkddkbjgnndflaaQd
import Derived.Test.YtkddkbjgnndflaaQf
set_option linter.unusedVariables false
namespace Go.Proofs.Ytkddkbjgnndflaa
open Go.RowKit Go.K

/-- a set of timers at block b -/
def tObj (b : Nat) (ts : List Tm) (nx : Int) : As := As.ex fun p : Option Addr × Nat => As.star (As.cells b #[.slice p.1 ts.length p.2, .int .i64 nx] 54) (As.row 57 3 p.1 ts.length p.2 (tcells ts))

theorem t_open {w0 w : World} {L : List As} {b : Nat} {ts : List Tm} {nx : Int} (h : St w0 w (tObj b ts nx :: L)) : ∃ s c, St w0 w (As.cells b #[.slice s ts.length c, .int .i64 nx] 54 :: As.row 57 3 s ts.length c (tcells ts) :: L) := by
  obtain ⟨⟨s, c⟩, h⟩ := h.open_ex
  exact ⟨s, c, h.open_star⟩
theorem t_shut {w0 w : World} {L : List As} {b : Nat} {ts : List Tm} {nx : Int} {s : Option Addr} {c : Nat} (h : St w0 w (As.cells b #[.slice s ts.length c, .int .i64 nx] 54 :: As.row 57 3 s ts.length c (tcells ts) :: L)) : St w0 w (tObj b ts nx :: L) :=
  St.shut_ex (f := fun p : Option Addr × Nat => As.star (As.cells b #[.slice p.1 ts.length p.2, .int .i64 nx] 54) (As.row 57 3 p.1 ts.length p.2 (tcells ts))) (s, c) h.shut_star
theorem t_start {w0 w : World} {L : List As} (h : St w0 w L) : St w0 (w.alloc (.cells #[.slice none 0 0, .int .i64 0] 54)) (tObj w.heap.size [] 0 :: L) :=
  t_shut (ts := []) (((h.new #[.slice none 0 0, .int .i64 0] 54).row_nil 57 3).swap)

theorem tcells_app (a b : List Tm) : tcells (a ++ b) = tcells a ++ tcells b := by simp [tcells]
theorem tcells_cons (t : Tm) (b : List Tm) : tcells (t :: b) = t.cells ++ tcells b := by simp [tcells]
theorem tcells_split (ts : List Tm) (i : Nat) : tcells ts = tcells (ts.take i) ++ tcells (ts.drop i) := by rw [← tcells_app, List.take_append_drop]
theorem tcells_ins (ts : List Tm) (i : Nat) (t : Tm) : tcells (insAt ts i t) = tcells (ts.take i) ++ t.cells ++ tcells (ts.drop i) := by
  rw [insAt, tcells_app, tcells_cons, List.append_assoc]

def TInsPost (b : Nat) (ts : List Tm) (t : Tm) (nx : Int) (w0 : World) (L : List As) (E : Ending) (w' : World) : Prop :=
  E = .returned (.tuple #[]) ∧ ∃ i, Found ts t i ∧ St w0 w' (tObj b (insAt ts i t) nx :: L)

theorem tins_fin {w0 w2 : World} {L : List As} {b : Nat} {ts : List Tm} {t : Tm} {nx : Int} {i : Nat} {s s' : Option Addr} {c c' gx : Nat} (hf : Found ts t i)
    (h : St w0 w2 (As.row 57 3 s' (ts.length + 1) c' (tcells (ts.take i) ++ t.cells ++ tcells (ts.drop i)) :: As.cells b #[.slice s ts.length c, .int .i64 nx] 54 :: L)) :
    TInsPost b ts t nx w0 L (.returned (.tuple #[])) (w2.setCell ⟨b, 0, none⟩ (.slice s' (ts.length + 1) c')) := by
  refine ⟨rfl, i, hf, ?_⟩
  have h2 := h.swap.set 0 (.slice s' (ts.length + 1) c')
  have e1 := insAt_len ts i t hf.1
  refine t_shut (s := s') (c := c') ?_
  rw [e1, tcells_ins]
  simpa using h2

set_option maxHeartbeats 1000000 in
theorem tins_st {w0 w : World} {L : List As} {b : Nat} {ts : List Tm} {nx : Int} (t : Tm) (h : St w0 w (tObj b ts nx :: L)) (hn : ts.length ≤ 100000) :
    Calls Try.prog 40 #[.pointer (some ⟨b, 0, none⟩), t.val] w (TInsPost b ts t nx w0 L) := by
  obtain ⟨s, c, h⟩ := t_open h
  have H := Lib.hid h
  obtain ⟨hb, -⟩ := h.blk
  have hs := h.swap.sl
  clear h
  obtain ⟨t0, t1, t2⟩ := t
  unfold Tm.val
  have hc := (hb.alloc (.cells #[.int .i64 t0, .int .i64 t1, .int .i64 t2] 57)).cell 0
  simp at hc
  have hs1 := hs.alloc (.cells #[.int .i64 t0, .int .i64 t1, .int .i64 t2] 57)
  have keep4 : ∀ w', Below (w.heap.size + 1) ((w.alloc (.cells #[.int .i64 t0, .int .i64 t1, .int .i64 t2] 57)).drew) w' → w'.cell? ⟨b, 0, none⟩ = some (.slice s ts.length c) ∧ w'.cell? ⟨w.heap.size, 0, none⟩ = some (.int .i64 t0) ∧ w'.cell? ⟨w.heap.size, 1, none⟩ = some (.int .i64 t1) ∧ w'.cell? ⟨w.heap.size, 2, none⟩ = some (.int .i64 t2) := by
    intro w' h
    have := hb.lt
    refine ⟨(h.cell (by simp; omega)).trans hc, (h.cell (by simp)).trans ?_, (h.cell (by simp)).trans ?_, (h.cell (by simp)).trans ?_⟩ <;> simp
  have Keep4 := Lib.hid keep4
  clear keep4
  go_enter Try.func40, Try.ntmps40
  go_wp2_with fail
  go_region_held3 (fun w' => w'.cell? ⟨b, 0, none⟩ = some (.slice s ts.length c) ∧ w'.cell? ⟨w.heap.size, 0, none⟩ = some (.int .i64 t0) ∧ w'.cell? ⟨w.heap.size, 1, none⟩ = some (.int .i64 t1) ∧ w'.cell? ⟨w.heap.size, 2, none⟩ = some (.int .i64 t2))
    (first | go_keep | exact Keep4.out _ (by simpa using hbw))
    (first
      | (go_at_call 46; refine (search_any s _ c ts ⟨t0, t1, t2⟩ _ hs1.drew.rd (by omega)).mono ?_; rintro e w' ⟨i, ok, rfl, hf, hbw⟩))
  clear Keep4 hc hs1
  have hbB := ((Below.refl w.heap.size w).alloc (Nat.le_refl _) (.cells #[.int .i64 t0, .int .i64 t1, .int .i64 t2] 57)).drew.trans (hbw.mono (by simp))
  have h1 : Blk w' b #[.slice s ts.length c, .int .i64 nx] 54 := hb.kept (Fr.of_below hbB) (fun h => h)
  have h3 : Blk w' w.heap.size #[.int .i64 t0, .int .i64 t1, .int .i64 t2] 57 := (Blk.new w #[.int .i64 t0, .int .i64 t1, .int .i64 t2] 57).drew.kept (Fr.of_below hbw) (fun h => h)
  have H1 := H.out.of_below hbB
  have hc := h1.cell 0
  have q0 := h3.cell 0
  have q1 := h3.cell 1
  have q2 := h3.cell 2
  simp at hc q0 q1 q2
  have H2 := (H1.drew.alloc (.cells #[.int .i64 t0, .int .i64 t1, .int .i64 t2] 57)).swap
  rw [tcells_split ts i] at H2
  have hlt := h3.lt
  have hlt' := h1.lt
  have hn0 : b ≠ w'.heap.size := by omega
  have hil := hf.1
  have C := insertT w'.heap.size #[.int .i64 t0, .int .i64 t1, .int .i64 t2] (i : Int) i (ts.length - i) _ _ H2 (Blk.new w'.drew _ 57) (fun h => by have := hs.lt _ h; have := hbB.size; omega) rfl (by simp [Value.oneCell']) (by rw [tcells_len]; simp; omega) (by rw [tcells_len]; simp) (by omega) rfl (by omega)
  have HC := Lib.hid C
  have Hf := Lib.hid hf
  clear C H2 H1 h3 hf hil hb hs
  go_wp2_with fail
  go_region_with (first | (go_at_call 50; refine HC.out.mono ?_; rintro e w2 ⟨s', c', rfl, g1⟩; have hc2 := g1.swap.cell 0; have hf2 := g1.swap.free 0; simp at hc2))
  all_goals
    go_end0
    exact tins_fin (gx := 0) Hf.out g1
end Go.Proofs.Ytkddkbjgnndflaa
