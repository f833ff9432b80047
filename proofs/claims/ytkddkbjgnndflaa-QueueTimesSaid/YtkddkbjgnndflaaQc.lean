/-
  Contracts of slices.Insert at the end and of Timers.insert.
-/
import Derived.Test.YtkddkbjgnndflaaQb
import Derived.Test.YtkddkbjgnndflaaQa
import Derived.Deep.RegionWith
set_option linter.unusedVariables false
namespace Go.Proofs.Ytkddkbjgnndflaa
open Go.RowKit Go.K

theorem info57 : (Try.prog.info? 57).map (fun i => (i.zero, i.size, i.bytes)) = some (some (.agg #[.int .i64 0, .int .i64 0, .int .i64 0]), 3, 24) := by kernel_rfl
theorem el52 : El Try.prog 52 57 3 24 := by
  obtain ⟨i, hi, h1, h2, h3⟩ := info_parts info57
  exact ⟨by kernel_rfl, ⟨i, _, hi, h1, h2, h3, rfl⟩, by decide⟩

def InsPost (w : World) (s : Option Addr) (n : Nat) (xs : List Value) (E : Ending) (w' : World) : Prop :=
  ∃ s' c', E = .returned (.slice s' n c') ∧ Sl w' 57 3 s' n c' xs ∧ Fr (fun k => rowOf s = some k) w w' ∧ NewOr w (rowOf s) (rowOf s')

set_option maxHeartbeats 1000000 in
theorem insert_end (s : Option Addr) (n c g2 : Nat) (xs : List Value) (vs : Array Value) (w : World) (hs : Sl w 57 3 s n c xs) (hn : n ≤ 100000)
    (hv : Blk w g2 vs 57) (hvs : vs.size = 3) (hone : ∀ u ∈ vs.toList, u.oneCell' = true) :
    Calls Try.prog 50 #[.slice s n c, .int .i64 n, .slice (some ⟨g2, 0, none⟩) 1 1] w (InsPost w s (n + 1) (xs ++ vs.toList)) := by
  obtain ⟨s', hsl, _, _⟩ := hs.cut_l el52 n (Nat.le_refl _)
  have h1 : vs.toList.length = 1 * 3 := by simp [hvs]
  have h2 : ∀ ad, (some (⟨g2, 0, .none⟩ : Addr)) = some ad → ∀ j v, vs.toList[j]? = some v → w.cell? (ad.add j) = some v := by
    intro ad had j v hj
    cases had
    rw [Addr.add_lit, hv.cell]
    simpa using hj
  go_enter Try.func50, Try.ntmps50
  go_wp2_with (at_builtin; refine wpList_append_sl w rfl _ _ 52 rfl el52 s n c xs rfl hs (some ⟨g2, 0, none⟩) 1 1 vs.toList rfl h1 ?a2 h2 hone ?a4 ?a5 ?_)
  case a2 => simp
  case a4 => simp only [maxLen]; omega
  case a5 => omega
  intro s' c' w' g1 g2 g3
  go_wp2
  go_ret
  exact ⟨s', c', by simp, g1, g2, g3⟩

/-- a set of timers at block b -/
def Ts (w : World) (b : Nat) (r : Option Nat) (ts : List Tm) (nx : Int) : Prop :=
  ∃ s c, rowOf s = r ∧ Blk w b #[.slice s ts.length c, .int .i64 nx] 54 ∧ Sl w 57 3 s ts.length c (tcells ts) ∧ r ≠ some b

def insAt (ts : List Tm) (i : Nat) (t : Tm) : List Tm := ts.take i ++ t :: ts.drop i

def InPost (w : World) (b : Nat) (r : Option Nat) (ts : List Tm) (t : Tm) (nx : Int) (E : Ending) (w' : World) : Prop :=
  E = .returned (.tuple #[]) ∧ ∃ i r', Found ts t i ∧ Ts w' b r' (insAt ts i t) nx ∧ Fr (fun k => k = b ∨ r = some k) w w' ∧ NewOr w r r'

def InsAll (s : Option Addr) (c : Nat) (ts : List Tm) (t : Tm) : Prop :=
  ∀ (i g2 : Nat) (w' : World), i ≤ ts.length → Sl w' 57 3 s ts.length c (tcells ts) → Blk w' g2 t.cells.toArray 57 → rowOf s ≠ some g2 →
    Calls Try.prog 50 #[.slice s ts.length c, .int .i64 i, .slice (some ⟨g2, 0, none⟩) 1 1] w' (InsPost w' s (ts.length + 1) (tcells (insAt ts i t)))

theorem insAt_len (ts : List Tm) (i : Nat) (t : Tm) (h : i ≤ ts.length) : (insAt ts i t).length = ts.length + 1 := by
  simp only [insAt, List.length_append, List.length_take, List.length_cons, List.length_drop]; omega

theorem insert_fin (w w' w2 : World) (b : Nat) (s s' : Option Addr) (c c' : Nat) (ts : List Tm) (t : Tm) (nx : Int) (i : Nat) (hb : Blk w b #[.slice s ts.length c, .int .i64 nx] 54) (hne : rowOf s ≠ some b) (hf : Found ts t i)
    (hbB : Below w.heap.size w w') (g1 : Sl w2 57 3 s' (ts.length + 1) c' (tcells (insAt ts i t))) (g2 : Fr (fun k => rowOf s = some k) (w'.drew.alloc (.cells t.cells.toArray 57)) w2)
    (g3 : NewOr (w'.drew.alloc (.cells t.cells.toArray 57)) (rowOf s) (rowOf s')) (hb2 : Blk w2 b #[.slice s ts.length c, .int .i64 nx] 54) :
    InPost w b (rowOf s) ts t nx (.returned (.tuple #[])) (w2.setCell ⟨b, 0, none⟩ (.slice s' (ts.length + 1) c')) := by
  have hb0 := hb.lt
  have hbs := hbB.size
  have hne2 : rowOf s' ≠ some b := g3.ne (by simp; omega) hne
  have F : Fr (fun k => rowOf s = some k) w w2 := Fr.trans (((Fr.of_below hbB).mono (fun _ _ h => h.elim)).drew.alloc _) g2 (fun _ _ q => q)
  refine ⟨rfl, i, rowOf s', hf, ⟨s', c', rfl, ?_, ?_, hne2⟩, (F.mono (fun _ _ q => .inr q)).setCell (fun _ => .inl rfl) _, ?_⟩
  · rw [insAt_len ts i t hf.1]
    have := hb2.set 0 (.slice s' (ts.length + 1) c')
    simpa using this
  · rw [insAt_len ts i t hf.1]
    exact g1.other (fun k hk e => by subst e; exact hne2 hk) _
  · rcases g3 with q | ⟨g, q1, q2⟩
    · exact .inl q
    · exact .inr ⟨g, q1, by simp at q2; omega⟩

set_option maxHeartbeats 1000000 in
theorem insert_of (b : Nat) (r : Option Nat) (ts : List Tm) (t : Tm) (nx : Int) (w : World) (hq : Ts w b r ts nx) (hn : ts.length ≤ 100000) (hI : ∀ s c, rowOf s = r → InsAll s c ts t) :
    Calls Try.prog 40 #[.pointer (some ⟨b, 0, none⟩), t.val] w (InPost w b r ts t nx) := by
  obtain ⟨s, c, rfl, hb, hs, hne⟩ := hq
  have hI' := Lib.hid (hI s c rfl)
  clear hI
  obtain ⟨t0, t1, t2⟩ := t
  unfold Tm.val
  have hc := (hb.alloc (.cells #[.int .i64 t0, .int .i64 t1, .int .i64 t2] 57)).cell 0
  simp at hc
  have hs1 := hs.alloc (.cells #[.int .i64 t0, .int .i64 t1, .int .i64 t2] 57)
  have keep4 : ∀ w', Below (w.heap.size + 1) ((w.alloc (.cells #[.int .i64 t0, .int .i64 t1, .int .i64 t2] 57)).drew) w' → w'.cell? ⟨b, 0, none⟩ = some (.slice s ts.length c) ∧ w'.cell? ⟨w.heap.size, 0, none⟩ = some (.int .i64 t0) ∧ w'.cell? ⟨w.heap.size, 1, none⟩ = some (.int .i64 t1) ∧ w'.cell? ⟨w.heap.size, 2, none⟩ = some (.int .i64 t2) := by
    intro w' h
    have := hb.lt
    refine ⟨(h.cell (by simp; omega)).trans hc, (h.cell (by simp)).trans ?_, (h.cell (by simp)).trans ?_, (h.cell (by simp)).trans ?_⟩ <;> simp
  have Keep4 := Lib.hid keep4
  clear keep4
  go_enter Try.func40, Try.ntmps40
  go_wp2_with fail
  go_region_held3 (fun w' => w'.cell? ⟨b, 0, none⟩ = some (.slice s ts.length c) ∧ w'.cell? ⟨w.heap.size, 0, none⟩ = some (.int .i64 t0) ∧ w'.cell? ⟨w.heap.size, 1, none⟩ = some (.int .i64 t1) ∧ w'.cell? ⟨w.heap.size, 2, none⟩ = some (.int .i64 t2))
    (first | go_keep | exact Keep4.out _ (by simpa using hbw))
    (first
      | (go_at_call 46; refine (search_any s _ c ts ⟨t0, t1, t2⟩ _ hs1.drew.rd (by omega)).mono ?_; rintro e w' ⟨i, ok, rfl, hf, hbw⟩))
  clear Keep4 hc hs1
  have hbB := ((Below.refl w.heap.size w).alloc (Nat.le_refl _) (.cells #[.int .i64 t0, .int .i64 t1, .int .i64 t2] 57)).drew.trans (hbw.mono (by simp))
  have h1 : Blk w' b #[.slice s ts.length c, .int .i64 nx] 54 := hb.kept (Fr.of_below hbB) (fun h => h)
  have h2 : Sl w' 57 3 s ts.length c (tcells ts) := hs.kept (Fr.of_below hbB) (fun _ _ h => h)
  have h3 : Blk w' w.heap.size #[.int .i64 t0, .int .i64 t1, .int .i64 t2] 57 := (Blk.new w #[.int .i64 t0, .int .i64 t1, .int .i64 t2] 57).drew.kept (Fr.of_below hbw) (fun h => h)
  have hc := h1.cell 0
  have q0 := h3.cell 0
  have q1 := h3.cell 1
  have q2 := h3.cell 2
  simp at hc q0 q1 q2
  go_wp2_with fail
  have hlt := h3.lt
  have hlt' := h1.lt
  have hn0 : b ≠ w'.heap.size := by omega
  have C := hI'.out i w'.heap.size (w'.drew.alloc (.cells #[.int .i64 t0, .int .i64 t1, .int .i64 t2] 57)) hf.1 (h2.drew.alloc _) (Blk.new w'.drew _ 57) (fun h => by have := h2.lt _ h; omega)
  go_region_with (first | (go_at_call 50; refine C.mono ?_; rintro e w2 ⟨s', c', rfl, g1, g2, g3⟩; have hb2 := ((h1.drew.alloc (.cells #[.int .i64 t0, .int .i64 t1, .int .i64 t2] 57)).kept g2 hne); have hc2 := hb2.cell 0; have hf2 := hb2.free 0; simp at hc2))
  all_goals
    go_end0
    exact insert_fin w w' w2 b s s' c c' ts ⟨t0, t1, t2⟩ nx i hb hne hf hbB g1 g2 g3 hb2
end Go.Proofs.Ytkddkbjgnndflaa
