/-
  Contracts of the list of listeners over objects that lie apart: find, Add, Remove, Clone.
-/
import Derived.Test.YtianjcbofgdfdaaEb
import Derived.Deep.RegionLaw
set_option linter.unusedVariables false
set_option linter.unusedSimpArgs false
namespace Go.Proofs.Ytianjcbofgdfdaa
open Go.RowKit Go.K Go.K.Ev

/-- a list of listeners at block b -/
def lObj (b : Nat) (S : Ls) : As := As.ex fun p : Option Addr × Nat => As.star (As.cells b #[.slice p.1 S.l.length p.2, .int .i64 S.nx] 32) (As.row 41 8 p.1 S.l.length p.2 (flat lcells S.l))

theorem l_open {w0 w : World} {L : List As} {b : Nat} {S : Ls} (h : St w0 w (lObj b S :: L)) : ∃ s c, St w0 w (As.cells b #[.slice s S.l.length c, .int .i64 S.nx] 32 :: As.row 41 8 s S.l.length c (flat lcells S.l) :: L) := by
  obtain ⟨⟨s, c⟩, h⟩ := h.open_ex
  exact ⟨s, c, h.open_star⟩
theorem l_shut {w0 w : World} {L : List As} {b : Nat} {S : Ls} {s : Option Addr} {c : Nat} (h : St w0 w (As.cells b #[.slice s S.l.length c, .int .i64 S.nx] 32 :: As.row 41 8 s S.l.length c (flat lcells S.l) :: L)) : St w0 w (lObj b S :: L) :=
  St.shut_ex (f := fun p : Option Addr × Nat => As.star (As.cells b #[.slice p.1 S.l.length p.2, .int .i64 S.nx] 32) (As.row 41 8 p.1 S.l.length p.2 (flat lcells S.l))) (s, c) h.shut_star
theorem l_start {w0 w : World} {L : List As} (h : St w0 w L) : St w0 (w.alloc (.cells #[.slice none 0 0, .int .i64 0] 32)) (lObj w.heap.size ⟨[], 0⟩ :: L) :=
  l_shut (S := ⟨[], 0⟩) (((h.new #[.slice none 0 0, .int .i64 0] 32).row_nil 41 8).swap)

theorem l_lt {w0 w : World} {L : List As} {b : Nat} {S : Ls} (h : St w0 w (lObj b S :: L)) : b < w.heap.size := by
  obtain ⟨s, c, h'⟩ := l_open h
  exact h'.blk.1.lt
/-- the cells of a listener's own block -/
theorem Blk.eight {w : World} {b : Nat} {a0 a1 a2 a3 a4 a5 a6 a7 : Value} {t : TypeId} (h : Blk w b #[a0, a1, a2, a3, a4, a5, a6, a7] t) :
    w.cell? ⟨b, 0, none⟩ = some a0 ∧ w.cell? ⟨b, 1, none⟩ = some a1 ∧ w.cell? ⟨b, 2, none⟩ = some a2 ∧ w.cell? ⟨b, 3, none⟩ = some a3 ∧ w.cell? ⟨b, 4, none⟩ = some a4 ∧ w.cell? ⟨b, 5, none⟩ = some a5 ∧ w.cell? ⟨b, 6, none⟩ = some a6 ∧ w.cell? ⟨b, 7, none⟩ = some a7 := by
  have h0 := h.cell 0
  have h1 := h.cell 1
  have h2 := h.cell 2
  have h3 := h.cell 3
  have h4 := h.cell 4
  have h5 := h.cell 5
  have h6 := h.cell 6
  have h7 := h.cell 7
  simp at h0 h1 h2 h3 h4 h5 h6 h7
  exact ⟨h0, h1, h2, h3, h4, h5, h6, h7⟩

set_option maxRecDepth 100000 in
set_option maxHeartbeats 1000000 in
theorem find_st {w0 w : World} {L : List As} {b : Nat} {S : Ls} (x : Li) (h : St w0 w (lObj b S :: L)) (hn : S.l.length ≤ 100000) :
    Calls Try.prog 43 #[.pointer (some ⟨b, 0, none⟩), lval x] w (IdxPost (eqL x) S.l w) := by
  obtain ⟨s, c, h⟩ := l_open h
  have hb := h.blk.1
  have hs := h.swap.sl.rd
  obtain ⟨c0, c1, g0, g1⟩ := hb.two
  have hlt := hb.lt
  have HI := Lib.hid (idxfunc 50 (by omega) (.pointer (some ⟨w.heap.size, 0, none⟩)) (eqL x) s S.l.length c S.l (w.alloc (.cells (lrow x) 41)) (hs.alloc _) rfl hn
    (fun y w' hb' => clo_eq x y w.heap.size w' ((Blk.new w (lrow x) 41).kept (Fr.of_below hb') (fun q => q))))
  obtain ⟨x0, ⟨x1, x2⟩, x3, x4, x5, x6, x7⟩ := x
  clear h hb hs
  unfold lval
  unfold lrow at HI
  go_enter Try.func43, Try.ntmps43
  go_wp2_with fail
  refine HI.out.mono ?_
  rintro e w2 ⟨r, rfl, hr, hb2⟩
  have HR := Lib.hid hr
  have HB := Lib.hid hb2
  clear hr hb2
  go_wp2_with fail
  go_ret
  exact ⟨r, rfl, HR.out, ((Below.refl _ _).alloc (Nat.le_refl _) _).trans (HB.out.mono (by simp))⟩

theorem idx_has {p : Li → Bool} {ls : List Li} {r : Int} (h : IdxIs p ls r) : ls.any p = decide (0 ≤ r) := by
  rcases h with ⟨k, hk, rfl, _, hp⟩ | ⟨rfl, hn⟩
  · have : ls.any p = true := List.any_eq_true.2 ⟨_, List.getElem_mem hk, hp⟩
    simp [this]
  · rw [List.findIdx?_eq_none_iff] at hn
    have : ls.any p = false := List.any_eq_false.2 (fun x hx => by simp [hn x hx])
    simp [this]

def LAddPost (b : Nat) (S : Ls) (x : Li) (w0 : World) (L : List As) (E : Ending) (w' : World) : Prop :=
  E = .returned (.int .i64 (S.addId x)) ∧ St w0 w' (lObj b (S.add x) :: L)

theorem ladd_fin {w0 w : World} {L : List As} {b c : Nat} {S : Ls} {x : Li} {s' : Option Addr} {v : Value} (hh : S.has x = false)
    (h : St w0 w (As.row 41 8 s' (S.l.length + 1) c (flat lcells S.l ++ (lrow { x with id := S.nx + 1 }).toList) :: As.cells b #[v, .int .i64 (S.nx + 1)] 32 :: L)) :
    LAddPost b S x w0 L (.returned (.int .i64 (S.nx + 1))) (w.setCell ⟨b, 0, none⟩ (.slice s' (S.l.length + 1) c)) := by
  have ha : S.add x = ⟨S.l ++ [{ x with id := S.nx + 1 }], S.nx + 1⟩ := by simp [Ls.add, hh]
  refine ⟨by simp [Ls.addId, hh], ?_⟩
  have h2 := h.swap.set 0 (.slice s' (S.l.length + 1) c)
  rw [ha]
  refine l_shut (S := ⟨S.l ++ [{ x with id := S.nx + 1 }], S.nx + 1⟩) (s := s') (c := c) ?_
  have e1 : (S.l ++ [{ x with id := S.nx + 1 }]).length = S.l.length + 1 := by simp
  have e2 : flat lcells (S.l ++ [{ x with id := S.nx + 1 }]) = flat lcells S.l ++ (lrow { x with id := S.nx + 1 }).toList := by rw [flat_append, flat_one]; rfl
  rw [e2]
  simp only [e1]
  simpa using h2

set_option maxRecDepth 100000 in
set_option maxHeartbeats 2000000 in
theorem ladd_st {w0 w : World} {L : List As} {b : Nat} {S : Ls} (x : Li) (h : St w0 w (lObj b S :: L)) (hn : S.l.length ≤ 10000) (hx : 0 ≤ S.nx) (hx2 : S.nx ≤ 4294967296) :
    Calls Try.prog 19 #[.pointer (some ⟨b, 0, none⟩), lval x] w (LAddPost b S x w0 L) := by
  have H0 := Lib.hid (h.new (lrow x) 41).swap
  have HF := Lib.hid (find_st x H0.out (by omega))
  have hbl := l_lt h
  clear h
  have hw1 : IntKind.i64.wrap (S.nx + 1) = S.nx + 1 := by rw [IntKind.wrap_i64]; omega
  obtain ⟨x0, ⟨x1, x2⟩, x3, x4, x5, x6, x7⟩ := x
  unfold lval at HF ⊢
  unfold lrow at H0 HF
  go_enter Try.func19, Try.ntmps19
  go_wp2_with fail
  refine HF.out.mono ?_
  rintro e w2 ⟨r, rfl, hr, hb2⟩
  have H1 := Lib.hid (H0.out.of_below hb2)
  have hhas := Lib.hid (idx_has hr)
  clear hr hb2
  obtain ⟨s, c, h1⟩ := l_open H1.out
  obtain ⟨c0, c1, g0, g1⟩ := h1.two
  have H2 := Lib.hid h1
  clear h1
  by_cases hr0 : 0 ≤ r
  · have hh := Lib.hid (show Ls.has S ⟨x0, ⟨x1, x2⟩, x3, x4, x5, x6, x7⟩ = true by unfold Ls.has; rw [hhas.out]; simp [hr0])
    go_wp2_with fail
    go_ret
    exact ⟨by simp [Ls.addId, hh.out], by simpa [Ls.add, hh.out] using H1.out.swap.drop⟩
  · have hh := Lib.hid (show Ls.has S ⟨x0, ⟨x1, x2⟩, x3, x4, x5, x6, x7⟩ = false by unfold Ls.has; rw [hhas.out]; simp; omega)
    have hbox := H2.out.front2.blk.1
    have hlb := H2.out.blk.1.lt
    have k0 := hbox.cell 0
    have kf := hbox.free 0
    simp at k0
    have hne : b ≠ w.heap.size := by omega
    clear hbox
    have H3 := Lib.hid ((H2.out.set 1 (.int .i64 (S.nx + 1))).front2.set 0 (.int .i64 (S.nx + 1)))
    simp at H3
    go_wp2_with fail
    clear c0 c1 g0 g1 k0 kf
    generalize (w2.setCell ⟨b, 1, none⟩ (.int .i64 (S.nx + 1))).setCell ⟨w.heap.size, 0, none⟩ (.int .i64 (S.nx + 1)) = w3 at *
    obtain ⟨a0, a1, a2, a3, a4, a5, a6, a7⟩ := Blk.eight H3.out.blk.1
    obtain ⟨c0, c1, g0, g1⟩ := H3.out.swap.two
    have hlb3 := H3.out.swap.blk.1.lt
    have hlt3 := H3.out.blk.1.lt
    generalize w.heap.size = bx at *
    have hs := (((H3.out.front2.sl).alloc (.cells #[.int .i64 (S.nx + 1), .int .i64 x1, .int .i64 x2, .string x3, .int .i64 x4, .bool x5, .bool x6, .bool x7] 41))).drew
    have hr := rd_built w3 #[.int .i64 (S.nx + 1), .int .i64 x1, .int .i64 x2, .string x3, .int .i64 x4, .bool x5, .bool x6, .bool x7] 41 8 1 rfl (by simp [Value.oneCell'])
    have hr' : Rd (w3.alloc (.cells #[.int .i64 (S.nx + 1), .int .i64 x1, .int .i64 x2, .string x3, .int .i64 x4, .bool x5, .bool x6, .bool x7] 41)).drew 8 (some ⟨w3.heap.size, 0, none⟩) 1 _ := ⟨hr.len, hr.one, hr.nil, hr.cells⟩
    have H4 := Lib.hid (H3.out.alloc (.cells #[.int .i64 (S.nx + 1), .int .i64 x1, .int .i64 x2, .string x3, .int .i64 x4, .bool x5, .bool x6, .bool x7] 41)).drew
    clear hr
    go_region_law ((refine step_append_any (by rfl) _ _ 30 (by rfl) elL s _ c _ (by rfl) hs _ 1 _ _ (by rfl) hr' (by omega) (by omega) ?_; intro s' c' w4 p1 p2 p3; have H5 := Lib.hid (H4.out.front2.row_step p1 p2 p3); obtain ⟨q0, q1, r0, r1⟩ := H5.out.front2.two; have b8 := Blk.eight H5.out.swap.blk.1))
    all_goals
      obtain ⟨z0, z1, z2, z3, z4, z5, z6, z7⟩ := b8
      clear a0 a1 a2 a3 a4 a5 a6 a7 c0 c1 g0 g1 q0 q1 r0 r1 z1 z2 z3 z4 z5 z6 z7 p1 p2 p3 hs hr'
      go_wp2_with fail
      go_ret
      exact ladd_fin (x := ⟨x0, ⟨x1, x2⟩, x3, x4, x5, x6, x7⟩) hh.out H5.out.swap.drop

def LRemPost (b : Nat) (S : Ls) (x : Li) (w0 : World) (L : List As) (E : Ending) (w' : World) : Prop :=
  E = .returned (.bool (S.has x)) ∧ St w0 w' (lObj b (S.remove x) :: L)

theorem lrow_split (ls : List Li) (k : Nat) (hk : k < ls.length) : flat lcells ls = flat lcells (ls.take k) ++ lcells ls[k] ++ flat lcells (ls.drop (k + 1)) := by
  have e : ls = ls.take k ++ ls[k] :: ls.drop (k + 1) := by rw [List.getElem_cons_drop, List.take_append_drop]
  conv => lhs; rw [e]
  rw [flat_append, flat_cons, List.append_assoc]
theorem lrow_erase (ls : List Li) (k : Nat) : flat lcells (ls.eraseIdx k) = flat lcells (ls.take k) ++ flat lcells (ls.drop (k + 1)) := by
  rw [List.eraseIdx_eq_take_drop_succ, flat_append]

/-- a listener is struck out of the row -/
theorem ldel {w0 w : World} {L : List As} {b : Nat} {S : Ls} {s : Option Addr} {c : Nat} (k : Nat) (hk : k < S.l.length) (hn : S.l.length ≤ 100000)
    (h : St w0 w (As.cells b #[.slice s S.l.length c, .int .i64 S.nx] 32 :: As.row 41 8 s S.l.length c (flat lcells S.l) :: L)) :
    Calls Try.prog 42 #[.slice s S.l.length c, .int .i64 k, .int .i64 ((k : Int) + 1)] w (DelPostL (S.l.length - 1) (flat lcells (S.l.eraseIdx k)) w0 (As.cells b #[.slice s S.l.length c, .int .i64 S.nx] 32 :: L)) := by
  have h2 := h.swap
  rw [lrow_split S.l k hk] at h2
  rw [lrow_erase]
  have hA : (flat lcells (S.l.take k)).length = k * 8 := by rw [flat_len (sz := 8) (fun _ => rfl)]; simp; omega
  have hB : (flat lcells (S.l.drop (k + 1))).length = (S.l.length - (k + 1)) * 8 := by rw [flat_len (sz := 8) (fun _ => rfl)]; simp
  exact deleteL (k : Int) ((k : Int) + 1) k (S.l.length - (k + 1)) (S.l.length - 1) _ _ _ h2 hA rfl hB (by omega) (by omega) rfl rfl (by omega)
theorem ldel_fin {w0 w : World} {L : List As} {b c : Nat} {S : Ls} {k : Nat} (hk : k < S.l.length) {s' : Option Addr} {v : Value}
    (h : St w0 w (As.row 41 8 s' (S.l.length - 1) c (flat lcells (S.l.eraseIdx k)) :: As.cells b #[v, .int .i64 S.nx] 32 :: L)) :
    St w0 (w.setCell ⟨b, 0, none⟩ (.slice s' (S.l.length - 1) c)) (lObj b ⟨S.l.eraseIdx k, S.nx⟩ :: L) := by
  have h2 := h.swap.set 0 (.slice s' (S.l.length - 1) c)
  have hl : (S.l.eraseIdx k).length = S.l.length - 1 := by rw [List.length_eraseIdx, if_pos hk]
  refine l_shut (S := ⟨S.l.eraseIdx k, S.nx⟩) (s := s') (c := c) ?_
  simp only [hl]
  simpa using h2

set_option maxRecDepth 100000 in
set_option maxHeartbeats 2000000 in
theorem lrem_st {w0 w : World} {L : List As} {b : Nat} {S : Ls} (x : Li) (h : St w0 w (lObj b S :: L)) (hn : S.l.length ≤ 10000) :
    Calls Try.prog 29 #[.pointer (some ⟨b, 0, none⟩), lval x] w (LRemPost b S x w0 L) := by
  have H0 := Lib.hid (h.alloc (.cells (lrow x) 41))
  have HF := Lib.hid (find_st x H0.out (by omega))
  clear h
  obtain ⟨x0, ⟨x1, x2⟩, x3, x4, x5, x6, x7⟩ := x
  unfold lval at HF ⊢
  unfold lrow at H0 HF
  go_enter Try.func29, Try.ntmps29
  go_wp2_with fail
  refine HF.out.mono ?_
  rintro e w2 ⟨r, rfl, hr, hb2⟩
  have H1 := Lib.hid (H0.out.of_below hb2)
  have hhas := Lib.hid (idx_has hr)
  clear hb2
  obtain ⟨s, c, h1⟩ := l_open H1.out
  obtain ⟨c0, c1, g0, g1⟩ := h1.two
  have H2 := Lib.hid h1
  clear h1
  rcases hr with ⟨k, hk, rfl, hfi, hp⟩ | ⟨rfl, hfi⟩
  · have hh := Lib.hid (show Ls.has S ⟨x0, ⟨x1, x2⟩, x3, x4, x5, x6, x7⟩ = true by unfold Ls.has; rw [hhas.out]; simp)
    have hrm := Lib.hid (show Ls.remove S ⟨x0, ⟨x1, x2⟩, x3, x4, x5, x6, x7⟩ = ⟨S.l.eraseIdx k, S.nx⟩ by unfold Ls.remove; rw [hfi])
    have hw1 : IntKind.i64.wrap ((k : Int) + 1) = (k : Int) + 1 := by rw [IntKind.wrap_i64]; omega
    clear hfi hp
    go_wp2_with fail
    refine (ldel k hk (by omega) H2.out).mono ?_
    rintro e w3 ⟨s', c', rfl, h3⟩
    have H3 := Lib.hid h3
    obtain ⟨q0, q1, r0, r1⟩ := h3.swap.two
    clear h3 c0 c1 g0 g1
    go_wp2_with fail
    go_ret
    exact ⟨by simp [hh.out], by rw [hrm.out]; exact ldel_fin hk H3.out⟩
  · have hh := Lib.hid (show Ls.has S ⟨x0, ⟨x1, x2⟩, x3, x4, x5, x6, x7⟩ = false by unfold Ls.has; rw [hhas.out]; simp)
    have hrm := Lib.hid (show Ls.remove S ⟨x0, ⟨x1, x2⟩, x3, x4, x5, x6, x7⟩ = S by unfold Ls.remove; rw [hfi])
    clear hfi
    go_wp2_with fail
    go_ret
    exact ⟨by simp [hh.out], by rw [hrm.out]; exact H1.out⟩

def LClonePost (S : Ls) (w0 : World) (L : List As) (E : Ending) (w' : World) : Prop := ∃ s c, E = .returned (.agg #[.slice s S.l.length c, .int .i64 S.nx]) ∧ St w0 w' (As.row 41 8 s S.l.length c (flat lcells S.l) :: L)

set_option maxRecDepth 100000 in
set_option maxHeartbeats 1000000 in
theorem lclone_st {w0 w : World} {L : List As} {b : Nat} {S : Ls} (h : St w0 w (lObj b S :: L)) (hn : S.l.length ≤ 100000) :
    Calls Try.prog 14 #[.pointer (some ⟨b, 0, none⟩)] w (LClonePost S w0 (lObj b S :: L)) := by
  have H := Lib.hid (h.new #[.slice none 0 0, .int .i64 0] 32)
  obtain ⟨s, c, h0⟩ := l_open h
  obtain ⟨hc0, hc1, -, -⟩ := h0.two
  have hlt := h0.blk.1.lt
  have hcn := h0.swap.sl.rc.nil
  have HS := Lib.hid ((h0.swap.sl).alloc (.cells #[.slice none 0 0, .int .i64 0] 32)).drew.rd
  have C := Lib.hid (cloneL s S.l.length c (flat lcells S.l) _ HS.out hcn (by omega))
  have k0 : ((w.alloc (.cells #[.slice none 0 0, .int .i64 0] 32)).drew).cell? ⟨b, 0, none⟩ = some (.slice s S.l.length c) := (World.cell?_alloc_lt w _ ⟨b, 0, none⟩ hlt).trans hc0
  have k1 : ((w.alloc (.cells #[.slice none 0 0, .int .i64 0] 32)).drew).cell? ⟨b, 1, none⟩ = some (.int .i64 S.nx) := (World.cell?_alloc_lt w _ ⟨b, 1, none⟩ hlt).trans hc1
  have K0 := Lib.hid k0
  have K1 := Lib.hid k1
  clear h h0 hcn k0 k1
  go_enter Try.func14, Try.ntmps14
  go_wp2_with fail
  go_region_held3 (fun w' => w'.cell? ⟨b, 0, none⟩ = some (.slice s S.l.length c) ∧ w'.cell? ⟨b, 1, none⟩ = some (.int .i64 S.nx))
    (first | go_keep | exact ⟨q2.cell K0.out (fun e => e), q2.cell K1.out (fun e => e)⟩ | exact ⟨by rw [World.cell?_setCell_other _ _ _ _ (by first | (simp; done) | (simp; omega)), World.cell?_setCell_other _ _ _ _ (by first | (simp; done) | (simp; omega))]; exact q2.cell K0.out (fun e => e), by rw [World.cell?_setCell_other _ _ _ _ (by first | (simp; done) | (simp; omega)), World.cell?_setCell_other _ _ _ _ (by first | (simp; done) | (simp; omega))]; exact q2.cell K1.out (fun e => e)⟩)
    (first
      | (go_at_call 36; refine C.out.mono ?_; rintro e w1 ⟨s1, c1, rfl, q1, q2, q3⟩; have H1 := Lib.hid (H.out.drew.row_new q1 q2 q3).swap; have r0 := H1.out.cell 0; have r1 := H1.out.cell 1; have f0 := H1.out.free 0; have f1 := H1.out.free 1; simp at r0 r1))
  have h2 := ((H1.out.set 0 (.slice s1 S.l.length c1)).set 1 (.int .i64 S.nx))
  simp at h2
  have hc2 := h2.cell 0
  have hc3 := h2.cell 1
  simp at hc2 hc3
  go_wp2_with fail
  refine bodyPost_ret (v := .agg #[.slice s1 S.l.length c1, .int .i64 S.nx]) (by simp [results, Try.results14, go_sem, hc2, hc3]) rfl ⟨s1, c1, rfl, h2.drop⟩
end Go.Proofs.Ytianjcbofgdfdaa
