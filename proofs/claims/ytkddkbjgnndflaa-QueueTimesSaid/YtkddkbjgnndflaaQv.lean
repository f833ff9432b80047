/-
  Contracts of the chapter's set of timers: Pop, Sorted.
-/
import Derived.Test.YtkddkbjgnndflaaQu
set_option linter.unusedVariables false
set_option linter.unusedSimpArgs false
namespace Go.Proofs.Ytkddkbjgnndflaa
open Go.RowKit Go.K

def RPopPost (M : List Tm) (nx now : Int) (s : Option Addr) (n c : Nat) (w : World) (E : Ending) (w' : World) : Prop :=
  (∃ (x : Tm) (k : Nat) (hk : k < M.length) (s' : Option Addr) (c' : Nat), IsMin M x ∧ x.due ≤ now ∧ M[k].id = x.id ∧ E = .returned (.tuple #[MV s' (n - 1) c' nx, x.val, .bool true]) ∧ Rc w' 3 s' (n - 1) c' (tcells (M.eraseIdx k)) ∧ NewAt w s' ∧ Below w.heap.size w w') ∨
  ((∀ x, IsMin M x → now < x.due) ∧ E = .returned (.tuple #[MV s n c nx, Tm.zero.val, .bool false]) ∧ Below w.heap.size w w')

set_option maxRecDepth 100000 in
set_option maxHeartbeats 2000000 in
theorem rpop_any (s : Option Addr) (n c : Nat) (M : List Tm) (nx now : Int) (w : World) (hs : Rc w 3 s n c (tcells M)) (hl : M.length = n) (hn : n ≤ 100000) :
    Calls Try.prog 31 #[MV s n c nx, .int .i64 now] w (RPopPost M nx now s n c w) := by
  have HL := Lib.hid hl
  have b0 : Below w.heap.size w ((box2 w s n c nx).alloc (.cells #[.int .i64 0, .int .i64 0, .int .i64 0] 74)) := (box2_bel w s n c nx).alloc (by simp [box2]; omega) _
  have HS := Lib.hid (hs.below b0)
  have K0 := Lib.hid ((box2_blk w s n c nx).1.alloc (.cells #[.int .i64 0, .int .i64 0, .int .i64 0] 74))
  have K1 := Lib.hid ((box2_blk w s n c nx).2.alloc (.cells #[.int .i64 0, .int .i64 0, .int .i64 0] 74))
  have K2 := Lib.hid (blk_new (box2 w s n c nx) #[.int .i64 0, .int .i64 0, .int .i64 0] 74 (w.heap.size + 1 + 1) (by simp))
  have B0 := Lib.hid b0
  clear hl b0 hs
  go_enter Try.func31, Try.ntmps31
  go_wp2_with fail
  refine (rfirst_any s n c M nx _ HS.out HL.out hn).mono ?_
  rintro e w1 ⟨hb, hr⟩
  have k0 := K0.out.kept (Fr.of_below hb) (fun q => q)
  have k1 := K1.out.kept (Fr.of_below hb) (fun q => q)
  have k2 := K2.out.kept (Fr.of_below hb) (fun q => q)
  have KK0 := Lib.hid k0
  have KK1 := Lib.hid k1
  have KK2 := Lib.hid k2
  obtain ⟨c0, c1, g0, g1⟩ := k0.two
  obtain ⟨c2, c3, g2, g3⟩ := k1.two
  obtain ⟨c4, c5, c6, g4, g5, g6⟩ := k2.three
  have hlt := k2.lt
  have hlt1 := k1.lt
  have hlt0 := k0.lt
  have hn1 : w.heap.size + 1 ≠ w1.heap.size := by omega
  have hn2 : w.heap.size + 1 + 1 ≠ w1.heap.size := by omega
  have hn3 : w.heap.size + 1 ≠ w.heap.size + 1 + 1 := by omega
  have HB := Lib.hid (B0.out.trans (hb.mono B0.out.size))
  have HS1 := Lib.hid (HS.out.below hb)
  clear k0 k1 k2 hb
  rcases hr with ⟨hM, rfl⟩ | ⟨x, hx, rfl⟩
  · have hall := Lib.hid (show ∀ x, IsMin M x → now < x.due from fun x h => by have := h.1; rw [hM] at this; cases this)
    clear hM
    unfold Tm.zero Tm.val
    go_wp2_with fail
    refine bodyPost_ret (v := .tuple #[MV s n c nx, Tm.zero.val, .bool false]) (by simp [results, Try.results31, go_sem, Tm.zero, Tm.val, c2, c3, c4, c5, c6, hn1, hn2, hn3, hlt, hlt1]) rfl (.inr ⟨hall.out, rfl, ?_⟩)
    repeat' (first | (with_reducible exact HB.out) | (refine Below.setCell ?_ (by first | (simp; done) | (simp; omega)) _) | (refine Below.alloc ?_ (by first | (simp; done) | (simp; omega)) _))
  · have HX := Lib.hid hx
    clear hx
    obtain ⟨x1, x2, x3⟩ := x
    unfold Tm.val
    by_cases hd : now < x2
    · have hall := Lib.hid (show ∀ x, IsMin M x → now < x.due from fun y hy => by
        have h1 := HX.out.2 y hy.1
        have h2 := hy.2 _ HX.out.1
        unfold Tm.lt at h1 h2
        simp only at h1 h2
        omega)
      have hdb : decide (now < x2) = true := by simp [hd]
      go_wp2_with fail
      refine bodyPost_ret (v := .tuple #[MV s n c nx, Tm.zero.val, .bool false]) (by simp [results, Try.results31, go_sem, Tm.zero, Tm.val, c2, c3, c4, c5, c6, hn1, hn2, hn3, hlt, hlt1]) rfl (.inr ⟨hall.out, rfl, ?_⟩)
      repeat' (first | (with_reducible exact HB.out) | (refine Below.setCell ?_ (by first | (simp; done) | (simp; omega)) _) | (refine Below.alloc ?_ (by first | (simp; done) | (simp; omega)) _))
    · have hdb : decide (now < x2) = false := by simp; omega
      have hdd := Lib.hid hd
      clear hd
      go_wp2_with fail
      refine (rremove_any s n c M nx x1 _ (HS1.out.alloc _) HL.out hn).mono ?_
      rintro e w2 (⟨k, hk, s', c', hid, rfl, hr, hnw, hb⟩ | ⟨hno, rfl, hb⟩)
      · have hbx := (KK0.out.alloc (.cells #[.int .i64 x1, .int .i64 x2, .int .i64 x3] 74))
        have k1 := (KK1.out.alloc (.cells #[.int .i64 x1, .int .i64 x2, .int .i64 x3] 74)).kept (Fr.of_below hb) (fun q => q)
        have k2 := (KK2.out.alloc (.cells #[.int .i64 x1, .int .i64 x2, .int .i64 x3] 74)).kept (Fr.of_below hb) (fun q => q)
        have k3 := (Blk.new w1 #[.int .i64 x1, .int .i64 x2, .int .i64 x3] 74).kept (Fr.of_below hb) (fun q => q)
        have HB2 := Lib.hid ((HB.out.alloc HB.out.size (.cells #[.int .i64 x1, .int .i64 x2, .int .i64 x3] 74)).trans (hb.mono (by simp; have := HB.out.size; omega)))
        have HR := Lib.hid hr
        have m1 := k1.alloc (.cells #[.slice s' (n - 1) c', .int .i64 nx] 67)
        have m2 := k2.alloc (.cells #[.slice s' (n - 1) c', .int .i64 nx] 67)
        have m3 := k3.alloc (.cells #[.slice s' (n - 1) c', .int .i64 nx] 67)
        have m4 := Blk.new w2 #[.slice s' (n - 1) c', .int .i64 nx] 67
        have HB3 := Lib.hid (HB2.out.alloc HB2.out.size (.cells #[.slice s' (n - 1) c', .int .i64 nx] 67))
        have HR3 := Lib.hid (HR.out.alloc (.cells #[.slice s' (n - 1) c', .int .i64 nx] 67))
        have hlt3 := k3.lt
        have HNW := Lib.hid hnw
        have HID := Lib.hid hid
        clear hr hb hnw hid k1 k2 k3 hbx c0 c1 c2 c3 c4 c5 c6 g0 g1 g2 g3 g4 g5 g6
        go_wp2_with fail
        clear HB2 HR
        generalize w2.alloc (.cells #[.slice s' (n - 1) c', .int .i64 nx] 67) = w3 at *
        generalize w2.heap.size = b9 at *
        obtain ⟨r2, r3, s2, s3⟩ := m1.two
        obtain ⟨r4, r5, r6, s4, s5, s6⟩ := m2.three
        obtain ⟨r7, r8, r9, s7, s8, s9⟩ := m3.three
        obtain ⟨q0, q1, t0, t1⟩ := m4.two
        have hn4 : w.heap.size + 1 ≠ b9 := by omega
        have hn5 : w.heap.size + 1 + 1 ≠ b9 := by omega
        have hn6 : w1.heap.size ≠ b9 := by omega
        clear m1 m2 m3 m4
        go_region_held3 (fun w' => w'.cell? ⟨b9, 0, none⟩ = some (.slice s' (n - 1) c') ∧ w'.cell? ⟨b9, 1, none⟩ = some (.int .i64 nx) ∧ w'.cell? ⟨w1.heap.size, 0, none⟩ = some (.int .i64 x1) ∧ w'.cell? ⟨w1.heap.size, 1, none⟩ = some (.int .i64 x2) ∧ w'.cell? ⟨w1.heap.size, 2, none⟩ = some (.int .i64 x3)) (first | go_keep) (fail)
        go_wp2_with fail
        have hnw2 : NewAt w1 s' := fun k hk => by have := HNW.out k hk; simp at this; omega
        refine bodyPost_ret (v := .tuple #[MV s' (n - 1) c' nx, .agg #[.int .i64 x1, .int .i64 x2, .int .i64 x3], .bool true]) (by simp [results, Try.results31, go_sem, hn3, r2, r3, r4, r5, r6]) rfl (.inl ⟨⟨x1, x2, x3⟩, k, hk, s', c', HX.out, by have := hdd.out; simp only; omega, HID.out, rfl, ?_, fun k hk => by have := hnw2 k hk; omega, ?_⟩)
        · refine (HR3.out.kept (S := fun k => k < w1.heap.size) ?_ (fun k hk q => by have := hnw2 k hk; omega)).drew
          repeat' (first | (with_reducible exact Fr.refl _ _) | (refine Fr.setCell ?_ (fun _ => by simp only; omega) _))
        · refine Below.drew ?_
          repeat' (first | (with_reducible exact HB3.out) | (refine Below.setCell ?_ (by first | (simp; done) | (simp; omega)) _))
      · exact (hno _ HX.out.1 rfl).elim

def RSortPost (ts : List Tm) (w : World) (E : Ending) (w' : World) : Prop :=
  ∃ s c, E = .returned (.slice s ts.length c) ∧ Rc w' 3 s ts.length c (tcells ts) ∧ Below w.heap.size w w'

/-- what is left and what has been taken -/
structure SortAt (ts : List Tm) (w wr : World) (nx : Int) (M done rest : List Tm) (s so : Option Addr) (c co : Nat) : Prop where
  same : Same M rest
  all : done ++ rest = ts
  out : Sl wr 74 3 so done.length co (tcells done)
  outrow : ∀ k, rowOf so = some k → w.heap.size < k
  left : Rc wr 3 s M.length c (tcells M)
  leftrow : 0 < M.length → ∀ k, rowOf s = some k → k ≠ w.heap.size ∧ rowOf so ≠ some k
  box : Blk wr w.heap.size #[.slice s M.length c, .int .i64 nx] 67
  bel : Below w.heap.size w wr
def SortRel (ts : List Tm) (w : World) (nx : Int) (g : Nat) (v : Value) (wr : World) : Prop :=
  ∃ (M done rest : List Tm) (s so : Option Addr) (c co : Nat), g = M.length ∧ v = .slice so done.length co ∧ SortAt ts w wr nx M done rest s so c co

theorem sort_step {ts : List Tm} {w wr w1 w2 w3 : World} {nx x1 x2 x3 : Int} {M done rest : List Tm} {s so so' s' : Option Addr} {c co co' c' k : Nat} (HA : SortAt ts w wr nx M done rest s so c co) (hb1 : Below wr.heap.size wr w1) (hx : IsMin M ⟨x1, x2, x3⟩)
    (hk : k < M.length) (hL : Rc w2 3 s' (M.length - 1) c' (tcells (M.eraseIdx k))) (hnw : NewAt (w1.alloc (.cells #[.int .i64 x1, .int .i64 x2, .int .i64 x3] 74)) s') (hid : M[k].id = x1)
    (hbox : Blk ((w2.setCell ⟨w.heap.size, 0, none⟩ (.slice s' (M.length - 1) c')).setCell ⟨w.heap.size, 1, none⟩ (.int .i64 nx)) w.heap.size ((#[Value.slice s M.length c, .int .i64 nx].setIfInBounds 0 (.slice s' (M.length - 1) c')).setIfInBounds 1 (.int .i64 nx)) 67)
    (hbel : Below w.heap.size w w2) (hlt : w1.heap.size < w2.heap.size)
    (a1 : Sl w3 74 3 so' (done.length + 1) co' (tcells done ++ [.int .i64 x1, .int .i64 x2, .int .i64 x3]))
    (a2 : Fr (fun k => rowOf so = some k) ((((w2.setCell ⟨w.heap.size, 0, none⟩ (.slice s' (M.length - 1) c')).setCell ⟨w.heap.size, 1, none⟩ (.int .i64 nx)).alloc (.cells #[.slice s' (M.length - 1) c', .int .i64 nx] 67)).alloc (.cells #[.int .i64 x1, .int .i64 x2, .int .i64 x3] 74)) w3)
    (a3 : NewOr ((((w2.setCell ⟨w.heap.size, 0, none⟩ (.slice s' (M.length - 1) c')).setCell ⟨w.heap.size, 1, none⟩ (.int .i64 nx)).alloc (.cells #[.slice s' (M.length - 1) c', .int .i64 nx] 67)).alloc (.cells #[.int .i64 x1, .int .i64 x2, .int .i64 x3] 74)) (rowOf so) (rowOf so')) :
    SortRel ts w nx (M.length - 1) (.slice so' (done.length + 1) co') w3 := by
  have hnl : (M.eraseIdx k).length = M.length - 1 := by rw [List.length_eraseIdx, if_pos hk]
  obtain ⟨same, all, out, outrow, left, leftrow, box, bel⟩ := HA
  have hbs := hb1.size
  have hos := out.lt
  have hws := bel.size
  cases rest with
  | nil => have := same.nil'; subst this; simp at hk
  | cons t r =>
    have ht := same.min hx
    subst ht
    have hdl : (done ++ [(⟨x1, x2, x3⟩ : Tm)]).length = done.length + 1 := by simp
    have f1 : Fr (fun k => k = w.heap.size ∨ rowOf so = some k) w2 w3 := by
      refine Fr.trans (S' := fun k => rowOf so = some k) ?_ a2 (fun _ _ q => .inr q)
      exact (Fr.setCell (Fr.setCell (Fr.refl _ _) (fun _ => .inl rfl) _) (fun _ => .inl rfl) _).alloc _ |>.alloc _
    have hrows : ∀ q, rowOf so = some q → w.heap.size < q := outrow
    refine ⟨M.eraseIdx k, done ++ [⟨x1, x2, x3⟩], r, s', so', c', co', hnl.symm, by rw [hdl], same.head hk hid, by rw [← all]; simp, by rw [hdl]; simpa [tcells, Tm.cells] using a1, ?_, ?_, ?_, ?_, ?_⟩
    · intro q hq
      rcases a3 with e | ⟨g, e, hg⟩
      · exact outrow q (e ▸ hq)
      · rw [e] at hq; cases hq; simp at hg; omega
    · rw [hnl]
      refine hL.kept f1 (fun q hq e => ?_)
      have h1 := hnw q hq
      simp at h1
      rcases e with e | e
      · omega
      · have := hos q e; omega
    · intro h0 q hq
      have h1 := hnw q hq
      simp at h1
      refine ⟨by omega, fun e => ?_⟩
      rcases a3 with e2 | ⟨g, e2, hg⟩
      · have := hos q (e2 ▸ e); omega
      · rw [e2] at e; cases e
        have := hL.lt (by omega) _ hq
        simp at hg; omega
    · have := (hbox.alloc (.cells #[.slice s' (M.length - 1) c', .int .i64 nx] 67)).alloc (.cells #[.int .i64 x1, .int .i64 x2, .int .i64 x3] 74) |>.kept a2 (fun e => by have := hrows _ e; omega)
      rw [hnl]
      simpa using this
    · refine bel_by hbel f1 (Nat.le_refl _) (fun q e => ?_)
      rcases e with e | e
      · omega
      · have := hrows q e; omega
set_option maxRecDepth 100000 in
set_option maxHeartbeats 2000000 in
theorem rsort_any (s : Option Addr) (n c : Nat) (M ts : List Tm) (nx : Int) (w : World) (hs : Rc w 3 s n c (tcells M)) (hl : M.length = n) (hn : n ≤ 100000) (hsame : Same M ts) :
    Calls Try.prog 44 #[MV s n c nx] w (RSortPost ts w) := by
  have hrow0 : 0 < n → ∀ k, rowOf s = some k → k ≠ w.heap.size := fun h k hk => by have := hs.lt (by omega) k hk; omega
  have HTL := Lib.hid (show ts.length ≤ 100000 by have := hsame.perm.length_eq; omega)
  have start := Lib.hid (show SortRel ts w nx n (.slice none 0 0) (w.alloc (.cells #[.slice s n c, .int .i64 nx] 67)) from
    ⟨M, [], ts, s, none, c, 0, hl.symm, rfl, hsame, rfl, Sl.nil _ _ _, by simp [rowOf], by rw [hl]; exact hs.alloc _, fun h k hk => ⟨hrow0 (by omega) k hk, by simp [rowOf]⟩, by rw [hl]; exact Blk.new _ _ _, (Below.refl _ _).alloc (Nat.le_refl _) _⟩)
  clear hs hl hsame hrow0
  go_enter Try.func44, Try.ntmps44
  go_wp2_with fail
  go_loopg [3] n (SortRel ts w nx)
  case atStart => exact start.out
  case round =>
    obtain ⟨M, done, rest, s, so, c, co, hg, rfl, hA⟩ := hrel
    have Hg := Lib.hid hg
    have HA := Lib.hid hA
    obtain ⟨c0, c1, g0, g1⟩ := hA.box.two
    have hlen := hA.same.perm.length_eq
    have hall := congrArg List.length hA.all
    have hT := HTL.out
    simp only [List.length_append] at hall
    have hM : M.length ≤ 100000 := by omega
    have hdn : done.length ≤ 100000 := by omega
    clear hg hA start hlen hall hT
    by_cases h0 : 0 < M.length
    · go_wp2_with fail
      refine (rfirst_any s M.length c M nx _ HA.out.left rfl hM).mono ?_
      rintro e w1 ⟨hb1, ⟨hM0, -⟩ | ⟨x, hx, rfl⟩⟩
      · rw [hM0] at h0; simp at h0
      have HB1 := Lib.hid hb1
      have HX := Lib.hid hx
      obtain ⟨x1, x2, x3⟩ := x
      have k0 := HA.out.box.kept (Fr.of_below hb1) (fun q => q)
      have KK0 := Lib.hid k0
      obtain ⟨d0, d1, f0, f1⟩ := k0.two
      have hlt0 := k0.lt
      clear hb1 hx k0 c0 c1 g0 g1
      unfold Tm.val
      go_wp2_with fail
      refine (rremove_any s M.length c M nx x1 _ ((HA.out.left.below HB1.out).alloc _) rfl hM).mono ?_
      rintro e w2 (⟨k, hk, s', c', hid, rfl, hr, hnw, hb⟩ | ⟨hno, rfl, hb⟩)
      · have k1 := (KK0.out.alloc (.cells #[.int .i64 x1, .int .i64 x2, .int .i64 x3] 74)).kept (Fr.of_below hb) (fun q => q)
        have k2 := (Blk.new w1 #[.int .i64 x1, .int .i64 x2, .int .i64 x3] 74).kept (Fr.of_below hb) (fun q => q)
        obtain ⟨r0, r1, t0, t1⟩ := k1.two
        obtain ⟨r2, r3, r4, t2, t3, t4⟩ := k2.three
        have hlt1 := k1.lt
        have hlt2 := k2.lt
        have hne : w.heap.size ≠ w2.heap.size := by omega
        have hne2 : w1.heap.size ≠ w2.heap.size := by omega
        have hne3 : w.heap.size ≠ w1.heap.size := by omega
        clear d0 d1 f0 f1
        have OUT := Lib.hid (((((HA.out.out.below HB1.out).alloc (.cells #[.int .i64 x1, .int .i64 x2, .int .i64 x3] 74)).below hb).other (p := ⟨w.heap.size, 0, none⟩) (fun k hk q => by have := HA.out.outrow k hk; simp only at q; omega) (.slice s' (M.length - 1) c')).other (p := ⟨w.heap.size, 1, none⟩) (fun k hk q => by have := HA.out.outrow k hk; simp only at q; omega) (.int .i64 nx))
        have outs := Lib.hid ((OUT.out.alloc (.cells #[.slice s' (M.length - 1) c', .int .i64 nx] 67)).alloc (.cells #[.int .i64 x1, .int .i64 x2, .int .i64 x3] 74))
        have news := rd_built_at (((w2.setCell ⟨w.heap.size, 0, none⟩ (.slice s' (M.length - 1) c')).setCell ⟨w.heap.size, 1, none⟩ (.int .i64 nx)).alloc (.cells #[.slice s' (M.length - 1) c', .int .i64 nx] 67)) #[.int .i64 x1, .int .i64 x2, .int .i64 x3] 74 3 1 (w2.heap.size + 1) (by simp) rfl (by simp [Value.oneCell'])
        have LEFT := Lib.hid hr
        have HNW := Lib.hid hnw
        have HID := Lib.hid hid
        have BOX := Lib.hid ((k1.set 0 (.slice s' (M.length - 1) c')).set 1 (.int .i64 nx))
        have BEL := Lib.hid ((HA.out.bel.trans (HB1.out.mono HA.out.bel.size)).alloc (Nat.le_of_lt hlt0) (.cells #[.int .i64 x1, .int .i64 x2, .int .i64 x3] 74) |>.trans (hb.mono (by simp; omega)))
        clear hb hr hnw hid k1 k2
        have NEWS := Lib.hid news
        clear news
        go_wp2_with (refine wpList_append_any rfl (.tmp 25) (.tmp 27) 65 rfl el65 so done.length co (tcells done) rfl outs.out _ 1 _ _ rfl NEWS.out (by omega) (by omega) ?_)
        intro so' co' w3 a1 a2 a3
        go_wp2_with fail
        go_roundg (M.length - 1)
        case measure => have := Hg.out; omega
        case rel => exact sort_step HA.out HB1.out HX.out hk LEFT.out HNW.out HID.out BOX.out BEL.out hlt2 a1 a2 a3
      · exact (hno _ HX.out.1 rfl).elim
    · have hM0 : M = [] := List.eq_nil_of_length_eq_zero (by omega)
      have hmb : decide ((0 : Int) < (M.length : Int)) = false := by simp; omega
      subst hM0
      have hr := HA.out.same.nil
      have hd := HA.out.all
      rw [hr, List.append_nil] at hd
      have HD := Lib.hid hd
      clear hr hd
      go_wp2_with fail
      go_ret
      have hdd := HD.out
      subst hdd
      exact ⟨so, co, rfl, HA.out.out.rc, HA.out.bel⟩
end Go.Proofs.Ytkddkbjgnndflaa
