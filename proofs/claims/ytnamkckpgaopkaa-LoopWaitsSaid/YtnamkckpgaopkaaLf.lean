/-
  The set of timers within a State: Add, Len, First, index, Again, Remove, Pop, Clone.
-/
import Derived.Test.YtnamkckpgaopkaaLe
import Derived.Deep.LoopGhost
set_option linter.unusedVariables false
set_option linter.unusedSimpArgs false
namespace Go.Proofs.Ytnamkckpgaopkaa
open Go.RowKit Go.K


theorem tlen_st {w0 w : World} {L : List As} {b : Nat} {v : Nat → Value} {ts : List Tm} {nx : Int} (h : St w0 w (tObj b v ts nx :: L)) :
    Calls Try.prog 47 #[.pointer (some ⟨b, 8, none⟩)] w fun e w' => e = .returned (.int .i64 ts.length) ∧ w = w' := by
  obtain ⟨s, c, h⟩ := t_open h
  have hc := h.cell 8
  simp at hc
  clear h
  go_enter Try.func47, Try.ntmps47
  go_wp2
  go_ret
  exact ⟨rfl, rfl⟩

def TAddPost (b : Nat) (v : Nat → Value) (ts : List Tm) (t : Tm) (r nx : Int) (w0 : World) (L : List As) (E : Ending) (w' : World) : Prop :=
  E = .returned (.int .i64 r) ∧ ∃ i, Found ts t i ∧ St w0 w' (tObj b v (insAt ts i t) nx :: L)

set_option maxRecDepth 100000 in
set_option maxHeartbeats 1000000 in
theorem tadd_st {w0 w : World} {L : List As} {b : Nat} {v : Nat → Value} {ts : List Tm} {nx : Int} (due : Int) (h : St w0 w (tObj b v ts nx :: L)) (hn : ts.length ≤ 100000) (hx : 0 ≤ nx) (hx2 : nx < 4294967296) :
    Calls Try.prog 33 #[.pointer (some ⟨b, 8, none⟩), .int .i64 due] w (TAddPost b v ts ⟨nx + 1, due, nx + 1⟩ (nx + 1) (nx + 1) w0 L) := by
  obtain ⟨s, c, h⟩ := t_open h
  have hc := h.cell 9
  have hf := h.free 9
  simp at hc
  have h1 := h.set 9 (.int .i64 (nx + 1))
  have hc1 := h1.cell 9
  simp at hc1 h1
  have H1 := Lib.hid (t_shut h1)
  clear h h1
  go_enter Try.func33, Try.ntmps33
  go_wp2_with fail
  generalize w.setCell ⟨b, 9, none⟩ (.int .i64 (nx + 1)) = w1 at H1 hc1 ⊢
  clear hc hf
  go_still_tail 11, (by kernel_rfl)
  change wpList _ _ _ _ _ w1.drew
  clear hc1
  go_wp2_with fail
  refine (tins_st ⟨nx + 1, due, nx + 1⟩ H1.out.drew hn).mono ?_
  rintro e w' ⟨rfl, i, hF, h2⟩
  obtain ⟨s2, c2, h3⟩ := t_open h2
  have hc := h3.cell 9
  simp at hc
  have H2 := Lib.hid h2
  have HF := Lib.hid hF
  clear h2 h3 hF
  go_wp2
  go_ret
  exact ⟨rfl, i, HF.out, H2.out⟩

/-- the place of the first timer with a number, or -1 -/
def IdxIs (ts : List Tm) (id r : Int) : Prop := (∃ (k : Nat) (hk : k < ts.length), r = k ∧ ts[k].id = id ∧ ∀ j, (hj : j < k) → (ts[j]'(by omega)).id ≠ id) ∨ (r = -1 ∧ ∀ t ∈ ts, t.id ≠ id)

set_option maxHeartbeats 400000 in
theorem idx_clo (t : Tm) (id : Int) (g : Nat) (w : World) (hc : w.cell? ⟨g, 0, none⟩ = some (.int .i64 id)) :
    Calls Try.prog 78 #[t.val, .pointer (some ⟨g, 0, none⟩)] w fun e w' => e = .returned (.bool (t.id == id)) ∧ Below w.heap.size w w' := by
  obtain ⟨t0, t1, t2⟩ := t
  unfold Tm.val
  have hlt := World.block_lt_of_cell? _ _ hc
  simp only at hlt
  go_enter Try.func78, Try.ntmps78
  go_wp2
  go_ret
  exact ⟨rfl, (Below.refl _ _).alloc (Nat.le_refl _) _⟩

def IdxPost (ts : List Tm) (id : Int) (w : World) (E : Ending) (w' : World) : Prop := ∃ r, E = .returned (.int .i64 r) ∧ IdxIs ts id r ∧ Below w.heap.size w w'
def IdxRel (ts : List Tm) (id : Int) (n : Nat) (w : World) (g : Nat) (v : Value) (wr : World) : Prop :=
  ∃ k : Nat, g = n - k ∧ k ≤ n ∧ v = .int .i64 k ∧ Below w.heap.size w wr ∧ ∀ j (hj : j < ts.length), j < k → ts[j].id ≠ id

set_option maxHeartbeats 1000000 in
theorem idx_st (s : Option Addr) (n c : Nat) (ts : List Tm) (id : Int) (gi : Nat) (w : World) (hs : Rd w 3 s n (tcells ts)) (hc : w.cell? ⟨gi, 0, none⟩ = some (.int .i64 id)) (hn : n ≤ 4294967296) :
    Calls Try.prog 77 #[.slice s n c, .func (.func 78) #[] #[.pointer (some ⟨gi, 0, none⟩)]] w (IdxPost ts id w) := by
  have hl : ts.length = n := by have := hs.len; rw [tcells_len] at this; omega
  have HS := Lib.hid hs
  have HL := Lib.hid hl
  have hlt := World.block_lt_of_cell? _ _ hc
  simp only at hlt
  clear hs hl
  go_enter Try.func77, Try.ntmps77
  go_wp2_with fail
  go_loopg [8] n (IdxRel ts id n w)
  case atStart => exact ⟨0, rfl, Nat.zero_le _, rfl, Below.refl _ _, by intro j hj h; omega⟩
  case round =>
    obtain ⟨k, hg, hk, rfl, hb, hall⟩ := hrel
    have Hg := Lib.hid hg
    have HA := Lib.hid hall
    have HB := Lib.hid hb
    have hc2 : wr.cell? ⟨gi, 0, none⟩ = some (.int .i64 id) := (hb.cell hlt).trans hc
    have hsz := hb.size
    clear hg hall hb
    by_cases hkn : k < n
    · have hkt : k < ts.length := by rw [HL.out]; exact hkn
      obtain ⟨g, off, rfl, hcell⟩ := HS.out.addr (by omega)
      obtain ⟨c0, c1, c2⟩ := tcells_at ts k hkt
      have d0 := hcell _ _ c0
      have d1 := hcell _ _ c1
      have d2 := hcell _ _ c2
      have hgl : g < w.heap.size := World.block_lt_of_cell? _ _ d0
      have e0 := (HB.out.cell (p := ⟨g, off + k * 3, none⟩) hgl).trans d0
      have e1 := (HB.out.cell (p := ⟨g, off + (k * 3 + 1), none⟩) hgl).trans d1
      have e2 := (HB.out.cell (p := ⟨g, off + (k * 3 + 2), none⟩) hgl).trans d2
      rw [← Nat.add_assoc] at e1 e2
      rw [show off + k * 3 + 2 = off + k * 3 + 1 + 1 by omega] at e2
      clear hcell c0 c1 c2 d0 d1 d2
      have hkn' : (k : Int) < (n : Int) := by omega
      have Hid := Lib.hid (rfl : ts[k].id = ts[k].id)
      by_cases hid : ts[k].id = id
      · have hidb : (ts[k].id == id) = true := by simp [hid]
        have HID := Lib.hid hid
        clear hid
        go_wp2_with fail
        refine (idx_clo ⟨ts[k].id, ts[k].due, ts[k].ord⟩ id gi _ hc2).mono ?_
        rintro e w2 ⟨rfl, hb2⟩
        have HB2 := Lib.hid hb2
        clear hb2 e0 e1 e2
        go_wp2_with fail
        go_ret
        exact ⟨_, rfl, .inl ⟨k, hkt, rfl, HID.out, fun j hj => HA.out j (by omega) hj⟩, HB.out.trans (HB2.out.mono hsz)⟩
      · have hidb : (ts[k].id == id) = false := by simp [hid]
        have HID := Lib.hid hid
        clear hid
        go_wp2_with fail
        refine (idx_clo ⟨ts[k].id, ts[k].due, ts[k].ord⟩ id gi _ hc2).mono ?_
        rintro e w2 ⟨rfl, hb2⟩
        have HB2 := Lib.hid hb2
        clear hb2 e0 e1 e2
        go_wp2_with fail
        go_roundg (n - (k + 1))
        case measure => have := Hg.out; omega
        case rel => exact ⟨k + 1, rfl, by omega, by simp, HB.out.trans (HB2.out.mono hsz), fun j hj h => by
          rcases Nat.lt_or_ge j k with q | q
          · exact HA.out j hj q
          · obtain rfl : j = k := by omega
            exact HID.out⟩
    · go_wp2_with fail
      go_ret
      refine ⟨_, rfl, .inr ⟨rfl, fun t ht => ?_⟩, HB.out⟩
      obtain ⟨j, hj, rfl⟩ := List.getElem_of_mem ht
      exact HA.out j hj (by rw [HL.out] at hj; omega)

set_option maxHeartbeats 400000 in
theorem tindex_st {w0 w : World} {L : List As} {b : Nat} {v : Nat → Value} {ts : List Tm} {nx : Int} (id : Int) (h : St w0 w (tObj b v ts nx :: L)) (hn : ts.length ≤ 100000) :
    Calls Try.prog 66 #[.pointer (some ⟨b, 8, none⟩), .int .i64 id] w (IdxPost ts id w) := by
  obtain ⟨s, c, h⟩ := t_open h
  have hc := h.cell 8
  simp at hc
  have hlt := h.blk.1.lt
  have HS := Lib.hid ((h.swap.sl).alloc (.cells #[.int .i64 id] 3))
  clear h
  go_enter Try.func66, Try.ntmps66
  go_wp2_with fail
  refine (idx_st s ts.length c ts id w.heap.size _ HS.out.rd (by simp) (by omega)).mono ?_
  rintro e w1 ⟨r, rfl, hr, hb⟩
  have HR := Lib.hid hr
  have HB := Lib.hid hb
  clear hr hb
  go_wp2_with fail
  go_ret
  exact ⟨r, rfl, HR.out, ((Below.refl _ _).alloc (Nat.le_refl _) _).trans (HB.out.mono (by simp))⟩

theorem tcells_at3 (ts : List Tm) (k : Nat) (hk : k < ts.length) : tcells ts = tcells (ts.take k) ++ ts[k].cells ++ tcells (ts.drop (k + 1)) := by
  conv => lhs; rw [tcells_split ts k, List.drop_eq_getElem_cons hk, tcells_cons, ← List.append_assoc]
theorem tcells_erase (ts : List Tm) (k : Nat) : tcells (ts.eraseIdx k) = tcells (ts.take k) ++ tcells (ts.drop (k + 1)) := by
  rw [List.eraseIdx_eq_take_drop_succ, tcells_app]

def TRemPost (b : Nat) (v : Nat → Value) (ts : List Tm) (id nx : Int) (w0 : World) (L : List As) (E : Ending) (w' : World) : Prop :=
  (∃ (k : Nat) (hk : k < ts.length), ts[k].id = id ∧ (∀ j, (hj : j < k) → (ts[j]'(by omega)).id ≠ id) ∧ E = .returned (.bool true) ∧ St w0 w' (tObj b v (ts.eraseIdx k) nx :: L)) ∨
  ((∀ t ∈ ts, t.id ≠ id) ∧ E = .returned (.bool false) ∧ St w0 w' (tObj b v ts nx :: L))

/-- a timer is struck out of the row -/
theorem tdel {w0 w : World} {L : List As} {b : Nat} {v : Nat → Value} {ts : List Tm} {nx : Int} {s : Option Addr} {c : Nat} (k : Nat) (hk : k < ts.length) (a a' : Int) (ha : a = k) (ha' : a' = (k : Int) + 1) (hn : ts.length ≤ 100000)
    (h : St w0 w (As.cells b #[v 0, v 1, v 2, v 3, v 4, v 5, v 6, v 7, .slice s ts.length c, .int .i64 nx, v 10, v 11, v 12, v 13, v 14, v 15] 37 :: As.row 95 3 s ts.length c (tcells ts) :: L)) :
    Calls Try.prog 59 #[.slice s ts.length c, .int .i64 a, .int .i64 a'] w fun e w' => ∃ s' c' p, e = .returned (.slice s' p c') ∧ (ts.eraseIdx k).length = p ∧ St w0 w' (As.cells b #[v 0, v 1, v 2, v 3, v 4, v 5, v 6, v 7, .slice s ts.length c, .int .i64 nx, v 10, v 11, v 12, v 13, v 14, v 15] 37 :: As.row 95 3 s' p c' (tcells (ts.eraseIdx k)) :: L) := by
  have h2 := h.swap
  rw [tcells_at3 ts k hk] at h2
  have hp : (ts.eraseIdx k).length = ts.length - 1 := List.length_eraseIdx_of_lt hk
  refine (deleteT a a' k (ts.length - (k + 1)) (ts.length - 1) _ _ _ h2 (by rw [tcells_len]; simp; omega) rfl (by rw [tcells_len]; simp) (by omega) (by omega) ha ha' (by omega)).mono fun e w' hh => ?_
  obtain ⟨s', c', rfl, h3⟩ := hh
  exact ⟨s', c', ts.length - 1, rfl, hp, by rw [tcells_erase]; exact h3.swap⟩
theorem tdel_fin {w0 w : World} {L : List As} {b n c c' p : Nat} {v : Nat → Value} {ts : List Tm} {nx : Int} {s s' : Option Addr} (hp : ts.length = p) (h : St w0 w (As.cells b #[v 0, v 1, v 2, v 3, v 4, v 5, v 6, v 7, .slice s n c, .int .i64 nx, v 10, v 11, v 12, v 13, v 14, v 15] 37 :: As.row 95 3 s' p c' (tcells ts) :: L)) :
    w.cell? ⟨b, 8, none⟩ = some (.slice s n c) ∧ w.frozen? ⟨b, 8, none⟩ = false ∧ St w0 (w.setCell ⟨b, 8, none⟩ (.slice s' p c')) (tObj b v ts nx :: L) := by
  subst hp
  have hc := h.cell 8
  simp at hc
  refine ⟨hc, h.free 8, t_shut (s := s') (c := c') ?_⟩
  simpa using h.set 8 (.slice s' ts.length c')

set_option maxHeartbeats 1000000 in
theorem trem_st {w0 w : World} {L : List As} {b : Nat} {v : Nat → Value} {ts : List Tm} {nx : Int} (id : Int) (h : St w0 w (tObj b v ts nx :: L)) (hn : ts.length ≤ 100000) :
    Calls Try.prog 37 #[.pointer (some ⟨b, 8, none⟩), .int .i64 id] w (TRemPost b v ts id nx w0 L) := by
  have H := Lib.hid h
  clear h
  go_enter Try.func37, Try.ntmps37
  go_wp2_with fail
  refine (tindex_st id H.out hn).mono ?_
  rintro e w1 ⟨r, rfl, hr, hb⟩
  have H1 := H.out.of_below hb
  rcases hr with ⟨k, hk, rfl, hid, hfirst⟩ | ⟨rfl, hall⟩
  · have HID := Lib.hid hid
    have HFI := Lib.hid hfirst
    obtain ⟨s, c, h2⟩ := t_open H1
    have hc := h2.cell 8
    simp at hc
    have H2 := Lib.hid h2
    have hk0 : (0 : Int) ≤ (k : Int) := by omega
    clear hid hfirst H1 h2 hb
    go_wp2_with fail
    refine (tdel k hk _ _ rfl rfl hn H2.out).mono ?_
    rintro e w2 ⟨s', c', p, rfl, hp, h3⟩
    obtain ⟨hc2, hf2, h4⟩ := tdel_fin hp h3
    have H3 := Lib.hid h4
    clear hp h3 hc h4
    go_wp2_with fail
    go_ret
    exact .inl ⟨k, hk, HID.out, HFI.out, by simp, H3.out⟩
  · have HALL := Lib.hid hall
    have HH := Lib.hid H1
    clear hall H1 hb
    go_wp2_with fail
    go_ret
    exact .inr ⟨HALL.out, by simp, HH.out⟩

def TAgainPost (b : Nat) (v : Nat → Value) (ts : List Tm) (id due nx : Int) (w0 : World) (L : List As) (E : Ending) (w' : World) : Prop :=
  (1 ≤ id ∧ id ≤ nx ∧ (∀ t ∈ ts, t.id ≠ id) ∧ E = .returned (.bool true) ∧ ∃ i, Found ts ⟨id, due, nx + 1⟩ i ∧ St w0 w' (tObj b v (insAt ts i ⟨id, due, nx + 1⟩) (nx + 1) :: L)) ∨
  ((id < 1 ∨ nx < id ∨ ∃ t ∈ ts, t.id = id) ∧ E = .returned (.bool false) ∧ St w0 w' (tObj b v ts nx :: L))

set_option maxRecDepth 100000 in
set_option maxHeartbeats 1000000 in
theorem tagain_st {w0 w : World} {L : List As} {b : Nat} {v : Nat → Value} {ts : List Tm} {nx : Int} (id due : Int) (h : St w0 w (tObj b v ts nx :: L)) (hn : ts.length ≤ 100000) (hx : 0 ≤ nx) (hx2 : nx < 4294967296) :
    Calls Try.prog 62 #[.pointer (some ⟨b, 8, none⟩), .int .i64 id, .int .i64 due] w (TAgainPost b v ts id due nx w0 L) := by
  have H := Lib.hid h
  obtain ⟨s, c, h0⟩ := t_open h
  have hc := h0.cell 9
  simp at hc
  clear h h0
  by_cases h1 : id < 1
  · have hd : decide (id < 1) = true := by simp [h1]
    go_enter Try.func62, Try.ntmps62
    go_wp2_with fail
    go_ret
    exact .inr ⟨.inl h1, rfl, H.out⟩
  · have hd : decide (id < 1) = false := by simp; omega
    by_cases h2 : nx < id
    · have hd2 : decide (nx < id) = true := by simp [h2]
      go_enter Try.func62, Try.ntmps62
      go_wp2_with fail
      go_ret
      exact .inr ⟨.inr (.inl h2), rfl, H.out⟩
    · have hd2 : decide (nx < id) = false := by simp; omega
      go_enter Try.func62, Try.ntmps62
      go_wp2_with fail
      refine (tindex_st id H.out hn).mono ?_
      rintro e w1 ⟨r, rfl, hr, hb⟩
      have H1 := H.out.of_below hb
      rcases hr with ⟨k, hk, rfl, hid, hfirst⟩ | ⟨rfl, hall⟩
      · have HID := Lib.hid hid
        have HH := Lib.hid H1
        have hk0 : decide ((0 : Int) ≤ (k : Int)) = true := by simp
        clear hid hfirst H1 hb hc
        go_wp2_with fail
        go_ret
        exact .inr ⟨.inr (.inr ⟨ts[k], List.getElem_mem hk, HID.out⟩), by simp, HH.out⟩
      · have HALL := Lib.hid hall
        obtain ⟨s, c, h3⟩ := t_open H1
        have hc1 := h3.cell 9
        have hf1 := h3.free 9
        simp at hc1
        have h4 := h3.set 9 (.int .i64 (nx + 1))
        have hc2 := h4.cell 9
        simp at hc2 h4
        have H4 := Lib.hid (t_shut h4)
        clear hall H1 hb hc h3 h4
        go_wp2_with fail
        refine (tins_st ⟨id, due, nx + 1⟩ H4.out hn).mono ?_
        rintro e w2 ⟨rfl, i, hF, h5⟩
        have HF := Lib.hid hF
        have H5 := Lib.hid h5
        clear hF h5 hc1 hf1 hc2
        go_wp2_with fail
        go_ret
        exact .inl ⟨by omega, by omega, HALL.out, rfl, i, HF.out, H5.out⟩

def Tm.zero : Tm := ⟨0, 0, 0⟩
def FirstPost (ts : List Tm) (w : World) (E : Ending) (w' : World) : Prop :=
  E = .returned (.tuple #[(ts.headD Tm.zero).val, .bool (!ts.isEmpty)]) ∧ Below w.heap.size w w'

set_option maxHeartbeats 400000 in
theorem tfirst_st {w0 w : World} {L : List As} {b : Nat} {v : Nat → Value} {ts : List Tm} {nx : Int} (h : St w0 w (tObj b v ts nx :: L)) (hn : ts.length ≤ 100000) :
    Calls Try.prog 56 #[.pointer (some ⟨b, 8, none⟩)] w (FirstPost ts w) := by
  obtain ⟨s, c, h⟩ := t_open h
  have hc := h.cell 8
  simp at hc
  have hlt := h.blk.1.lt
  cases ts with
  | nil =>
    clear h
    simp at hc
    go_enter Try.func56, Try.ntmps56
    go_wp2_with fail
    refine bodyPost_ret (v := .tuple #[Tm.zero.val, .bool false]) (by simp [results, Try.results56, go_sem, Tm.zero, Tm.val]) rfl ⟨rfl, (Below.refl _ _).alloc (Nat.le_refl _) _⟩
  | cons t ts =>
    have hs := h.swap.sl
    have hle := hs.le
    obtain ⟨g, off, rfl, hcell, -, -⟩ := hs.some_of (Nat.lt_of_lt_of_le (by simp) hle)
    have d0 := hcell 0 (by simp)
    have d1 := hcell 1 (by simp; omega)
    have d2 := hcell 2 (by simp; omega)
    have hgl := hs.lt g rfl
    simp [tcells, Tm.cells] at d0 d1 d2
    simp only [List.length_cons] at hc
    have hlen : ((ts.length : Int) + 1 == 0) = false := by simp; omega
    clear hcell hs h
    go_enter Try.func56, Try.ntmps56
    go_wp2_with fail
    refine bodyPost_ret (v := .tuple #[t.val, .bool true]) (by simp [results, Try.results56, go_sem, Tm.val]) rfl ⟨rfl, (Below.refl _ _).alloc (Nat.le_refl _) _⟩

def TPopPost (b : Nat) (v : Nat → Value) (ts : List Tm) (now nx : Int) (w0 : World) (L : List As) (E : Ending) (w' : World) : Prop :=
  (∃ t r, ts = t :: r ∧ t.due ≤ now ∧ E = .returned (.tuple #[t.val, .bool true]) ∧ St w0 w' (tObj b v r nx :: L)) ∨
  ((∀ t r, ts = t :: r → now < t.due) ∧ E = .returned (.tuple #[Tm.zero.val, .bool false]) ∧ St w0 w' (tObj b v ts nx :: L))

theorem own3 {w0 w1 : World} {L : List As} {g : Nat} {a b c : Value} (q : St w0 w1 (As.cells g #[a, b, c] 95 :: L)) : (w1.cell? ⟨g, 0, none⟩ = some a ∧ w1.cell? ⟨g, 1, none⟩ = some b ∧ w1.cell? ⟨g, 2, none⟩ = some c) ∧ (w1.frozen? ⟨g, 0, none⟩ = false ∧ w1.frozen? ⟨g, 1, none⟩ = false ∧ w1.frozen? ⟨g, 2, none⟩ = false) ∧ g < w1.heap.size :=
  ⟨⟨by simpa using q.cell 0, by simpa using q.cell 1, by simpa using q.cell 2⟩, ⟨q.free 0, q.free 1, q.free 2⟩, q.blk.1.lt⟩
theorem set3 {w0 w1 : World} {L : List As} {g : Nat} {a b c : Value} (x y z : Value) (q : St w0 w1 (As.cells g #[a, b, c] 95 :: L)) : St w0 (((w1.setCell ⟨g, 0, none⟩ x).setCell ⟨g, 1, none⟩ y).setCell ⟨g, 2, none⟩ z) (As.cells g #[x, y, z] 95 :: L) := by
  have := ((q.set 0 x).set 1 y).set 2 z
  simpa using this

set_option maxRecDepth 100000 in
set_option maxHeartbeats 1000000 in
theorem tpop_st {w0 w : World} {L : List As} {b : Nat} {v : Nat → Value} {ts : List Tm} {nx : Int} (now : Int) (h : St w0 w (tObj b v ts nx :: L)) (hn : ts.length ≤ 100000) :
    Calls Try.prog 31 #[.pointer (some ⟨b, 8, none⟩), .int .i64 now] w (TPopPost b v ts now nx w0 L) := by
  have hbw : b < w.heap.size := by
    obtain ⟨_, _, q⟩ := t_open h
    exact q.blk.1.lt
  have H := Lib.hid (h.new #[.int .i64 0, .int .i64 0, .int .i64 0] 95)
  clear h
  cases ts with
  | nil =>
    go_enter Try.func31, Try.ntmps31
    go_wp2_with fail
    refine (tfirst_st H.out.swap hn).mono ?_
    rintro e w1 ⟨rfl, hb⟩
    have H1 := H.out.of_below hb
    obtain ⟨⟨q0, q1, q2⟩, ⟨f0, f1, f2⟩, hz⟩ := own3 H1
    have HH := Lib.hid H1
    clear H1 hb
    unfold Tm.zero Tm.val
    simp only [List.headD_nil, List.isEmpty_nil, Bool.not_true]
    go_wp2_with fail
    have R := (set3 (.int .i64 0) (.int .i64 0) (.int .i64 0) HH.out).alloc (.cells #[.int .i64 0, .int .i64 0, .int .i64 0] 95)
    obtain ⟨⟨c0, c1, c2⟩, -, -⟩ := own3 R
    refine bodyPost_ret (v := .tuple #[Tm.zero.val, .bool false]) (by simp [results, Try.results31, go_sem, Tm.zero, Tm.val, c0, c1, c2]) rfl (.inr ⟨by simp, rfl, R.drop⟩)
  | cons t ts =>
    by_cases hd : now < t.due
    · have hdb : decide (now < t.due) = true := by simp [hd]
      go_enter Try.func31, Try.ntmps31
      go_wp2_with fail
      refine (tfirst_st H.out.swap hn).mono ?_
      rintro e w1 ⟨rfl, hb⟩
      have H1 := H.out.of_below hb
      obtain ⟨⟨q0, q1, q2⟩, ⟨f0, f1, f2⟩, hz⟩ := own3 H1
      have HH := Lib.hid H1
      clear H1 hb
      unfold Tm.val
      simp only [List.headD_cons, List.isEmpty_cons, Bool.not_false]
      go_wp2_with fail
      have R := (set3 (.int .i64 0) (.int .i64 0) (.int .i64 0) HH.out).alloc (.cells #[.int .i64 t.id, .int .i64 t.due, .int .i64 t.ord] 95)
      obtain ⟨⟨c0, c1, c2⟩, -, -⟩ := own3 R
      refine bodyPost_ret (v := .tuple #[Tm.zero.val, .bool false]) (by simp [results, Try.results31, go_sem, Tm.zero, Tm.val, c0, c1, c2]) rfl (.inr ⟨?_, rfl, R.drop⟩)
      rintro t' r' e
      cases e
      exact hd
    · have hdb : decide (now < t.due) = false := by simpa using hd
      go_enter Try.func31, Try.ntmps31
      go_wp2_with fail
      refine (tfirst_st H.out.swap hn).mono ?_
      rintro e w1 ⟨rfl, hb⟩
      have H1 := ((H.out.of_below hb).new #[.int .i64 t.id, .int .i64 t.due, .int .i64 t.ord] 95).front2
      obtain ⟨s, c, h2⟩ := t_open H1
      have hc := h2.cell 8
      simp at hc
      have H2 := Lib.hid h2
      have hlt : b < w1.heap.size := by
        obtain ⟨s3, c3, q⟩ := t_open (H.out.of_below hb).swap
        exact q.blk.1.lt
      have hcw : w1.cell? ⟨b, 8, none⟩ = some (.slice s (ts.length + 1) c) := by
        rw [← hc]; exact (World.cell?_alloc_lt w1 _ ⟨b, 8, none⟩ hlt).symm
      clear H1 hb h2 hc
      unfold Tm.val
      simp only [List.headD_cons, List.isEmpty_cons, Bool.not_false]
      go_wp2_with fail
      refine (tdel 0 (by simp) 0 1 rfl rfl hn H2.out).mono ?_
      rintro e w2 ⟨s', c', p, rfl, hp, h3⟩
      obtain ⟨hc2, hf2, h4⟩ := tdel_fin hp h3
      obtain ⟨⟨q0, q1, q2⟩, -, hz1⟩ := own3 h3.front2
      obtain ⟨⟨r0, r1, r2⟩, ⟨f0, f1, f2⟩, hz2⟩ := own3 (h3.front2.drop.front2)
      have hn1 : w1.heap.size ≠ b := by omega
      have hn2 : w.heap.size ≠ b := by omega
      have H4 := Lib.hid h4
      clear hcw h3 h4 hp
      go_wp2_with fail
      have R := set3 (.int .i64 t.id) (.int .i64 t.due) (.int .i64 t.ord) H4.out.front2
      obtain ⟨⟨c0, c1, c2⟩, -, -⟩ := own3 R
      refine bodyPost_ret (v := .tuple #[t.val, .bool true]) (by simp [results, Try.results31, go_sem, Tm.val, c0, c1, c2]) rfl (.inl ⟨t, ts, rfl, by omega, rfl, R.drop.swap.drop⟩)
def TClonePost (ts : List Tm) (nx : Int) (w0 : World) (L : List As) (E : Ending) (w' : World) : Prop := ∃ s c, E = .returned (.agg #[.slice s ts.length c, .int .i64 nx]) ∧ St w0 w' (As.row 95 3 s ts.length c (tcells ts) :: L)

set_option maxHeartbeats 1000000 in
theorem tclone_st {w0 w : World} {L : List As} {b : Nat} {v : Nat → Value} {ts : List Tm} {nx : Int} (h : St w0 w (tObj b v ts nx :: L)) (hn : ts.length ≤ 100000) :
    Calls Try.prog 53 #[.pointer (some ⟨b, 8, none⟩)] w (TClonePost ts nx w0 (tObj b v ts nx :: L)) := by
  have H := Lib.hid (h.new #[.slice none 0 0, .int .i64 0] 33)
  obtain ⟨s, c, h0⟩ := t_open h
  have hc0 := h0.cell 8
  have hc1 := h0.cell 9
  simp at hc0 hc1
  have hlt := h0.blk.1.lt
  have hcn : s = none → c = 0 := by
    intro e
    rcases h0.swap.sl.row with ⟨_, _, q⟩ | ⟨g, off, cur, q, _⟩
    · exact q
    · rw [e] at q; cases q
  have HS := Lib.hid ((h0.swap.sl).alloc (.cells #[.slice none 0 0, .int .i64 0] 33)).drew.rd
  have C := Lib.hid (cloneT s ts.length c (tcells ts) _ HS.out hcn (by omega))
  have k0 : ((w.alloc (.cells #[.slice none 0 0, .int .i64 0] 33)).drew).cell? ⟨b, 8, none⟩ = some (.slice s ts.length c) := (World.cell?_alloc_lt w _ ⟨b, 8, none⟩ hlt).trans hc0
  have k1 : ((w.alloc (.cells #[.slice none 0 0, .int .i64 0] 33)).drew).cell? ⟨b, 9, none⟩ = some (.int .i64 nx) := (World.cell?_alloc_lt w _ ⟨b, 9, none⟩ hlt).trans hc1
  have K0 := Lib.hid k0
  have K1 := Lib.hid k1
  clear h h0 hcn k0 k1
  go_enter Try.func53, Try.ntmps53
  go_wp2_with fail
  go_region_held3 (fun w' => w'.cell? ⟨b, 8, none⟩ = some (.slice s ts.length c) ∧ w'.cell? ⟨b, 9, none⟩ = some (.int .i64 nx))
    (first | go_keep | exact ⟨q2.cell K0.out (fun e => e), q2.cell K1.out (fun e => e)⟩ | exact ⟨by rw [World.cell?_setCell_other _ _ _ _ (by first | (simp; done) | (simp; omega)), World.cell?_setCell_other _ _ _ _ (by first | (simp; done) | (simp; omega))]; exact q2.cell K0.out (fun e => e), by rw [World.cell?_setCell_other _ _ _ _ (by first | (simp; done) | (simp; omega)), World.cell?_setCell_other _ _ _ _ (by first | (simp; done) | (simp; omega))]; exact q2.cell K1.out (fun e => e)⟩)
    (first
      | (go_at_call 70; refine C.out.mono ?_; rintro e w1 ⟨s1, c1, rfl, q1, q2, q3⟩; have H1 := Lib.hid (H.out.drew.row_new q1 q2 q3).swap; have r0 := H1.out.cell 0; have r1 := H1.out.cell 1; have f0 := H1.out.free 0; have f1 := H1.out.free 1; simp at r0 r1))
  have h2 := ((H1.out.set 0 (.slice s1 ts.length c1)).set 1 (.int .i64 nx))
  simp at h2
  have hc2 := h2.cell 0
  have hc3 := h2.cell 1
  simp at hc2 hc3
  go_wp2_with fail
  refine bodyPost_ret (v := .agg #[.slice s1 ts.length c1, .int .i64 nx]) (by simp [results, Try.results53, go_sem, hc2, hc3]) rfl ⟨s1, c1, rfl, h2.drop⟩

end Go.Proofs.Ytnamkckpgaopkaa
