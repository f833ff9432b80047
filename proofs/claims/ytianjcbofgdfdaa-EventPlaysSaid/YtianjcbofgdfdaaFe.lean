/-
  Contracts of slices.DeleteFunc at listeners and of Drop.
-/
import Derived.Test.YtianjcbofgdfdaaFd
set_option linter.unusedVariables false
set_option linter.unusedSimpArgs false
namespace Go.Proofs.Ytianjcbofgdfdaa
open Go.RowKit Go.K Go.K.Ev

def keepB (t : Tg) (x : Li) : Bool := !Tg.same x.tg t
def kept (ls : List Li) (t : Tg) (j : Nat) : List Li := (ls.take j).filter (keepB t)
theorem kept_succ (ls : List Li) (t : Tg) (j : Nat) (hj : j < ls.length) : kept ls t (j + 1) = kept ls t j ++ (if keepB t ls[j] then [ls[j]] else []) := by
  unfold kept
  rw [List.take_succ_eq_append_getElem hj, List.filter_append]
  congr 1
  by_cases h : keepB t ls[j] = true <;> simp [List.filter_cons, h]
theorem kept_le (ls : List Li) (t : Tg) (j : Nat) : (kept ls t j).length ≤ j := Nat.le_trans (List.length_filter_le _ _) (List.length_take_le _ _)

theorem lx_at {w : World} {g off n : Nat} {ls : List Li} {xs : List Value} (hs : Rd w 8 (some ⟨g, off, none⟩) n xs) {k : Nat} (hd : xs.drop (k * 8) = flat lcells (ls.drop k)) (hk : k < ls.length) (x : Li) (hx : ls[k] = x) :
    w.cell? ⟨g, off + k * 8, none⟩ = some (.int .i64 x.id) ∧ w.cell? ⟨g, off + k * 8 + 1, none⟩ = some (.int .i64 x.tg.kind) ∧ w.cell? ⟨g, off + k * 8 + 1 + 1, none⟩ = some (.int .i64 x.tg.id) ∧ w.cell? ⟨g, off + k * 8 + 3, none⟩ = some (.string x.ty) ∧
    w.cell? ⟨g, off + k * 8 + 4, none⟩ = some (.int .i64 x.cb) ∧ w.cell? ⟨g, off + k * 8 + 5, none⟩ = some (.bool x.cap) ∧ w.cell? ⟨g, off + k * 8 + 6, none⟩ = some (.bool x.once) ∧ w.cell? ⟨g, off + k * 8 + 7, none⟩ = some (.bool x.pas) := by
  have e : ∀ j, j < 8 → xs[k * 8 + j]? = (lcells x)[j]? := fun j hj => by
    rw [← List.getElem?_drop, hd, List.drop_eq_getElem_cons hk, hx, flat_cons, List.getElem?_append_left (by exact hj)]
  obtain ⟨a0, a1, a2, a3, a4, a5, a6, a7⟩ := lcells8 x
  have c := fun j u h => hs.cells _ rfl j u h
  simp only [Addr.add_lit] at c
  refine ⟨?_, ?_, ?_, ?_, ?_, ?_, ?_, ?_⟩
  · have := c _ _ ((e 0 (by omega)).trans a0); simpa using this
  · have := c _ _ ((e 1 (by omega)).trans a1); rwa [← Nat.add_assoc] at this
  · have := c _ _ ((e 2 (by omega)).trans a2); rwa [show off + (k * 8 + 2) = off + k * 8 + 1 + 1 by omega] at this
  · have := c _ _ ((e 3 (by omega)).trans a3); rwa [← Nat.add_assoc] at this
  · have := c _ _ ((e 4 (by omega)).trans a4); rwa [← Nat.add_assoc] at this
  · have := c _ _ ((e 5 (by omega)).trans a5); rwa [← Nat.add_assoc] at this
  · have := c _ _ ((e 6 (by omega)).trans a6); rwa [← Nat.add_assoc] at this
  · have := c _ _ ((e 7 (by omega)).trans a7); rwa [← Nat.add_assoc] at this

/-- the row, cut off behind p elements, the rest struck -/
theorem row_zap {w0 w : World} {L : List As} {g off n c p : Nat} {xs zs : List Value} (h : St w0 w (As.row 41 8 (some ⟨g, off, none⟩) n c xs :: L)) (hp : p ≤ n) (hz : zs.length = (n - p) * 8) :
    (∃ R, Row w 41 g off (c * 8) R) ∧ St w0 (w.setCells g (off + p * 8) zs) (As.row 41 8 (some ⟨g, off, none⟩) p c (xs.take (p * 8)) :: L) := by
  have hs := h.sl
  have hle := hs.le
  have hcm : c ≤ maxLen := by
    rcases hs.row with ⟨q, _⟩ | ⟨_, _, _, _, _, _, q, _⟩
    · cases q
    · exact q
  obtain ⟨R, hR, hRx⟩ := hs.toRow
  refine ⟨⟨R, hR⟩, ?_⟩
  have hlen := hR.len
  have hR2 := hR.set (p * 8) zs (by rw [hz]; omega)
  have e1 : (R.take (p * 8) ++ zs ++ R.drop (p * 8 + zs.length)).take (p * 8) = xs.take (p * 8) := by
    rw [List.append_assoc, List.take_append_of_le_length (by rw [List.length_take]; omega), List.take_of_length_le (by rw [List.length_take]; omega), ← hRx, List.take_take, Nat.min_eq_left (by omega)]
  have hsl := hR2.sl (n := p) (sz := 8) (by omega) hcm (by
    intro u hu
    rw [e1] at hu
    exact hs.one u (List.mem_of_mem_take hu))
  rw [e1] at hsl
  exact h.row_step hsl (Fr.setCells w g _ _ (rowOf_some g off)) (.inl rfl)
/-- one element of the row is written -/
theorem row_put {w0 w : World} {L : List As} {g off n c i : Nat} {xs : List Value} (h : St w0 w (As.row 41 8 (some ⟨g, off, none⟩) n c xs :: L)) (hi : i < n) (x : Li) :
    St w0 (w.setCells g (off + i * 8) (lcells x)) (As.row 41 8 (some ⟨g, off, none⟩) n c (xs.take (i * 8) ++ lcells x ++ xs.drop (i * 8 + 8)) :: L) := by
  have hs := h.sl
  have hle := hs.le
  have hcm : c ≤ maxLen := by
    rcases hs.row with ⟨q, _⟩ | ⟨_, _, _, _, _, _, q, _⟩
    · cases q
    · exact q
  obtain ⟨R, hR, hRx⟩ := hs.toRow
  have hlen := hR.len
  have hxl := hs.len
  have hl8 : (lcells x).length = 8 := rfl
  have hR2 := hR.set (i * 8) (lcells x) (by rw [hl8]; omega)
  have e1 : (R.take (i * 8) ++ lcells x ++ R.drop (i * 8 + (lcells x).length)).take (n * 8) = xs.take (i * 8) ++ lcells x ++ xs.drop (i * 8 + 8) := by
    have ht : xs.take (i * 8) = R.take (i * 8) := by rw [← hRx, List.take_take, Nat.min_eq_left (by omega)]
    have hd : xs.drop (i * 8 + 8) = (R.drop (i * 8 + 8)).take (n * 8 - (i * 8 + 8)) := by rw [← hRx, List.drop_take]
    have hla : (R.take (i * 8) ++ lcells x).length = i * 8 + 8 := by rw [List.length_append, hl8, List.length_take, Nat.min_eq_left (by omega)]
    rw [ht, hd, hl8, List.take_append, hla, List.take_of_length_le (by rw [hla]; omega)]
  have hsl := hR2.sl (n := n) (sz := 8) (by omega) hcm (by
    intro u hu
    rw [e1] at hu
    rcases List.mem_append.1 hu with q | q
    · rcases List.mem_append.1 q with q | q
      · exact hs.one u (List.mem_of_mem_take q)
      · exact lcells_one x u q
    · exact hs.one u (List.mem_of_mem_drop q))
  rw [e1] at hsl
  exact h.row_step hsl (Fr.setCells w g _ _ (rowOf_some g off)) (.inl rfl)

theorem some_of_isSome {o : Option Value} (h : o.isSome = true) : ∃ v, o = some v := by cases o with | none => cases h | some v => exact ⟨v, rfl⟩
theorem row_some {w0 w : World} {L : List As} {g off n c i : Nat} {xs : List Value} (h : St w0 w (As.row 41 8 (some ⟨g, off, none⟩) n c xs :: L)) (hi : i < n) :
    ∃ a0 a1 a2 a3 a4 a5 a6 a7 : Value, w.cell? ⟨g, off + i * 8, none⟩ = some a0 ∧ w.cell? ⟨g, off + i * 8 + 1, none⟩ = some a1 ∧ w.cell? ⟨g, off + i * 8 + 2, none⟩ = some a2 ∧ w.cell? ⟨g, off + i * 8 + 3, none⟩ = some a3 ∧ w.cell? ⟨g, off + i * 8 + 4, none⟩ = some a4 ∧ w.cell? ⟨g, off + i * 8 + 5, none⟩ = some a5 ∧ w.cell? ⟨g, off + i * 8 + 6, none⟩ = some a6 ∧ w.cell? ⟨g, off + i * 8 + 7, none⟩ = some a7 ∧
      (∀ j, w.frozen? ⟨g, j, none⟩ = false) := by
  have hle := h.sl.le
  obtain ⟨R, hR, -⟩ := h.sl.toRow
  have q : ∀ j, j < 8 → ∃ v, w.cell? ⟨g, off + i * 8 + j, none⟩ = some v := fun j hj => by
    have := hR.isSome (j := i * 8 + j) (by omega)
    rw [← Nat.add_assoc] at this
    exact some_of_isSome this
  obtain ⟨a0, e0⟩ := q 0 (by omega)
  obtain ⟨a1, e1⟩ := q 1 (by omega)
  obtain ⟨a2, e2⟩ := q 2 (by omega)
  obtain ⟨a3, e3⟩ := q 3 (by omega)
  obtain ⟨a4, e4⟩ := q 4 (by omega)
  obtain ⟨a5, e5⟩ := q 5 (by omega)
  obtain ⟨a6, e6⟩ := q 6 (by omega)
  obtain ⟨a7, e7⟩ := q 7 (by omega)
  exact ⟨a0, a1, a2, a3, a4, a5, a6, a7, e0, e1, e2, e3, e4, e5, e6, e7, hR.free⟩

theorem zlenN (n : Nat) : (zeros (.agg #[.int .i64 0, .int .i64 0, .int .i64 0, .string ByteArray.empty, .int .i64 0, .bool false, .bool false, .bool false]) n).length = n * 8 := by
  simp [zeros, Builtin.zeroCells, Value.cells]

def DfRel2 (w0 : World) (L : List As) (ls : List Li) (t : Tg) (bt g off n c : Nat) (gg : Nat) (v5 v6 : Value) (wr : World) : Prop :=
  ∃ (j : Nat) (xs : List Value), gg = n - j ∧ j ≤ n ∧ (kept ls t j).length < j ∧ v5 = .int .i64 ((kept ls t j).length : Nat) ∧ v6 = .int .i64 j ∧
    xs.take ((kept ls t j).length * 8) = flat lcells (kept ls t j) ∧ xs.drop (j * 8) = flat lcells (ls.drop j) ∧
    St w0 wr (As.row 41 8 (some ⟨g, off, none⟩) n c xs :: As.cells bt #[.int .i64 t.kind, .int .i64 t.id] 39 :: L)

theorem df_keep {ls : List Li} {t : Tg} {j : Nat} {xs : List Value} (hj : j < ls.length) (h1 : xs.take ((kept ls t j).length * 8) = flat lcells (kept ls t j)) (h2 : xs.drop (j * 8) = flat lcells (ls.drop j)) (hlt : (kept ls t j).length < j) (hl : xs.length = ls.length * 8) (hk : keepB t ls[j] = true) :
    (xs.take ((kept ls t j).length * 8) ++ lcells ls[j] ++ xs.drop ((kept ls t j).length * 8 + 8)).take ((kept ls t (j + 1)).length * 8) = flat lcells (kept ls t (j + 1)) ∧
    (xs.take ((kept ls t j).length * 8) ++ lcells ls[j] ++ xs.drop ((kept ls t j).length * 8 + 8)).drop ((j + 1) * 8) = flat lcells (ls.drop (j + 1)) := by
  have e : kept ls t (j + 1) = kept ls t j ++ [ls[j]] := by rw [kept_succ ls t j hj, if_pos hk]
  have hl8 : (lcells ls[j]).length = 8 := rfl
  generalize hK : (kept ls t j).length = m at *
  have hl1 : (xs.take (m * 8)).length = m * 8 := by rw [List.length_take]; omega
  constructor
  · rw [e, flat_append, flat_one, List.length_append, hK, List.take_append_of_le_length (by simp [hl1, hl8]; omega), List.take_of_length_le (by simp [hl1, hl8]; omega), h1]
  · have h3 : xs.drop ((j + 1) * 8) = flat lcells (ls.drop (j + 1)) := by
      have : xs.drop ((j + 1) * 8) = (xs.drop (j * 8)).drop 8 := by rw [List.drop_drop]; congr 1; omega
      rw [this, h2, List.drop_eq_getElem_cons hj, flat_cons, List.drop_append_of_le_length (by rw [hl8]; omega), List.drop_of_length_le (by rw [hl8]; omega), List.nil_append]
    rw [List.append_assoc, List.drop_append, hl1, List.drop_of_length_le (by rw [hl1]; omega), List.nil_append, List.drop_append, hl8, List.drop_of_length_le (by rw [hl8]; omega), List.nil_append, List.drop_drop, ← h3]
    congr 1
    omega
theorem df_skip {ls : List Li} {t : Tg} {j : Nat} {xs : List Value} (hj : j < ls.length) (h2 : xs.drop (j * 8) = flat lcells (ls.drop j)) (hk : keepB t ls[j] = false) :
    kept ls t (j + 1) = kept ls t j ∧ xs.drop ((j + 1) * 8) = flat lcells (ls.drop (j + 1)) := by
  refine ⟨by rw [kept_succ ls t j hj, if_neg (by simp [hk]), List.append_nil], ?_⟩
  have hl8 : (lcells ls[j]).length = 8 := rfl
  have : xs.drop ((j + 1) * 8) = (xs.drop (j * 8)).drop 8 := by rw [List.drop_drop]; congr 1; omega
  rw [this, h2, List.drop_eq_getElem_cons hj, flat_cons, List.drop_append_of_le_length (by rw [hl8]; omega), List.drop_of_length_le (by rw [hl8]; omega), List.nil_append]

set_option maxRecDepth 100000 in
set_option maxHeartbeats 2000000 in
theorem delfunc_st {w0 w : World} {L : List As} {s : Option Addr} {n c bt : Nat} (ls : List Li) (t : Tg) (h : St w0 w (As.row 41 8 s n c (flat lcells ls) :: As.cells bt #[.int .i64 t.kind, .int .i64 t.id] 39 :: L)) (hl : ls.length = n) (hn : n ≤ 10000) :
    Calls Try.prog 47 #[.slice s n c, .func (.func 48) #[] #[.pointer (some ⟨bt, 0, none⟩)]] w (DelPostL (kept ls t n).length (flat lcells (kept ls t n)) w0 (As.cells bt #[.int .i64 t.kind, .int .i64 t.id] 39 :: L)) := by
  have H := Lib.hid h
  have HL := Lib.hid hl
  have HI := Lib.hid (idxfunc 48 (.inr (.inr rfl)) (.pointer (some ⟨bt, 0, none⟩)) (fun x => Tg.same x.tg t) s n c ls w h.sl.rd hl (by omega) (fun x w' hb => clo_tg x t bt w' ((h.of_below hb).blkm (.tail _ (.head _)))))
  clear h hl
  go_enter Try.func47, Try.ntmps47
  go_wp2_with fail
  (with_reducible refine HI.out.mono ?_)
  rintro e w1 ⟨r, rfl, hr, hb1⟩
  have H1 := Lib.hid (H.out.of_below hb1)
  clear hb1 H HI
  rcases hr with ⟨k, hk, rfl, hf, hp⟩ | ⟨rfl, hf⟩
  · obtain ⟨hk0, hp0, ha⟩ := List.findIdx?_eq_some_iff_getElem.1 hf
    have hkn : k < n := by have := HL.out; omega
    obtain ⟨g, off, rfl, -⟩ := (H1.out.sl.rd).addr (by omega)
    have hkk : kept ls t k = ls.take k := by
      unfold kept
      rw [List.filter_eq_self]
      intro x hx
      obtain ⟨j, hj, rfl⟩ := List.getElem_of_mem hx
      simp at hj
      rw [List.getElem_take]
      have := ha j (by omega)
      unfold keepB
      simpa using this
    have hk1 : kept ls t (k + 1) = ls.take k := by
      rw [kept_succ ls t k hk0, hkk, if_neg, List.append_nil]
      unfold keepB
      simpa using hp
    have hkl : (kept ls t (k + 1)).length = k := by rw [hk1, List.length_take]; omega
    have h3 := H1.out.sl.len
    have HK1 := Lib.hid hk1
    have HKL := Lib.hid hkl
    have hne : ((k : Int) == -1) = false := by simp <;> omega
    have hc := H1.out.sl.le
    clear hf hk hp hk0 hp0 ha hkk hk1 hkl h3
    go_wp2_with fail
    go_loopg [5, 6] (n - (k + 1)) (DfRel2 w0 L ls t bt g off n c)
    case atStart =>
      refine ⟨k + 1, flat lcells ls, rfl, by omega, by have := HKL.out; omega, by rw [HKL.out], by simp, ?_, ?_, H1.out⟩
      · rw [HKL.out, HK1.out]; exact flat_take (sz := 8) (fun _ => rfl) ls k
      · exact flat_drop (sz := 8) (fun _ => rfl) ls (k + 1)
    case round =>
      obtain ⟨j, xs, hg, hj, hlt, rfl, rfl, hx1, hx2, hp⟩ := hrel
      have Hg := Lib.hid hg
      have HX1 := Lib.hid hx1
      have HX2 := Lib.hid hx2
      have Hp := Lib.hid hp
      obtain ⟨m, hm⟩ : ∃ m, (kept ls t j).length = m := ⟨_, rfl⟩
      rw [hm] at hlt ⊢
      have hx1' := hx1
      rw [hm] at hx1'
      have HX1' := Lib.hid hx1'
      clear hx1'
      have HM := Lib.hid hm
      clear hg hx1 hx2 hp hm H1
      by_cases hjn : j < n
      · have hjl : j < ls.length := by rw [HL.out]; exact hjn
        obtain ⟨x, hx⟩ : ∃ x, ls[j] = x := ⟨_, rfl⟩
        obtain ⟨d0, d1, d2, d3, d4, d5, d6, d7⟩ := lx_at Hp.out.sl.rd HX2.out hjl x hx
        have HX := Lib.hid hx
        have hjn' : (j : Int) < (n : Int) := by omega
        have hj0 : (0 : Int) ≤ (j : Int) := by omega
        have hm0 : (0 : Int) ≤ (m : Int) := by omega
        have hmn : (m : Int) < (n : Int) := by omega
        have HC := Lib.hid (fun w2 (hb : Below wr.heap.size wr w2) => clo_tg x t bt w2 ((Hp.out.of_below hb).blkm (.tail _ (.head _))))
        have hba : Below wr.heap.size wr (wr.alloc (.cells (lrow x) 41)) := (Below.refl _ _).alloc (Nat.le_refl _) _
        have HBA := Lib.hid hba
        obtain ⟨x0, ⟨x1, x2⟩, x3, x4, x5, x6, x7⟩ := x
        simp only at d0 d1 d2 d3 d4 d5 d6 d7
        unfold lval at HC
        unfold lrow at HBA
        clear hx hba
        go_wp2_with fail
        (with_reducible refine (HC.out _ HBA.out).mono ?_)
        rintro e w2 ⟨rfl, hb2⟩
        have hb3 := HBA.out.trans (hb2.mono HBA.out.size)
        have H3 := Lib.hid (Hp.out.of_below hb3)
        have hbx := (Blk.new wr #[.int .i64 x0, .int .i64 x1, .int .i64 x2, .string x3, .int .i64 x4, .bool x5, .bool x6, .bool x7] 41).kept (S := fun _ => False) (Fr.of_below hb2) (fun q => q)
        obtain ⟨b0, b1, b2, b3, b4, b5, b6, b7⟩ := Blk.c8 hbx
        have hbl := hbx.lt
        have hgl : g ≠ wr.heap.size := by
          have := World.block_lt_of_cell? _ _ d0
          simp only at this
          omega
        clear d0 d1 d2 d3 d4 d5 d6 d7 hb2 hb3 hbx HC
        cases hsm : Tg.same ⟨x1, x2⟩ t with
        | true =>
          have hks := Lib.hid (df_skip hjl HX2.out (by rw [HX.out]; unfold keepB; rw [hsm]; rfl))
          clear hsm
          go_wp2_with fail
          go_roundg (n - (j + 1))
          case measure => have := Hg.out; omega
          case rel =>
            obtain ⟨q1, q2⟩ := hks.out
            exact ⟨j + 1, xs, rfl, by omega, by rw [q1, HM.out]; omega, by rw [q1, HM.out], by simp, by rw [q1]; exact HX1.out, q2, H3.out⟩
        | false =>
          have hks := Lib.hid (df_keep (t := t) hjl HX1.out HX2.out (by rw [HM.out]; exact hlt) (by rw [Hp.out.sl.len, HL.out]) (by rw [HX.out]; unfold keepB; rw [hsm]; rfl))
          have hkl := Lib.hid (show (kept ls t (j + 1)).length = m + 1 by rw [kept_succ ls t j hjl, if_pos (by rw [HX.out]; unfold keepB; rw [hsm]; rfl), List.length_append, HM.out]; rfl)
          have H4 := Lib.hid (row_put (i := m) H3.out (by omega) ⟨x0, ⟨x1, x2⟩, x3, x4, x5, x6, x7⟩)
          obtain ⟨z0, z1, z2, z3, z4, z5, z6, z7, y0, y1, y2, y3, y4, y5, y6, y7, hfz⟩ := row_some (i := m) (n := n) H3.out (by omega)
          have f0 := hfz (off + m * 8)
          have f1 := hfz (off + m * 8 + 1)
          have f2 := hfz (off + m * 8 + 2)
          have f3 := hfz (off + m * 8 + 3)
          have f4 := hfz (off + m * 8 + 4)
          have f5 := hfz (off + m * 8 + 5)
          have f6 := hfz (off + m * 8 + 6)
          have f7 := hfz (off + m * 8 + 7)
          clear hfz
          clear hsm
          go_wp2_with fail
          go_roundg (n - (j + 1))
          case measure => have := Hg.out; omega
          case rel =>
            obtain ⟨q1, q2⟩ := hks.out
            rw [HM.out, HX.out] at q1 q2
            refine ⟨j + 1, _, rfl, by omega, by rw [hkl.out]; omega, by rw [hkl.out]; simp, by simp, q1, q2, ?_⟩
            have h5 := H4.out
            simp only [lcells, World.setCells, Nat.add_assoc, Nat.reduceAdd] at h5 ⊢
            exact h5
      · obtain rfl : j = n := by omega
        rw [HM.out]
        obtain ⟨⟨R, hR⟩, hz⟩ := row_zap (p := m) (zs := zeros (.agg #[.int .i64 0, .int .i64 0, .int .i64 0, .string ByteArray.empty, .int .i64 0, .bool false, .bool false, .bool false]) (j - m)) Hp.out (by omega) (zlenN _)
        rw [HX1'.out] at hz
        have hclr := fun ty => run_clear_row elL.und zvL zoneL hR ty (m * 8) (j - m) (c - m) (by omega) (by rw [zlenN]; omega)
        have hrun1 := fun kd W => slice_l_some (P := Try.prog) elL g off j c m (by omega) (by omega) kd W
        have hrun2 := fun kd W => slice_h_some (P := Try.prog) elL g off j c m (by omega) (by omega) kd W
        have Hclr := Lib.hid hclr
        have Hz := Lib.hid hz
        clear hclr hz hR
        obtain ⟨q, hq⟩ : ∃ q, j - m = q := ⟨_, rfl⟩
        obtain ⟨q2, hq2⟩ : ∃ q2, c - m = q2 := ⟨_, rfl⟩
        rw [hq, hq2] at hrun1 Hclr
        rw [hq] at Hz
        clear hq hq2
        go_wp2_with (refine wpList_clear_eq rfl (.tmp 38) 30 rfl _ _ rfl (Hclr.out _) ?_)
        go_ret
        unfold DelPostL
        rw [HM.out]
        exact ⟨_, _, rfl, Hz.out⟩
  · have hkn : kept ls t n = ls := by
      rw [List.findIdx?_eq_none_iff] at hf
      unfold kept
      rw [List.take_of_length_le (by have := HL.out; omega), List.filter_eq_self]
      intro x hx
      unfold keepB
      simpa using hf x hx
    have HKN := Lib.hid hkn
    clear hf hkn
    go_wp2_with fail
    go_ret
    unfold DelPostL
    rw [HKN.out, HL.out]
    exact ⟨_, _, rfl, H1.out⟩

def LDropPost (b : Nat) (S : Ls) (t : Tg) (w0 : World) (L : List As) (E : Ending) (w' : World) : Prop :=
  E = .returned (.int .i64 ((S.l.length : Int) - ((S.drop t).l.length : Int))) ∧ St w0 w' (lObj b (S.drop t) :: L)
theorem kept_drop (S : Ls) (t : Tg) : kept S.l t S.l.length = (S.drop t).l := by
  unfold kept Ls.drop
  rw [List.take_length]; rfl

set_option maxRecDepth 100000 in
set_option maxHeartbeats 2000000 in
theorem ldrop_st {w0 w : World} {L : List As} {b : Nat} {S : Ls} (t : Tg) (h : St w0 w (lObj b S :: L)) (hn : S.l.length ≤ 10000) :
    Calls Try.prog 31 #[.pointer (some ⟨b, 0, none⟩), .agg #[.int .i64 t.kind, .int .i64 t.id]] w (LDropPost b S t w0 L) := by
  obtain ⟨s, c, h1⟩ := l_open h
  have h2 := St.sh [_, _, _] [2, 0, 1] (by decide) (h1.new #[.int .i64 t.kind, .int .i64 t.id] 39)
  simp only [List.map_cons, List.map_nil, List.getD_cons_zero, List.getD_cons_succ, List.cons_append, List.nil_append] at h2
  have HD := Lib.hid (delfunc_st S.l t h2 rfl hn)
  obtain ⟨c0, c1, f0, f1⟩ := h1.two
  have hbl := h1.blk.1.lt
  have hle := Nat.le_trans (kept_le S.l t S.l.length) hn
  have hkd := kept_drop S t
  rw [hkd] at HD hle
  have hle2 : (S.drop t).l.length ≤ S.l.length := by rw [← hkd]; exact kept_le _ _ _
  clear h h1 h2 hkd
  go_enter Try.func31, Try.ntmps31
  go_wp2_with fail
  (with_reducible refine HD.out.mono ?_)
  rintro e w2 ⟨s', c', rfl, h3⟩
  have h4 := St.sh [_, _, _] [2, 0, 1] (by decide) h3
  simp only [List.map_cons, List.map_nil, List.getD_cons_zero, List.getD_cons_succ, List.cons_append, List.nil_append] at h4
  obtain ⟨e0, e1, g0, g1⟩ := h4.two
  have h5 := h4.set 0 (.slice s' (S.drop t).l.length c')
  have h6 := St.sh [_, _, _] [0, 1, 2] (by decide) h5
  simp only [List.map_cons, List.map_nil, List.getD_cons_zero, List.getD_cons_succ, List.cons_append, List.nil_append] at h6
  have h7 := l_shut (S := S.drop t) (s := s') (c := c') (by
    have q : (S.drop t).nx = S.nx := rfl
    rw [q]
    simpa using h6)
  have h8 := h7.swap.drop
  have H8 := Lib.hid h8
  clear h3 h4 h5 h6 h7 h8 c0 c1 f0 f1 HD
  go_wp2_with fail
  go_ret
  exact ⟨rfl, H8.out⟩
end Go.Proofs.Ytianjcbofgdfdaa
