/-
  slices.DeleteFunc at transactions; Leave.
-/
import Derived.Test.YtcglnjklnlejmaaSj
import Derived.Test.YtcglnjklnlejmaaKw
set_option linter.unusedVariables false
set_option linter.unusedSimpArgs false
namespace Go.Proofs.Ytcglnjklnlejmaa
open Go.RowKit Go.K Go.K.Sr

set_option maxRecDepth 100000 in
set_option maxHeartbeats 600000 in
theorem idx48 {cap : Value} (p : Tx → Bool) (s : Option Addr) (c : Nat) (ys : List (Tx × Value)) (w : World) (hs : Rd w 4 s ys.length (flat ycells ys)) (hn : ys.length ≤ 100000)
    (hclo : ∀ (x : Tx × Value) (w' : World), Below w.heap.size w w' → Calls Try.prog 48 #[tval x, cap] w' fun e w'' => e = .returned (.bool (p x.1)) ∧ Below w'.heap.size w' w'') :
    Calls Try.prog 59 #[.slice s ys.length c, .func (.func 48) #[] #[cap]] w (IdxPost p ys w) := by
  have HS := Lib.hid hs
  have HC := Lib.hid hclo
  clear hs hclo
  go_enter Try.func59, Try.ntmps59
  go_wp2_with fail
  go_loopg [8] ys.length (IdxRel p ys w)
  case atStart => exact ⟨0, rfl, Nat.zero_le _, rfl, Below.refl _ _, by intro j hj h; omega⟩
  case round =>
    obtain ⟨k, hg, hk, rfl, hb, hall⟩ := hrel
    have Hg := Lib.hid hg
    have HA := Lib.hid hall
    have HB := Lib.hid hb
    have HR := Lib.hid (HS.out.below hb)
    clear hg hall hb
    by_cases hkn : k < ys.length
    · obtain ⟨g, off, rfl, -⟩ := HS.out.addr (by omega)
      obtain ⟨x, hx⟩ : ∃ x, ys[k] = x := ⟨_, rfl⟩
      obtain ⟨d0, d1, d2, d3⟩ := y_at HR.out hkn x hx
      have HX := Lib.hid hx
      have hkn' : (k : Int) < (ys.length : Int) := by omega
      clear hx
      go_wp2_with fail
      refine (HC.out x wr HB.out).mono ?_
      rintro e w2 ⟨rfl, hb2⟩
      have HB2 := Lib.hid (HB.out.trans (hb2.mono HB.out.size))
      clear hb2 d0 d1 d2 d3
      by_cases hp : p x.1 = true
      · have HP := Lib.hid hp
        simp only [hp]
        clear hp
        go_wp2_with fail
        go_ret
        refine ⟨k, rfl, .inl ⟨k, hkn, rfl, ?_, by rw [HX.out]; exact HP.out⟩, HB2.out⟩
        rw [List.findIdx?_eq_some_iff_getElem]
        exact ⟨hkn, by rw [HX.out]; exact HP.out, fun j hj => by simp [HA.out j (by omega) hj]⟩
      · have hp' : p x.1 = false := by simpa using hp
        have HP := Lib.hid hp'
        simp only [hp']
        clear hp hp'
        go_wp2_with fail
        go_roundg (ys.length - (k + 1))
        case measure => have := Hg.out; omega
        case rel =>
          refine ⟨k + 1, rfl, by omega, by simp, HB2.out, fun j hj hjk => ?_⟩
          by_cases e : j = k
          · subst e; rw [HX.out]; exact HP.out
          · exact HA.out j hj (by omega)
    · go_wp2_with fail
      go_ret
      refine ⟨-1, rfl, .inr ⟨rfl, ?_⟩, HB.out⟩
      rw [List.findIdx?_eq_none_iff]
      intro x hx
      obtain ⟨j, hj, rfl⟩ := List.getElem_of_mem hx
      exact HA.out j hj (by omega)

set_option maxHeartbeats 400000 in
theorem clo48 (ow : ByteArray) (b : Nat) (x : Tx × Value) (w : World) (hc : w.cell? ⟨b, 0, none⟩ = some (.string ow)) :
    Calls Try.prog 48 #[tval x, .pointer (some ⟨b, 0, none⟩)] w fun e w' => e = .returned (.bool (x.1.ow.toList == ow.toList)) ∧ Below w.heap.size w w' := by
  have hne : b ≠ w.heap.size := by have := World.block_lt_of_cell? _ _ hc; simp at this; omega
  have hc2 := cell_al (.cells #[.int .i64 x.1.id, .string x.1.ow, .bool x.1.wr, x.2] 36) hc
  go_enter Try.func48, Try.ntmps48
  go_wp2_with fail
  go_ret
  exact ⟨rfl, (Below.refl _ _).alloc (Nat.le_refl _) _⟩

def isOw (ow : ByteArray) (t : Tx) : Bool := t.ow.toList == ow.toList
def keepB (ow : ByteArray) (x : Tx × Value) : Bool := !isOw ow x.1
def kept (ls : List (Tx × Value)) (ow : ByteArray) (j : Nat) : List (Tx × Value) := (ls.take j).filter (keepB ow)
theorem kept_succ (ls : List (Tx × Value)) (ow : ByteArray) (j : Nat) (hj : j < ls.length) : kept ls ow (j + 1) = kept ls ow j ++ (if keepB ow ls[j] then [ls[j]] else []) := by
  unfold kept
  rw [List.take_succ_eq_append_getElem hj, List.filter_append]
  congr 1
  by_cases h : keepB ow ls[j] = true <;> simp [List.filter_cons, h]
theorem kept_le (ls : List (Tx × Value)) (ow : ByteArray) (j : Nat) : (kept ls ow j).length ≤ j := Nat.le_trans (List.length_filter_le _ _) (List.length_take_le _ _)
theorem ycells_one (x : Tx × Value) (h : x.2.oneCell' = true) : ∀ u ∈ ycells x, u.oneCell' = true := by
  intro u hu
  simp [ycells] at hu
  rcases hu with rfl | rfl | rfl | rfl
  · rfl
  · rfl
  · rfl
  · exact h
theorem yx_at {w : World} {g off n : Nat} {ls : List (Tx × Value)} {xs : List Value} (hs : Rd w 4 (some ⟨g, off, none⟩) n xs) {k : Nat} (hd : xs.drop (k * 4) = flat ycells (ls.drop k)) (hk : k < ls.length) (x : Tx × Value) (hx : ls[k] = x) :
    w.cell? ⟨g, off + k * 4, none⟩ = some (.int .i64 x.1.id) ∧ w.cell? ⟨g, off + k * 4 + 1, none⟩ = some (.string x.1.ow) ∧ w.cell? ⟨g, off + k * 4 + 2, none⟩ = some (.bool x.1.wr) ∧ w.cell? ⟨g, off + k * 4 + 3, none⟩ = some x.2 := by
  have e : ∀ j, j < 4 → xs[k * 4 + j]? = (ycells x)[j]? := fun j hj => by
    rw [← List.getElem?_drop, hd, List.drop_eq_getElem_cons hk, hx, flat_cons, List.getElem?_append_left (by exact hj)]
  have c := fun j u h => hs.cells _ rfl j u h
  simp only [Addr.add_lit] at c
  refine ⟨?_, ?_, ?_, ?_⟩
  · have := c _ _ ((e 0 (by omega)).trans rfl); simpa using this
  · have := c _ _ ((e 1 (by omega)).trans rfl); rwa [← Nat.add_assoc] at this
  · have := c _ _ ((e 2 (by omega)).trans rfl); rwa [← Nat.add_assoc] at this
  · have := c _ _ ((e 3 (by omega)).trans rfl); rwa [← Nat.add_assoc] at this
/-- the row, cut off behind p elements, the rest struck -/
theorem row_zap {w0 w : World} {L : List As} {g off n c p : Nat} {xs zs : List Value} (h : St w0 w (As.row 36 4 (some ⟨g, off, none⟩) n c xs :: L)) (hp : p ≤ n) (hz : zs.length = (n - p) * 4) :
    (∃ R, Row w 36 g off (c * 4) R) ∧ St w0 (w.setCells g (off + p * 4) zs) (As.row 36 4 (some ⟨g, off, none⟩) p c (xs.take (p * 4)) :: L) := by
  have hs := h.sl
  have hle := hs.le
  have hcm : c ≤ maxLen := by
    rcases hs.row with ⟨q, _⟩ | ⟨_, _, _, _, _, _, q, _⟩
    · cases q
    · exact q
  obtain ⟨R, hR, hRx⟩ := hs.toRow
  refine ⟨⟨R, hR⟩, ?_⟩
  have hlen := hR.len
  have hR2 := hR.set (p * 4) zs (by rw [hz]; omega)
  have e1 : (R.take (p * 4) ++ zs ++ R.drop (p * 4 + zs.length)).take (p * 4) = xs.take (p * 4) := by
    rw [List.append_assoc, List.take_append_of_le_length (by rw [List.length_take]; omega), List.take_of_length_le (by rw [List.length_take]; omega), ← hRx, List.take_take, Nat.min_eq_left (by omega)]
  have hsl := hR2.sl (n := p) (sz := 4) (by omega) hcm (by
    intro u hu
    rw [e1] at hu
    exact hs.one u (List.mem_of_mem_take hu))
  rw [e1] at hsl
  exact h.row_step hsl (Fr.setCells w g _ _ (rowOf_some g off)) (.inl rfl)
/-- one element of the row is written -/
theorem row_put {w0 w : World} {L : List As} {g off n c i : Nat} {xs : List Value} (h : St w0 w (As.row 36 4 (some ⟨g, off, none⟩) n c xs :: L)) (hi : i < n) (x : Tx × Value) (h1x : x.2.oneCell' = true) :
    St w0 (w.setCells g (off + i * 4) (ycells x)) (As.row 36 4 (some ⟨g, off, none⟩) n c (xs.take (i * 4) ++ ycells x ++ xs.drop (i * 4 + 4)) :: L) := by
  have hs := h.sl
  have hle := hs.le
  have hcm : c ≤ maxLen := by
    rcases hs.row with ⟨q, _⟩ | ⟨_, _, _, _, _, _, q, _⟩
    · cases q
    · exact q
  obtain ⟨R, hR, hRx⟩ := hs.toRow
  have hlen := hR.len
  have hxl := hs.len
  have hl4 : (ycells x).length = 4 := rfl
  have hR2 := hR.set (i * 4) (ycells x) (by rw [hl4]; omega)
  have e1 : (R.take (i * 4) ++ ycells x ++ R.drop (i * 4 + (ycells x).length)).take (n * 4) = xs.take (i * 4) ++ ycells x ++ xs.drop (i * 4 + 4) := by
    have ht : xs.take (i * 4) = R.take (i * 4) := by rw [← hRx, List.take_take, Nat.min_eq_left (by omega)]
    have hd : xs.drop (i * 4 + 4) = (R.drop (i * 4 + 4)).take (n * 4 - (i * 4 + 4)) := by rw [← hRx, List.drop_take]
    have hla : (R.take (i * 4) ++ ycells x).length = i * 4 + 4 := by rw [List.length_append, hl4, List.length_take, Nat.min_eq_left (by omega)]
    rw [ht, hd, hl4, List.take_append, hla, List.take_of_length_le (by rw [hla]; omega)]
  have hsl := hR2.sl (n := n) (sz := 4) (by omega) hcm (by
    intro u hu
    rw [e1] at hu
    rcases List.mem_append.1 hu with q | q
    · rcases List.mem_append.1 q with q | q
      · exact hs.one u (List.mem_of_mem_take q)
      · exact ycells_one x h1x u q
    · exact hs.one u (List.mem_of_mem_drop q))
  rw [e1] at hsl
  exact h.row_step hsl (Fr.setCells w g _ _ (rowOf_some g off)) (.inl rfl)


theorem some_of_isSome {o : Option Value} (h : o.isSome = true) : ∃ v, o = some v := by cases o with | none => cases h | some v => exact ⟨v, rfl⟩
theorem row_some {w0 w : World} {L : List As} {g off n c i : Nat} {xs : List Value} (h : St w0 w (As.row 36 4 (some ⟨g, off, none⟩) n c xs :: L)) (hi : i < n) :
    ∃ a0 a1 a2 a3 : Value, w.cell? ⟨g, off + i * 4, none⟩ = some a0 ∧ w.cell? ⟨g, off + i * 4 + 1, none⟩ = some a1 ∧ w.cell? ⟨g, off + i * 4 + 2, none⟩ = some a2 ∧ w.cell? ⟨g, off + i * 4 + 3, none⟩ = some a3 ∧ (∀ j, w.frozen? ⟨g, j, none⟩ = false) := by
  have hle := h.sl.le
  obtain ⟨R, hR, -⟩ := h.sl.toRow
  have q : ∀ j, j < 4 → ∃ v, w.cell? ⟨g, off + i * 4 + j, none⟩ = some v := fun j hj => by
    have := hR.isSome (j := i * 4 + j) (by omega)
    rw [← Nat.add_assoc] at this
    exact some_of_isSome this
  obtain ⟨a0, e0⟩ := q 0 (by omega)
  obtain ⟨a1, e1⟩ := q 1 (by omega)
  obtain ⟨a2, e2⟩ := q 2 (by omega)
  obtain ⟨a3, e3⟩ := q 3 (by omega)
  exact ⟨a0, a1, a2, a3, e0, e1, e2, e3, hR.free⟩
theorem zlenN (n : Nat) : (zeros (.agg #[.int .i64 0, .string ByteArray.empty, .bool false, .slice none 0 0]) n).length = n * 4 := by
  simp [zeros, Builtin.zeroCells, Value.cells]

def DfRel2 (w0 : World) (L : List As) (ls : List (Tx × Value)) (ow : ByteArray) (bt g off n c : Nat) (gg : Nat) (v5 v6 : Value) (wr : World) : Prop :=
  ∃ (j : Nat) (xs : List Value), gg = n - j ∧ j ≤ n ∧ (kept ls ow j).length < j ∧ v5 = .int .i64 ((kept ls ow j).length : Nat) ∧ v6 = .int .i64 j ∧
    xs.take ((kept ls ow j).length * 4) = flat ycells (kept ls ow j) ∧ xs.drop (j * 4) = flat ycells (ls.drop j) ∧
    St w0 wr (As.row 36 4 (some ⟨g, off, none⟩) n c xs :: As.cells bt #[.string ow] 9 :: L)
theorem df_keep {ls : List (Tx × Value)} {ow : ByteArray} {j : Nat} {xs : List Value} (hj : j < ls.length) (h1 : xs.take ((kept ls ow j).length * 4) = flat ycells (kept ls ow j)) (h2 : xs.drop (j * 4) = flat ycells (ls.drop j)) (hlt : (kept ls ow j).length < j) (hl : xs.length = ls.length * 4) (hk : keepB ow ls[j] = true) :
    (xs.take ((kept ls ow j).length * 4) ++ ycells ls[j] ++ xs.drop ((kept ls ow j).length * 4 + 4)).take ((kept ls ow (j + 1)).length * 4) = flat ycells (kept ls ow (j + 1)) ∧
    (xs.take ((kept ls ow j).length * 4) ++ ycells ls[j] ++ xs.drop ((kept ls ow j).length * 4 + 4)).drop ((j + 1) * 4) = flat ycells (ls.drop (j + 1)) := by
  have e : kept ls ow (j + 1) = kept ls ow j ++ [ls[j]] := by rw [kept_succ ls ow j hj, if_pos hk]
  have hl4 : (ycells ls[j]).length = 4 := rfl
  generalize hK : (kept ls ow j).length = m at *
  have hl1 : (xs.take (m * 4)).length = m * 4 := by rw [List.length_take]; omega
  constructor
  · rw [e, flat_append, flat_one, List.length_append, hK, List.take_append_of_le_length (by simp [hl1, hl4]; omega), List.take_of_length_le (by simp [hl1, hl4]; omega), h1]
  · have h3 : xs.drop ((j + 1) * 4) = flat ycells (ls.drop (j + 1)) := by
      have : xs.drop ((j + 1) * 4) = (xs.drop (j * 4)).drop 4 := by rw [List.drop_drop]; congr 1; omega
      rw [this, h2, List.drop_eq_getElem_cons hj, flat_cons, List.drop_append_of_le_length (by rw [hl4]; omega), List.drop_of_length_le (by rw [hl4]; omega), List.nil_append]
    rw [List.append_assoc, List.drop_append, hl1, List.drop_of_length_le (by rw [hl1]; omega), List.nil_append, List.drop_append, hl4, List.drop_of_length_le (by rw [hl4]; omega), List.nil_append, List.drop_drop, ← h3]
    congr 1
    omega
theorem df_skip {ls : List (Tx × Value)} {ow : ByteArray} {j : Nat} {xs : List Value} (hj : j < ls.length) (h2 : xs.drop (j * 4) = flat ycells (ls.drop j)) (hk : keepB ow ls[j] = false) :
    kept ls ow (j + 1) = kept ls ow j ∧ xs.drop ((j + 1) * 4) = flat ycells (ls.drop (j + 1)) := by
  refine ⟨by rw [kept_succ ls ow j hj, if_neg (by simp [hk]), List.append_nil], ?_⟩
  have hl4 : (ycells ls[j]).length = 4 := rfl
  have : xs.drop ((j + 1) * 4) = (xs.drop (j * 4)).drop 4 := by rw [List.drop_drop]; congr 1; omega
  rw [this, h2, List.drop_eq_getElem_cons hj, flat_cons, List.drop_append_of_le_length (by rw [hl4]; omega), List.drop_of_length_le (by rw [hl4]; omega), List.nil_append]

set_option maxRecDepth 100000 in
set_option maxHeartbeats 1000000 in
theorem delfunc_st {w0 w : World} {L : List As} {s : Option Addr} {n c bt : Nat} (ls : List (Tx × Value)) (ow : ByteArray) (h : St w0 w (As.row 36 4 s n c (flat ycells ls) :: As.cells bt #[.string ow] 9 :: L)) (hl : ls.length = n) (hn : n ≤ 10000) (h1s : ∀ x ∈ ls, ∃ a n c, x.2 = .slice a n c) :
    Calls Try.prog 47 #[.slice s n c, .func (.func 48) #[] #[.pointer (some ⟨bt, 0, none⟩)]] w (DelPostX (kept ls ow n).length (flat ycells (kept ls ow n)) w0 (As.cells bt #[.string ow] 9 :: L)) := by
  subst hl
  have H := Lib.hid h
  have HI := Lib.hid (idx48 (fun t => isOw ow t) s c ls w h.sl.rd (by omega) (fun x w' hb => clo48 ow bt x w' (by have := ((h.of_below hb).blkm (.tail _ (.head _))).cell 0; simpa using this)))
  have H1S := Lib.hid h1s
  clear h h1s
  go_enter Try.func47, Try.ntmps47
  go_wp2_with fail
  (with_reducible refine HI.out.mono ?_)
  rintro e w1 ⟨r, rfl, hr, hb1⟩
  have H1 := Lib.hid (H.out.of_below hb1)
  clear hb1 H HI
  obtain ⟨n, hnn⟩ : ∃ n, ls.length = n := ⟨_, rfl⟩
  rcases hr with ⟨k, hk, rfl, hf, hp⟩ | ⟨rfl, hf⟩
  · obtain ⟨hk0, hp0, ha⟩ := List.findIdx?_eq_some_iff_getElem.1 hf
    obtain ⟨g, off, rfl, -⟩ := (H1.out.sl.rd).addr (by omega)
    have hkk : kept ls ow k = ls.take k := by
      unfold kept
      rw [List.filter_eq_self]
      intro x hx
      obtain ⟨j, hj, rfl⟩ := List.getElem_of_mem hx
      simp at hj
      rw [List.getElem_take]
      have := ha j (by omega)
      unfold keepB
      simpa using this
    have hk1 : kept ls ow (k + 1) = ls.take k := by
      rw [kept_succ ls ow k hk0, hkk, if_neg, List.append_nil]
      unfold keepB
      simpa using hp
    have hkl : (kept ls ow (k + 1)).length = k := by rw [hk1, List.length_take]; omega
    have HK1 := Lib.hid hk1
    have HKL := Lib.hid hkl
    have hne : ((k : Int) == -1) = false := by simp <;> omega
    have hc := H1.out.sl.le
    have hkI : (k : Int) < (ls.length : Int) := by omega
    have HNN := Lib.hid hnn
    clear hf hk hp hp0 ha hkk hk1 hkl hnn
    go_wp2_with fail
    go_loopg [5, 6] (ls.length - (k + 1)) (DfRel2 w0 L ls ow bt g off ls.length c)
    case atStart =>
      refine ⟨k + 1, flat ycells ls, rfl, by omega, by have := HKL.out; omega, by rw [HKL.out], by simp, ?_, ?_, H1.out⟩
      · rw [HKL.out, HK1.out]; exact flat_take (sz := 4) (fun _ => rfl) ls k
      · exact flat_drop (sz := 4) (fun _ => rfl) ls (k + 1)
    case round =>
      obtain ⟨j, xs, hg, hj, hlt, rfl, rfl, hx1, hx2, hp⟩ := hrel
      have Hg := Lib.hid hg
      have HX1 := Lib.hid hx1
      have HX2 := Lib.hid hx2
      have Hp := Lib.hid hp
      obtain ⟨m, hm⟩ : ∃ m, (kept ls ow j).length = m := ⟨_, rfl⟩
      rw [hm] at hlt ⊢
      have hx1' := hx1
      rw [hm] at hx1'
      have HX1' := Lib.hid hx1'
      clear hx1'
      have HM := Lib.hid hm
      clear hg hx1 hx2 hp hm H1
      by_cases hjn : j < ls.length
      · obtain ⟨x, hx⟩ : ∃ x, ls[j] = x := ⟨_, rfl⟩
        obtain ⟨d0, d1, d2, d3⟩ := yx_at Hp.out.sl.rd HX2.out hjn x hx
        have HX := Lib.hid hx
        have hjn' : (j : Int) < (ls.length : Int) := by omega
        have hj0 : (0 : Int) ≤ (j : Int) := by omega
        have hm0 : (0 : Int) ≤ (m : Int) := by omega
        have hmn : (m : Int) < (ls.length : Int) := by omega
        obtain ⟨xa, xn, xc, hx1c⟩ := H1S.out x (by rw [← hx]; exact List.getElem_mem hjn)
        obtain ⟨x, xv⟩ := x
        simp only at hx1c d0 d1 d2 d3
        subst hx1c
        have HC := Lib.hid (fun w2 (hb : Below wr.heap.size wr w2) => clo48 ow bt (x, .slice xa xn xc) w2 (by have := ((Hp.out.of_below hb).blkm (.tail _ (.head _))).cell 0; simpa using this))
        have hba : Below wr.heap.size wr (wr.alloc (.cells #[.int .i64 x.id, .string x.ow, .bool x.wr, .slice xa xn xc] 36)) := (Below.refl _ _).alloc (Nat.le_refl _) _
        have HBA := Lib.hid hba
        clear hx hba
        go_wp2_with fail
        (with_reducible refine (HC.out _ HBA.out).mono ?_)
        rintro e w2 ⟨rfl, hb2⟩
        have hb3 := HBA.out.trans (hb2.mono HBA.out.size)
        have H3 := Lib.hid (Hp.out.of_below hb3)
        have hbx := (Blk.new wr #[.int .i64 x.id, .string x.ow, .bool x.wr, .slice xa xn xc] 36).kept (S := fun _ => False) (Fr.of_below hb2) (fun q => q)
        have b0 := hbx.cell 0
        have b1 := hbx.cell 1
        have b2 := hbx.cell 2
        have b3 := hbx.cell 3
        simp at b0 b1 b2 b3
        have hbl := hbx.lt
        have hgl : g ≠ wr.heap.size := by
          have := World.block_lt_of_cell? _ _ d0
          simp only at this
          omega
        clear d0 d1 d2 d3 hb2 hb3 hbx HC
        cases hsm : isOw ow x with
        | true =>
          have hks := Lib.hid (df_skip hjn HX2.out (by rw [HX.out]; unfold keepB; rw [hsm]; rfl))
          have hsm2 : (x.ow.toList == ow.toList) = true := hsm
          clear hsm
          go_wp2_with fail
          go_roundg (ls.length - (j + 1))
          case measure => have := Hg.out; omega
          case rel =>
            obtain ⟨q1, q2⟩ := hks.out
            exact ⟨j + 1, xs, rfl, by omega, by rw [q1, HM.out]; omega, by rw [q1, HM.out], by simp, by rw [q1]; exact HX1.out, q2, H3.out⟩
        | false =>
          have hks := Lib.hid (df_keep (ow := ow) hjn HX1.out HX2.out (by rw [HM.out]; exact hlt) (by rw [Hp.out.sl.len]) (by rw [HX.out]; unfold keepB; rw [hsm]; rfl))
          have hkl := Lib.hid (show (kept ls ow (j + 1)).length = m + 1 by rw [kept_succ ls ow j hjn, if_pos (by rw [HX.out]; unfold keepB; rw [hsm]; rfl), List.length_append, HM.out]; rfl)
          have H4 := Lib.hid (row_put (i := m) H3.out (by omega) (x, .slice xa xn xc) rfl)
          obtain ⟨z0, z1, z2, z3, y0, y1, y2, y3, hfz⟩ := row_some (i := m) (n := ls.length) H3.out (by omega)
          have f0 := hfz (off + m * 4)
          have f1 := hfz (off + m * 4 + 1)
          have f2 := hfz (off + m * 4 + 2)
          have f3 := hfz (off + m * 4 + 3)
          have hsm2 : (x.ow.toList == ow.toList) = false := hsm
          clear hfz hsm
          go_wp2_with fail
          go_roundg (ls.length - (j + 1))
          case measure => have := Hg.out; omega
          case rel =>
            obtain ⟨q1, q2⟩ := hks.out
            rw [HM.out, HX.out] at q1 q2
            refine ⟨j + 1, _, rfl, by omega, by rw [hkl.out]; omega, by rw [hkl.out]; simp, by simp, q1, q2, ?_⟩
            have h5 := H4.out
            simp only [ycells, World.setCells, Nat.add_assoc, Nat.reduceAdd] at h5 ⊢
            exact h5
      · obtain rfl : j = ls.length := by omega
        rw [HM.out]
        obtain ⟨⟨R, hR⟩, hz⟩ := row_zap (p := m) (zs := zeros (.agg #[.int .i64 0, .string ByteArray.empty, .bool false, .slice none 0 0]) (ls.length - m)) Hp.out (by omega) (zlenN _)
        rw [HX1'.out] at hz
        have hclr := fun ty => run_clear_row elX.und zvX zoneX hR ty (m * 4) (ls.length - m) (c - m) (by omega) (by rw [zlenN]; omega)
        have hrun1 := fun kd W => slice_l_some (P := Try.prog) elX g off ls.length c m (by omega) (by omega) kd W
        have hrun2 := fun kd W => slice_h_some (P := Try.prog) elX g off ls.length c m (by omega) (by omega) kd W
        have Hclr := Lib.hid hclr
        have Hz := Lib.hid hz
        clear hclr hz hR
        obtain ⟨q, hq⟩ : ∃ q, ls.length - m = q := ⟨_, rfl⟩
        obtain ⟨q2, hq2⟩ : ∃ q2, c - m = q2 := ⟨_, rfl⟩
        rw [hq, hq2] at hrun1 Hclr
        rw [hq] at Hz
        clear hq hq2
        go_wp2_with (refine wpList_clear_eq rfl (.tmp 38) 26 rfl _ _ rfl (Hclr.out _) ?_)
        go_ret
        unfold DelPostX
        rw [HM.out]
        exact ⟨_, _, rfl, Hz.out⟩
  · have hkn : kept ls ow ls.length = ls := by
      rw [List.findIdx?_eq_none_iff] at hf
      unfold kept
      rw [List.take_length, List.filter_eq_self]
      intro x hx
      unfold keepB
      simpa using hf x hx
    have HKN := Lib.hid hkn
    clear hf hkn hnn
    go_wp2_with fail
    go_ret
    unfold DelPostX
    rw [HKN.out]
    exact ⟨_, _, rfl, H1.out⟩
end Go.Proofs.Ytcglnjklnlejmaa
