/-
  Contracts of slices.Delete and slices.Clone at calls and shots.
-/
import Derived.Test.YtnamkckpgaopkaaLb
set_option linter.unusedVariables false
set_option linter.unusedSimpArgs false
namespace Go.Proofs.Ytnamkckpgaopkaa
open Go.RowKit Go.K

theorem infoC : (Try.prog.info? 48).map (fun i => (i.zero, i.size, i.bytes)) = some (some (.agg #[.int .i64 0, .int .i64 0, .int .i64 0, .int .i64 0, .string { data := #[] }, .int .i64 0, .slice none 0 0]), 7, 80) := by kernel_rfl
theorem elC : El Try.prog 34 48 7 80 := by
  obtain ⟨i, hi, h1, h2, h3⟩ := info_parts infoC
  exact ⟨by kernel_rfl, ⟨i, _, hi, h1, h2, h3, rfl⟩, by decide⟩
theorem zvC (w : World) : (zeroValue 48).run Try.prog w = .ok (.agg #[.int .i64 0, .int .i64 0, .int .i64 0, .int .i64 0, .string { data := #[] }, .int .i64 0, .slice none 0 0]) w := by kernel_rfl
theorem zlenC : (zeros (.agg #[.int .i64 0, .int .i64 0, .int .i64 0, .int .i64 0, .string { data := #[] }, .int .i64 0, .slice none 0 0]) 1).length = 7 := by kernel_rfl
theorem zoneC (n : Nat) : ∀ u ∈ zeros (.agg #[.int .i64 0, .int .i64 0, .int .i64 0, .int .i64 0, .string { data := #[] }, .int .i64 0, .slice none 0 0]) n, u.oneCell' = true := by
  intro u hu
  simp only [zeros, Builtin.zeroCells, Array.toList_map, List.mem_map] at hu
  obtain ⟨i, _, rfl⟩ := hu
  have hall : ∀ j, j < 7 → ((.agg #[.int .i64 0, .int .i64 0, .int .i64 0, .int .i64 0, .string { data := #[] }, .int .i64 0, .slice none 0 0] : Value).cells[j]!).oneCell' = true := by decide
  exact hall _ (Nat.mod_lt _ (by decide))

def DelPostC (p : Nat) (xs : List Value) (w0 : World) (L : List As) (E : Ending) (w' : World) : Prop := ∃ s' c', E = .returned (.slice s' p c') ∧ St w0 w' (As.row 48 7 s' p c' xs :: L)

theorem del_rowsC {w0 w : World} {L : List As} {g off i m p n c : Nat} {A X B : List Value} (h : St w0 w (As.row 48 7 (some ⟨g, off, none⟩) n c (A ++ X ++ B) :: L))
    (hA : A.length = i * 7) (hX : X.length = 7) (hB : B.length = m * 7) (hp : i + m = p) (hn : n = p + 1) :
    (∃ R, Row w 48 g off (c * 7) R) ∧ (∃ R, Row (w.drew.setCells g (off + i * 7) B) 48 g off (c * 7) R) ∧ ∀ zs : List Value, zs.length = 7 → St w0 ((w.drew.setCells g (off + i * 7) B).setCells g (off + p * 7) zs) (As.row 48 7 (some ⟨g, off, none⟩) p c (A ++ B) :: L) := by
  have hs := h.sl
  have hle := hs.le
  obtain ⟨R, hR, hx⟩ := hs.toRow
  have hlR := hR.len
  have h1 := hR.drew.set (i * 7) B (by omega)
  refine ⟨⟨R, hR⟩, ⟨_, h1⟩, fun zs hz => ?_⟩
  have h2 := h1.set (p * 7) zs (by omega)
  have hcm : c ≤ maxLen := by
    rcases hs.row with ⟨q, _⟩ | ⟨_, _, _, _, _, _, q, _⟩
    · cases q
    · exact q
  have e0 : R.take (i * 7) = A := by
    have e : R.take (i * 7) = (R.take (n * 7)).take (i * 7) := by rw [List.take_take, Nat.min_eq_left (by omega)]
    rw [e, hx, List.append_assoc, ← hA, List.take_left]
  have e1 : (((R.take (i * 7) ++ B ++ R.drop (i * 7 + B.length)).take (p * 7) ++ zs ++ (R.take (i * 7) ++ B ++ R.drop (i * 7 + B.length)).drop (p * 7 + zs.length)).take (p * 7)) = A ++ B := by
    rw [e0, List.append_assoc, List.take_append_of_le_length (by simp; omega), List.take_take, Nat.min_self, List.take_append_of_le_length (by simp; omega), List.take_of_length_le (by simp; omega)]
  have h3 := h2.sl (n := p) (by omega) hcm (by
    rw [e1]
    intro u hu
    refine hs.one u ?_
    rcases List.mem_append.1 hu with q | q
    · simp [q]
    · simp [q])
  rw [e1] at h3
  have f1 : Fr (fun k => rowOf (some ⟨g, off, none⟩) = some k) w ((w.drew.setCells g (off + i * 7) B).setCells g (off + p * 7) zs) :=
    Row.fr_set (g := g) (Row.fr_set (g := g) (Fr.refl _ w).drew _ _ (rowOf_some g off)) _ _ (rowOf_some g off)
  exact h.row_step h3 f1 (.inl rfl)

set_option maxRecDepth 100000 in
set_option maxHeartbeats 1000000 in
theorem deleteC {w0 w : World} {L : List As} {s : Option Addr} {n c : Nat} (a b : Int) (i m p : Nat) (A X B : List Value) (h : St w0 w (As.row 48 7 s n c (A ++ X ++ B) :: L))
    (hA : A.length = i * 7) (hX : X.length = 7) (hB : B.length = m * 7) (hp : i + m = p) (hn : n = p + 1) (ha : a = i) (hb : b = (i : Int) + 1) (hsm : n ≤ 4294967296) :
    Calls Try.prog 36 #[.slice s n c, .int .i64 a, .int .i64 b] w (DelPostC p (A ++ B) w0 L) := by
  subst ha
  subst hb
  have hs := h.sl
  have hle := hs.le
  obtain ⟨g, off, rfl, -, -, -⟩ := hs.some_of (by omega)
  obtain ⟨s1, hrun1, hs1, hr1⟩ := hs.cut_l elC (i + 1) (by omega)
  obtain ⟨ad, rfl⟩ : ∃ ad, s1 = some ad := by
    cases s1 with
    | none => simp [rowOf] at hr1
    | some ad => exact ⟨ad, rfl⟩
  have hrunh := fun kd W => slice_h_some (P := Try.prog) elC g off n c i (by omega) (by omega) kd W
  have hrun3 := fun W => run_slice_lhm' (P := Try.prog) elC (some ⟨g, off, none⟩) n c .i64 .i64 .i64 (i : Int) ((i : Int) + 1) (n : Int) (by omega) (by omega) (by omega) (by omega) W
  obtain ⟨v13, hv13⟩ : ∃ v, sliced (some ⟨g, off, none⟩) (i : Int).toNat ((i : Int) + 1).toNat (n : Int).toNat 7 = v := ⟨_, rfl⟩
  simp only [hv13] at hrun3
  clear hv13
  have hrunc := fun kd kd' W => slice_lh_some (P := Try.prog) elC g off p c p n (by omega) (by omega) (by omega) kd kd' W
  obtain ⟨⟨R, hR⟩, ⟨R1, hR1⟩, fin⟩ := del_rowsC h hA hX hB hp hn
  have hdrop : (A ++ X ++ B).drop ((i + 1) * 7) = B := by
    rw [List.drop_append_of_le_length (by simp; omega), List.drop_of_length_le (by simp; omega), List.nil_append]
  have happ := fun ty => run_append_row (m := 0) elC hR.drew ty i B ad m (c - (i + 1)) hB (by
    have := hs1.cells rfl
    rw [hdrop] at this
    exact this) (by
    intro u hu
    exact hs.one u (by simp [hu])) (by omega)
  have hclr := fun ty => run_clear_row elC.und zvC zoneC hR1 ty (p * 7) 1 (c - p) (by omega) (by rw [zlenC]; omega)
  have hFin := Lib.hid (fin (zeros (.agg #[.int .i64 0, .int .i64 0, .int .i64 0, .int .i64 0, .string { data := #[] }, .int .i64 0, .slice none 0 0]) 1) zlenC)
  have hm1 : n - (i + 1) = m := by omega
  have hm2 : n - p = 1 := by omega
  rw [hm1] at hrun1
  rw [hm2] at hrunc
  rw [hp] at happ
  have Happ := Lib.hid happ
  have Hclr := Lib.hid hclr
  clear happ hclr
  have hne : ((i : Int) == (i : Int) + 1) = false := by simp; omega
  push_cast at hrun1
  clear h hs hs1 hr1 hR hR1 fin hdrop hA hX hB hp hn hm1 hm2 hsm hle
  go_enter Try.func36, Try.ntmps36
  go_wp2_with fail
  go_still_tail 6, (by kernel_rfl)
  change wpList _ _ _ _ _ w.drew
  refine wpList_append_eq rfl _ _ 34 34 rfl _ _ _ rfl rfl (Happ.out _) ?_
  go_wp2_with (refine wpList_clear_eq rfl (.tmp 31) 34 rfl _ _ rfl (Hclr.out _) ?_)
  go_ret
  exact ⟨_, _, rfl, hFin.out⟩

set_option maxHeartbeats 400000 in
theorem clone_nilC (w : World) : Calls Try.prog 54 #[.slice none 0 0] w (ClonePost w 48 7 0 []) := by
  have hnil := fun w => Lib.run_eql_slice_nil (P := Try.prog) w 34 48 none 0 0 0 0 Try.underlying34
  go_enter Try.func54, Try.ntmps54
  go_wp2
  go_ret
  exact ⟨none, 0, rfl, Sl.nil _ _ _, Fr.refl _ _, .inl rfl⟩

set_option maxHeartbeats 400000 in
theorem clone_someC (a : Addr) (n c : Nat) (xs : List Value) (w : World) (hr : Rd w 7 (some a) n xs) (hn : n ≤ 1000000) :
    Calls Try.prog 54 #[.slice (some a) n c] w (ClonePost w 48 7 n xs) := by
  have hnil := fun w => Lib.run_eql_slice_nil (P := Try.prog) w 34 48 (some a) n c 0 0 Try.underlying34
  have hr' := hr.alloc (.cells #[] 48)
  have h0 : Sl (w.alloc (.cells #[] 48)) 48 7 (some ⟨w.heap.size, 0, .none⟩) 0 0 [] := ⟨by simp, by simp, .inr ⟨w.heap.size, 0, #[], rfl, Blk.new w #[] 48, by omega, by simp [maxLen], by simp, by simp⟩⟩
  go_enter Try.func54, Try.ntmps54
  go_wp2_with (at_builtin; refine wpList_append_sl _ rfl _ _ 34 rfl elC _ 0 0 [] rfl h0 (some a) n c xs rfl hr'.len hr'.nil hr'.cells hr'.one (by simp only [maxLen]; omega) (by omega) ?_)
  intro s' c' w' g1 g2 g3
  try simp only [Nat.zero_add, List.nil_append] at g1
  go_wp2
  go_ret
  refine ⟨s', c', by simp, g1, (((Fr.refl emp w).alloc _).trans g2 ?_), ?_⟩
  · intro i hi e; simp [rowOf] at e; omega
  · rcases g3 with q | ⟨g, q1, q2⟩
    · exact .inr ⟨w.heap.size, by rw [q]; rfl, Nat.le_refl _⟩
    · exact .inr ⟨g, q1, by simp at q2; omega⟩

theorem cloneC (s : Option Addr) (n c : Nat) (xs : List Value) (w : World) (hs : Rd w 7 s n xs) (hc : s = none → c = 0) (hn : n ≤ 1000000) :
    Calls Try.prog 54 #[.slice s n c] w (ClonePost w 48 7 n xs) := by
  cases s with
  | some a => exact clone_someC a n c xs w hs hn
  | none =>
    obtain rfl := hs.nil rfl
    obtain rfl := hc rfl
    have : xs = [] := List.eq_nil_of_length_eq_zero (by have := hs.len; simpa using this)
    subst this
    exact clone_nilC w

theorem infoH : (Try.prog.info? 63).map (fun i => (i.zero, i.size, i.bytes)) = some (some (.agg #[.int .i64 0, .int .i64 0, .int .i64 0, .string { data := #[] }, .int .i64 0]), 5, 48) := by kernel_rfl
theorem elH : El Try.prog 35 63 5 48 := by
  obtain ⟨i, hi, h1, h2, h3⟩ := info_parts infoH
  exact ⟨by kernel_rfl, ⟨i, _, hi, h1, h2, h3, rfl⟩, by decide⟩
theorem zvH (w : World) : (zeroValue 63).run Try.prog w = .ok (.agg #[.int .i64 0, .int .i64 0, .int .i64 0, .string { data := #[] }, .int .i64 0]) w := by kernel_rfl
theorem zlenH : (zeros (.agg #[.int .i64 0, .int .i64 0, .int .i64 0, .string { data := #[] }, .int .i64 0]) 1).length = 5 := by kernel_rfl
theorem zoneH (n : Nat) : ∀ u ∈ zeros (.agg #[.int .i64 0, .int .i64 0, .int .i64 0, .string { data := #[] }, .int .i64 0]) n, u.oneCell' = true := by
  intro u hu
  simp only [zeros, Builtin.zeroCells, Array.toList_map, List.mem_map] at hu
  obtain ⟨i, _, rfl⟩ := hu
  have hall : ∀ j, j < 5 → ((.agg #[.int .i64 0, .int .i64 0, .int .i64 0, .string { data := #[] }, .int .i64 0] : Value).cells[j]!).oneCell' = true := by decide
  exact hall _ (Nat.mod_lt _ (by decide))

def DelPostH (p : Nat) (xs : List Value) (w0 : World) (L : List As) (E : Ending) (w' : World) : Prop := ∃ s' c', E = .returned (.slice s' p c') ∧ St w0 w' (As.row 63 5 s' p c' xs :: L)

theorem del_rowsH {w0 w : World} {L : List As} {g off i m p n c : Nat} {A X B : List Value} (h : St w0 w (As.row 63 5 (some ⟨g, off, none⟩) n c (A ++ X ++ B) :: L))
    (hA : A.length = i * 5) (hX : X.length = 5) (hB : B.length = m * 5) (hp : i + m = p) (hn : n = p + 1) :
    (∃ R, Row w 63 g off (c * 5) R) ∧ (∃ R, Row (w.drew.setCells g (off + i * 5) B) 63 g off (c * 5) R) ∧ ∀ zs : List Value, zs.length = 5 → St w0 ((w.drew.setCells g (off + i * 5) B).setCells g (off + p * 5) zs) (As.row 63 5 (some ⟨g, off, none⟩) p c (A ++ B) :: L) := by
  have hs := h.sl
  have hle := hs.le
  obtain ⟨R, hR, hx⟩ := hs.toRow
  have hlR := hR.len
  have h1 := hR.drew.set (i * 5) B (by omega)
  refine ⟨⟨R, hR⟩, ⟨_, h1⟩, fun zs hz => ?_⟩
  have h2 := h1.set (p * 5) zs (by omega)
  have hcm : c ≤ maxLen := by
    rcases hs.row with ⟨q, _⟩ | ⟨_, _, _, _, _, _, q, _⟩
    · cases q
    · exact q
  have e0 : R.take (i * 5) = A := by
    have e : R.take (i * 5) = (R.take (n * 5)).take (i * 5) := by rw [List.take_take, Nat.min_eq_left (by omega)]
    rw [e, hx, List.append_assoc, ← hA, List.take_left]
  have e1 : (((R.take (i * 5) ++ B ++ R.drop (i * 5 + B.length)).take (p * 5) ++ zs ++ (R.take (i * 5) ++ B ++ R.drop (i * 5 + B.length)).drop (p * 5 + zs.length)).take (p * 5)) = A ++ B := by
    rw [e0, List.append_assoc, List.take_append_of_le_length (by simp; omega), List.take_take, Nat.min_self, List.take_append_of_le_length (by simp; omega), List.take_of_length_le (by simp; omega)]
  have h3 := h2.sl (n := p) (by omega) hcm (by
    rw [e1]
    intro u hu
    refine hs.one u ?_
    rcases List.mem_append.1 hu with q | q
    · simp [q]
    · simp [q])
  rw [e1] at h3
  have f1 : Fr (fun k => rowOf (some ⟨g, off, none⟩) = some k) w ((w.drew.setCells g (off + i * 5) B).setCells g (off + p * 5) zs) :=
    Row.fr_set (g := g) (Row.fr_set (g := g) (Fr.refl _ w).drew _ _ (rowOf_some g off)) _ _ (rowOf_some g off)
  exact h.row_step h3 f1 (.inl rfl)

set_option maxRecDepth 100000 in
set_option maxHeartbeats 1000000 in
theorem deleteH {w0 w : World} {L : List As} {s : Option Addr} {n c : Nat} (a b : Int) (i m p : Nat) (A X B : List Value) (h : St w0 w (As.row 63 5 s n c (A ++ X ++ B) :: L))
    (hA : A.length = i * 5) (hX : X.length = 5) (hB : B.length = m * 5) (hp : i + m = p) (hn : n = p + 1) (ha : a = i) (hb : b = (i : Int) + 1) (hsm : n ≤ 4294967296) :
    Calls Try.prog 40 #[.slice s n c, .int .i64 a, .int .i64 b] w (DelPostH p (A ++ B) w0 L) := by
  subst ha
  subst hb
  have hs := h.sl
  have hle := hs.le
  obtain ⟨g, off, rfl, -, -, -⟩ := hs.some_of (by omega)
  obtain ⟨s1, hrun1, hs1, hr1⟩ := hs.cut_l elH (i + 1) (by omega)
  obtain ⟨ad, rfl⟩ : ∃ ad, s1 = some ad := by
    cases s1 with
    | none => simp [rowOf] at hr1
    | some ad => exact ⟨ad, rfl⟩
  have hrunh := fun kd W => slice_h_some (P := Try.prog) elH g off n c i (by omega) (by omega) kd W
  have hrun3 := fun W => run_slice_lhm' (P := Try.prog) elH (some ⟨g, off, none⟩) n c .i64 .i64 .i64 (i : Int) ((i : Int) + 1) (n : Int) (by omega) (by omega) (by omega) (by omega) W
  obtain ⟨v13, hv13⟩ : ∃ v, sliced (some ⟨g, off, none⟩) (i : Int).toNat ((i : Int) + 1).toNat (n : Int).toNat 5 = v := ⟨_, rfl⟩
  simp only [hv13] at hrun3
  clear hv13
  have hrunc := fun kd kd' W => slice_lh_some (P := Try.prog) elH g off p c p n (by omega) (by omega) (by omega) kd kd' W
  obtain ⟨⟨R, hR⟩, ⟨R1, hR1⟩, fin⟩ := del_rowsH h hA hX hB hp hn
  have hdrop : (A ++ X ++ B).drop ((i + 1) * 5) = B := by
    rw [List.drop_append_of_le_length (by simp; omega), List.drop_of_length_le (by simp; omega), List.nil_append]
  have happ := fun ty => run_append_row (m := 0) elH hR.drew ty i B ad m (c - (i + 1)) hB (by
    have := hs1.cells rfl
    rw [hdrop] at this
    exact this) (by
    intro u hu
    exact hs.one u (by simp [hu])) (by omega)
  have hclr := fun ty => run_clear_row elH.und zvH zoneH hR1 ty (p * 5) 1 (c - p) (by omega) (by rw [zlenH]; omega)
  have hFin := Lib.hid (fin (zeros (.agg #[.int .i64 0, .int .i64 0, .int .i64 0, .string { data := #[] }, .int .i64 0]) 1) zlenH)
  have hm1 : n - (i + 1) = m := by omega
  have hm2 : n - p = 1 := by omega
  rw [hm1] at hrun1
  rw [hm2] at hrunc
  rw [hp] at happ
  have Happ := Lib.hid happ
  have Hclr := Lib.hid hclr
  clear happ hclr
  have hne : ((i : Int) == (i : Int) + 1) = false := by simp; omega
  push_cast at hrun1
  clear h hs hs1 hr1 hR hR1 fin hdrop hA hX hB hp hn hm1 hm2 hsm hle
  go_enter Try.func40, Try.ntmps40
  go_wp2_with fail
  go_still_tail 6, (by kernel_rfl)
  change wpList _ _ _ _ _ w.drew
  refine wpList_append_eq rfl _ _ 35 35 rfl _ _ _ rfl rfl (Happ.out _) ?_
  go_wp2_with (refine wpList_clear_eq rfl (.tmp 31) 35 rfl _ _ rfl (Hclr.out _) ?_)
  go_ret
  exact ⟨_, _, rfl, hFin.out⟩

set_option maxHeartbeats 400000 in
theorem clone_nilH (w : World) : Calls Try.prog 55 #[.slice none 0 0] w (ClonePost w 63 5 0 []) := by
  have hnil := fun w => Lib.run_eql_slice_nil (P := Try.prog) w 35 63 none 0 0 0 0 Try.underlying35
  go_enter Try.func55, Try.ntmps55
  go_wp2
  go_ret
  exact ⟨none, 0, rfl, Sl.nil _ _ _, Fr.refl _ _, .inl rfl⟩

set_option maxHeartbeats 400000 in
theorem clone_someH (a : Addr) (n c : Nat) (xs : List Value) (w : World) (hr : Rd w 5 (some a) n xs) (hn : n ≤ 1000000) :
    Calls Try.prog 55 #[.slice (some a) n c] w (ClonePost w 63 5 n xs) := by
  have hnil := fun w => Lib.run_eql_slice_nil (P := Try.prog) w 35 63 (some a) n c 0 0 Try.underlying35
  have hr' := hr.alloc (.cells #[] 63)
  have h0 : Sl (w.alloc (.cells #[] 63)) 63 5 (some ⟨w.heap.size, 0, .none⟩) 0 0 [] := ⟨by simp, by simp, .inr ⟨w.heap.size, 0, #[], rfl, Blk.new w #[] 63, by omega, by simp [maxLen], by simp, by simp⟩⟩
  go_enter Try.func55, Try.ntmps55
  go_wp2_with (at_builtin; refine wpList_append_sl _ rfl _ _ 35 rfl elH _ 0 0 [] rfl h0 (some a) n c xs rfl hr'.len hr'.nil hr'.cells hr'.one (by simp only [maxLen]; omega) (by omega) ?_)
  intro s' c' w' g1 g2 g3
  try simp only [Nat.zero_add, List.nil_append] at g1
  go_wp2
  go_ret
  refine ⟨s', c', by simp, g1, (((Fr.refl emp w).alloc _).trans g2 ?_), ?_⟩
  · intro i hi e; simp [rowOf] at e; omega
  · rcases g3 with q | ⟨g, q1, q2⟩
    · exact .inr ⟨w.heap.size, by rw [q]; rfl, Nat.le_refl _⟩
    · exact .inr ⟨g, q1, by simp at q2; omega⟩

theorem cloneH (s : Option Addr) (n c : Nat) (xs : List Value) (w : World) (hs : Rd w 5 s n xs) (hc : s = none → c = 0) (hn : n ≤ 1000000) :
    Calls Try.prog 55 #[.slice s n c] w (ClonePost w 63 5 n xs) := by
  cases s with
  | some a => exact clone_someH a n c xs w hs hn
  | none =>
    obtain rfl := hs.nil rfl
    obtain rfl := hc rfl
    have : xs = [] := List.eq_nil_of_length_eq_zero (by have := hs.len; simpa using this)
    subst this
    exact clone_nilH w

end Go.Proofs.Ytnamkckpgaopkaa
