/-
  Contracts of slices.Clone and slices.Delete at listeners, targets and numbers.
-/
import Derived.Test.YtianjcbofgdfdaaProg
import Derived.Test.YtianjcbofgdfdaaKo
import Derived.Laws.Externs
import Derived.LoopN
import Derived.StillTailTactics
import Derived.BigQuiet
import Derived.Deep.RegionHeld3
import Derived.Deep.QuietTactic
import Derived.Deep.DeepCutAuto
import Derived.Deep.LoopGhost
import Derived.Lib.QuietBelow
set_option linter.unusedVariables false
namespace Go.Proofs.Ytianjcbofgdfdaa
open Go.RowKit Go.K
def ClonePost (w : World) (e sz : Nat) (n : Nat) (xs : List Value) (E : Ending) (w' : World) : Prop :=
  ∃ s c, E = .returned (.slice s n c) ∧ Sl w' e sz s n c xs ∧ Fr emp w w' ∧ NewOr w .none (rowOf s)

theorem infoL : (Try.prog.info? 41).map (fun i => (i.zero, i.size, i.bytes)) = some (some (.agg #[.int .i64 0, .int .i64 0, .int .i64 0, .string ByteArray.empty, .int .i64 0, .bool false, .bool false, .bool false]), 8, 56) := by kernel_rfl
theorem elL : El Try.prog 30 41 8 56 := by
  obtain ⟨i, hi, h1, h2, h3⟩ := info_parts infoL
  exact ⟨by kernel_rfl, ⟨i, _, hi, h1, h2, h3, rfl⟩, by decide⟩
theorem zvL (w : World) : (zeroValue 41).run Try.prog w = .ok (.agg #[.int .i64 0, .int .i64 0, .int .i64 0, .string ByteArray.empty, .int .i64 0, .bool false, .bool false, .bool false]) w := by kernel_rfl
theorem zlenL : (zeros (.agg #[.int .i64 0, .int .i64 0, .int .i64 0, .string ByteArray.empty, .int .i64 0, .bool false, .bool false, .bool false]) 1).length = 8 := by kernel_rfl
theorem zoneL (n : Nat) : ∀ u ∈ zeros (.agg #[.int .i64 0, .int .i64 0, .int .i64 0, .string ByteArray.empty, .int .i64 0, .bool false, .bool false, .bool false]) n, u.oneCell' = true := by
  intro u hu
  simp only [zeros, Builtin.zeroCells, Array.toList_map, List.mem_map] at hu
  obtain ⟨i, _, rfl⟩ := hu
  have hall : ∀ j, j < 8 → ((.agg #[.int .i64 0, .int .i64 0, .int .i64 0, .string ByteArray.empty, .int .i64 0, .bool false, .bool false, .bool false] : Value).cells[j]!).oneCell' = true := by decide
  exact hall _ (Nat.mod_lt _ (by decide))

set_option maxHeartbeats 400000 in
theorem clone_nilL (w : World) : Calls Try.prog 36 #[.slice none 0 0] w (ClonePost w 41 8 0 []) := by
  have hnil := fun w => Lib.run_eql_slice_nil (P := Try.prog) w 30 41 none 0 0 0 0 Try.underlying30
  go_enter Try.func36, Try.ntmps36
  go_wp2
  go_ret
  exact ⟨none, 0, rfl, Sl.nil _ _ _, Fr.refl _ _, .inl rfl⟩

set_option maxHeartbeats 400000 in
theorem clone_someL (a : Addr) (n c : Nat) (xs : List Value) (w : World) (hr : Rd w 8 (some a) n xs) (hn : n ≤ 1000000) :
    Calls Try.prog 36 #[.slice (some a) n c] w (ClonePost w 41 8 n xs) := by
  have hnil := fun w => Lib.run_eql_slice_nil (P := Try.prog) w 30 41 (some a) n c 0 0 Try.underlying30
  have hr' := hr.alloc (.cells #[] 41)
  have h0 : Sl (w.alloc (.cells #[] 41)) 41 8 (some ⟨w.heap.size, 0, .none⟩) 0 0 [] := ⟨by simp, by simp, .inr ⟨w.heap.size, 0, #[], rfl, Blk.new w #[] 41, by omega, by simp [maxLen], by simp, by simp⟩⟩
  go_enter Try.func36, Try.ntmps36
  go_wp2_with (at_builtin; refine wpList_append_sl _ rfl _ _ 30 rfl elL _ 0 0 [] rfl h0 (some a) n c xs rfl hr'.len hr'.nil hr'.cells hr'.one (by simp only [maxLen]; omega) (by omega) ?_)
  intro s' c' w' g1 g2 g3
  try simp only [Nat.zero_add, List.nil_append] at g1
  go_wp2
  go_ret
  refine ⟨s', c', by simp, g1, (((Fr.refl emp w).alloc _).trans g2 ?_), ?_⟩
  · intro i hi e; simp [rowOf] at e; omega
  · rcases g3 with q | ⟨g, q1, q2⟩
    · exact .inr ⟨w.heap.size, by rw [q]; rfl, Nat.le_refl _⟩
    · exact .inr ⟨g, q1, by simp at q2; omega⟩

theorem cloneL (s : Option Addr) (n c : Nat) (xs : List Value) (w : World) (hs : Rd w 8 s n xs) (hc : s = none → c = 0) (hn : n ≤ 1000000) :
    Calls Try.prog 36 #[.slice s n c] w (ClonePost w 41 8 n xs) := by
  cases s with
  | some a => exact clone_someL a n c xs w hs hn
  | none =>
    obtain rfl := hs.nil rfl
    obtain rfl := hc rfl
    have : xs = [] := List.eq_nil_of_length_eq_zero (by have := hs.len; simpa using this)
    subst this
    exact clone_nilL w

def DelPostL (p : Nat) (xs : List Value) (w0 : World) (L : List As) (E : Ending) (w' : World) : Prop := ∃ s' c', E = .returned (.slice s' p c') ∧ St w0 w' (As.row 41 8 s' p c' xs :: L)

theorem del_rowsL {w0 w : World} {L : List As} {g off i m p n c : Nat} {A X B : List Value} (h : St w0 w (As.row 41 8 (some ⟨g, off, none⟩) n c (A ++ X ++ B) :: L))
    (hA : A.length = i * 8) (hX : X.length = 8) (hB : B.length = m * 8) (hp : i + m = p) (hn : n = p + 1) :
    (∃ R, Row w 41 g off (c * 8) R) ∧ (∃ R, Row (w.drew.setCells g (off + i * 8) B) 41 g off (c * 8) R) ∧ ∀ zs : List Value, zs.length = 8 → St w0 ((w.drew.setCells g (off + i * 8) B).setCells g (off + p * 8) zs) (As.row 41 8 (some ⟨g, off, none⟩) p c (A ++ B) :: L) := by
  have hs := h.sl
  have hle := hs.le
  obtain ⟨R, hR, hx⟩ := hs.toRow
  have hlR := hR.len
  have h1 := hR.drew.set (i * 8) B (by omega)
  refine ⟨⟨R, hR⟩, ⟨_, h1⟩, fun zs hz => ?_⟩
  have h2 := h1.set (p * 8) zs (by omega)
  have hcm : c ≤ maxLen := by
    rcases hs.row with ⟨q, _⟩ | ⟨_, _, _, _, _, _, q, _⟩
    · cases q
    · exact q
  have e0 : R.take (i * 8) = A := by
    have e : R.take (i * 8) = (R.take (n * 8)).take (i * 8) := by rw [List.take_take, Nat.min_eq_left (by omega)]
    rw [e, hx, List.append_assoc, ← hA, List.take_left]
  have e1 : (((R.take (i * 8) ++ B ++ R.drop (i * 8 + B.length)).take (p * 8) ++ zs ++ (R.take (i * 8) ++ B ++ R.drop (i * 8 + B.length)).drop (p * 8 + zs.length)).take (p * 8)) = A ++ B := by
    rw [e0, List.append_assoc, List.take_append_of_le_length (by simp; omega), List.take_take, Nat.min_self, List.take_append_of_le_length (by simp; omega), List.take_of_length_le (by simp; omega)]
  have h3 := h2.sl (n := p) (by omega) hcm (by
    rw [e1]
    intro u hu
    refine hs.one u ?_
    rcases List.mem_append.1 hu with q | q
    · simp [q]
    · simp [q])
  rw [e1] at h3
  have f1 : Fr (fun k => rowOf (some ⟨g, off, none⟩) = some k) w ((w.drew.setCells g (off + i * 8) B).setCells g (off + p * 8) zs) :=
    Row.fr_set (g := g) (Row.fr_set (g := g) (Fr.refl _ w).drew _ _ (rowOf_some g off)) _ _ (rowOf_some g off)
  exact h.row_step h3 f1 (.inl rfl)

set_option maxRecDepth 100000 in
set_option maxHeartbeats 1000000 in
theorem deleteL {w0 w : World} {L : List As} {s : Option Addr} {n c : Nat} (a b : Int) (i m p : Nat) (A X B : List Value) (h : St w0 w (As.row 41 8 s n c (A ++ X ++ B) :: L))
    (hA : A.length = i * 8) (hX : X.length = 8) (hB : B.length = m * 8) (hp : i + m = p) (hn : n = p + 1) (ha : a = i) (hb : b = (i : Int) + 1) (hsm : n ≤ 4294967296) :
    Calls Try.prog 42 #[.slice s n c, .int .i64 a, .int .i64 b] w (DelPostL p (A ++ B) w0 L) := by
  subst ha
  subst hb
  have hs := h.sl
  have hle := hs.le
  obtain ⟨g, off, rfl, -, -, -⟩ := hs.some_of (by omega)
  obtain ⟨s1, hrun1, hs1, hr1⟩ := hs.cut_l elL (i + 1) (by omega)
  obtain ⟨ad, rfl⟩ : ∃ ad, s1 = some ad := by
    cases s1 with
    | none => simp [rowOf] at hr1
    | some ad => exact ⟨ad, rfl⟩
  have hrunh := fun kd W => slice_h_some (P := Try.prog) elL g off n c i (by omega) (by omega) kd W
  have hrun3 := fun W => run_slice_lhm' (P := Try.prog) elL (some ⟨g, off, none⟩) n c .i64 .i64 .i64 (i : Int) ((i : Int) + 1) (n : Int) (by omega) (by omega) (by omega) (by omega) W
  obtain ⟨v13, hv13⟩ : ∃ v, sliced (some ⟨g, off, none⟩) (i : Int).toNat ((i : Int) + 1).toNat (n : Int).toNat 8 = v := ⟨_, rfl⟩
  simp only [hv13] at hrun3
  clear hv13
  have hrunc := fun kd kd' W => slice_lh_some (P := Try.prog) elL g off p c p n (by omega) (by omega) (by omega) kd kd' W
  obtain ⟨⟨R, hR⟩, ⟨R1, hR1⟩, fin⟩ := del_rowsL h hA hX hB hp hn
  have hdrop : (A ++ X ++ B).drop ((i + 1) * 8) = B := by
    rw [List.drop_append_of_le_length (by simp; omega), List.drop_of_length_le (by simp; omega), List.nil_append]
  have happ := fun ty => run_append_row (m := 0) elL hR.drew ty i B ad m (c - (i + 1)) hB (by
    have := hs1.cells rfl
    rw [hdrop] at this
    exact this) (by
    intro u hu
    exact hs.one u (by simp [hu])) (by omega)
  have hclr := fun ty => run_clear_row elL.und zvL zoneL hR1 ty (p * 8) 1 (c - p) (by omega) (by rw [zlenL]; omega)
  have hFin := Lib.hid (fin (zeros (.agg #[.int .i64 0, .int .i64 0, .int .i64 0, .string ByteArray.empty, .int .i64 0, .bool false, .bool false, .bool false]) 1) zlenL)
  have hm1 : n - (i + 1) = m := by omega
  have hm2 : n - p = 1 := by omega
  rw [hm1] at hrun1
  rw [hm2] at hrunc
  rw [hp] at happ
  have Happ := Lib.hid happ
  have Hclr := Lib.hid hclr
  clear happ hclr
  have hne : ((i : Int) == (i : Int) + 1) = false := by simp; omega
  push_cast at hrun1
  clear h hs hs1 hr1 hR hR1 fin hdrop hA hX hB hp hn hm1 hm2 hsm hle
  go_enter Try.func42, Try.ntmps42
  go_wp2_with fail
  go_still_tail 6, (by kernel_rfl)
  change wpList _ _ _ _ _ w.drew
  refine wpList_append_eq rfl _ _ 30 30 rfl _ _ _ rfl rfl (Happ.out _) ?_
  go_wp2_with (refine wpList_clear_eq rfl (.tmp 31) 30 rfl _ _ rfl (Hclr.out _) ?_)
  go_ret
  exact ⟨_, _, rfl, hFin.out⟩

theorem infoG : (Try.prog.info? 39).map (fun i => (i.zero, i.size, i.bytes)) = some (some (.agg #[.int .i64 0, .int .i64 0]), 2, 16) := by kernel_rfl
theorem elG : El Try.prog 42 39 2 16 := by
  obtain ⟨i, hi, h1, h2, h3⟩ := info_parts infoG
  exact ⟨by kernel_rfl, ⟨i, _, hi, h1, h2, h3, rfl⟩, by decide⟩
theorem zvG (w : World) : (zeroValue 39).run Try.prog w = .ok (.agg #[.int .i64 0, .int .i64 0]) w := by kernel_rfl
theorem zlenG : (zeros (.agg #[.int .i64 0, .int .i64 0]) 1).length = 2 := by kernel_rfl
theorem zoneG (n : Nat) : ∀ u ∈ zeros (.agg #[.int .i64 0, .int .i64 0]) n, u.oneCell' = true := by
  intro u hu
  simp only [zeros, Builtin.zeroCells, Array.toList_map, List.mem_map] at hu
  obtain ⟨i, _, rfl⟩ := hu
  have hall : ∀ j, j < 2 → ((.agg #[.int .i64 0, .int .i64 0] : Value).cells[j]!).oneCell' = true := by decide
  exact hall _ (Nat.mod_lt _ (by decide))

set_option maxHeartbeats 400000 in
theorem clone_nilG (w : World) : Calls Try.prog 49 #[.slice none 0 0] w (ClonePost w 39 2 0 []) := by
  have hnil := fun w => Lib.run_eql_slice_nil (P := Try.prog) w 42 39 none 0 0 0 0 Try.underlying42
  go_enter Try.func49, Try.ntmps49
  go_wp2
  go_ret
  exact ⟨none, 0, rfl, Sl.nil _ _ _, Fr.refl _ _, .inl rfl⟩

set_option maxHeartbeats 400000 in
theorem clone_someG (a : Addr) (n c : Nat) (xs : List Value) (w : World) (hr : Rd w 2 (some a) n xs) (hn : n ≤ 1000000) :
    Calls Try.prog 49 #[.slice (some a) n c] w (ClonePost w 39 2 n xs) := by
  have hnil := fun w => Lib.run_eql_slice_nil (P := Try.prog) w 42 39 (some a) n c 0 0 Try.underlying42
  have hr' := hr.alloc (.cells #[] 39)
  have h0 : Sl (w.alloc (.cells #[] 39)) 39 2 (some ⟨w.heap.size, 0, .none⟩) 0 0 [] := ⟨by simp, by simp, .inr ⟨w.heap.size, 0, #[], rfl, Blk.new w #[] 39, by omega, by simp [maxLen], by simp, by simp⟩⟩
  go_enter Try.func49, Try.ntmps49
  go_wp2_with (at_builtin; refine wpList_append_sl _ rfl _ _ 42 rfl elG _ 0 0 [] rfl h0 (some a) n c xs rfl hr'.len hr'.nil hr'.cells hr'.one (by simp only [maxLen]; omega) (by omega) ?_)
  intro s' c' w' g1 g2 g3
  try simp only [Nat.zero_add, List.nil_append] at g1
  go_wp2
  go_ret
  refine ⟨s', c', by simp, g1, (((Fr.refl emp w).alloc _).trans g2 ?_), ?_⟩
  · intro i hi e; simp [rowOf] at e; omega
  · rcases g3 with q | ⟨g, q1, q2⟩
    · exact .inr ⟨w.heap.size, by rw [q]; rfl, Nat.le_refl _⟩
    · exact .inr ⟨g, q1, by simp at q2; omega⟩

theorem cloneG (s : Option Addr) (n c : Nat) (xs : List Value) (w : World) (hs : Rd w 2 s n xs) (hc : s = none → c = 0) (hn : n ≤ 1000000) :
    Calls Try.prog 49 #[.slice s n c] w (ClonePost w 39 2 n xs) := by
  cases s with
  | some a => exact clone_someG a n c xs w hs hn
  | none =>
    obtain rfl := hs.nil rfl
    obtain rfl := hc rfl
    have : xs = [] := List.eq_nil_of_length_eq_zero (by have := hs.len; simpa using this)
    subst this
    exact clone_nilG w

theorem infoI : (Try.prog.info? 3).map (fun i => (i.zero, i.size, i.bytes)) = some (some (.int .i64 0), 1, 8) := by kernel_rfl
theorem elI : El Try.prog 43 3 1 8 := by
  obtain ⟨i, hi, h1, h2, h3⟩ := info_parts infoI
  exact ⟨by kernel_rfl, ⟨i, _, hi, h1, h2, h3, rfl⟩, by decide⟩
theorem zvI (w : World) : (zeroValue 3).run Try.prog w = .ok (.int .i64 0) w := by kernel_rfl
theorem zlenI : (zeros (.int .i64 0) 1).length = 1 := by kernel_rfl
theorem zoneI (n : Nat) : ∀ u ∈ zeros (.int .i64 0) n, u.oneCell' = true := by
  intro u hu
  simp only [zeros, Builtin.zeroCells, Array.toList_map, List.mem_map] at hu
  obtain ⟨i, _, rfl⟩ := hu
  have hall : ∀ j, j < 1 → ((.int .i64 0 : Value).cells[j]!).oneCell' = true := by decide
  exact hall _ (Nat.mod_lt _ (by decide))

set_option maxHeartbeats 400000 in
theorem clone_nilI (w : World) : Calls Try.prog 39 #[.slice none 0 0] w (ClonePost w 3 1 0 []) := by
  have hnil := fun w => Lib.run_eql_slice_nil (P := Try.prog) w 43 3 none 0 0 0 0 Try.underlying43
  go_enter Try.func39, Try.ntmps39
  go_wp2
  go_ret
  exact ⟨none, 0, rfl, Sl.nil _ _ _, Fr.refl _ _, .inl rfl⟩

set_option maxHeartbeats 400000 in
theorem clone_someI (a : Addr) (n c : Nat) (xs : List Value) (w : World) (hr : Rd w 1 (some a) n xs) (hn : n ≤ 1000000) :
    Calls Try.prog 39 #[.slice (some a) n c] w (ClonePost w 3 1 n xs) := by
  have hnil := fun w => Lib.run_eql_slice_nil (P := Try.prog) w 43 3 (some a) n c 0 0 Try.underlying43
  have hr' := hr.alloc (.cells #[] 3)
  have h0 : Sl (w.alloc (.cells #[] 3)) 3 1 (some ⟨w.heap.size, 0, .none⟩) 0 0 [] := ⟨by simp, by simp, .inr ⟨w.heap.size, 0, #[], rfl, Blk.new w #[] 3, by omega, by simp [maxLen], by simp, by simp⟩⟩
  go_enter Try.func39, Try.ntmps39
  go_wp2_with (at_builtin; refine wpList_append_sl _ rfl _ _ 43 rfl elI _ 0 0 [] rfl h0 (some a) n c xs rfl hr'.len hr'.nil hr'.cells hr'.one (by simp only [maxLen]; omega) (by omega) ?_)
  intro s' c' w' g1 g2 g3
  try simp only [Nat.zero_add, List.nil_append] at g1
  go_wp2
  go_ret
  refine ⟨s', c', by simp, g1, (((Fr.refl emp w).alloc _).trans g2 ?_), ?_⟩
  · intro i hi e; simp [rowOf] at e; omega
  · rcases g3 with q | ⟨g, q1, q2⟩
    · exact .inr ⟨w.heap.size, by rw [q]; rfl, Nat.le_refl _⟩
    · exact .inr ⟨g, q1, by simp at q2; omega⟩

theorem cloneI (s : Option Addr) (n c : Nat) (xs : List Value) (w : World) (hs : Rd w 1 s n xs) (hc : s = none → c = 0) (hn : n ≤ 1000000) :
    Calls Try.prog 39 #[.slice s n c] w (ClonePost w 3 1 n xs) := by
  cases s with
  | some a => exact clone_someI a n c xs w hs hn
  | none =>
    obtain rfl := hs.nil rfl
    obtain rfl := hc rfl
    have : xs = [] := List.eq_nil_of_length_eq_zero (by have := hs.len; simpa using this)
    subst this
    exact clone_nilI w

end Go.Proofs.Ytianjcbofgdfdaa
