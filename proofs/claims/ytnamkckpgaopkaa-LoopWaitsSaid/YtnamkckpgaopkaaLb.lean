/-
  Contracts of slices.Delete, slices.Insert and slices.Clone at timers.
-/
import Derived.Test.YtnamkckpgaopkaaLa
import Derived.Test.YtnamkckpgaopkaaKw
import Derived.Laws.Externs
import Derived.Deep.DeepCutAuto
set_option linter.unusedVariables false
set_option linter.unusedSimpArgs false
namespace Go.Proofs.Ytnamkckpgaopkaa
open Go.RowKit Go.K

def ClonePost (w : World) (e sz : Nat) (n : Nat) (xs : List Value) (E : Ending) (w' : World) : Prop :=
  ∃ s c, E = .returned (.slice s n c) ∧ Sl w' e sz s n c xs ∧ Fr emp w w' ∧ NewOr w .none (rowOf s)

theorem infoT : (Try.prog.info? 95).map (fun i => (i.zero, i.size, i.bytes)) = some (some (.agg #[.int .i64 0, .int .i64 0, .int .i64 0]), 3, 24) := by kernel_rfl
theorem elT : El Try.prog 31 95 3 24 := by
  obtain ⟨i, hi, h1, h2, h3⟩ := info_parts infoT
  exact ⟨by kernel_rfl, ⟨i, _, hi, h1, h2, h3, rfl⟩, by decide⟩
theorem zvT (w : World) : (zeroValue 95).run Try.prog w = .ok (.agg #[.int .i64 0, .int .i64 0, .int .i64 0]) w := by kernel_rfl
theorem zlenT : (zeros (.agg #[.int .i64 0, .int .i64 0, .int .i64 0]) 1).length = 3 := by kernel_rfl
theorem zoneT (n : Nat) : ∀ u ∈ zeros (.agg #[.int .i64 0, .int .i64 0, .int .i64 0]) n, u.oneCell' = true := by
  intro u hu
  simp only [zeros, Builtin.zeroCells, Array.toList_map, List.mem_map] at hu
  obtain ⟨i, _, rfl⟩ := hu
  have hall : ∀ j, j < 3 → ((.agg #[.int .i64 0, .int .i64 0, .int .i64 0] : Value).cells[j]!).oneCell' = true := by decide
  exact hall _ (Nat.mod_lt _ (by decide))

def DelPostT (p : Nat) (xs : List Value) (w0 : World) (L : List As) (E : Ending) (w' : World) : Prop := ∃ s' c', E = .returned (.slice s' p c') ∧ St w0 w' (As.row 95 3 s' p c' xs :: L)

theorem del_rowsT {w0 w : World} {L : List As} {g off i m p n c : Nat} {A X B : List Value} (h : St w0 w (As.row 95 3 (some ⟨g, off, none⟩) n c (A ++ X ++ B) :: L))
    (hA : A.length = i * 3) (hX : X.length = 3) (hB : B.length = m * 3) (hp : i + m = p) (hn : n = p + 1) :
    (∃ R, Row w 95 g off (c * 3) R) ∧ (∃ R, Row (w.drew.setCells g (off + i * 3) B) 95 g off (c * 3) R) ∧ ∀ zs : List Value, zs.length = 3 → St w0 ((w.drew.setCells g (off + i * 3) B).setCells g (off + p * 3) zs) (As.row 95 3 (some ⟨g, off, none⟩) p c (A ++ B) :: L) := by
  have hs := h.sl
  have hle := hs.le
  obtain ⟨R, hR, hx⟩ := hs.toRow
  have hlR := hR.len
  have h1 := hR.drew.set (i * 3) B (by omega)
  refine ⟨⟨R, hR⟩, ⟨_, h1⟩, fun zs hz => ?_⟩
  have h2 := h1.set (p * 3) zs (by omega)
  have hcm : c ≤ maxLen := by
    rcases hs.row with ⟨q, _⟩ | ⟨_, _, _, _, _, _, q, _⟩
    · cases q
    · exact q
  have e0 : R.take (i * 3) = A := by
    have e : R.take (i * 3) = (R.take (n * 3)).take (i * 3) := by rw [List.take_take, Nat.min_eq_left (by omega)]
    rw [e, hx, List.append_assoc, ← hA, List.take_left]
  have e1 : (((R.take (i * 3) ++ B ++ R.drop (i * 3 + B.length)).take (p * 3) ++ zs ++ (R.take (i * 3) ++ B ++ R.drop (i * 3 + B.length)).drop (p * 3 + zs.length)).take (p * 3)) = A ++ B := by
    rw [e0, List.append_assoc, List.take_append_of_le_length (by simp; omega), List.take_take, Nat.min_self, List.take_append_of_le_length (by simp; omega), List.take_of_length_le (by simp; omega)]
  have h3 := h2.sl (n := p) (by omega) hcm (by
    rw [e1]
    intro u hu
    refine hs.one u ?_
    rcases List.mem_append.1 hu with q | q
    · simp [q]
    · simp [q])
  rw [e1] at h3
  have f1 : Fr (fun k => rowOf (some ⟨g, off, none⟩) = some k) w ((w.drew.setCells g (off + i * 3) B).setCells g (off + p * 3) zs) :=
    Row.fr_set (g := g) (Row.fr_set (g := g) (Fr.refl _ w).drew _ _ (rowOf_some g off)) _ _ (rowOf_some g off)
  exact h.row_step h3 f1 (.inl rfl)

set_option maxRecDepth 100000 in
set_option maxHeartbeats 1000000 in
theorem deleteT {w0 w : World} {L : List As} {s : Option Addr} {n c : Nat} (a b : Int) (i m p : Nat) (A X B : List Value) (h : St w0 w (As.row 95 3 s n c (A ++ X ++ B) :: L))
    (hA : A.length = i * 3) (hX : X.length = 3) (hB : B.length = m * 3) (hp : i + m = p) (hn : n = p + 1) (ha : a = i) (hb : b = (i : Int) + 1) (hsm : n ≤ 4294967296) :
    Calls Try.prog 59 #[.slice s n c, .int .i64 a, .int .i64 b] w (DelPostT p (A ++ B) w0 L) := by
  subst ha
  subst hb
  have hs := h.sl
  have hle := hs.le
  obtain ⟨g, off, rfl, -, -, -⟩ := hs.some_of (by omega)
  obtain ⟨s1, hrun1, hs1, hr1⟩ := hs.cut_l elT (i + 1) (by omega)
  obtain ⟨ad, rfl⟩ : ∃ ad, s1 = some ad := by
    cases s1 with
    | none => simp [rowOf] at hr1
    | some ad => exact ⟨ad, rfl⟩
  have hrunh := fun kd W => slice_h_some (P := Try.prog) elT g off n c i (by omega) (by omega) kd W
  have hrun3 := fun W => run_slice_lhm' (P := Try.prog) elT (some ⟨g, off, none⟩) n c .i64 .i64 .i64 (i : Int) ((i : Int) + 1) (n : Int) (by omega) (by omega) (by omega) (by omega) W
  obtain ⟨v13, hv13⟩ : ∃ v, sliced (some ⟨g, off, none⟩) (i : Int).toNat ((i : Int) + 1).toNat (n : Int).toNat 3 = v := ⟨_, rfl⟩
  simp only [hv13] at hrun3
  clear hv13
  have hrunc := fun kd kd' W => slice_lh_some (P := Try.prog) elT g off p c p n (by omega) (by omega) (by omega) kd kd' W
  obtain ⟨⟨R, hR⟩, ⟨R1, hR1⟩, fin⟩ := del_rowsT h hA hX hB hp hn
  have hdrop : (A ++ X ++ B).drop ((i + 1) * 3) = B := by
    rw [List.drop_append_of_le_length (by simp; omega), List.drop_of_length_le (by simp; omega), List.nil_append]
  have happ := fun ty => run_append_row (m := 0) elT hR.drew ty i B ad m (c - (i + 1)) hB (by
    have := hs1.cells rfl
    rw [hdrop] at this
    exact this) (by
    intro u hu
    exact hs.one u (by simp [hu])) (by omega)
  have hclr := fun ty => run_clear_row elT.und zvT zoneT hR1 ty (p * 3) 1 (c - p) (by omega) (by rw [zlenT]; omega)
  have hFin := Lib.hid (fin (zeros (.agg #[.int .i64 0, .int .i64 0, .int .i64 0]) 1) zlenT)
  have hm1 : n - (i + 1) = m := by omega
  have hm2 : n - p = 1 := by omega
  rw [hm1] at hrun1
  rw [hm2] at hrunc
  rw [hp] at happ
  have Happ := Lib.hid happ
  have Hclr := Lib.hid hclr
  clear happ hclr
  have hne : ((i : Int) == (i : Int) + 1) = false := by simp; omega
  push_cast at hrun1
  clear h hs hs1 hr1 hR hR1 fin hdrop hA hX hB hp hn hm1 hm2 hsm hle
  go_enter Try.func59, Try.ntmps59
  go_wp2_with fail
  go_still_tail 6, (by kernel_rfl)
  change wpList _ _ _ _ _ w.drew
  refine wpList_append_eq rfl _ _ 31 31 rfl _ _ _ rfl rfl (Happ.out _) ?_
  go_wp2_with (refine wpList_clear_eq rfl (.tmp 31) 31 rfl _ _ rfl (Hclr.out _) ?_)
  go_ret
  exact ⟨_, _, rfl, hFin.out⟩

def InsPostT (n : Nat) (xs : List Value) (w0 : World) (L : List As) (E : Ending) (w' : World) : Prop := ∃ s' c', E = .returned (.slice s' n c') ∧ St w0 w' (As.row 95 3 s' n c' xs :: L)

set_option maxHeartbeats 1000000 in
theorem insert_endT {w0 w : World} {L : List As} {s : Option Addr} {n c : Nat} {xs : List Value} (g2 : Nat) (V : Array Value) (a : Int) (h : St w0 w (As.row 95 3 s n c xs :: L)) (hv : Blk w g2 V 95) (hV : V.size = 3) (h1V : ∀ u ∈ V.toList, u.oneCell' = true) (ha : a = n) (hsm : n ≤ 1000000) :
    Calls Try.prog 76 #[.slice s n c, .int .i64 a, .slice (some ⟨g2, 0, none⟩) 1 1] w (InsPostT (n + 1) (xs ++ V.toList) w0 L) := by
  subst ha
  have hs := h.sl
  have hle := hs.le
  obtain ⟨s1, hsl, _, _⟩ := hs.cut_l elT n (Nat.le_refl _)
  have h1 : V.toList.length = 1 * 3 := by simp [hV]
  have h2 : ∀ ad, (some (⟨g2, 0, .none⟩ : Addr)) = some ad → ∀ j v, V.toList[j]? = some v → w.cell? (ad.add j) = some v := by
    intro ad had j v hj
    cases had
    rw [Addr.add_lit, hv.cell]
    simpa using hj
  have H := Lib.hid h
  clear h
  go_enter Try.func76, Try.ntmps76
  go_wp2_with (at_builtin; refine wpList_append_sl w rfl _ _ 31 rfl elT s n c xs rfl hs (some ⟨g2, 0, none⟩) 1 1 V.toList rfl h1 ?a2 h2 h1V ?a4 ?a5 ?_)
  case a2 => simp
  case a4 => simp only [maxLen]; omega
  case a5 => omega
  intro s' c' w' g1 g2 g3
  go_wp2
  go_ret
  exact ⟨s', c', by simp, H.out.row_step g1 g2 g3⟩

theorem ins_listT {i m n : Nat} {A B V R : List Value} (hA : A.length = i * 3) (hB : B.length = m * 3) (hV : V.length = 3) (hn : i + m = n) (hR : R.take (n * 3) = A ++ B) (hl : (n + 1) * 3 ≤ R.length) :
    (((R.take ((i + 1) * 3) ++ B ++ R.drop ((i + 1) * 3 + B.length)).take (i * 3) ++ V ++ (R.take ((i + 1) * 3) ++ B ++ R.drop ((i + 1) * 3 + B.length)).drop (i * 3 + V.length)).take ((n + 1) * 3)) = A ++ V ++ B := by
  have e0 : R.take (i * 3) = A := by
    have e : R.take (i * 3) = (R.take (n * 3)).take (i * 3) := by rw [List.take_take, Nat.min_eq_left (by omega)]
    rw [e, hR, ← hA, List.take_left]
  have e1 : (R.take ((i + 1) * 3) ++ B ++ R.drop ((i + 1) * 3 + B.length)).take (i * 3) = A := by
    rw [List.append_assoc, List.take_append_of_le_length (by simp; omega), List.take_take, Nat.min_eq_left (by omega), e0]
  have e2 : (R.take ((i + 1) * 3) ++ B ++ R.drop ((i + 1) * 3 + B.length)).drop (i * 3 + V.length) = B ++ R.drop ((i + 1) * 3 + B.length) := by
    rw [List.append_assoc, List.drop_append_of_le_length (by simp; omega), List.drop_of_length_le (by simp; omega), List.nil_append]
  rw [e1, e2, ← List.append_assoc (A ++ V), List.take_append_of_le_length (by simp; omega), List.take_of_length_le (by simp; omega)]

theorem ins_rowsT {w0 w : World} {L : List As} {g off i m n c : Nat} {A B V : List Value} (h : St w0 w (As.row 95 3 (some ⟨g, off, none⟩) n c (A ++ B) :: L))
    (hA : A.length = i * 3) (hB : B.length = m * 3) (hV : V.length = 3) (h1V : ∀ u ∈ V, u.oneCell' = true) (hn : i + m = n) (hroom : n + 1 ≤ c) :
    (∃ R, Row w 95 g off (c * 3) R) ∧ (∃ R, Row (w.drew.setCells g (off + (i + 1) * 3) B) 95 g off (c * 3) R) ∧ St w0 ((w.drew.setCells g (off + (i + 1) * 3) B).setCells g (off + i * 3) V) (As.row 95 3 (some ⟨g, off, none⟩) (n + 1) c (A ++ V ++ B) :: L) := by
  have hs := h.sl
  have hle := hs.le
  obtain ⟨R, hR, hx⟩ := hs.toRow
  have hlR := hR.len
  have h1 := hR.drew.set ((i + 1) * 3) B (by omega)
  refine ⟨⟨R, hR⟩, ⟨_, h1⟩, ?_⟩
  have h2 := h1.set (i * 3) V (by omega)
  have hcm : c ≤ maxLen := by
    rcases hs.row with ⟨q, _⟩ | ⟨_, _, _, _, _, _, q, _⟩
    · cases q
    · exact q
  have e1 := ins_listT hA hB hV hn hx (by omega)
  have h3 := h2.sl (n := n + 1) (by omega) hcm (by
    rw [e1]
    intro u hu
    rcases List.mem_append.1 hu with q | q
    · rcases List.mem_append.1 q with q | q
      · exact hs.one u (by simp [q])
      · exact h1V u q
    · exact hs.one u (by simp [q]))
  rw [e1] at h3
  have f1 : Fr (fun k => rowOf (some ⟨g, off, none⟩) = some k) w ((w.drew.setCells g (off + (i + 1) * 3) B).setCells g (off + i * 3) V) :=
    Row.fr_set (g := g) (Row.fr_set (g := g) (Fr.refl _ w).drew _ _ (rowOf_some g off)) _ _ (rowOf_some g off)
  exact h.row_step h3 f1 (.inl rfl)

set_option maxRecDepth 100000 in
set_option maxHeartbeats 2000000 in
theorem insert_roomT {w0 w : World} {L : List As} {s : Option Addr} {n c : Nat} (g2 : Nat) (V : Array Value) (a : Int) (i m : Nat) (A B : List Value) (h : St w0 w (As.row 95 3 s n c (A ++ B) :: L)) (hv : Blk w g2 V 95) (hg2 : rowOf s ≠ some g2) (hV : V.size = 3) (h1V : ∀ u ∈ V.toList, u.oneCell' = true)
    (hA : A.length = i * 3) (hB : B.length = m * 3) (hm : 0 < m) (hn : i + m = n) (ha : a = i) (hsm : n ≤ 1000000) (hroom : n + 1 ≤ c) :
    Calls Try.prog 76 #[.slice s n c, .int .i64 a, .slice (some ⟨g2, 0, none⟩) 1 1] w (InsPostT (n + 1) (A ++ V.toList ++ B) w0 L) := by
  subst ha
  have hs := h.sl
  have hle := hs.le
  obtain ⟨g, off, rfl, hcell, -, -⟩ := hs.some_of (by omega)
  have hgg : g2 ≠ g := fun e => hg2 (by rw [e]; rfl)
  obtain ⟨s1, hrun0, -, -⟩ := hs.cut_l elT i (by omega)
  have hrunh := fun kd W => slice_h_some (P := Try.prog) elT g off n c (n + 1) (by omega) (by omega) kd W
  have hrun1 := fun kd W => slice_l_some (P := Try.prog) elT g off (n + 1) c (i + 1) (by omega) (by omega) kd W
  have hrun2 := fun kd W => slice_l_some (P := Try.prog) elT g off (n + 1) c i (by omega) (by omega) kd W
  obtain ⟨⟨R, hR⟩, ⟨R1, hR1⟩, fin⟩ := ins_rowsT h hA hB (V := V.toList) (by simp [hV]) h1V hn hroom
  have hm1 : n + 1 - (i + 1) = m := by omega
  have hm2 : n + 1 - i = m + 1 := by omega
  rw [hm1] at hrun1
  rw [hm2] at hrun2
  have hBc : ∀ j v, B[j]? = some v → w.cell? ⟨g, off + i * 3 + j, none⟩ = some v := by
    intro j v hj
    have hj' : j < m * 3 := by have := (List.getElem?_eq_some_iff.1 hj).1; omega
    have := hcell (i * 3 + j) (by omega)
    rw [List.getElem?_append_right (by omega), hA, show i * 3 + j - i * 3 = j by omega, hj] at this
    rw [← this, Nat.add_assoc]
  have hc1 := fun ty => copy_row elT hR.drew 31 ty ((i + 1) * 3) m (c - (i + 1)) ⟨g, off + i * 3, none⟩ (m + 1) (c - i) m (by simp only [Nat.min_def]; split <;> omega) B hB (fun j v hj => by rw [Addr.add_lit]; exact hBc j v hj) (fun v hv => hs.one v (by simp [hv])) (by omega)
  have hvc : ∀ j v, V.toList[j]? = some v → (w.drew.setCells g (off + (i + 1) * 3) B).cell? ((⟨g2, 0, none⟩ : Addr).add j) = some v := by
    intro j v hj
    rw [Addr.add_lit]
    have hb : Blk (w.drew.setCells g (off + (i + 1) * 3) B) g2 V 95 := (World.setCells_block g B _ _ g2 hgg).trans hv
    rw [hb.cell]
    simpa using hj
  have hc2 := fun ty => copy_row elT hR1 31 ty (i * 3) (m + 1) (c - i) ⟨g2, 0, none⟩ 1 1 1 (by simp only [Nat.min_def]; split <;> omega) V.toList (by simp [hV]) hvc h1V (by simp [hV]; omega)
  obtain ⟨cur, hcur, hcsz, _⟩ := hR
  have hov : ∀ lb cb, (callFunc 80 #[.slice (some ⟨g2, 0, none⟩) 1 1, .slice (some ⟨g, off + (i + 1) * 3, none⟩) lb cb]).run Try.prog w = .ok (.value (.bool false)) w := fun lb cb => by
    rw [run_callFunc_extern Try.func80 (by kernel_rfl) (by kernel_rfl) (by kernel_rfl) (e := Extern.SlicesOverlaps.overlaps #[31, 31] #[4]) (by kernel_rfl),
      Lib.run_overlaps_apart w 31 4 95 elT.und 3 (fun w => by have := elT.sizeOf w; rwa [elT.elem] at this) ⟨g2, 0, none⟩ ⟨g, off + (i + 1) * 3, none⟩ 1 1 lb cb hgg 95 95 V.size cur.size (by unfold Blk at hv; simp [World.shape?, hv]) (by unfold Blk at hcur; simp [World.shape?, hcur]) (by omega) (hv.free _) (hv.free _)]
    rfl
  have Hfin := Lib.hid fin
  have Hc1 := Lib.hid hc1
  have Hc2 := Lib.hid hc2
  have hd1 : ((i : Int) == (n : Int)) = false := by simp; omega
  have hd2 : decide ((c : Int) < (n : Int) + 1) = false := by simp; omega
  have hib : i < n := by omega
  have hw1 : IntKind.i64.wrap ((i : Int) + 1) = (i : Int) + 1 := by rw [IntKind.wrap_i64]; omega
  push_cast at hrun1 hrunh
  generalize A ++ V.toList ++ B = XS at Hfin ⊢
  clear fin hc1 hc2 hcell hs hR1 hcur hcsz hBc hvc h1V hA hB hm1 hm2 hV hn hm h
  go_enter Try.func76, Try.ntmps76
  go_wp2_with (simp only [hov])
  go_still_tail 8, (by kernel_rfl)
  change wpList _ _ _ _ _ w.drew
  refine wpList_copy_eq rfl _ _ 31 31 rfl _ _ _ rfl rfl (Hc1.out _) ?_
  go_wp2_with (refine wpList_copy_eq rfl (.tmp 80) (.tmp 81) 31 31 rfl _ _ _ rfl rfl (Hc2.out _) ?_)
  go_ret
  exact ⟨_, _, rfl, Hfin.out⟩
theorem ins_list2T {i m n : Nat} {A B V R : List Value} (hA : A.length = i * 3) (hB : B.length = m * 3) (hV : V.length = 3) (hn : i + m = n) (hR : R.take (i * 3) = A) (hl : (n + 1) * 3 ≤ R.length) :
    (((R.take (i * 3) ++ V ++ R.drop (i * 3 + V.length)).take ((i + 1) * 3) ++ B ++ (R.take (i * 3) ++ V ++ R.drop (i * 3 + V.length)).drop ((i + 1) * 3 + B.length)).take ((n + 1) * 3)) = A ++ V ++ B := by
  have e1 : (R.take (i * 3) ++ V ++ R.drop (i * 3 + V.length)).take ((i + 1) * 3) = A ++ V := by
    rw [hR, List.take_append_of_le_length (by simp; omega), List.take_of_length_le (by simp; omega)]
  rw [e1, List.take_append_of_le_length (by simp; omega), List.take_of_length_le (by simp; omega)]

set_option maxRecDepth 100000 in
set_option maxHeartbeats 2000000 in
theorem insert_growT {w0 w : World} {L : List As} {s : Option Addr} {n c : Nat} (g2 : Nat) (V : Array Value) (a : Int) (i m : Nat) (A B : List Value) (h : St w0 w (As.row 95 3 s n c (A ++ B) :: L)) (hv : Blk w g2 V 95) (hV : V.size = 3) (h1V : ∀ u ∈ V.toList, u.oneCell' = true)
    (hA : A.length = i * 3) (hB : B.length = m * 3) (hm : 0 < m) (hn : i + m = n) (ha : a = i) (hsm : n ≤ 1000000) (hroom : c < n + 1) :
    Calls Try.prog 76 #[.slice s n c, .int .i64 a, .slice (some ⟨g2, 0, none⟩) 1 1] w (InsPostT (n + 1) (A ++ V.toList ++ B) w0 L) := by
  subst ha
  have hs := h.sl
  have hle := hs.le
  obtain ⟨g, off, rfl, hcell, -, -⟩ := hs.some_of (by omega)
  have hgl : g < w.heap.size := hs.lt g rfl
  have hrunh := fun kd W => slice_h_some (P := Try.prog) elT g off n c i (by omega) (by omega) kd W
  obtain ⟨i0, hi0, hz0, hzs, hzb⟩ := info_parts infoT
  have hAc : ∀ j v, A[j]? = some v → w.cell? ⟨g, off + j, none⟩ = some v := by
    intro j v hj
    have hj' : j < i * 3 := by have := (List.getElem?_eq_some_iff.1 hj).1; omega
    rw [hcell j (by omega), List.getElem?_append_left (by omega)]; exact hj
  have hBc : ∀ j v, B[j]? = some v → w.cell? ⟨g, off + i * 3 + j, none⟩ = some v := by
    intro j v hj
    have hj' : j < m * 3 := by have := (List.getElem?_eq_some_iff.1 hj).1; omega
    have := hcell (i * 3 + j) (by omega)
    rw [List.getElem?_append_right (by omega), hA, show i * 3 + j - i * 3 = j by omega, hj] at this
    rw [← this, Nat.add_assoc]
  have hold : (Builtin.firstCells i0.size i (.slice (some ⟨g, off, none⟩) i c)).run Try.prog w.drew = .ok A.toArray w.drew := by
    rw [hzs]
    exact run_firstCells_some w.drew 3 i ⟨g, off, none⟩ i c A hA (fun j v hj => by rw [Addr.add_lit]; exact hAc j v hj)
  have hkk : (n : Int) + 1 - (i : Int) = ((m + 1 : Nat) : Int) := by omega
  have hik : i + (m + 1) = n + 1 := by omega
  have hrz := fun ty => Lib.run_append_grow_zeros (P := Try.prog) w 31 3 ty 95 i0 _ .i64 .i64 elT.und Try.underlying3 hi0 hz0 (some ⟨g, off, none⟩) i c A hold (m + 1) (by omega) (by omega) (by omega) (by omega) (by rw [hzb]; omega) (by rw [hzb, hik]; exact growslice_fits (by omega) (by omega))
  rw [hik] at hrz
  simp only [← hkk] at hrz
  obtain ⟨G, hG⟩ : ∃ G, G = grownCap w (n + 1) c 95 := ⟨_, rfl⟩
  have hGn : n + 1 ≤ G := by rw [hG]; exact grownCap_ge w _ _ _
  have hGm : G ≤ maxLen := by rw [hG]; exact grownCap_le_maxLen w _ _ _ (by unfold maxLen; omega)
  have hG63 : G ≤ 9223372036854775807 := by unfold maxLen at hGm; omega
  rw [← hG] at hrz
  obtain ⟨ROW, hROW⟩ : ∃ ROW : Array Value, ROW = A.toArray ++ Builtin.zeroCells (.agg #[.int .i64 0, .int .i64 0, .int .i64 0] : Value).cells (m + 1) ++ Builtin.zeroCells (.agg #[.int .i64 0, .int .i64 0, .int .i64 0] : Value).cells (G - (n + 1)) := ⟨_, rfl⟩
  have hRsz : ROW.size = G * 3 := by
    rw [hROW]
    simp [Builtin.zeroCells, Value.cells, hA]
    omega
  have hRA : ROW.toList.take (i * 3) = A := by
    rw [hROW]
    simp only [Array.toList_append, List.append_assoc]
    rw [← hA, List.take_left]
  rw [← hROW] at hrz
  have hf1 : Fr emp w (w.drew.alloc (.cells ROW 95)) := (Fr.refl emp w).drew.alloc _
  have hb1 : Blk (w.drew.alloc (.cells ROW 95)) w.heap.size ROW 95 := Blk.new w.drew ROW 95
  generalize w.drew.alloc (.cells ROW 95) = w1 at hrz hf1 hb1
  have hR0 : Row w1 95 w.heap.size 0 (G * 3) ROW.toList := ⟨ROW, hb1, by omega, by rw [List.drop_zero, List.take_of_length_le (by simp [hRsz])]⟩
  have hv1 : Blk w1 g2 V 95 := hv.kept hf1 (fun q => q)
  have hrun1 := fun kd W => slice_l_some (P := Try.prog) elT w.heap.size 0 (n + 1) G i (by omega) (by omega) kd W
  have hrun2 := fun kd W => slice_l_some (P := Try.prog) elT w.heap.size 0 (n + 1) G (i + 1) (by omega) (by omega) kd W
  have hrun3 := fun kd W => slice_l_some (P := Try.prog) elT g off n c i (by omega) (by omega) kd W
  have hm1 : n + 1 - (i + 1) = m := by omega
  have hm2 : n + 1 - i = m + 1 := by omega
  have hm3 : n - i = m := by omega
  rw [hm2] at hrun1
  rw [hm1] at hrun2
  rw [hm3] at hrun3
  have hcA := fun ty => copy_row elT hR0 31 ty (i * 3) (m + 1) (G - i) ⟨g2, 0, none⟩ 1 1 1 (by simp only [Nat.min_def]; split <;> omega) V.toList (by simp [hV]) (fun j v hj => by rw [Addr.add_lit, hv1.cell]; simpa using hj) h1V (by simp [hV]; omega)
  have hR1 := (hR0.set (i * 3) V.toList (by simp [hV]; omega)).drew
  have hf2 : Fr emp w (w1.setCells w.heap.size (0 + i * 3) V.toList) := Fr.setCells_new hf1 _ _ _ (Nat.le_refl _)
  have hcB := fun ty => copy_row elT hR1 31 ty ((i + 1) * 3) m (G - (i + 1)) ⟨g, off + i * 3, none⟩ m (c - i) m (by simp only [Nat.min_def]; split <;> omega) B hB (fun j v hj => by rw [Addr.add_lit]; exact hf2.drew.cell (hBc j v hj) (fun q => q)) (fun v hv => hs.one v (by simp [hv])) (by omega)
  have hR2 := hR1.set ((i + 1) * 3) B (by omega)
  have hf3 := Fr.setCells_new hf2.drew w.heap.size (0 + (i + 1) * 3) B (Nat.le_refl _)
  have e1 := ins_list2T (V := V.toList) hA hB (by simp [hV]) hn hRA (by simp [hRsz]; omega)
  have hsl := hR2.sl (n := n + 1) hGn hGm (by
    rw [e1]
    intro u hu
    rcases List.mem_append.1 hu with q | q
    · rcases List.mem_append.1 q with q | q
      · exact hs.one u (by simp [q])
      · exact h1V u q
    · exact hs.one u (by simp [q]))
  rw [e1] at hsl
  have fin := h.drop.row_new hsl hf3 (.inr ⟨w.heap.size, rfl, Nat.le_refl _⟩)
  have Hfin := Lib.hid fin
  have Hrz := Lib.hid hrz
  simp only [Nat.zero_add] at hcA hcB hrun1 hrun2 Hfin
  have HcA := Lib.hid hcA
  have HcB := Lib.hid hcB
  have hd1 : ((i : Int) == (n : Int)) = false := by simp; omega
  have hd2 : decide ((c : Int) < (n : Int) + 1) = true := by simp; omega
  have hib : i < n := by omega
  have hw1 : IntKind.i64.wrap ((i : Int) + 1) = (i : Int) + 1 := by rw [IntKind.wrap_i64]; omega
  push_cast at hrun2
  generalize A ++ V.toList ++ B = XS at Hfin ⊢
  generalize w.heap.size = gN at *
  clear fin hcA hcB hrz hcell hs hR0 hR1 hR2 hBc hAc h1V hA hB hm1 hm2 hm3 hV hn hm h hsl hf1 hf2 hf3 hb1 hv1 hv hkk hik hold hG hROW hRsz hRA e1 hi0 hz0 hzs hzb hGm
  go_enter Try.func76, Try.ntmps76
  go_upto_region 10 with (at_builtin; refine wpList_append_eq rfl (.tmp 34) (.tmp 39) 31 3 rfl _ _ _ rfl rfl (Hrz.out _) ?_)
  clear Hrz
  go_upto_region 11 with (refine wpList_copy_eq rfl (.tmp 43) (.tmp 44) 31 31 rfl _ _ _ rfl rfl (HcA.out _) ?_)
  generalize w1.setCells gN (i * 3) V.toList = w2 at *
  go_still_tail 8, (by kernel_rfl)
  change wpList _ _ _ _ _ w2.drew
  refine wpList_copy_eq rfl _ _ 31 31 rfl _ _ _ rfl rfl (HcB.out _) ?_
  go_wp2_with fail
  go_ret
  exact ⟨_, _, rfl, Hfin.out⟩

/-- slices.Insert of one element -/
theorem insertT {w0 w : World} {L : List As} {s : Option Addr} {n c : Nat} (g2 : Nat) (V : Array Value) (a : Int) (i m : Nat) (A B : List Value) (h : St w0 w (As.row 95 3 s n c (A ++ B) :: L)) (hv : Blk w g2 V 95) (hg2 : rowOf s ≠ some g2) (hV : V.size = 3) (h1V : ∀ u ∈ V.toList, u.oneCell' = true)
    (hA : A.length = i * 3) (hB : B.length = m * 3) (hn : i + m = n) (ha : a = i) (hsm : n ≤ 1000000) :
    Calls Try.prog 76 #[.slice s n c, .int .i64 a, .slice (some ⟨g2, 0, none⟩) 1 1] w (InsPostT (n + 1) (A ++ V.toList ++ B) w0 L) := by
  by_cases hm : m = 0
  · subst hm
    have hB0 : B = [] := List.eq_nil_of_length_eq_zero (by omega)
    subst hB0
    rw [List.append_nil] at h ⊢
    exact insert_endT g2 V a h hv hV h1V (by omega) hsm
  · by_cases hc : n + 1 ≤ c
    · exact insert_roomT g2 V a i m A B h hv hg2 hV h1V hA hB (by omega) hn ha hsm hc
    · exact insert_growT g2 V a i m A B h hv hV h1V hA hB (by omega) hn ha hsm (by omega)
set_option maxHeartbeats 400000 in
theorem clone_nilT (w : World) : Calls Try.prog 70 #[.slice none 0 0] w (ClonePost w 95 3 0 []) := by
  have hnil := fun w => Lib.run_eql_slice_nil (P := Try.prog) w 31 95 none 0 0 0 0 Try.underlying31
  go_enter Try.func70, Try.ntmps70
  go_wp2
  go_ret
  exact ⟨none, 0, rfl, Sl.nil _ _ _, Fr.refl _ _, .inl rfl⟩

set_option maxHeartbeats 400000 in
theorem clone_someT (a : Addr) (n c : Nat) (xs : List Value) (w : World) (hr : Rd w 3 (some a) n xs) (hn : n ≤ 1000000) :
    Calls Try.prog 70 #[.slice (some a) n c] w (ClonePost w 95 3 n xs) := by
  have hnil := fun w => Lib.run_eql_slice_nil (P := Try.prog) w 31 95 (some a) n c 0 0 Try.underlying31
  have hr' := hr.alloc (.cells #[] 95)
  have h0 : Sl (w.alloc (.cells #[] 95)) 95 3 (some ⟨w.heap.size, 0, .none⟩) 0 0 [] := ⟨by simp, by simp, .inr ⟨w.heap.size, 0, #[], rfl, Blk.new w #[] 95, by omega, by simp [maxLen], by simp, by simp⟩⟩
  go_enter Try.func70, Try.ntmps70
  go_wp2_with (at_builtin; refine wpList_append_sl _ rfl _ _ 31 rfl elT _ 0 0 [] rfl h0 (some a) n c xs rfl hr'.len hr'.nil hr'.cells hr'.one (by simp only [maxLen]; omega) (by omega) ?_)
  intro s' c' w' g1 g2 g3
  try simp only [Nat.zero_add, List.nil_append] at g1
  go_wp2
  go_ret
  refine ⟨s', c', by simp, g1, (((Fr.refl emp w).alloc _).trans g2 ?_), ?_⟩
  · intro i hi e; simp [rowOf] at e; omega
  · rcases g3 with q | ⟨g, q1, q2⟩
    · exact .inr ⟨w.heap.size, by rw [q]; rfl, Nat.le_refl _⟩
    · exact .inr ⟨g, q1, by simp at q2; omega⟩

theorem cloneT (s : Option Addr) (n c : Nat) (xs : List Value) (w : World) (hs : Rd w 3 s n xs) (hc : s = none → c = 0) (hn : n ≤ 1000000) :
    Calls Try.prog 70 #[.slice s n c] w (ClonePost w 95 3 n xs) := by
  cases s with
  | some a => exact clone_someT a n c xs w hs hn
  | none =>
    obtain rfl := hs.nil rfl
    obtain rfl := hc rfl
    have : xs = [] := List.eq_nil_of_length_eq_zero (by have := hs.len; simpa using this)
    subst this
    exact clone_nilT w

end Go.Proofs.Ytnamkckpgaopkaa
