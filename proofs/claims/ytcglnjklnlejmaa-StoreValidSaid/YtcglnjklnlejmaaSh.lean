/-
  The store as objects in memory; drop, Open, Abort, Size.
-/
import Derived.Test.YtcglnjklnlejmaaSg
import Derived.Test.YtcglnjklnlejmaaKq
set_option linter.unusedVariables false
set_option linter.unusedSimpArgs false
namespace Go.Proofs.Ytcglnjklnlejmaa
open Go.RowKit Go.K Go.K.Sr

structure Sp where
  sp : Option Addr
  cp : Nat
  st : Option Addr
  ct : Nat
  sc : Option Addr
  cc : Nat
abbrev sL (b : Nat) (S : SS) (p : Sp) (L : List As) : List As :=
  As.cells b #[.slice p.sp S.pairs.length p.cp, .slice p.st S.txs.length p.ct, .int .i64 S.nx] 28 ::
  As.row 36 4 p.st S.txs.length p.ct (flat ycells (yz (.slice p.sc S.cs.length p.cc) S.txs)) ::
  As.rdr 2 p.sp S.pairs.length p.cp (flat pcells S.pairs) :: As.rdr 3 p.sc S.cs.length p.cc (flat ccells S.cs) :: L
def SAt (b : Nat) (S : SS) (w0 w : World) (L : List As) : Prop := ∃ p, St w0 w (sL b S p L)

theorem SAt.of_below {b : Nat} {S : SS} {w0 w w' : World} {L : List As} (h : SAt b S w0 w L) (hb : Below w.heap.size w w') : SAt b S w0 w' L := by
  obtain ⟨p, h⟩ := h
  exact ⟨p, h.of_below hb⟩
theorem join_rdr {w0 w w' : World} {L : List As} {e : TypeId} {sz : Nat} {s : Option Addr} {n c : Nat} {xs : List Value} (h : St w0 w L) (k : St w w' [As.row e sz s n c xs]) : St w0 w' (As.rdr sz s n c xs :: L) := by
  refine h.rdr_new k.bel k.sl.rc ?_
  intro q hq
  obtain ⟨F, h1, h2, _⟩ := k.head
  exact h2 q ((h1.1 q).2 hq)

def dropS (S : SS) (k : Nat) : SS := { S with txs := S.txs.eraseIdx k, cs := if k = 0 then [] else S.cs }
theorem yz_erase (cv : Value) (l : List Tx) (k : Nat) (hk : k < l.length) : (yz cv l).eraseIdx k = yz (if k = 0 then nilS else cv) (l.eraseIdx k) := by
  cases l with
  | nil => simp at hk
  | cons t r =>
    cases k with
    | zero =>
      cases r with
      | nil => rfl
      | cons u r => rfl
    | succ k => simp [yz, List.eraseIdx_eq_take_drop_succ, List.map_take, List.map_drop]
set_option maxRecDepth 100000 in
set_option maxHeartbeats 600000 in
theorem drop_st {w0 w : World} {L : List As} {b : Nat} {S : SS} (k : Nat) (h : SAt b S w0 w L) (hk : k < S.txs.length) (hn : S.txs.length ≤ 100000) :
    Calls Try.prog 36 #[.pointer (some ⟨b, 0, none⟩), .int .i64 k] w fun e w' => e = .returned (.tuple #[]) ∧ SAt b (dropS S k) w0 w' L := by
  obtain ⟨p, h⟩ := h
  obtain ⟨cv, hcv⟩ : ∃ cv : Value, .slice p.sc S.cs.length p.cc = cv := ⟨_, rfl⟩
  have h1 := h.swap
  obtain ⟨c0, c1, c2, f0, f1, f2⟩ := h.blk.1.three
  rw [hcv] at h1
  have hyl : k < (yz cv S.txs).length := by rw [yz_len]; exact hk
  have hfl : flat ycells (yz cv S.txs) = flat ycells ((yz cv S.txs).take k) ++ ycells ((yz cv S.txs)[k]) ++ flat ycells ((yz cv S.txs).drop (k + 1)) := by
    conv => lhs; rw [← List.take_append_drop k (yz cv S.txs), List.drop_eq_getElem_cons hyl]
    rw [flat_append, List.append_assoc]
    rfl
  rw [hfl] at h1
  have H1 := Lib.hid h1
  have hw1 : IntKind.i64.wrap ((k : Int) + 1) = (k : Int) + 1 := by rw [IntKind.wrap_i64]; omega
  have hA : (flat ycells ((yz cv S.txs).take k)).length = k * 4 := by rw [y_len, List.length_take, yz_len]; congr 1; omega
  have hB : (flat ycells ((yz cv S.txs).drop (k + 1))).length = (S.txs.length - (k + 1)) * 4 := by rw [y_len, List.length_drop, yz_len]
  have hB2 : flat ycells ((yz cv S.txs).take k) ++ flat ycells ((yz cv S.txs).drop (k + 1)) = flat ycells (yz (if k = 0 then nilS else cv) (S.txs.eraseIdx k)) := by
    rw [← flat_append, ← List.eraseIdx_eq_take_drop_succ, yz_erase cv S.txs k hk]
  have HA := Lib.hid hA
  have HB := Lib.hid hB
  have HB2 := Lib.hid hB2
  have HCV := Lib.hid hcv
  clear h h1 hfl hA hB hB2 hcv c0 c2 f0 f2
  go_enter Try.func36, Try.ntmps36
  go_wp2_with (go_at_call 58; refine (deleteX _ _ k (S.txs.length - (k + 1)) (S.txs.length - 1) _ _ _ H1.out HA.out rfl HB.out (by omega) (by omega) rfl rfl (by omega)).mono ?_; rintro e w2 ⟨s2, c2, rfl, h2⟩; have H2 := Lib.hid h2.swap; obtain ⟨c0, c1, c2', f0, f1, f2⟩ := h2.swap.blk.1.three; clear h2)
  go_end0
  refine ⟨rfl, ?_⟩
  have h3 := H2.out.set 1 (.slice s2 (S.txs.length - 1) c2)
  have hel : (S.txs.eraseIdx k).length = S.txs.length - 1 := by rw [List.length_eraseIdx, if_pos hk]
  rw [HB2.out] at h3
  simp only [List.setIfInBounds_toArray, List.set_cons_zero, List.set_cons_succ] at h3
  by_cases h0 : k = 0
  · subst h0
    have h4 := St.sh [_, _, _, _] [3, 0, 1, 2] (by decide) h3
    simp only [List.map_cons, List.map_nil, List.getD_cons_zero, List.getD_cons_succ, List.cons_append, List.nil_append] at h4
    have h5 := St.sh [_, _, _, _] [1, 2, 3, 0] (by decide) (h4.drop.rdr_nil 3)
    simp only [List.map_cons, List.map_nil, List.getD_cons_zero, List.getD_cons_succ, List.cons_append, List.nil_append] at h5
    refine ⟨⟨p.sp, p.cp, s2, c2, none, 0⟩, ?_⟩
    simpa [sL, dropS, hel, flat] using h5
  · refine ⟨⟨p.sp, p.cp, s2, c2, p.sc, p.cc⟩, ?_⟩
    rw [if_neg h0, ← HCV.out] at h3
    simpa [sL, dropS, hel, h0] using h3

set_option maxHeartbeats 600000 in
theorem abort_st {w0 w : World} {L : List As} {b : Nat} {S : SS} (id : Int) (h : SAt b S w0 w L) (hn : S.txs.length ≤ 100000) :
    Calls Try.prog 24 #[.pointer (some ⟨b, 0, none⟩), .int .i64 id] w fun e w' => e = .returned (.int .i64 (if fnd id S.txs = none then 6 else 0)) ∧ SAt b (match fnd id S.txs with | some k => dropS S k | none => S) w0 w' L := by
  obtain ⟨p, h0⟩ := h
  obtain ⟨-, c1, -⟩ := h0.blk.1.three
  have HR := Lib.hid h0.swap.sl
  have H0 := Lib.hid (show SAt b S w0 w L from ⟨p, h0⟩)
  have C1 := Lib.hid c1
  clear h0 c1
  cases hf : fnd id S.txs with
  | none =>
    have e1 : fndI id S.txs = -1 := by unfold fndI; rw [hf]
    simp only [if_true]
    have E1 := Lib.hid e1
    clear hf e1
    go_enter Try.func24, Try.ntmps24
    go_wp2_with (go_at_call 44; refine (find_any b id _ S.txs _ _ _ C1.out HR.out.rd hn).mono ?_; rintro e w2 ⟨rfl, hb3⟩; rw [E1.out])
    go_ret
    exact ⟨rfl, H0.out.of_below hb3⟩
  | some k =>
    have hk := fnd_lt hf
    have e1 : fndI id S.txs = k := by unfold fndI; rw [hf]
    simp only [reduceCtorEq, if_false]
    have E1 := Lib.hid e1
    clear hf e1
    go_enter Try.func24, Try.ntmps24
    go_wp2_with (first
      | (go_at_call 44; refine (find_any b id _ S.txs _ _ _ C1.out HR.out.rd hn).mono ?_; rintro e w2 ⟨rfl, hb3⟩; rw [E1.out]; have H2 := Lib.hid (H0.out.of_below hb3))
      | (go_at_call 36; refine (drop_st k H2.out hk hn).mono ?_; rintro e w3 ⟨rfl, h3⟩))
    go_ret
    exact ⟨rfl, h3⟩

set_option maxHeartbeats 600000 in
theorem ssize_st {w0 w : World} {L : List As} {b : Nat} {S : SS} (h : SAt b S w0 w L) (hn : S.pairs.length ≤ 1000000) (hz : sizeP S.pairs ≤ 4611686018427387904) :
    Calls Try.prog 16 #[.pointer (some ⟨b, 0, none⟩)] w fun e w' => e = .returned (.int .i64 (sizeP S.pairs)) ∧ Below w.heap.size w w' := by
  obtain ⟨p, h0⟩ := h
  obtain ⟨c0, -, -⟩ := h0.blk.1.three
  have HR := Lib.hid (h0.front2).rc
  clear h0
  go_enter Try.func16, Try.ntmps16
  go_wp2_with (go_at_call 37; refine (size_any _ _ S.pairs _ HR.out.rd hn hz).mono ?_; rintro e w2 ⟨rfl, hb3⟩)
  go_ret
  exact ⟨rfl, hb3⟩

def openS (S : SS) (ow : ByteArray) (wr : Bool) : SS := { S with txs := S.txs ++ [⟨S.nx + 1, ow, wr⟩], nx := S.nx + 1 }
theorem yz_app (cv : Value) (l : List Tx) (t : Tx) (h : l ≠ []) : yz cv (l ++ [t]) = yz cv l ++ [(t, nilS)] := by
  cases l with
  | nil => exact absurd rfl h
  | cons u r => simp [yz]
set_option maxRecDepth 100000 in
set_option maxHeartbeats 1000000 in
theorem open_st {w0 w : World} {L : List As} {b : Nat} {S : SS} (ow : ByteArray) (wr : Bool) (h : SAt b S w0 w L) (hn : S.txs.length ≤ 100000) (hx : 0 ≤ S.nx) (hx2 : S.nx ≤ 1000000) (hcs : S.txs = [] → S.cs = []) :
    Calls Try.prog 12 #[.pointer (some ⟨b, 0, none⟩), .string ow, .bool wr] w fun e w' => e = .returned (.int .i64 (S.nx + 1)) ∧ SAt b (openS S ow wr) w0 w' L := by
  obtain ⟨p, h⟩ := h
  obtain ⟨c0, c1, c2, f0, f1, f2⟩ := h.blk.1.three
  have hw1 : IntKind.i64.wrap (S.nx + 1) = S.nx + 1 := by rw [IntKind.wrap_i64]; omega
  have h1 := h.set 2 (.int .i64 (S.nx + 1))
  simp only [List.setIfInBounds_toArray, List.set_cons_zero, List.set_cons_succ] at h1
  have H1 := Lib.hid h1
  clear h h1
  go_enter Try.func12, Try.ntmps12
  go_upto_region 2 with fail
  obtain ⟨W, hW⟩ : ∃ W, w.setCell ⟨b, 2, none⟩ (.int .i64 (S.nx + 1)) = W := ⟨_, rfl⟩
  rw [hW] at H1 ⊢
  clear hW c0 c1 c2 f0 f1 f2
  obtain ⟨c0, c1, c2, f0, f1, f2⟩ := H1.out.blk.1.three
  have hlt := H1.out.blk.1.lt
  have hxs := (H1.out.swap.sl.drew).alloc (.cells #[.int .i64 (S.nx + 1), .string ow, .bool wr, .slice none 0 0] 36)
  have r2 := rd_built_at W.drew #[.int .i64 (S.nx + 1), .string ow, .bool wr, .slice none 0 0] 36 4 1 W.heap.size rfl rfl (by simp [Value.oneCell'])
  have H4 := Lib.hid (H1.out.swap.drew.alloc (.cells #[.int .i64 (S.nx + 1), .string ow, .bool wr, .slice none 0 0] 36))
  have hS : (fun w' : World => w'.cell? ⟨b, 1, none⟩ = some (.slice p.st S.txs.length p.ct) ∧ w'.cell? ⟨b, 2, none⟩ = some (.int .i64 (S.nx + 1))) W.drew := ⟨c1, c2⟩
  clear f0 f2
  refine wpLast.region (S := (fun w' : World => w'.cell? ⟨b, 1, none⟩ = some (.slice p.st S.txs.length p.ct) ∧ w'.cell? ⟨b, 2, none⟩ = some (.int .i64 (S.nx + 1)))) (c := 16) (by kernel_rfl) ?_
  refine' wpLast.take (i := 0) (v := _) rfl (by kernel_rfl) (fun _ _ _ h => h) (by kernel_rfl) _ _ _ _ (by kernel_rfl) (by kernel_rfl) (Or.inl ⟨by rfl, ?hy0⟩) hS ?rest0
  case hy0 => (intro w' hSw; obtain ⟨k0, k1⟩ := hSw; go_simp; try with_reducible rfl)
  try simp only [Act.put, List.setIfInBounds_toArray, List.set_cons_zero, List.set_cons_succ]
  refine' wpLast.take (i := 1) (v := _) rfl (by kernel_rfl) (fun _ _ _ h => h) (by kernel_rfl) _ _ _ _ (by kernel_rfl) (by kernel_rfl) (Or.inl ⟨by rfl, ?hy1⟩) hS ?rest1
  case hy1 => (intro w' hSw; obtain ⟨k0, k1⟩ := hSw; go_simp; try with_reducible rfl)
  try simp only [Act.put, List.setIfInBounds_toArray, List.set_cons_zero, List.set_cons_succ]
  refine' wpLast.take (i := 2) (v := _) rfl (by kernel_rfl) (fun _ _ _ h => h) (by kernel_rfl) _ _ _ _ (by kernel_rfl) (by kernel_rfl) (Or.inl ⟨by rfl, ?hy2⟩) hS ?rest2
  case hy2 => (intro w' hSw; obtain ⟨k0, k1⟩ := hSw; go_simp; try with_reducible rfl)
  try simp only [Act.put, List.setIfInBounds_toArray, List.set_cons_zero, List.set_cons_succ]
  refine' wpLast.take (i := 3) (v := _) rfl (by kernel_rfl) (fun _ _ _ h => h) (by kernel_rfl) _ _ _ _ (by kernel_rfl) (by kernel_rfl) (Or.inl ⟨by rfl, ?hy3⟩) hS ?rest3
  case hy3 => (intro w' hSw; obtain ⟨k0, k1⟩ := hSw; go_simp; try with_reducible rfl)
  try simp only [Act.put, List.setIfInBounds_toArray, List.set_cons_zero, List.set_cons_succ]
  refine' wpLast.take (i := 4) (v := _) rfl (by kernel_rfl) (fun _ _ _ h => h) (by kernel_rfl) _ _ _ _ (by kernel_rfl) (by kernel_rfl) (Or.inl ⟨by rfl, ?hy4⟩) hS ?rest4
  case hy4 => (intro w' hSw; obtain ⟨k0, k1⟩ := hSw; go_simp; try with_reducible rfl)
  try simp only [Act.put, List.setIfInBounds_toArray, List.set_cons_zero, List.set_cons_succ]
  refine' wpLast.take (i := 5) (v := _) rfl (by kernel_rfl) (fun _ _ _ h => h) (by kernel_rfl) _ _ _ _ (by kernel_rfl) (by kernel_rfl) (Or.inl ⟨by rfl, ?hy5⟩) hS ?rest5
  case hy5 => (intro w' hSw; obtain ⟨k0, k1⟩ := hSw; go_simp; try with_reducible rfl)
  try simp only [Act.put, List.setIfInBounds_toArray, List.set_cons_zero, List.set_cons_succ]
  refine' wpLast.take (i := 6) (v := _) rfl (by kernel_rfl) (fun _ _ _ h => h) (by kernel_rfl) _ _ _ _ (by kernel_rfl) (by kernel_rfl) (Or.inl ⟨by rfl, ?hy6⟩) hS ?rest6
  case hy6 => (intro w' hSw; obtain ⟨k0, k1⟩ := hSw; go_simp; try with_reducible rfl)
  try simp only [Act.put, List.setIfInBounds_toArray, List.set_cons_zero, List.set_cons_succ]
  refine' wpLast.take (i := 7) (v := _) rfl (by kernel_rfl) (fun _ _ _ h => h) (by kernel_rfl) _ _ _ _ (by kernel_rfl) (by kernel_rfl) (Or.inl ⟨by rfl, ?hy7⟩) hS ?rest7
  case hy7 => (intro w' hSw; obtain ⟨k0, k1⟩ := hSw; go_simp; try with_reducible rfl)
  try simp only [Act.put, List.setIfInBounds_toArray, List.set_cons_zero, List.set_cons_succ]
  refine' wpLast.take (i := 8) (v := _) rfl (by kernel_rfl) (fun _ _ _ h => h) (by kernel_rfl) _ _ _ _ (by kernel_rfl) (by kernel_rfl) (Or.inl ⟨by rfl, ?hy8⟩) hS ?rest8
  case hy8 => (intro w' hSw; obtain ⟨k0, k1⟩ := hSw; go_simp; try with_reducible rfl)
  try simp only [Act.put, List.setIfInBounds_toArray, List.set_cons_zero, List.set_cons_succ]
  refine' wpLast.take (i := 9) (v := _) rfl (by kernel_rfl) (fun _ _ _ h => h) (by kernel_rfl) _ _ _ _ (by kernel_rfl) (by kernel_rfl) (Or.inl ⟨by rfl, ?hy9⟩) hS ?rest9
  case hy9 => (intro w' hSw; obtain ⟨k0, k1⟩ := hSw; go_simp; try with_reducible rfl)
  try simp only [Act.put, List.setIfInBounds_toArray, List.set_cons_zero, List.set_cons_succ]
  refine' wpLast.take (i := 10) (v := _) rfl (by kernel_rfl) (fun _ _ _ h => h) (by kernel_rfl) _ _ _ _ (by kernel_rfl) (by kernel_rfl) (Or.inl ⟨by rfl, ?hy10⟩) hS ?rest10
  case hy10 => (intro w' hSw; obtain ⟨k0, k1⟩ := hSw; go_simp; try with_reducible rfl)
  try simp only [Act.put, List.setIfInBounds_toArray, List.set_cons_zero, List.set_cons_succ]
  refine' wpLast.take (i := 11) (v := _) rfl (by kernel_rfl) (fun _ _ _ h => h) (by kernel_rfl) _ _ _ _ (by kernel_rfl) (by kernel_rfl) (Or.inl ⟨by rfl, ?hy11⟩) hS ?rest11
  case hy11 => (intro w' hSw; obtain ⟨k0, k1⟩ := hSw; go_simp; try with_reducible rfl)
  try simp only [Act.put, List.setIfInBounds_toArray, List.set_cons_zero, List.set_cons_succ]
  refine wpLast.one (i := 12) rfl (by kernel_rfl) ?_
  intro K' hK; have HK' := Lib.hid hK; clear hK
  go_simp
  have hS2 : (fun w' : World => w'.cell? ⟨b, 1, none⟩ = some (.slice p.st S.txs.length p.ct) ∧ w'.cell? ⟨b, 2, none⟩ = some (.int .i64 (S.nx + 1))) (W.drew.alloc (.cells #[.int .i64 (S.nx + 1), .string ow, .bool wr, .slice none 0 0] 36)) := by
    obtain ⟨k0, k1⟩ := hS
    exact ⟨by rw [World.cell?_alloc_some _ _ _ (by rw [k0]; rfl)]; exact k0, by rw [World.cell?_alloc_some _ _ _ (by rw [k1]; rfl)]; exact k1⟩
  refine HK'.out _ _ ⟨fun _ => hS2, ?_⟩
  clear HK' K'
  try simp only [Act.put, List.setIfInBounds_toArray, List.set_cons_zero, List.set_cons_succ]
  refine wpLast.one (i := 13) rfl (by kernel_rfl) ?_
  intro K' hK; have HK' := Lib.hid hK; clear hK
  refine step_append_any (by rfl) _ _ 26 (by rfl) elX p.st _ p.ct _ (by rfl) hxs _ 1 _ _ (by rfl) r2 (by omega) (by omega) ?_
  intro so3 co3 w4 p1 p2 p3
  have H6 := Lib.hid (H4.out.row_step p1 p2 p3).swap
  obtain ⟨z0, z1, z2, zf0, zf1, zf2⟩ := H6.out.blk.1.three
  refine HK'.out _ _ ⟨fun _ => ⟨z1, z2⟩, ?_⟩
  clear HK' K' hS hS2 p1 p2 p3
  try simp only [Act.put, List.setIfInBounds_toArray, List.set_cons_zero, List.set_cons_succ]
  refine wpLast.one (i := 14) rfl (by kernel_rfl) ?_
  intro K' hK; have HK' := Lib.hid hK; clear hK
  go_simp
  refine HK'.out _ _ ⟨fun _ => ⟨z1, z2⟩, ?_⟩
  clear HK' K'
  try simp only [Act.put, List.setIfInBounds_toArray, List.set_cons_zero, List.set_cons_succ]
  refine wpLast.one (i := 15) rfl (by kernel_rfl) ?_
  intro K' hK; have HK' := Lib.hid hK; clear hK
  go_simp
  refine HK'.out _ _ ⟨fun _ => ⟨z1, z2⟩, ?_⟩
  clear HK' K'
  try simp only [Act.put, List.setIfInBounds_toArray, List.set_cons_zero, List.set_cons_succ]
  refine wpLast.one (i := 16) rfl (by kernel_rfl) ?_
  intro K' hK; have HK' := Lib.hid hK; clear hK
  go_simp
  refine HK'.out _ _ ⟨fun h => absurd rfl h, ?_⟩
  clear HK' K'
  try simp only [Act.put, List.setIfInBounds_toArray, List.set_cons_zero, List.set_cons_succ]
  refine wpLast.done (by kernel_rfl) ?_
  have h7 := H6.out.set 1 (.slice so3 (S.txs.length + 1) co3)
  simp only [List.setIfInBounds_toArray, List.set_cons_zero, List.set_cons_succ] at h7
  have H7 := Lib.hid h7
  clear z0 z1 zf0 zf2 h7 c0 c1 c2 f1
  go_wp2_with fail
  go_ret
  refine ⟨rfl, ?_⟩
  have h8 := H7.out
  by_cases he : S.txs = []
  · have hc := hcs he
    have h9 := St.sh [_, _, _, _] [3, 0, 1, 2] (by decide) h8
    simp only [List.map_cons, List.map_nil, List.getD_cons_zero, List.getD_cons_succ, List.cons_append, List.nil_append] at h9
    have h10 := St.sh [_, _, _, _] [1, 2, 3, 0] (by decide) (h9.drop.rdr_nil 3)
    simp only [List.map_cons, List.map_nil, List.getD_cons_zero, List.getD_cons_succ, List.cons_append, List.nil_append] at h10
    refine ⟨⟨p.sp, p.cp, so3, co3, none, 0⟩, ?_⟩
    simpa [sL, openS, he, hc, yz, flat, ycells] using h10
  · refine ⟨⟨p.sp, p.cp, so3, co3, p.sc, p.cc⟩, ?_⟩
    simp only [sL, openS]
    rw [yz_app _ _ _ he, flat_append, flat_one, List.length_append]
    exact h8
end Go.Proofs.Ytcglnjklnlejmaa
