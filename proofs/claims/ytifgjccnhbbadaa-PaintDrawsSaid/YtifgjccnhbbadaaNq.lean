/-
  PaintDraws: the law's cell.
-/
import Derived.Test.YtifgjccnhbbadaaNo
import Derived.Test.YtifgjccnhbbadaaMf
import Derived.Test.YtifgjccnhbbadaaKc
import Derived.Test.YtifgjccnhbbadaaKf
import Derived.Test.YtifgjccnhbbadaaKd
set_option linter.unusedVariables false
set_option linter.unusedSimpArgs false
namespace Go.Proofs.Ytifgjccnhbbadaa
open Go.RowKit Go.K Go.PlainAid Go.Lib

theorem own_of_row {w w' : World} {e sz : Nat} {v : Value} {n : Nat} {xs : List Value} (h : w'.ownsRow w.heap.size e sz v n xs) (hb : Below w.heap.size w w') (h1 : ∀ u ∈ xs, u.oneCell' = true) : ∃ s c, v = .slice s n c ∧ Own w w' e sz s n c xs := by
  rcases h.2 with ⟨hv, h0⟩ | ⟨g, cap, cur, hv, hg, hh, c1, c2, c3, c4⟩
  · subst h0
    have hx : xs = [] := List.eq_nil_of_length_eq_zero (by simpa using h.1)
    subst hx
    exact ⟨none, 0, hv, Own.nil hb e sz⟩
  · exact ⟨_, cap, hv, ⟨h.1, h1, .inr ⟨g, 0, cur, rfl, hh, c1, c2, by omega, by simpa using c4⟩⟩, hb, by intro k hk; simp [rowOf] at hk; omega⟩
theorem chs_one (s : ByteArray) (n : Nat) : ∀ u ∈ chs s n, u.oneCell' = true := by
  intro u hu
  obtain ⟨j, hj, rfl⟩ := List.getElem_of_mem hu
  rw [chs_len] at hj
  have := chs_at s hj
  rw [List.getElem?_eq_getElem (by rw [chs_len]; exact hj)] at this
  rw [Option.some.inj this]; rfl
theorem im_at {w : World} {g off n : Nat} {ls : List Im} (hs : Rd w 13 (some ⟨g, off, none⟩) n (flat Im.cells ls)) {k : Nat} (hk : k < ls.length) (x : Im) (hx : ls[k] = x) :
    w.cell? ⟨g, off + k * 13 , none⟩ = some (.int .i64 x.kd) ∧ w.cell? ⟨g, off + k * 13 + 1, none⟩ = some (.int .i64 x.r.x) ∧ w.cell? ⟨g, off + k * 13 + 1 + 1, none⟩ = some (.int .i64 x.r.y) ∧ w.cell? ⟨g, off + k * 13 + 1 + 2, none⟩ = some (.int .i64 x.r.w) ∧ w.cell? ⟨g, off + k * 13 + 1 + 3, none⟩ = some (.int .i64 x.r.h) ∧ w.cell? ⟨g, off + k * 13 + 5, none⟩ = some (.int .i64 x.c.x) ∧ w.cell? ⟨g, off + k * 13 + 5 + 1, none⟩ = some (.int .i64 x.c.y) ∧ w.cell? ⟨g, off + k * 13 + 5 + 2, none⟩ = some (.int .i64 x.c.w) ∧ w.cell? ⟨g, off + k * 13 + 5 + 3, none⟩ = some (.int .i64 x.c.h) ∧ w.cell? ⟨g, off + k * 13 + 9, none⟩ = some (.string x.co) ∧ w.cell? ⟨g, off + k * 13 + 10, none⟩ = some (.string x.tx) ∧ w.cell? ⟨g, off + k * 13 + 11, none⟩ = some (.int .i64 x.z) ∧ w.cell? ⟨g, off + k * 13 + 12, none⟩ = some (.int .i64 0) := by
  have e := fun j hj => flat_at (f := Im.cells) (sz := 13) (fun _ => rfl) ls k j hk hj
  rw [hx] at e
  have c := fun j u h => hs.cells _ rfl j u h
  simp only [Addr.add_lit] at c
  have q := fun j hj => c _ _ ((e j hj).trans (List.getElem?_eq_getElem (by show j < 13; exact hj)))
  simp only [← Nat.add_assoc] at q
  exact ⟨by have := q 0 (by omega); rwa [Nat.add_zero] at this, q 1 (by omega), by have := q 2 (by omega); rwa [show off + k * 13 + 2 = off + k * 13 + 1 + 1 by omega] at this, by have := q 3 (by omega); rwa [show off + k * 13 + 3 = off + k * 13 + 1 + 2 by omega] at this, by have := q 4 (by omega); rwa [show off + k * 13 + 4 = off + k * 13 + 1 + 3 by omega] at this, q 5 (by omega), by have := q 6 (by omega); rwa [show off + k * 13 + 6 = off + k * 13 + 5 + 1 by omega] at this, by have := q 7 (by omega); rwa [show off + k * 13 + 7 = off + k * 13 + 5 + 2 by omega] at this, by have := q 8 (by omega); rwa [show off + k * 13 + 8 = off + k * 13 + 5 + 3 by omega] at this, q 9 (by omega), q 10 (by omega), q 11 (by omega), q 12 (by omega)⟩
theorem not_empty {a : ByteArray} (h : ¬ a = ⟨#[]⟩) : a.toList.isEmpty = false := by
  obtain ⟨⟨x⟩⟩ := a
  rw [ByteArray.toList_eq]
  cases x with
  | nil => exact absurd rfl h
  | cons b l => rfl
def enc1 (x : Int) : ByteArray := ⟨(encodeRune x).toArray⟩
def Im.ok (i : Im) : Prop := Bd 1000 i.r ∧ Bd 1000 i.c ∧ i.tx.size ≤ 30 ∧ 0 ≤ i.z ∧ i.z ≤ 100 ∧ 1 ≤ i.kd ∧ i.kd ≤ 3
theorem rd_st {w wr : World} {L : List As} {sz n : Nat} {s : Option Addr} {xs : List Value} (h : St w wr L) (hs : Rd w sz s n xs) : Rd wr sz s n xs := ⟨hs.len, hs.one, hs.nil, fun ad he j u hu => h.old (hs.cells ad he j u hu)⟩
def ClR (ls : List Im) (c r : Nat) (w0 : World) (g : Nat) (v7 v8 : Value) (wr : World) : Prop :=
  ∃ k : Nat, g = ls.length - k ∧ k ≤ ls.length ∧ v7 = .string (enc1 (cellR (ls.take k) c r)) ∧ v8 = .int .i64 k ∧ Below w0.heap.size w0 wr
theorem take_snoc {ls : List Im} {k : Nat} (hk : k < ls.length) (x : Im) (hx : ls[k] = x) (c r : Nat) : cellR (ls.take (k + 1)) c r = itemR x c r (cellR (ls.take k) c r) := by
  rw [List.take_add_one, List.getElem?_eq_getElem hk, hx]
  exact cellR_snoc _ _ _ _
theorem floor_b (n d : Int) (w : World) (hn : -100000 ≤ n ∧ n ≤ 100000) (hd : d = 2 ∨ d = 8 ∨ d = 16) : Calls Try.prog 20 #[.int .i64 n, .int .i64 d] w fun e w' => e = .returned (.int .i64 (n / d)) ∧ Below w.heap.size w w' :=
  (floor_any n d w hn hd).mono fun _ _ h => ⟨h.1, by rw [h.2]; exact Below.refl _ _⟩
theorem char_b (r sz : Int) (w : World) : Calls Try.prog 23 #[.int .i32 r, .int .i64 sz] w fun e w' => e = .returned (.int .i64 (chW sz r)) ∧ Below w.heap.size w w' :=
  (char_any r sz w).mono fun _ _ h => ⟨h.1, by rw [h.2]; exact Below.refl _ _⟩
theorem chW_le (z q : Int) (h0 : 0 ≤ z) (h1 : z ≤ 100) : 0 ≤ chW z q ∧ chW z q ≤ 101 := by
  have hu := units_in q
  have hl : lim z = z := by unfold lim; omega
  have hp : 0 ≤ units q * z ∧ units q * z ≤ 1600 := by
    refine ⟨Int.mul_nonneg hu.1 h0, ?_⟩
    have := Int.mul_le_mul hu.2 h1 h0 (by decide)
    omega
  unfold chW
  rw [hl]
  omega
theorem wx_bd (x : Im) (h0 : 0 ≤ x.z) (h1 : x.z ≤ 100) : ∀ j : Nat, x.r.x ≤ wx x j ∧ wx x j ≤ x.r.x + 101 * j
  | 0 => by simp [wx]
  | j + 1 => by
    have := wx_bd x h0 h1 j
    have := chW_le x.z (rn x.tx j) h0 h1
    unfold wx
    omega
theorem pos_ge (s : ByteArray) : ∀ j, j ≤ runeCount s → j ≤ posAt s j
  | 0, _ => Nat.zero_le _
  | j + 1, h => by
    have h1 := pos_ge s j (by omega)
    have h2 := posAt_lt (posAt_in s (j := j) (by omega))
    omega
theorem repS_le (s : ByteArray) (h : s.size ≤ 30) : (repS s).size ≤ 120 ∧ runeCount s ≤ 30 := by
  have h1 := (enc_len s (runeCount s)).2
  have h2 := (Nat.le_trans (pos_ge s (runeCount s) (Nat.le_refl _)) (Nat.le_of_eq (posAt_n s)))
  rw [repS_size]
  omega
theorem enc1_46 : enc1 46 = ⟨#[46]⟩ := by kernel_rfl
theorem enc1_43 : enc1 43 = ⟨#[43]⟩ := by kernel_rfl
theorem enc1_32 : enc1 32 = ⟨#[32]⟩ := by kernel_rfl
theorem ch_at {w0 w : World} {L : List As} {g o n c : Nat} {s : ByteArray} (h : St w0 w (As.row 9 1 (some ⟨g, o, none⟩) n c (chs s n) :: L)) {j : Nat} (hj : j < n) : w.cell? ⟨g, o + j, none⟩ = some (.string (enc1 (rn s j))) :=
  by
    have := h.sl.rd.cells _ rfl j _ (chs_at s hj)
    rwa [Addr.add_lit] at this
theorem fields_q (q : Int) (hq : okRune q) (b : Bool) (hb : spR q = b) (w : World) : Calls Try.prog 25 #[.string (enc1 q)] w fun e w' => ∃ v c, e = .returned (.slice v (if b then 0 else 1) c) ∧ Below w.heap.size w w' := by
  have hl := encodeRune_len q
  have hsz : (enc1 q).size = (encodeRune q).length := List.size_toArray
  refine (fields_any (enc1 q) b w (by omega) (by omega) (fun j hj => by rw [← hb]; exact chr_sp q hq j (by rw [← hsz]; exact hj))).mono ?_
  rintro e w' ⟨v, n, c, rfl, rfl, h⟩
  exact ⟨v, c, rfl, h⟩
def WlR (x : Im) (c r : Nat) (old : Int) (n : Nat) (w0 : World) (b : Nat) (m : Array Value) (s : Option Addr) (cp : Nat) (g : Nat) (v7 v11 v14 : Value) (wr : World) : Prop :=
  ∃ j : Nat, g = n - j ∧ j ≤ n ∧ v7 = .string (enc1 (wordR x c r old j)) ∧ v11 = .int .i64 (wx x j) ∧ v14 = .int .i64 j ∧ St w0 wr [As.row 9 1 s n cp (chs x.tx n), As.cells b m 47]

set_option maxRecDepth 100000 in
set_option maxHeartbeats 4000000 in
theorem cell_any (ls : List Im) (hok : ∀ i ∈ ls, i.ok) (c r : Nat) (hc : c ≤ 12) (hr : r ≤ 6) (w : World) {s : Option Addr} {cp : Nat} (hs : Rd w 13 s ls.length (flat Im.cells ls)) (hl : ls.length ≤ 12) :
    Calls Try.prog 9 #[.slice s ls.length cp, .int .i64 (c : Nat), .int .i64 (r : Nat)] w fun e w' => e = .returned (.string (enc1 (cellR ls c r))) ∧ Below w.heap.size w w' := by
  go_enter Try.func9, Try.ntmps9
  go_wp2_with fail
  go_loopg [7, 8] ls.length (ClR ls c r w)
  case atStart => exact ⟨0, rfl, Nat.zero_le _, rfl, rfl, Below.refl _ _⟩
  case round =>
    obtain ⟨k, hg, hk, rfl, rfl, hb⟩ := hrel
    have Hg := Lib.hid hg
    have HB := Lib.hid hb
    clear hg hb
    by_cases hkn : k < ls.length
    · have hkI : (k : Int) < (ls.length : Int) := by omega
      obtain ⟨g, off, rfl, hcc⟩ := hs.addr (by omega)
      clear hcc
      obtain ⟨x, hx⟩ : ∃ x, ls[k] = x := ⟨_, rfl⟩
      have hxo := hok x (hx ▸ List.getElem_mem hkn)
      have hsn := take_snoc hkn x hx c r
      obtain ⟨old, hold⟩ : ∃ o, cellR (ls.take k) c r = o := ⟨_, rfl⟩
      rw [hold] at hsn
      have HSN := Lib.hid hsn
      simp only [hold]
      clear hsn hold
      go_upto_region 5 with fail
      have HS := Lib.hid hs
      clear hs
      have H : Hid (St w wr.drew []) := Lib.hid (St.start w (below_drewN (n := 1) HB.out))
      obtain ⟨kd, ⟨a0, a1, a2, a3⟩, ⟨b0, b1, b2, b3⟩, co, tx, z⟩ := x
      obtain ⟨hx1, hx2, hx3, hx4, hx5, hx6, hx7⟩ := hxo
      have B1 : Bd 1000000000 ⟨a0, a1, a2, a3⟩ := Bd.mono hx1 (by omega)
      have B2 : Bd 1000000000 ⟨b0, b1, b2, b3⟩ := Bd.mono hx2 (by omega)
      have BM : Bd 10000000 (meetR ⟨a0, a1, a2, a3⟩ ⟨b0, b1, b2, b3⟩) := bd_meetR (Bd.mono hx1 (by omega)) (Bd.mono hx2 (by omega))
      obtain ⟨⟨m0, m1, m2, m3⟩, hm⟩ : ∃ m, meetC ⟨a0, a1, a2, a3⟩ ⟨b0, b1, b2, b3⟩ = m := ⟨_, rfl⟩
      have HM := Lib.hid hm
      rw [meet_same] at hm
      rw [hm] at BM
      have BM := Bd.mono BM (show (10000000 : Int) ≤ 1000000000 by omega)
      have HM2 := Lib.hid hm
      clear hm
      have hS : St w wr.drew [] := H.out
      refine wp_region_held (S := fun w' : World => St w w' []) (by kernel_rfl) ?_
      change wpAnyH _ _ _ _ _ _ _ _ (World.drew _)
      refine' wpAnyH_take (i := 0) (v := .slice (some ⟨g, off, none⟩) ls.length cp) rfl (by kernel_rfl) (by kernel_rfl) (by kernel_rfl) (fun _ _ _ h => h) (Or.inl ⟨by rfl, ?hy0⟩) hS ?rest0
      case hy0 => (intro w' hSw; obtain ⟨i0, i1, i2, i3, i4, i5, i6, i7, i8, i9, i10, i11, -⟩ := im_at (rd_st hSw HS.out) hkn _ hx; go_simp; try with_reducible rfl)
      try simp only [Act.put, List.getElem_toArray, List.getElem_cons_zero, List.getElem_cons_succ, List.setIfInBounds_toArray, List.set_cons_zero, List.set_cons_succ]
      refine' wpAnyH_take (i := 1) (v := .int .i64 (k : Nat)) rfl (by kernel_rfl) (by kernel_rfl) (by kernel_rfl) (fun _ _ _ h => h) (Or.inl ⟨by rfl, ?hy1⟩) hS ?rest1
      case hy1 => (intro w' hSw; obtain ⟨i0, i1, i2, i3, i4, i5, i6, i7, i8, i9, i10, i11, -⟩ := im_at (rd_st hSw HS.out) hkn _ hx; go_simp; try with_reducible rfl)
      try simp only [Act.put, List.getElem_toArray, List.getElem_cons_zero, List.getElem_cons_succ, List.setIfInBounds_toArray, List.set_cons_zero, List.set_cons_succ]
      refine' wpAnyH_take (i := 2) (v := .pointer (some ⟨g, off + k * 13, none⟩)) rfl (by kernel_rfl) (by kernel_rfl) (by kernel_rfl) (fun _ _ _ h => h) (Or.inl ⟨by rfl, ?hy2⟩) hS ?rest2
      case hy2 => (intro w' hSw; obtain ⟨i0, i1, i2, i3, i4, i5, i6, i7, i8, i9, i10, i11, -⟩ := im_at (rd_st hSw HS.out) hkn _ hx; go_simp; try with_reducible rfl)
      try simp only [Act.put, List.getElem_toArray, List.getElem_cons_zero, List.getElem_cons_succ, List.setIfInBounds_toArray, List.set_cons_zero, List.set_cons_succ]
      refine' wpAnyH_take (i := 3) (v := .pointer (some ⟨g, off + k * 13 + 1, none⟩)) rfl (by kernel_rfl) (by kernel_rfl) (by kernel_rfl) (fun _ _ _ h => h) (Or.inl ⟨by rfl, ?hy3⟩) hS ?rest3
      case hy3 => (intro w' hSw; obtain ⟨i0, i1, i2, i3, i4, i5, i6, i7, i8, i9, i10, i11, -⟩ := im_at (rd_st hSw HS.out) hkn _ hx; go_simp; try with_reducible rfl)
      try simp only [Act.put, List.getElem_toArray, List.getElem_cons_zero, List.getElem_cons_succ, List.setIfInBounds_toArray, List.set_cons_zero, List.set_cons_succ]
      refine' wpAnyH_take (i := 4) (v := r4 a0 a1 a2 a3) rfl (by kernel_rfl) (by kernel_rfl) (by kernel_rfl) (fun _ _ _ h => h) (Or.inl ⟨by rfl, ?hy4⟩) hS ?rest4
      case hy4 => (intro w' hSw; obtain ⟨i0, i1, i2, i3, i4, i5, i6, i7, i8, i9, i10, i11, -⟩ := im_at (rd_st hSw HS.out) hkn _ hx; go_simp; try with_reducible rfl)
      try simp only [Act.put, List.getElem_toArray, List.getElem_cons_zero, List.getElem_cons_succ, List.setIfInBounds_toArray, List.set_cons_zero, List.set_cons_succ]
      refine' wpAnyH_take (i := 6) (v := .slice (some ⟨g, off, none⟩) ls.length cp) rfl (by kernel_rfl) (by kernel_rfl) (by kernel_rfl) (fun _ _ _ h => h) (Or.inl ⟨by rfl, ?hy6⟩) hS ?rest6
      case hy6 => (intro w' hSw; obtain ⟨i0, i1, i2, i3, i4, i5, i6, i7, i8, i9, i10, i11, -⟩ := im_at (rd_st hSw HS.out) hkn _ hx; go_simp; try with_reducible rfl)
      try simp only [Act.put, List.getElem_toArray, List.getElem_cons_zero, List.getElem_cons_succ, List.setIfInBounds_toArray, List.set_cons_zero, List.set_cons_succ]
      refine' wpAnyH_take (i := 7) (v := .int .i64 (k : Nat)) rfl (by kernel_rfl) (by kernel_rfl) (by kernel_rfl) (fun _ _ _ h => h) (Or.inl ⟨by rfl, ?hy7⟩) hS ?rest7
      case hy7 => (intro w' hSw; obtain ⟨i0, i1, i2, i3, i4, i5, i6, i7, i8, i9, i10, i11, -⟩ := im_at (rd_st hSw HS.out) hkn _ hx; go_simp; try with_reducible rfl)
      try simp only [Act.put, List.getElem_toArray, List.getElem_cons_zero, List.getElem_cons_succ, List.setIfInBounds_toArray, List.set_cons_zero, List.set_cons_succ]
      refine' wpAnyH_take (i := 8) (v := .pointer (some ⟨g, off + k * 13, none⟩)) rfl (by kernel_rfl) (by kernel_rfl) (by kernel_rfl) (fun _ _ _ h => h) (Or.inl ⟨by rfl, ?hy8⟩) hS ?rest8
      case hy8 => (intro w' hSw; obtain ⟨i0, i1, i2, i3, i4, i5, i6, i7, i8, i9, i10, i11, -⟩ := im_at (rd_st hSw HS.out) hkn _ hx; go_simp; try with_reducible rfl)
      try simp only [Act.put, List.getElem_toArray, List.getElem_cons_zero, List.getElem_cons_succ, List.setIfInBounds_toArray, List.set_cons_zero, List.set_cons_succ]
      refine' wpAnyH_take (i := 9) (v := .pointer (some ⟨g, off + k * 13 + 5, none⟩)) rfl (by kernel_rfl) (by kernel_rfl) (by kernel_rfl) (fun _ _ _ h => h) (Or.inl ⟨by rfl, ?hy9⟩) hS ?rest9
      case hy9 => (intro w' hSw; obtain ⟨i0, i1, i2, i3, i4, i5, i6, i7, i8, i9, i10, i11, -⟩ := im_at (rd_st hSw HS.out) hkn _ hx; go_simp; try with_reducible rfl)
      try simp only [Act.put, List.getElem_toArray, List.getElem_cons_zero, List.getElem_cons_succ, List.setIfInBounds_toArray, List.set_cons_zero, List.set_cons_succ]
      refine' wpAnyH_take (i := 10) (v := r4 b0 b1 b2 b3) rfl (by kernel_rfl) (by kernel_rfl) (by kernel_rfl) (fun _ _ _ h => h) (Or.inl ⟨by rfl, ?hy10⟩) hS ?rest10
      case hy10 => (intro w' hSw; obtain ⟨i0, i1, i2, i3, i4, i5, i6, i7, i8, i9, i10, i11, -⟩ := im_at (rd_st hSw HS.out) hkn _ hx; go_simp; try with_reducible rfl)
      try simp only [Act.put, List.getElem_toArray, List.getElem_cons_zero, List.getElem_cons_succ, List.setIfInBounds_toArray, List.set_cons_zero, List.set_cons_succ]
      clear hS
      refine (?use : (∀ (W : World) (b : Nat), St w W [As.cells b (i4 m0 m1 m2 m3) 47] → (?G : World → Nat → Prop) W b) → _) ?fin
      case use =>
        intro fin
        refine held2 (i := 5) (j := 13) rfl rfl (by kernel_rfl) ?_ ?_
        · apply hstep_call (flat_c a0 a1 a2 a3 _) H.out (fun _ h => h)
          case hg => rfl
          case ho => rfl
          case hf => exact Try.func12
          case hn => kernel_rfl
          case hb => kernel_rfl
          case ha => kernel_rfl
          intro w5 h5; have H5 := Lib.hid h5; clear h5
          try simp only [Act.put, List.getElem_toArray, List.getElem_cons_zero, List.getElem_cons_succ, List.setIfInBounds_toArray, List.set_cons_zero, List.set_cons_succ]
          refine held2 (i := 11) (j := 13) rfl rfl (by kernel_rfl) ?_ ?_
          · apply hstep_call (flat_c b0 b1 b2 b3 _) H5.out (fun _ h => h)
            case hg => rfl
            case ho => rfl
            case hf => exact Try.func12
            case hn => kernel_rfl
            case hb => kernel_rfl
            case ha => kernel_rfl
            intro w5_11 h5_11; have H5_11 := Lib.hid h5_11; clear h5_11
            try simp only [Act.put, List.getElem_toArray, List.getElem_cons_zero, List.getElem_cons_succ, List.setIfInBounds_toArray, List.set_cons_zero, List.set_cons_succ]
            refine held2 (i := 12) (j := 13) rfl rfl (by kernel_rfl) ?_ ?_
            · apply hstep_call (refMeet_c _ B1 B2 HM.out) H5_11.out (fun _ h => h)
              case hg => rfl
              case ho => rfl
              case hf => exact Try.func19
              case hn => kernel_rfl
              case hb => kernel_rfl
              case ha => kernel_rfl
              intro w5_11_12 h5_11_12; have H5_11_12 := Lib.hid h5_11_12; clear h5_11_12
              try simp only [Act.put, List.getElem_toArray, List.getElem_cons_zero, List.getElem_cons_succ, List.setIfInBounds_toArray, List.set_cons_zero, List.set_cons_succ]
              refine held1 (i := 13) rfl (by kernel_rfl) ?_
              apply hstep_alloc (z := r4 0 0 0 0) H5_11_12.out (fun _ _ h => h.drop)
              case hg => rfl
              case ho => rfl
              case hz => kernel_rfl
              intro b w5_11_12_13 h5_11_12_13; have H5_11_12_13 := Lib.hid h5_11_12_13; clear h5_11_12_13
              try simp only [Act.put, List.getElem_toArray, List.getElem_cons_zero, List.getElem_cons_succ, List.setIfInBounds_toArray, List.set_cons_zero, List.set_cons_succ]
              refine held1 (i := 14) rfl (by kernel_rfl) ?_
              apply hstep_store (vs := i4 m0 m1 m2 m3) H5_11_12_13.out (fun _ h => h.drop)
              case hg => rfl
              case ho => rfl
              case hx => kernel_rfl
              case hy => kernel_rfl
              case hcs => kernel_rfl
              case ht => kernel_rfl
              case h1 => kernel_rfl
              intro w5_11_12_13_14 h5_11_12_13_14; have H5_11_12_13_14 := Lib.hid h5_11_12_13_14; clear h5_11_12_13_14
              try simp only [Act.put, List.getElem_toArray, List.getElem_cons_zero, List.getElem_cons_succ, List.setIfInBounds_toArray, List.set_cons_zero, List.set_cons_succ]
              refine wpAnyH_done (by kernel_rfl) ?_ _
              exact fin _ b H5_11_12_13_14.out
            · apply hstep_alloc (z := r4 0 0 0 0) H5_11.out (fun _ _ h => h.drop)
              case hg => rfl
              case ho => rfl
              case hz => kernel_rfl
              intro b w5_11_13 h5_11_13; have H5_11_13 := Lib.hid h5_11_13; clear h5_11_13
              try simp only [Act.put, List.getElem_toArray, List.getElem_cons_zero, List.getElem_cons_succ, List.setIfInBounds_toArray, List.set_cons_zero, List.set_cons_succ]
              refine held1 (i := 12) rfl (by kernel_rfl) ?_
              apply hstep_call (refMeet_c _ B1 B2 HM.out) H5_11_13.out (fun _ h => h.drop)
              case hg => rfl
              case ho => rfl
              case hf => exact Try.func19
              case hn => kernel_rfl
              case hb => kernel_rfl
              case ha => kernel_rfl
              intro w5_11_13_12 h5_11_13_12; have H5_11_13_12 := Lib.hid h5_11_13_12; clear h5_11_13_12
              try simp only [Act.put, List.getElem_toArray, List.getElem_cons_zero, List.getElem_cons_succ, List.setIfInBounds_toArray, List.set_cons_zero, List.set_cons_succ]
              refine held1 (i := 14) rfl (by kernel_rfl) ?_
              apply hstep_store (vs := i4 m0 m1 m2 m3) H5_11_13_12.out (fun _ h => h.drop)
              case hg => rfl
              case ho => rfl
              case hx => kernel_rfl
              case hy => kernel_rfl
              case hcs => kernel_rfl
              case ht => kernel_rfl
              case h1 => kernel_rfl
              intro w5_11_13_12_14 h5_11_13_12_14; have H5_11_13_12_14 := Lib.hid h5_11_13_12_14; clear h5_11_13_12_14
              try simp only [Act.put, List.getElem_toArray, List.getElem_cons_zero, List.getElem_cons_succ, List.setIfInBounds_toArray, List.set_cons_zero, List.set_cons_succ]
              refine wpAnyH_done (by kernel_rfl) ?_ _
              exact fin _ b H5_11_13_12_14.out
          · apply hstep_alloc (z := r4 0 0 0 0) H5.out (fun _ _ h => h.drop)
            case hg => rfl
            case ho => rfl
            case hz => kernel_rfl
            intro b w5_13 h5_13; have H5_13 := Lib.hid h5_13; clear h5_13
            try simp only [Act.put, List.getElem_toArray, List.getElem_cons_zero, List.getElem_cons_succ, List.setIfInBounds_toArray, List.set_cons_zero, List.set_cons_succ]
            refine held1 (i := 11) rfl (by kernel_rfl) ?_
            apply hstep_call (flat_c b0 b1 b2 b3 _) H5_13.out (fun _ h => h.drop)
            case hg => rfl
            case ho => rfl
            case hf => exact Try.func12
            case hn => kernel_rfl
            case hb => kernel_rfl
            case ha => kernel_rfl
            intro w5_13_11 h5_13_11; have H5_13_11 := Lib.hid h5_13_11; clear h5_13_11
            try simp only [Act.put, List.getElem_toArray, List.getElem_cons_zero, List.getElem_cons_succ, List.setIfInBounds_toArray, List.set_cons_zero, List.set_cons_succ]
            refine held1 (i := 12) rfl (by kernel_rfl) ?_
            apply hstep_call (refMeet_c _ B1 B2 HM.out) H5_13_11.out (fun _ h => h.drop)
            case hg => rfl
            case ho => rfl
            case hf => exact Try.func19
            case hn => kernel_rfl
            case hb => kernel_rfl
            case ha => kernel_rfl
            intro w5_13_11_12 h5_13_11_12; have H5_13_11_12 := Lib.hid h5_13_11_12; clear h5_13_11_12
            try simp only [Act.put, List.getElem_toArray, List.getElem_cons_zero, List.getElem_cons_succ, List.setIfInBounds_toArray, List.set_cons_zero, List.set_cons_succ]
            refine held1 (i := 14) rfl (by kernel_rfl) ?_
            apply hstep_store (vs := i4 m0 m1 m2 m3) H5_13_11_12.out (fun _ h => h.drop)
            case hg => rfl
            case ho => rfl
            case hx => kernel_rfl
            case hy => kernel_rfl
            case hcs => kernel_rfl
            case ht => kernel_rfl
            case h1 => kernel_rfl
            intro w5_13_11_12_14 h5_13_11_12_14; have H5_13_11_12_14 := Lib.hid h5_13_11_12_14; clear h5_13_11_12_14
            try simp only [Act.put, List.getElem_toArray, List.getElem_cons_zero, List.getElem_cons_succ, List.setIfInBounds_toArray, List.set_cons_zero, List.set_cons_succ]
            refine wpAnyH_done (by kernel_rfl) ?_ _
            exact fin _ b H5_13_11_12_14.out
        · apply hstep_alloc (z := r4 0 0 0 0) H.out (fun _ _ h => h.drop)
          case hg => rfl
          case ho => rfl
          case hz => kernel_rfl
          intro b w13 h13; have H13 := Lib.hid h13; clear h13
          try simp only [Act.put, List.getElem_toArray, List.getElem_cons_zero, List.getElem_cons_succ, List.setIfInBounds_toArray, List.set_cons_zero, List.set_cons_succ]
          refine held1 (i := 5) rfl (by kernel_rfl) ?_
          apply hstep_call (flat_c a0 a1 a2 a3 _) H13.out (fun _ h => h.drop)
          case hg => rfl
          case ho => rfl
          case hf => exact Try.func12
          case hn => kernel_rfl
          case hb => kernel_rfl
          case ha => kernel_rfl
          intro w13_5 h13_5; have H13_5 := Lib.hid h13_5; clear h13_5
          try simp only [Act.put, List.getElem_toArray, List.getElem_cons_zero, List.getElem_cons_succ, List.setIfInBounds_toArray, List.set_cons_zero, List.set_cons_succ]
          refine held1 (i := 11) rfl (by kernel_rfl) ?_
          apply hstep_call (flat_c b0 b1 b2 b3 _) H13_5.out (fun _ h => h.drop)
          case hg => rfl
          case ho => rfl
          case hf => exact Try.func12
          case hn => kernel_rfl
          case hb => kernel_rfl
          case ha => kernel_rfl
          intro w13_5_11 h13_5_11; have H13_5_11 := Lib.hid h13_5_11; clear h13_5_11
          try simp only [Act.put, List.getElem_toArray, List.getElem_cons_zero, List.getElem_cons_succ, List.setIfInBounds_toArray, List.set_cons_zero, List.set_cons_succ]
          refine held1 (i := 12) rfl (by kernel_rfl) ?_
          apply hstep_call (refMeet_c _ B1 B2 HM.out) H13_5_11.out (fun _ h => h.drop)
          case hg => rfl
          case ho => rfl
          case hf => exact Try.func19
          case hn => kernel_rfl
          case hb => kernel_rfl
          case ha => kernel_rfl
          intro w13_5_11_12 h13_5_11_12; have H13_5_11_12 := Lib.hid h13_5_11_12; clear h13_5_11_12
          try simp only [Act.put, List.getElem_toArray, List.getElem_cons_zero, List.getElem_cons_succ, List.setIfInBounds_toArray, List.set_cons_zero, List.set_cons_succ]
          refine held1 (i := 14) rfl (by kernel_rfl) ?_
          apply hstep_store (vs := i4 m0 m1 m2 m3) H13_5_11_12.out (fun _ h => h.drop)
          case hg => rfl
          case ho => rfl
          case hx => kernel_rfl
          case hy => kernel_rfl
          case hcs => kernel_rfl
          case ht => kernel_rfl
          case h1 => kernel_rfl
          intro w13_5_11_12_14 h13_5_11_12_14; have H13_5_11_12_14 := Lib.hid h13_5_11_12_14; clear h13_5_11_12_14
          try simp only [Act.put, List.getElem_toArray, List.getElem_cons_zero, List.getElem_cons_succ, List.setIfInBounds_toArray, List.set_cons_zero, List.set_cons_succ]
          refine wpAnyH_done (by kernel_rfl) ?_ _
          exact fin _ b H13_5_11_12_14.out
      case' fin =>
        intro W b hW
        have H2 := Lib.hid hW
        clear hW H
      obtain ⟨d0, d1, d2, d3, d4⟩ := H2.out.f4
      obtain ⟨i0, i1, i2, i3, i4', i5, i6, i7, i8, i9, i10, i11, -⟩ := im_at (rd_st H2.out HS.out) hkn _ hx
      have e1 := wrapS (a := 8 * (c : Int)) (by omega) (by omega)
      have e2 := wrapS (a := 8 * (c : Int) + 4) (by omega) (by omega)
      have e3 := wrapS (a := 16 * (r : Int)) (by omega) (by omega)
      have e4 := wrapS (a := 16 * (r : Int) + 8) (by omega) (by omega)
      have e5 := wrapS (a := (k : Int) + 1) (by omega) (by omega)
      obtain ⟨ib, hib⟩ : ∃ b, hasR ⟨m0, m1, m2, m3⟩ (8 * (c : Int) + 4) (16 * (r : Int) + 8) = b := ⟨_, rfl⟩
      have HHAS := Lib.hid (fun w => has_c w BM hib)
      have HIN := Lib.hid (show inC ⟨kd, ⟨a0, a1, a2, a3⟩, ⟨b0, b1, b2, b3⟩, co, tx, z⟩ c r = ib by unfold inC; rw [HM2.out]; exact hib)
      have HBM := Lib.hid BM
      have HX := Lib.hid hx
      have hxa : -1000 ≤ a1 ∧ a1 ≤ 1000 ∧ -1000 ≤ a3 ∧ a3 ≤ 1000 ∧ -1000 ≤ a0 ∧ a0 ≤ 1000 := by unfold Bd at hx1; simp only at hx1; omega
      clear hib BM hx B1 B2 hx1 hx2
      go_upto_region 7 with (go_at_call 11; refine (HHAS.out _).mono ?_; rintro e w3 ⟨rfl, hb3⟩; have H3 := Lib.hid (H2.out.of_below hb3))
      clear d0 d1 d2 d3 d4 i0 i1 i2 i3 i4' i5 i6 i7 i8 i9 i10 i11
      obtain ⟨d0, d1, d2, d3, d4⟩ := H3.out.f4
      obtain ⟨i0, i1, i2, i3, i4', i5, i6, i7, i8, i9, i10, i11, -⟩ := im_at (rd_st H3.out HS.out) hkn _ HX.out
      have hkd : kd = 1 ∨ kd = 2 ∨ kd = 3 := by omega
      clear hx6 hx7
      rcases hkd with rfl | rfl | rfl
      · by_cases hco : co = ⟨#[]⟩
        · subst hco
          cases ib with
          | false =>
            go_wp2_with fail
            go_roundg (ls.length - (k + 1))
            case measure => have := Hg.out; omega
            case rel =>
              refine ⟨k + 1, rfl, by omega, ?_, by rw [Int.natCast_add]; rfl, H3.out.bel⟩
              rw [HSN.out]
              unfold itemR
              rw [HIN.out]
              simp []
          | true =>
            go_wp2_with fail
            go_roundg (ls.length - (k + 1))
            case measure => have := Hg.out; omega
            case rel =>
              refine ⟨k + 1, rfl, by omega, ?_, by rw [Int.natCast_add]; rfl, H3.out.bel⟩
              rw [HSN.out]
              unfold itemR
              rw [HIN.out]
              simp []
        · have hc1 : co.toList.isEmpty = false := not_empty hco
          cases ib with
          | false =>
            go_wp2_with fail
            go_roundg (ls.length - (k + 1))
            case measure => have := Hg.out; omega
            case rel =>
              refine ⟨k + 1, rfl, by omega, ?_, by rw [Int.natCast_add]; rfl, H3.out.bel⟩
              rw [HSN.out]
              unfold itemR
              rw [HIN.out]
              simp [hco]
          | true =>
            go_wp2_with fail
            go_roundg (ls.length - (k + 1))
            case measure => have := Hg.out; omega
            case rel =>
              refine ⟨k + 1, rfl, by omega, ?_, by rw [Int.natCast_add]; rfl, H3.out.bel⟩
              rw [HSN.out]
              unfold itemR
              rw [HIN.out]
              simp [hco, enc1_46]
      · cases ib with
        | false =>
          go_wp2_with fail
          go_roundg (ls.length - (k + 1))
          case measure => have := Hg.out; omega
          case rel =>
            refine ⟨k + 1, rfl, by omega, ?_, by rw [Int.natCast_add]; rfl, H3.out.bel⟩
            rw [HSN.out]
            unfold itemR
            rw [HIN.out]
            simp []
        | true =>
          go_wp2_with fail
          go_roundg (ls.length - (k + 1))
          case measure => have := Hg.out; omega
          case rel =>
            refine ⟨k + 1, rfl, by omega, ?_, by rw [Int.natCast_add]; rfl, H3.out.bel⟩
            rw [HSN.out]
            unfold itemR
            rw [HIN.out]
            simp [enc1_43]
      · obtain ⟨hh, hhe⟩ : ∃ y, a3 / 2 = y := ⟨_, rfl⟩
        obtain ⟨yy, hyy⟩ : ∃ y, a1 + hh = y := ⟨_, rfl⟩
        have hya : -2000 ≤ yy ∧ yy ≤ 2000 := by rw [← hyy, ← hhe]; omega
        have hfl := floor_any a3 2
        have hwy : wrap64 (a1 + hh) = yy := by rw [hyy]; unfold wrap64; omega
        simp only [hhe] at hfl
        have HFL := Lib.hid (fun w => hfl w (by omega) (by simp))
        have HYY := Lib.hid (show wy ⟨3, ⟨a0, a1, a2, a3⟩, ⟨b0, b1, b2, b3⟩, co, tx, z⟩ = yy by unfold wy; simp only; rw [hhe, hyy])
        clear hfl hhe hyy
        go_upto_region 12 with fail
        go_quiet ((go_at_call 20; refine Calls.quiet_of_same (HFL.out _)))
        obtain ⟨W4, hW4⟩ : ∃ W, w3.drewN nq = W := ⟨_, rfl⟩
        simp only [hwy]
        have h4 := H3.out.drewN nq
        rw [hW4] at h4 ⊢
        have H4 := Lib.hid h4
        clear h4 hW4 d0 d1 d2 d3 d4 i0 i1 i2 i3 i4' i5 i6 i7 i8 i9 i10 i11 hwy
        obtain ⟨i0, i1, i2, i3, i4', i5, i6, i7, i8, i9, i10, i11, -⟩ := im_at (rd_st H4.out HS.out) hkn _ HX.out
        obtain ⟨n, hn⟩ : ∃ n, runeCount tx = n := ⟨_, rfl⟩
        obtain ⟨hrs, hrc⟩ := repS_le tx hx3
        have hpt := fun w => points_any tx w (by omega)
        rw [hn] at hrc
        simp only [hn] at hpt
        have HPT := Lib.hid hpt
        have HRP := Lib.hid (fun w => repair_any tx w (by omega))
        have HN := Lib.hid hn
        clear hn hpt
        go_upto_region 14 with (first
          | (go_at_call 22; refine (HRP.out _).mono ?_; rintro e w5 ⟨rfl, hb5⟩; have H5 := Lib.hid (H4.out.of_below hb5))
          | (go_at_call 21; refine (HPT.out _).mono ?_; rintro e w6 ⟨v6, rfl, ho6, hb6⟩; obtain ⟨s6, c6, rfl, ow6⟩ := own_of_row ho6 hb6 (chs_one tx n); have H6 := Lib.hid (H5.out.own_new ow6); clear ow6 ho6 hb6))
        clear i0 i1 i2 i3 i4' i5 i6 i7 i8 i9 i10 i11
        obtain ⟨x, hxe⟩ : ∃ x : Im, x = ⟨3, ⟨a0, a1, a2, a3⟩, ⟨b0, b1, b2, b3⟩, co, tx, z⟩ := ⟨_, rfl⟩
        have hwb := wx_bd ⟨3, ⟨a0, a1, a2, a3⟩, ⟨b0, b1, b2, b3⟩, co, tx, z⟩ hx4 hx5
        have hw0 : wx ⟨3, ⟨a0, a1, a2, a3⟩, ⟨b0, b1, b2, b3⟩, co, tx, z⟩ 0 = a0 := rfl
        have hws : ∀ j, wx ⟨3, ⟨a0, a1, a2, a3⟩, ⟨b0, b1, b2, b3⟩, co, tx, z⟩ (j + 1) = wx ⟨3, ⟨a0, a1, a2, a3⟩, ⟨b0, b1, b2, b3⟩, co, tx, z⟩ j + chW z (rn tx j) := fun _ => rfl
        have hww : ∀ j, wm ⟨3, ⟨a0, a1, a2, a3⟩, ⟨b0, b1, b2, b3⟩, co, tx, z⟩ j = wx ⟨3, ⟨a0, a1, a2, a3⟩, ⟨b0, b1, b2, b3⟩, co, tx, z⟩ j + chW z (rn tx j) / 2 := fun _ => rfl
        have hit : ∀ j, hitW ⟨3, ⟨a0, a1, a2, a3⟩, ⟨b0, b1, b2, b3⟩, co, tx, z⟩ j c r = (decide (0 < chW z (rn tx j)) && !spR (rn tx j) && hasR ⟨m0, m1, m2, m3⟩ (wm ⟨3, ⟨a0, a1, a2, a3⟩, ⟨b0, b1, b2, b3⟩, co, tx, z⟩ j) yy && decide (wm ⟨3, ⟨a0, a1, a2, a3⟩, ⟨b0, b1, b2, b3⟩, co, tx, z⟩ j / 8 = c) && decide (yy / 16 = r)) := by
          intro j
          unfold hitW
          rw [HYY.out]
          simp only
          rw [HM2.out]
        have hfin : itemR ⟨3, ⟨a0, a1, a2, a3⟩, ⟨b0, b1, b2, b3⟩, co, tx, z⟩ c r old = wordR ⟨3, ⟨a0, a1, a2, a3⟩, ⟨b0, b1, b2, b3⟩, co, tx, z⟩ c r old n := by
          unfold itemR
          rw [if_neg (by simp), if_neg (by simp), if_pos rfl, HN.out]
        rw [hfin] at HSN
        simp only [← hxe] at hw0 hws hww hit HSN
        have HWB := Lib.hid (show ∀ j : Nat, a0 ≤ wx x j ∧ wx x j ≤ a0 + 101 * j by intro j; have := hwb j; rw [hxe]; exact this)
        have HWS := Lib.hid hws
        have HWW := Lib.hid hww
        have HIT := Lib.hid hit
        have HXE := Lib.hid hxe
        have HTX := Lib.hid (show x.tx = tx by rw [hxe])
        clear hfin hwb hws hww hit hxe
        go_wp2_with fail
        go_loopg [7, 11, 14] n (WlR x c r old n w b (i4 m0 m1 m2 m3) s6 c6)
        case atStart => exact ⟨0, rfl, Nat.zero_le _, rfl, by rw [hw0], rfl, by rw [HTX.out]; exact H6.out⟩
        case round =>
          obtain ⟨j, hg2, hj, rfl, rfl, rfl, h7⟩ := hrel
          rw [HTX.out] at h7
          have Hg2 := Lib.hid hg2
          have H7 := Lib.hid h7
          clear hg2 h7
          by_cases hjn : j < n
          · have hjI : (j : Int) < (n : Int) := by omega
            obtain ⟨g6, o6, rfl, -⟩ := H7.out.sl.rd.addr (by omega)
            go_upto_region 17 with fail
            obtain ⟨q, hq⟩ : ∃ q, rn tx j = q := ⟨_, rfl⟩
            have hqo : okRune q := hq ▸ rn_ok tx j
            have hcwb := chW_le z q hx4 hx5
            obtain ⟨cw, hcw⟩ : ∃ v, chW z q = v := ⟨_, rfl⟩
            rw [hcw] at hcwb
            obtain ⟨hcw0, hcw1⟩ := hcwb
            have hchar := fun w => char_b q z w
            simp only [hcw] at hchar
            have HCW := Lib.hid hchar
            have hxb := HWB.out j
            have hxn := HWS.out j
            have hwm := HWW.out j
            have hij := HIT.out j
            obtain ⟨xx, hxx⟩ : ∃ v, wx x j = v := ⟨_, rfl⟩
            obtain ⟨ov, hov⟩ : ∃ v, wordR x c r old j = v := ⟨_, rfl⟩
            simp only [hxx, hov]
            rw [hq, hcw, hxx] at hxn hwm
            rw [hxx] at hxb
            rw [hwm, hq, hcw] at hij
            have HXN := Lib.hid hxn
            have HOV := Lib.hid hov
            have HQ := Lib.hid hq
            have HQO := Lib.hid hqo
            have HQ32 : Hid (IntKind.i32.wrap q = q) := Lib.hid (by unfold okRune at hqo; show (let m := q % (2 ^ 32 : Int); if true && m ≥ (2 ^ 31 : Int) then m - (2 ^ 32 : Int) else m) = q; simp only [Bool.true_and, decide_eq_true_eq]; omega)
            have hxb2 : xx ≤ a0 + 3030 := by omega
            have hcd : cw.tdiv 2 = cw / 2 := Int.tdiv_eq_ediv_of_nonneg hcw0
            have hw1 := wrapS (a := cw / 2) (by omega) (by omega)
            have hw2 := wrapS (a := xx + cw / 2) (by omega) (by omega)
            have hw3 := wrapS (a := xx + cw) (by omega) (by omega)
            have hw5 : wrap64 xx = xx := by unfold wrap64; omega
            have HW5 := Lib.hid hw5
            clear hw5
            have hw4 := wrapS (a := (j : Int) + 1) (by omega) (by omega)
            obtain ⟨hc2, hhc2⟩ : ∃ v, cw / 2 = v := ⟨_, rfl⟩
            have hcb2 : 0 ≤ hc2 ∧ hc2 ≤ 60 := by omega
            obtain ⟨mm, hmm⟩ : ∃ v, xx + hc2 = v := ⟨_, rfl⟩
            have hmb : -2000 ≤ mm ∧ mm ≤ 5000 := by omega
            rw [hhc2] at hcd hw1 hw2 hij
            rw [hmm] at hw2 hij
            obtain ⟨p8, hp8⟩ : ∃ v, mm / 8 = v := ⟨_, rfl⟩
            obtain ⟨p16, hp16⟩ : ∃ v, yy / 16 = v := ⟨_, rfl⟩
            obtain ⟨hb, hhb⟩ : ∃ v, hasR ⟨m0, m1, m2, m3⟩ mm yy = v := ⟨_, rfl⟩
            obtain ⟨sp, hsp⟩ : ∃ v, spR q = v := ⟨_, rfl⟩
            rw [hp8, hp16, hhb, hsp] at hij
            have hf8 := fun w => floor_b mm 8 w (by omega) (by simp)
            have hf16 := fun w => floor_b yy 16 w (by omega) (by simp)
            simp only [hp8] at hf8
            simp only [hp16] at hf16
            have HF8 := Lib.hid hf8
            have HF16 := Lib.hid hf16
            have HHM := Lib.hid (fun w => has_c w HBM.out hhb)
            have hfd := fun w => fields_q q hqo sp hsp w
            have HFD := Lib.hid hfd
            have HIJ := Lib.hid hij
            clear hf8 hf16 hfd hij hp8 hp16 hhb hsp hhc2 hov hxx hq hqo hcw hchar hxn hwm hxb
            have hmm2 : IntKind.i64.wrap (xx + hc2) = mm := by rw [hmm]; exact hw2
            clear hmm
            have hS := H7.out.drew
            have H7d := Lib.hid hS
            refine wp_region_held (S := fun w' : World => St w w' [As.row 9 1 (some ⟨g6, o6, none⟩) n c6 (chs tx n), As.cells b (i4 m0 m1 m2 m3) 47]) (by kernel_rfl) ?_
            change wpAnyH _ _ _ _ _ _ _ _ (World.drew _)
            refine' wpAnyH_take (i := 0) (v := .slice (some ⟨g6, o6, none⟩) n c6) rfl (by kernel_rfl) (by kernel_rfl) (by kernel_rfl) (fun _ _ _ h => h) (Or.inl ⟨by rfl, ?hya0⟩) hS ?resta0
            case hya0 => (intro w' hSw; have q0 := ch_at hSw hjn; rw [HQ.out] at q0; obtain ⟨-, -, -, -, -, -, -, -, -, -, -, i11, -⟩ := im_at (rd_st hSw HS.out) hkn _ HX.out; go_simp; try with_reducible rfl)
            try simp only [Act.put, List.getElem_toArray, List.getElem_cons_zero, List.getElem_cons_succ, List.setIfInBounds_toArray, List.set_cons_zero, List.set_cons_succ]
            refine' wpAnyH_take (i := 1) (v := .int .i64 (j : Nat)) rfl (by kernel_rfl) (by kernel_rfl) (by kernel_rfl) (fun _ _ _ h => h) (Or.inl ⟨by rfl, ?hya1⟩) hS ?resta1
            case hya1 => (intro w' hSw; have q0 := ch_at hSw hjn; rw [HQ.out] at q0; obtain ⟨-, -, -, -, -, -, -, -, -, -, -, i11, -⟩ := im_at (rd_st hSw HS.out) hkn _ HX.out; go_simp; try with_reducible rfl)
            try simp only [Act.put, List.getElem_toArray, List.getElem_cons_zero, List.getElem_cons_succ, List.setIfInBounds_toArray, List.set_cons_zero, List.set_cons_succ]
            refine' wpAnyH_take (i := 2) (v := .pointer (some ⟨g6, o6 + j, none⟩)) rfl (by kernel_rfl) (by kernel_rfl) (by kernel_rfl) (fun _ _ _ h => h) (Or.inl ⟨by rfl, ?hya2⟩) hS ?resta2
            case hya2 => (intro w' hSw; have q0 := ch_at hSw hjn; rw [HQ.out] at q0; obtain ⟨-, -, -, -, -, -, -, -, -, -, -, i11, -⟩ := im_at (rd_st hSw HS.out) hkn _ HX.out; go_simp; try with_reducible rfl)
            try simp only [Act.put, List.getElem_toArray, List.getElem_cons_zero, List.getElem_cons_succ, List.setIfInBounds_toArray, List.set_cons_zero, List.set_cons_succ]
            refine' wpAnyH_take (i := 3) (v := .string (enc1 q)) rfl (by kernel_rfl) (by kernel_rfl) (by kernel_rfl) (fun _ _ _ h => h) (Or.inl ⟨by rfl, ?hya3⟩) hS ?resta3
            case hya3 => (intro w' hSw; have q0 := ch_at hSw hjn; rw [HQ.out] at q0; obtain ⟨-, -, -, -, -, -, -, -, -, -, -, i11, -⟩ := im_at (rd_st hSw HS.out) hkn _ HX.out; go_simp; try with_reducible rfl)
            try simp only [Act.put, List.getElem_toArray, List.getElem_cons_zero, List.getElem_cons_succ, List.setIfInBounds_toArray, List.set_cons_zero, List.set_cons_succ]
            refine' wpAnyH_take (i := 6) (v := .slice (some ⟨g, off, none⟩) ls.length cp) rfl (by kernel_rfl) (by kernel_rfl) (by kernel_rfl) (fun _ _ _ h => h) (Or.inl ⟨by rfl, ?hya6⟩) hS ?resta6
            case hya6 => (intro w' hSw; have q0 := ch_at hSw hjn; rw [HQ.out] at q0; obtain ⟨-, -, -, -, -, -, -, -, -, -, -, i11, -⟩ := im_at (rd_st hSw HS.out) hkn _ HX.out; go_simp; try with_reducible rfl)
            try simp only [Act.put, List.getElem_toArray, List.getElem_cons_zero, List.getElem_cons_succ, List.setIfInBounds_toArray, List.set_cons_zero, List.set_cons_succ]
            refine' wpAnyH_take (i := 7) (v := .int .i64 (k : Nat)) rfl (by kernel_rfl) (by kernel_rfl) (by kernel_rfl) (fun _ _ _ h => h) (Or.inl ⟨by rfl, ?hya7⟩) hS ?resta7
            case hya7 => (intro w' hSw; have q0 := ch_at hSw hjn; rw [HQ.out] at q0; obtain ⟨-, -, -, -, -, -, -, -, -, -, -, i11, -⟩ := im_at (rd_st hSw HS.out) hkn _ HX.out; go_simp; try with_reducible rfl)
            try simp only [Act.put, List.getElem_toArray, List.getElem_cons_zero, List.getElem_cons_succ, List.setIfInBounds_toArray, List.set_cons_zero, List.set_cons_succ]
            refine' wpAnyH_take (i := 8) (v := .pointer (some ⟨g, off + k * 13, none⟩)) rfl (by kernel_rfl) (by kernel_rfl) (by kernel_rfl) (fun _ _ _ h => h) (Or.inl ⟨by rfl, ?hya8⟩) hS ?resta8
            case hya8 => (intro w' hSw; have q0 := ch_at hSw hjn; rw [HQ.out] at q0; obtain ⟨-, -, -, -, -, -, -, -, -, -, -, i11, -⟩ := im_at (rd_st hSw HS.out) hkn _ HX.out; go_simp; try with_reducible rfl)
            try simp only [Act.put, List.getElem_toArray, List.getElem_cons_zero, List.getElem_cons_succ, List.setIfInBounds_toArray, List.set_cons_zero, List.set_cons_succ]
            refine' wpAnyH_take (i := 9) (v := .pointer (some ⟨g, off + k * 13 + 11, none⟩)) rfl (by kernel_rfl) (by kernel_rfl) (by kernel_rfl) (fun _ _ _ h => h) (Or.inl ⟨by rfl, ?hya9⟩) hS ?resta9
            case hya9 => (intro w' hSw; have q0 := ch_at hSw hjn; rw [HQ.out] at q0; obtain ⟨-, -, -, -, -, -, -, -, -, -, -, i11, -⟩ := im_at (rd_st hSw HS.out) hkn _ HX.out; go_simp; try with_reducible rfl)
            try simp only [Act.put, List.getElem_toArray, List.getElem_cons_zero, List.getElem_cons_succ, List.setIfInBounds_toArray, List.set_cons_zero, List.set_cons_succ]
            refine' wpAnyH_take (i := 10) (v := .int .i64 z) rfl (by kernel_rfl) (by kernel_rfl) (by kernel_rfl) (fun _ _ _ h => h) (Or.inl ⟨by rfl, ?hya10⟩) hS ?resta10
            case hya10 => (intro w' hSw; have q0 := ch_at hSw hjn; rw [HQ.out] at q0; obtain ⟨-, -, -, -, -, -, -, -, -, -, -, i11, -⟩ := im_at (rd_st hSw HS.out) hkn _ HX.out; go_simp; try with_reducible rfl)
            try simp only [Act.put, List.getElem_toArray, List.getElem_cons_zero, List.getElem_cons_succ, List.setIfInBounds_toArray, List.set_cons_zero, List.set_cons_succ]
            clear hS
            refine held1 (i := 4) rfl (by kernel_rfl) ?_
            apply hstep_call (code_any q _ HQO.out) H7d.out (fun _ h => h)
            case hg => rfl
            case ho => rfl
            case hf => exact Try.func24
            case hn => kernel_rfl
            case hb => kernel_rfl
            case ha => kernel_rfl
            intro w71 hw71; have H71 := Lib.hid hw71; have hS := hw71; clear hw71
            try simp only [Act.put, List.getElem_toArray, List.getElem_cons_zero, List.getElem_cons_succ, List.setIfInBounds_toArray, List.set_cons_zero, List.set_cons_succ]
            refine' wpAnyH_take (i := 5) (v := .int .i32 q) rfl (by kernel_rfl) (by kernel_rfl) (by kernel_rfl) (fun _ _ _ h => h) (Or.inl ⟨by rfl, ?hya5⟩) hS ?resta5
            case hya5 => (intro w' hSw; have q32 := HQ32.out; go_simp; try with_reducible rfl)
            try simp only [Act.put, List.getElem_toArray, List.getElem_cons_zero, List.getElem_cons_succ, List.setIfInBounds_toArray, List.set_cons_zero, List.set_cons_succ]
            clear hS
            refine held1 (i := 11) rfl (by kernel_rfl) ?_
            apply hstep_call (HCW.out _) H71.out (fun _ h => h)
            case hg => rfl
            case ho => rfl
            case hf => exact Try.func23
            case hn => kernel_rfl
            case hb => kernel_rfl
            case ha => kernel_rfl
            intro w8 hw8; have H8 := Lib.hid hw8; have hS := hw8; clear hw8
            try simp only [Act.put, List.getElem_toArray, List.getElem_cons_zero, List.getElem_cons_succ, List.setIfInBounds_toArray, List.set_cons_zero, List.set_cons_succ]
            refine' wpAnyH_take (i := 12) (v := .int .i64 cw) rfl (by kernel_rfl) (by kernel_rfl) (by kernel_rfl) (fun _ _ _ h => h) (Or.inl ⟨by rfl, ?hya12⟩) hS ?resta12
            case hya12 => (intro w' hSw; have q0 := ch_at hSw hjn; rw [HQ.out] at q0; obtain ⟨-, -, -, -, -, -, -, -, -, -, -, i11, -⟩ := im_at (rd_st hSw HS.out) hkn _ HX.out; go_simp; try with_reducible rfl)
            try simp only [Act.put, List.getElem_toArray, List.getElem_cons_zero, List.getElem_cons_succ, List.setIfInBounds_toArray, List.set_cons_zero, List.set_cons_succ]
            refine wpAnyH_done (by kernel_rfl) ?_ _
            clear hS H7d H71
            have q0 := ch_at H8.out hjn
            rw [HQ.out] at q0
            by_cases hcp : 0 < cw
            · cases sp with
              | true =>
                go_wp2_with (first
                  | (go_at_call 25; refine (HFD.out _).mono ?_; rintro e w9 ⟨v9, c9, rfl, hb9⟩; have H9 := Lib.hid (H8.out.of_below hb9); obtain ⟨d0, d1, d2, d3, d4⟩ := H9.out.swap.f4; clear HFD)
                  | (go_at_call 11; refine (HHM.out _).mono ?_; rintro e w10 ⟨rfl, hb10⟩; have H10 := Lib.hid (H9.out.of_below hb10))
                  | (go_at_call 20; refine (HF8.out _).mono ?_; rintro e w11 ⟨rfl, hb11⟩; have H11 := Lib.hid (H10.out.of_below hb11); clear HF8)
                  | (go_at_call 20; refine (HF16.out _).mono ?_; rintro e w12 ⟨rfl, hb12⟩; have H12 := Lib.hid (H11.out.of_below hb12); have q0 := ch_at H12.out hjn; rw [HQ.out] at q0))
                go_roundg (n - (j + 1))
                case measure => have := Hg2.out; omega
                case rel =>
                  refine ⟨j + 1, rfl, by omega, ?_, by rw [HXN.out], by rw [Int.natCast_add]; rfl, by rw [HTX.out]; first | exact H12.out | exact H11.out | exact H10.out | exact H9.out | exact H8.out⟩
                  unfold wordR
                  rw [HIJ.out]
                  simp [HOV.out]
              | false =>
                cases hb with
                | false =>
                  go_wp2_with (first
                    | (go_at_call 25; refine (HFD.out _).mono ?_; rintro e w9 ⟨v9, c9, rfl, hb9⟩; have H9 := Lib.hid (H8.out.of_below hb9); obtain ⟨d0, d1, d2, d3, d4⟩ := H9.out.swap.f4; clear HFD)
                    | (go_at_call 11; refine (HHM.out _).mono ?_; rintro e w10 ⟨rfl, hb10⟩; have H10 := Lib.hid (H9.out.of_below hb10))
                    | (go_at_call 20; refine (HF8.out _).mono ?_; rintro e w11 ⟨rfl, hb11⟩; have H11 := Lib.hid (H10.out.of_below hb11); clear HF8)
                    | (go_at_call 20; refine (HF16.out _).mono ?_; rintro e w12 ⟨rfl, hb12⟩; have H12 := Lib.hid (H11.out.of_below hb12); have q0 := ch_at H12.out hjn; rw [HQ.out] at q0))
                  go_roundg (n - (j + 1))
                  case measure => have := Hg2.out; omega
                  case rel =>
                    refine ⟨j + 1, rfl, by omega, ?_, by rw [HXN.out], by rw [Int.natCast_add]; rfl, by rw [HTX.out]; first | exact H12.out | exact H11.out | exact H10.out | exact H9.out | exact H8.out⟩
                    unfold wordR
                    rw [HIJ.out]
                    simp [HOV.out]
                | true =>
                  by_cases h8 : p8 = (c : Int)
                  · subst h8
                    by_cases h16 : p16 = (r : Int)
                    · subst h16
                      go_wp2_with (first
                        | (go_at_call 25; refine (HFD.out _).mono ?_; rintro e w9 ⟨v9, c9, rfl, hb9⟩; have H9 := Lib.hid (H8.out.of_below hb9); obtain ⟨d0, d1, d2, d3, d4⟩ := H9.out.swap.f4; clear HFD)
                        | (go_at_call 11; refine (HHM.out _).mono ?_; rintro e w10 ⟨rfl, hb10⟩; have H10 := Lib.hid (H9.out.of_below hb10))
                        | (go_at_call 20; refine (HF8.out _).mono ?_; rintro e w11 ⟨rfl, hb11⟩; have H11 := Lib.hid (H10.out.of_below hb11); clear HF8)
                        | (go_at_call 20; refine (HF16.out _).mono ?_; rintro e w12 ⟨rfl, hb12⟩; have H12 := Lib.hid (H11.out.of_below hb12); have q0 := ch_at H12.out hjn; rw [HQ.out] at q0))
                      go_roundg (n - (j + 1))
                      case measure => have := Hg2.out; omega
                      case rel =>
                        refine ⟨j + 1, rfl, by omega, ?_, by rw [HXN.out], by rw [Int.natCast_add]; rfl, by rw [HTX.out]; first | exact H12.out | exact H11.out | exact H10.out | exact H9.out | exact H8.out⟩
                        unfold wordR
                        rw [HIJ.out]
                        simp [HTX.out, HQ.out, hcp]
                    · have h16b : (p16 == (r : Int)) = false := by simpa using h16
                      go_wp2_with (first
                        | (go_at_call 25; refine (HFD.out _).mono ?_; rintro e w9 ⟨v9, c9, rfl, hb9⟩; have H9 := Lib.hid (H8.out.of_below hb9); obtain ⟨d0, d1, d2, d3, d4⟩ := H9.out.swap.f4; clear HFD)
                        | (go_at_call 11; refine (HHM.out _).mono ?_; rintro e w10 ⟨rfl, hb10⟩; have H10 := Lib.hid (H9.out.of_below hb10))
                        | (go_at_call 20; refine (HF8.out _).mono ?_; rintro e w11 ⟨rfl, hb11⟩; have H11 := Lib.hid (H10.out.of_below hb11); clear HF8)
                        | (go_at_call 20; refine (HF16.out _).mono ?_; rintro e w12 ⟨rfl, hb12⟩; have H12 := Lib.hid (H11.out.of_below hb12); have q0 := ch_at H12.out hjn; rw [HQ.out] at q0))
                      go_roundg (n - (j + 1))
                      case measure => have := Hg2.out; omega
                      case rel =>
                        refine ⟨j + 1, rfl, by omega, ?_, by rw [HXN.out], by rw [Int.natCast_add]; rfl, by rw [HTX.out]; first | exact H12.out | exact H11.out | exact H10.out | exact H9.out | exact H8.out⟩
                        unfold wordR
                        rw [HIJ.out]
                        simp [HOV.out, h16]
                  · have h8b : (p8 == (c : Int)) = false := by simpa using h8
                    go_wp2_with (first
                      | (go_at_call 25; refine (HFD.out _).mono ?_; rintro e w9 ⟨v9, c9, rfl, hb9⟩; have H9 := Lib.hid (H8.out.of_below hb9); obtain ⟨d0, d1, d2, d3, d4⟩ := H9.out.swap.f4; clear HFD)
                      | (go_at_call 11; refine (HHM.out _).mono ?_; rintro e w10 ⟨rfl, hb10⟩; have H10 := Lib.hid (H9.out.of_below hb10))
                      | (go_at_call 20; refine (HF8.out _).mono ?_; rintro e w11 ⟨rfl, hb11⟩; have H11 := Lib.hid (H10.out.of_below hb11); clear HF8)
                      | (go_at_call 20; refine (HF16.out _).mono ?_; rintro e w12 ⟨rfl, hb12⟩; have H12 := Lib.hid (H11.out.of_below hb12); have q0 := ch_at H12.out hjn; rw [HQ.out] at q0))
                    go_roundg (n - (j + 1))
                    case measure => have := Hg2.out; omega
                    case rel =>
                      refine ⟨j + 1, rfl, by omega, ?_, by rw [HXN.out], by rw [Int.natCast_add]; rfl, by rw [HTX.out]; first | exact H12.out | exact H11.out | exact H10.out | exact H9.out | exact H8.out⟩
                      unfold wordR
                      rw [HIJ.out]
                      simp [HOV.out, h8]
            · have hcn : cw = 0 := by omega
              subst hcn
              go_wp2_with (first
                | (go_at_call 25; refine (HFD.out _).mono ?_; rintro e w9 ⟨v9, c9, rfl, hb9⟩; have H9 := Lib.hid (H8.out.of_below hb9); obtain ⟨d0, d1, d2, d3, d4⟩ := H9.out.swap.f4; clear HFD)
                | (go_at_call 11; refine (HHM.out _).mono ?_; rintro e w10 ⟨rfl, hb10⟩; have H10 := Lib.hid (H9.out.of_below hb10))
                | (go_at_call 20; refine (HF8.out _).mono ?_; rintro e w11 ⟨rfl, hb11⟩; have H11 := Lib.hid (H10.out.of_below hb11); clear HF8)
                | (go_at_call 20; refine (HF16.out _).mono ?_; rintro e w12 ⟨rfl, hb12⟩; have H12 := Lib.hid (H11.out.of_below hb12); have q0 := ch_at H12.out hjn; rw [HQ.out] at q0))
              go_roundg (n - (j + 1))
              case measure => have := Hg2.out; omega
              case rel =>
                refine ⟨j + 1, rfl, by omega, ?_, by rw [HXN.out, Int.add_zero, HW5.out], by rw [Int.natCast_add]; rfl, by rw [HTX.out]; first | exact H12.out | exact H11.out | exact H10.out | exact H9.out | exact H8.out⟩
                unfold wordR
                rw [HIJ.out]
                simp [HOV.out]
          · have hje : j = n := by omega
            subst hje
            have hjI : ¬ (j : Int) < (j : Int) := by omega
            go_wp2_with fail
            go_roundg (ls.length - (k + 1))
            case measure => have := Hg.out; omega
            case rel =>
              exact ⟨k + 1, rfl, by omega, by rw [HSN.out], by rw [Int.natCast_add]; rfl, H7.out.bel⟩
    · have hke : k = ls.length := by omega
      have hkI : ¬ (k : Int) < (ls.length : Int) := by omega
      have ht : ls.take k = ls := by rw [hke]; exact List.take_length
      rw [ht]
      go_wp2_with fail
      exact bodyPost_ret (results_tmp Try.results9 _ _ _) rfl ⟨rfl, HB.out⟩
end Go.Proofs.Ytifgjccnhbbadaa
