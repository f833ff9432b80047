/-
  The place of a key among pairs, and among changes.
-/
import Derived.Test.YtcglnjklnlejmaaSb
import Derived.Test.YtcglnjklnlejmaaSc
import Derived.Test.YtcglnjklnlejmaaKd
set_option linter.unusedVariables false
set_option linter.unusedSimpArgs false
namespace Go.Proofs.Ytcglnjklnlejmaa
open Go.RowKit Go.K Go.K.Sr

def kcmp (a b : ByteArray) : Int := Lib.compareBytes a.data.toList b.data.toList
theorem kcmp_lt (a b : ByteArray) : kcmp a b < 0 ↔ klt a b = true := by
  unfold kcmp klt
  rw [ByteArray.toList_eq, ByteArray.toList_eq]
  exact (cmp_lt _ _).1
theorem kcmp_eq (a b : ByteArray) : kcmp a b = 0 ↔ a = b := by
  unfold kcmp
  rw [(cmp_lt _ _).2]
  exact ⟨fun h => ByteArray.ext (Array.toList_inj.1 h), fun h => by rw [h]⟩
set_option maxHeartbeats 1000000 in
set_option maxRecDepth 100000 in
theorem cmpstr_any (a b : ByteArray) (w : World) : Calls Try.prog 65 #[.string a, .string b] w fun e w' => e = .returned (.int .i64 (kcmp a b)) ∧ w' = w := by
  go_enter Try.func65, Try.ntmps65
  go_wp2
  rw [run_callFunc_extern Try.func70 (by kernel_rfl) (by kernel_rfl) (by kernel_rfl) (e := Extern.BytealgCompare.compare) (by kernel_rfl), Lib.run_compareString]
  simp only [Result.andThen]
  rw [Oper.upon_value]
  go_wp2
  go_ret
  exact ⟨rfl, rfl⟩
set_option maxHeartbeats 400000 in
theorem compare_any {r : Int} (a b : ByteArray) (w : World) (hr : kcmp a b = r) : Calls Try.prog 52 #[.string a, .string b] w fun e w' => e = .returned (.int .i64 r) ∧ w' = w := by
  go_enter Try.func52, Try.ntmps52
  go_wp2_with (go_at_call 65; refine (cmpstr_any _ _ _).mono ?_; rintro e w' ⟨rfl, rfl⟩)
  go_ret
  exact ⟨by rw [← hr]; rfl, rfl⟩

theorem p_at {w : World} {g off n : Nat} {ls : List Pr} (hs : Rd w 2 (some ⟨g, off, none⟩) n (flat pcells ls)) {k : Nat} (hk : k < ls.length) (x : Pr) (hx : ls[k] = x) :
    w.cell? ⟨g, off + k * 2, none⟩ = some (.string x.k) ∧ w.cell? ⟨g, off + k * 2 + 1, none⟩ = some (.string x.v) := by
  have e := fun j hj => flat_at (f := pcells) (sz := 2) (fun _ => rfl) ls k j hk hj
  rw [hx] at e
  have c := fun j u h => hs.cells _ rfl j u h
  simp only [Addr.add_lit] at c
  have q := fun j hj => c _ _ ((e j hj).trans (List.getElem?_eq_getElem (by show j < 2; exact hj)))
  simp only [← Nat.add_assoc] at q
  exact ⟨by have := q 0 (by omega); rwa [Nat.add_zero] at this, q 1 (by omega)⟩
theorem pcmp_any {r : Int} (x : Pr) (k : ByteArray) (w : World) (hr : kcmp x.k k = r) : Calls Try.prog 54 #[.agg #[.string x.k, .string x.v], .string k] w fun e w' => e = .returned (.int .i64 r) ∧ Below w.heap.size w w' := by
  go_enter Try.func54, Try.ntmps54
  go_wp2_with (go_at_call 52; refine (compare_any _ _ _ hr).mono ?_; rintro e w' ⟨rfl, rfl⟩)
  go_ret
  exact ⟨rfl, (Below.refl _ _).alloc (Nat.le_refl _) _⟩
def pSRel (l : List Pr) (k : ByteArray) (w : World) (v9 v10 : Value) (wr : World) : Prop :=
  ∃ i j : Nat, v9 = .int .i64 i ∧ v10 = .int .i64 j ∧ i ≤ j ∧ j ≤ l.length ∧ (∀ m (hm : m < l.length), m < i → klt l[m].k k = true) ∧ (∀ m (hm : m < l.length), j ≤ m → klt l[m].k k = false) ∧ Below w.heap.size w wr
def pSPost (l : List Pr) (k : ByteArray) (w : World) (e : Ending) (w' : World) : Prop :=
  ∃ A B, Cut Pr.k k l A B ∧ e = .returned (.tuple #[.int .i64 A.length, .bool (hasKey Pr.k k B)]) ∧ Below w.heap.size w w'

set_option maxRecDepth 100000 in
set_option maxHeartbeats 1000000 in
theorem psearch_any (s : Option Addr) (c : Nat) (l : List Pr) (k : ByteArray) (w : World) (hs : Rd w 2 s l.length (flat pcells l)) (hn : l.length ≤ 1000000) (ha : Asc Pr.k l) :
    Calls Try.prog 53 #[.slice s l.length c, .string k, .func (.func 54) #[] #[]] w (pSPost l k w) := by
  have HS := Lib.hid hs
  have HA := Lib.hid (List.pairwise_iff_getElem.1 ha)
  have hnI : (l.length : Int) ≤ 1000000 := by omega
  clear hs ha
  go_enter Try.func53, Try.ntmps53
  go_wp2_with fail
  go_loopw [9, 10] (pSRel l k w) (fun i j _ => (intOf j - intOf i).toNat)
  case atStart => exact ⟨0, l.length, rfl, rfl, by omega, by omega, fun m hm h => by omega, fun m hm h => by omega, Below.refl _ _⟩
  case round =>
    obtain ⟨i, j, rfl, rfl, hij, hjn, hi, hj, hb⟩ := hrel
    have Hi := Lib.hid hi
    have Hj := Lib.hid hj
    have HR := Lib.hid (HS.out.below hb)
    have HB := Lib.hid hb
    clear hi hj hb
    by_cases hlt : i < j
    · have hm : (i + j) / 2 < l.length := by omega
      obtain ⟨g, off, rfl, -⟩ := HR.out.addr (by omega)
      obtain ⟨x, hx⟩ : ∃ x, l[(i + j) / 2] = x := ⟨_, rfl⟩
      obtain ⟨d0, d1⟩ := p_at HR.out hm x hx
      have HX := Lib.hid hx
      obtain ⟨r, hr⟩ : ∃ r, kcmp x.k k = r := ⟨_, rfl⟩
      have HRC := Lib.hid hr
      have b1 : (0 : Int) ≤ ((i : Int) + j) / 2 := by omega
      have b2 : ((i : Int) + j) / 2 < (l.length : Int) := by omega
      have b3 : (((i : Int) + j) / 2).toNat = (i + j) / 2 := by omega
      clear hx hr
      by_cases hr0 : r < 0
      · have hkl : klt x.k k = true := by rw [← HRC.out, kcmp_lt] at hr0; exact hr0
        have HKL := Lib.hid hkl
        clear hkl
        go_wp2_with (go_at_call 54; refine (pcmp_any x k _ HRC.out).mono ?_; rintro e w2 ⟨rfl, hb2⟩)
        go_roundw
        case rel =>
          refine ⟨(i + j) / 2 + 1, j, by go_num, rfl, by omega, by omega, fun m hml h => ?_, Hj.out, HB.out.trans (hb2.mono HB.out.size)⟩
          by_cases e : m = (i + j) / 2
          · subst e; rw [HX.out]; exact HKL.out
          · exact klt_trans (HX.out ▸ HA.out m ((i + j) / 2) hml hm (by omega)) HKL.out
        case measure => simp [intOf]; omega
      · have hkl : klt x.k k = false := by
          cases e : klt x.k k with
          | false => rfl
          | true => exfalso; exact hr0 (by rw [← HRC.out, kcmp_lt]; exact e)
        have HKL := Lib.hid hkl
        clear hkl
        go_wp2_with (go_at_call 54; refine (pcmp_any x k _ HRC.out).mono ?_; rintro e w2 ⟨rfl, hb2⟩)
        go_roundw
        case rel =>
          refine ⟨i, (i + j) / 2, rfl, by go_num, by omega, by omega, Hi.out, fun m hml h => ?_, HB.out.trans (hb2.mono HB.out.size)⟩
          by_cases e : m = (i + j) / 2
          · subst e; rw [HX.out]; exact HKL.out
          · cases e2 : klt l[m].k k with
            | false => rfl
            | true => rw [klt_trans (HX.out ▸ HA.out ((i + j) / 2) m hm hml (by omega)) e2] at HKL; exact absurd HKL.out (by simp)
        case measure => simp [intOf]; omega
    · obtain rfl : i = j := by omega
      have HC := Lib.hid (show Cut Pr.k k l (l.take i) (l.drop i) from ⟨(List.take_append_drop i l).symm, fun a ha => by
          obtain ⟨m, hm, rfl⟩ := List.getElem_of_mem ha
          rw [List.getElem_take]
          rw [List.length_take] at hm
          exact Hi.out m (by omega) (by omega), fun b hb => by
          obtain ⟨m, hm, rfl⟩ := List.getElem_of_mem hb
          rw [List.getElem_drop]
          rw [List.length_drop] at hm
          exact Hj.out (i + m) (by omega) (by omega)⟩)
      have hil : (l.take i).length = i := by rw [List.length_take]; omega
      have HIL := Lib.hid hil
      clear hil
      by_cases hin : i < l.length
      · obtain ⟨g, off, rfl, -⟩ := HR.out.addr (by omega)
        obtain ⟨x, hx⟩ : ∃ x, l[i] = x := ⟨_, rfl⟩
        obtain ⟨d0, d1⟩ := p_at HR.out hin x hx
        obtain ⟨r, hr⟩ : ∃ r, kcmp x.k k = r := ⟨_, rfl⟩
        have HRC := Lib.hid hr
        have hhk : hasKey Pr.k k (l.drop i) = (r == 0) := by
          rw [List.drop_eq_getElem_cons hin, hx, ← hr]
          have := kcmp_eq x.k k
          by_cases e : x.k = k
          · have h0 := this.2 e
            rw [h0]
            simp [hasKey, e]
          · have h0 : kcmp x.k k ≠ 0 := fun h => e (this.1 h)
            simp [hasKey, e, h0]
        have HHK := Lib.hid hhk
        have hinI : (i : Int) < (l.length : Int) := by omega
        clear hx hr hhk
        go_wp2_with (go_at_call 54; refine (pcmp_any x k _ HRC.out).mono ?_; rintro e w2 ⟨rfl, hb2⟩)
        refine bodyPost_ret (v := .tuple #[.int .i64 i, .bool (r == 0)]) (by simp [results, Try.results53, go_sem]) rfl ⟨_, _, HC.out, by rw [HIL.out, HHK.out], HB.out.trans (hb2.mono HB.out.size)⟩
      · have hhk : hasKey Pr.k k (l.drop i) = false := by rw [List.drop_of_length_le (by omega)]; rfl
        have HHK := Lib.hid hhk
        clear hhk
        go_wp2_with fail
        refine bodyPost_ret (v := .tuple #[.int .i64 i, .bool false]) (by simp [results, Try.results53, go_sem]) rfl ⟨_, _, HC.out, by rw [HIL.out, HHK.out], HB.out⟩

theorem c_at {w : World} {g off n : Nat} {ls : List Ch} (hs : Rd w 3 (some ⟨g, off, none⟩) n (flat ccells ls)) {k : Nat} (hk : k < ls.length) (x : Ch) (hx : ls[k] = x) :
    w.cell? ⟨g, off + k * 3, none⟩ = some (.string x.k) ∧ w.cell? ⟨g, off + k * 3 + 1, none⟩ = some (.string x.v) ∧ w.cell? ⟨g, off + k * 3 + 2, none⟩ = some (.bool x.r) := by
  have e := fun j hj => flat_at (f := ccells) (sz := 3) (fun _ => rfl) ls k j hk hj
  rw [hx] at e
  have c := fun j u h => hs.cells _ rfl j u h
  simp only [Addr.add_lit] at c
  have q := fun j hj => c _ _ ((e j hj).trans (List.getElem?_eq_getElem (by show j < 3; exact hj)))
  simp only [← Nat.add_assoc] at q
  exact ⟨by have := q 0 (by omega); rwa [Nat.add_zero] at this, q 1 (by omega), q 2 (by omega)⟩
theorem ccmp_any {r : Int} (x : Ch) (k : ByteArray) (w : World) (hr : kcmp x.k k = r) : Calls Try.prog 51 #[.agg #[.string x.k, .string x.v, .bool x.r], .string k] w fun e w' => e = .returned (.int .i64 r) ∧ Below w.heap.size w w' := by
  go_enter Try.func51, Try.ntmps51
  go_wp2_with (go_at_call 52; refine (compare_any _ _ _ hr).mono ?_; rintro e w' ⟨rfl, rfl⟩)
  go_ret
  exact ⟨rfl, (Below.refl _ _).alloc (Nat.le_refl _) _⟩
def cSRel (l : List Ch) (k : ByteArray) (w : World) (v9 v10 : Value) (wr : World) : Prop :=
  ∃ i j : Nat, v9 = .int .i64 i ∧ v10 = .int .i64 j ∧ i ≤ j ∧ j ≤ l.length ∧ (∀ m (hm : m < l.length), m < i → klt l[m].k k = true) ∧ (∀ m (hm : m < l.length), j ≤ m → klt l[m].k k = false) ∧ Below w.heap.size w wr
def cSPost (l : List Ch) (k : ByteArray) (w : World) (e : Ending) (w' : World) : Prop :=
  ∃ A B, Cut Ch.k k l A B ∧ e = .returned (.tuple #[.int .i64 A.length, .bool (hasKey Ch.k k B)]) ∧ Below w.heap.size w w'

set_option maxRecDepth 100000 in
set_option maxHeartbeats 1000000 in
theorem csearch_any (s : Option Addr) (c : Nat) (l : List Ch) (k : ByteArray) (w : World) (hs : Rd w 3 s l.length (flat ccells l)) (hn : l.length ≤ 1000000) (ha : Asc Ch.k l) :
    Calls Try.prog 50 #[.slice s l.length c, .string k, .func (.func 51) #[] #[]] w (cSPost l k w) := by
  have HS := Lib.hid hs
  have HA := Lib.hid (List.pairwise_iff_getElem.1 ha)
  have hnI : (l.length : Int) ≤ 1000000 := by omega
  clear hs ha
  go_enter Try.func50, Try.ntmps50
  go_wp2_with fail
  go_loopw [9, 10] (cSRel l k w) (fun i j _ => (intOf j - intOf i).toNat)
  case atStart => exact ⟨0, l.length, rfl, rfl, by omega, by omega, fun m hm h => by omega, fun m hm h => by omega, Below.refl _ _⟩
  case round =>
    obtain ⟨i, j, rfl, rfl, hij, hjn, hi, hj, hb⟩ := hrel
    have Hi := Lib.hid hi
    have Hj := Lib.hid hj
    have HR := Lib.hid (HS.out.below hb)
    have HB := Lib.hid hb
    clear hi hj hb
    by_cases hlt : i < j
    · have hm : (i + j) / 2 < l.length := by omega
      obtain ⟨g, off, rfl, -⟩ := HR.out.addr (by omega)
      obtain ⟨x, hx⟩ : ∃ x, l[(i + j) / 2] = x := ⟨_, rfl⟩
      obtain ⟨d0, d1, d2⟩ := c_at HR.out hm x hx
      have HX := Lib.hid hx
      obtain ⟨r, hr⟩ : ∃ r, kcmp x.k k = r := ⟨_, rfl⟩
      have HRC := Lib.hid hr
      have b1 : (0 : Int) ≤ ((i : Int) + j) / 2 := by omega
      have b2 : ((i : Int) + j) / 2 < (l.length : Int) := by omega
      have b3 : (((i : Int) + j) / 2).toNat = (i + j) / 2 := by omega
      clear hx hr
      by_cases hr0 : r < 0
      · have hkl : klt x.k k = true := by rw [← HRC.out, kcmp_lt] at hr0; exact hr0
        have HKL := Lib.hid hkl
        clear hkl
        go_wp2_with (go_at_call 51; refine (ccmp_any x k _ HRC.out).mono ?_; rintro e w2 ⟨rfl, hb2⟩)
        go_roundw
        case rel =>
          refine ⟨(i + j) / 2 + 1, j, by go_num, rfl, by omega, by omega, fun m hml h => ?_, Hj.out, HB.out.trans (hb2.mono HB.out.size)⟩
          by_cases e : m = (i + j) / 2
          · subst e; rw [HX.out]; exact HKL.out
          · exact klt_trans (HX.out ▸ HA.out m ((i + j) / 2) hml hm (by omega)) HKL.out
        case measure => simp [intOf]; omega
      · have hkl : klt x.k k = false := by
          cases e : klt x.k k with
          | false => rfl
          | true => exfalso; exact hr0 (by rw [← HRC.out, kcmp_lt]; exact e)
        have HKL := Lib.hid hkl
        clear hkl
        go_wp2_with (go_at_call 51; refine (ccmp_any x k _ HRC.out).mono ?_; rintro e w2 ⟨rfl, hb2⟩)
        go_roundw
        case rel =>
          refine ⟨i, (i + j) / 2, rfl, by go_num, by omega, by omega, Hi.out, fun m hml h => ?_, HB.out.trans (hb2.mono HB.out.size)⟩
          by_cases e : m = (i + j) / 2
          · subst e; rw [HX.out]; exact HKL.out
          · cases e2 : klt l[m].k k with
            | false => rfl
            | true => rw [klt_trans (HX.out ▸ HA.out ((i + j) / 2) m hm hml (by omega)) e2] at HKL; exact absurd HKL.out (by simp)
        case measure => simp [intOf]; omega
    · obtain rfl : i = j := by omega
      have HC := Lib.hid (show Cut Ch.k k l (l.take i) (l.drop i) from ⟨(List.take_append_drop i l).symm, fun a ha => by
          obtain ⟨m, hm, rfl⟩ := List.getElem_of_mem ha
          rw [List.getElem_take]
          rw [List.length_take] at hm
          exact Hi.out m (by omega) (by omega), fun b hb => by
          obtain ⟨m, hm, rfl⟩ := List.getElem_of_mem hb
          rw [List.getElem_drop]
          rw [List.length_drop] at hm
          exact Hj.out (i + m) (by omega) (by omega)⟩)
      have hil : (l.take i).length = i := by rw [List.length_take]; omega
      have HIL := Lib.hid hil
      clear hil
      by_cases hin : i < l.length
      · obtain ⟨g, off, rfl, -⟩ := HR.out.addr (by omega)
        obtain ⟨x, hx⟩ : ∃ x, l[i] = x := ⟨_, rfl⟩
        obtain ⟨d0, d1, d2⟩ := c_at HR.out hin x hx
        obtain ⟨r, hr⟩ : ∃ r, kcmp x.k k = r := ⟨_, rfl⟩
        have HRC := Lib.hid hr
        have hhk : hasKey Ch.k k (l.drop i) = (r == 0) := by
          rw [List.drop_eq_getElem_cons hin, hx, ← hr]
          have := kcmp_eq x.k k
          by_cases e : x.k = k
          · have h0 := this.2 e
            rw [h0]
            simp [hasKey, e]
          · have h0 : kcmp x.k k ≠ 0 := fun h => e (this.1 h)
            simp [hasKey, e, h0]
        have HHK := Lib.hid hhk
        have hinI : (i : Int) < (l.length : Int) := by omega
        clear hx hr hhk
        go_wp2_with (go_at_call 51; refine (ccmp_any x k _ HRC.out).mono ?_; rintro e w2 ⟨rfl, hb2⟩)
        refine bodyPost_ret (v := .tuple #[.int .i64 i, .bool (r == 0)]) (by simp [results, Try.results50, go_sem]) rfl ⟨_, _, HC.out, by rw [HIL.out, HHK.out], HB.out.trans (hb2.mono HB.out.size)⟩
      · have hhk : hasKey Ch.k k (l.drop i) = false := by rw [List.drop_of_length_le (by omega)]; rfl
        have HHK := Lib.hid hhk
        clear hhk
        go_wp2_with fail
        refine bodyPost_ret (v := .tuple #[.int .i64 i, .bool false]) (by simp [results, Try.results50, go_sem]) rfl ⟨_, _, HC.out, by rw [HIL.out, HHK.out], HB.out⟩

set_option maxHeartbeats 400000 in
theorem pplace_any (s : Option Addr) (c : Nat) (l : List Pr) (k : ByteArray) (w : World) (hs : Rd w 2 s l.length (flat pcells l)) (hn : l.length ≤ 1000000) (ha : Asc Pr.k l) :
    Calls Try.prog 34 #[.slice s l.length c, .string k] w (pSPost l k w) := by
  go_enter Try.func34, Try.ntmps34
  go_wp2_with (go_at_call 53; refine (psearch_any _ _ l k _ hs hn ha).mono ?_; rintro e w' ⟨A, B, hc, rfl, hb⟩)
  refine bodyPost_ret (v := .tuple #[.int .i64 A.length, .bool (hasKey Pr.k k B)]) (by simp [results, Try.results34, go_sem]) rfl ⟨A, B, hc, rfl, hb⟩

set_option maxHeartbeats 400000 in
theorem cplace_any (s : Option Addr) (c : Nat) (l : List Ch) (k : ByteArray) (w : World) (hs : Rd w 3 s l.length (flat ccells l)) (hn : l.length ≤ 1000000) (ha : Asc Ch.k l) :
    Calls Try.prog 33 #[.slice s l.length c, .string k] w (cSPost l k w) := by
  go_enter Try.func33, Try.ntmps33
  go_wp2_with (go_at_call 50; refine (csearch_any _ _ l k _ hs hn ha).mono ?_; rintro e w' ⟨A, B, hc, rfl, hb⟩)
  refine bodyPost_ret (v := .tuple #[.int .i64 A.length, .bool (hasKey Ch.k k B)]) (by simp [results, Try.results33, go_sem]) rfl ⟨A, B, hc, rfl, hb⟩

end Go.Proofs.Ytcglnjklnlejmaa
