/-
  Transactions in memory; find, turn, current, Ready.
-/
import Derived.Test.YtcglnjklnlejmaaSe
set_option linter.unusedVariables false
set_option linter.unusedSimpArgs false
namespace Go.Proofs.Ytcglnjklnlejmaa
open Go.RowKit Go.K Go.K.Sr

abbrev nilS : Value := .slice none 0 0
def ycells (x : Tx × Value) : List Value := [.int .i64 x.1.id, .string x.1.ow, .bool x.1.wr, x.2]
abbrev tval (x : Tx × Value) : Value := .agg #[.int .i64 x.1.id, .string x.1.ow, .bool x.1.wr, x.2]
/-- the transactions with their changes: the first one alone has any -/
def yz (cv : Value) : List Tx → List (Tx × Value)
  | [] => []
  | t :: r => (t, cv) :: r.map (fun x => (x, nilS))
theorem yz_len (cv : Value) (l : List Tx) : (yz cv l).length = l.length := by cases l <;> simp [yz]
theorem yz_fst (cv : Value) (l : List Tx) : (yz cv l).map (·.1) = l := by
  cases l with
  | nil => rfl
  | cons t r => simp [yz, Function.comp_def]
theorem yz_get (cv : Value) (l : List Tx) (k : Nat) (hk : k < l.length) : (yz cv l)[k]'(by rw [yz_len]; exact hk) = (l[k], if k = 0 then cv else nilS) := by
  cases l with
  | nil => simp at hk
  | cons t r =>
    cases k with
    | zero => rfl
    | succ k => simp [yz]
theorem y_at {w : World} {g off n : Nat} {ls : List (Tx × Value)} (hs : Rd w 4 (some ⟨g, off, none⟩) n (flat ycells ls)) {k : Nat} (hk : k < ls.length) (x : Tx × Value) (hx : ls[k] = x) :
    w.cell? ⟨g, off + k * 4, none⟩ = some (.int .i64 x.1.id) ∧ w.cell? ⟨g, off + k * 4 + 1, none⟩ = some (.string x.1.ow) ∧ w.cell? ⟨g, off + k * 4 + 2, none⟩ = some (.bool x.1.wr) ∧ w.cell? ⟨g, off + k * 4 + 3, none⟩ = some x.2 := by
  have e := fun j hj => flat_at (f := ycells) (sz := 4) (fun _ => rfl) ls k j hk hj
  rw [hx] at e
  have c := fun j u h => hs.cells _ rfl j u h
  simp only [Addr.add_lit] at c
  have q := fun j hj => c _ _ ((e j hj).trans (List.getElem?_eq_getElem (by show j < 4; exact hj)))
  simp only [← Nat.add_assoc] at q
  exact ⟨by have := q 0 (by omega); rwa [Nat.add_zero] at this, q 1 (by omega), q 2 (by omega), q 3 (by omega)⟩

/-- the place of the first one where p holds -/
def IdxIs (p : Tx → Bool) (ys : List (Tx × Value)) (r : Int) : Prop :=
  (∃ (k : Nat) (hk : k < ys.length), r = k ∧ ys.findIdx? (fun x => p x.1) = some k ∧ p ys[k].1 = true) ∨ (r = -1 ∧ ys.findIdx? (fun x => p x.1) = none)
def IdxPost (p : Tx → Bool) (ys : List (Tx × Value)) (w : World) (E : Ending) (w' : World) : Prop := ∃ r, E = .returned (.int .i64 r) ∧ IdxIs p ys r ∧ Below w.heap.size w w'
def IdxRel (p : Tx → Bool) (ys : List (Tx × Value)) (w : World) (g : Nat) (v : Value) (wr : World) : Prop :=
  ∃ k : Nat, g = ys.length - k ∧ k ≤ ys.length ∧ v = .int .i64 k ∧ Below w.heap.size w wr ∧ ∀ j (hj : j < ys.length), j < k → p ys[j].1 = false

set_option maxRecDepth 100000 in
set_option maxHeartbeats 600000 in
theorem idx60 {cap : Value} (p : Tx → Bool) (s : Option Addr) (c : Nat) (ys : List (Tx × Value)) (w : World) (hs : Rd w 4 s ys.length (flat ycells ys)) (hn : ys.length ≤ 100000)
    (hclo : ∀ (x : Tx × Value) (w' : World), Below w.heap.size w w' → Calls Try.prog 60 #[tval x, cap] w' fun e w'' => e = .returned (.bool (p x.1)) ∧ Below w'.heap.size w' w'') :
    Calls Try.prog 59 #[.slice s ys.length c, .func (.func 60) #[] #[cap]] w (IdxPost p ys w) := by
  have HS := Lib.hid hs
  have HC := Lib.hid hclo
  clear hs hclo
  go_enter Try.func59, Try.ntmps59
  go_wp2_with fail
  go_loopg [8] ys.length (IdxRel p ys w)
  case atStart => exact ⟨0, rfl, Nat.zero_le _, rfl, Below.refl _ _, by intro j hj h; omega⟩
  case round =>
    obtain ⟨k, hg, hk, rfl, hb, hall⟩ := hrel
    have Hg := Lib.hid hg
    have HA := Lib.hid hall
    have HB := Lib.hid hb
    have HR := Lib.hid (HS.out.below hb)
    clear hg hall hb
    by_cases hkn : k < ys.length
    · obtain ⟨g, off, rfl, -⟩ := HS.out.addr (by omega)
      obtain ⟨x, hx⟩ : ∃ x, ys[k] = x := ⟨_, rfl⟩
      obtain ⟨d0, d1, d2, d3⟩ := y_at HR.out hkn x hx
      have HX := Lib.hid hx
      have hkn' : (k : Int) < (ys.length : Int) := by omega
      clear hx
      go_wp2_with fail
      refine (HC.out x wr HB.out).mono ?_
      rintro e w2 ⟨rfl, hb2⟩
      have HB2 := Lib.hid (HB.out.trans (hb2.mono HB.out.size))
      clear hb2 d0 d1 d2 d3
      by_cases hp : p x.1 = true
      · have HP := Lib.hid hp
        simp only [hp]
        clear hp
        go_wp2_with fail
        go_ret
        refine ⟨k, rfl, .inl ⟨k, hkn, rfl, ?_, by rw [HX.out]; exact HP.out⟩, HB2.out⟩
        rw [List.findIdx?_eq_some_iff_getElem]
        exact ⟨hkn, by rw [HX.out]; exact HP.out, fun j hj => by simp [HA.out j (by omega) hj]⟩
      · have hp' : p x.1 = false := by simpa using hp
        have HP := Lib.hid hp'
        simp only [hp']
        clear hp hp'
        go_wp2_with fail
        go_roundg (ys.length - (k + 1))
        case measure => have := Hg.out; omega
        case rel =>
          refine ⟨k + 1, rfl, by omega, by simp, HB2.out, fun j hj hjk => ?_⟩
          by_cases e : j = k
          · subst e; rw [HX.out]; exact HP.out
          · exact HA.out j hj (by omega)
    · go_wp2_with fail
      go_ret
      refine ⟨-1, rfl, .inr ⟨rfl, ?_⟩, HB.out⟩
      rw [List.findIdx?_eq_none_iff]
      intro x hx
      obtain ⟨j, hj, rfl⟩ := List.getElem_of_mem hx
      exact HA.out j hj (by omega)

set_option maxRecDepth 100000 in
set_option maxHeartbeats 600000 in
theorem idx62 {cap : Value} (p : Tx → Bool) (s : Option Addr) (c : Nat) (ys : List (Tx × Value)) (w : World) (hs : Rd w 4 s ys.length (flat ycells ys)) (hn : ys.length ≤ 100000)
    (hclo : ∀ (x : Tx × Value) (w' : World), Below w.heap.size w w' → Calls Try.prog 62 #[tval x] w' fun e w'' => e = .returned (.bool (p x.1)) ∧ Below w'.heap.size w' w'') :
    Calls Try.prog 59 #[.slice s ys.length c, .func (.func 62) #[] #[]] w (IdxPost p ys w) := by
  have HS := Lib.hid hs
  have HC := Lib.hid hclo
  clear hs hclo
  go_enter Try.func59, Try.ntmps59
  go_wp2_with fail
  go_loopg [8] ys.length (IdxRel p ys w)
  case atStart => exact ⟨0, rfl, Nat.zero_le _, rfl, Below.refl _ _, by intro j hj h; omega⟩
  case round =>
    obtain ⟨k, hg, hk, rfl, hb, hall⟩ := hrel
    have Hg := Lib.hid hg
    have HA := Lib.hid hall
    have HB := Lib.hid hb
    have HR := Lib.hid (HS.out.below hb)
    clear hg hall hb
    by_cases hkn : k < ys.length
    · obtain ⟨g, off, rfl, -⟩ := HS.out.addr (by omega)
      obtain ⟨x, hx⟩ : ∃ x, ys[k] = x := ⟨_, rfl⟩
      obtain ⟨d0, d1, d2, d3⟩ := y_at HR.out hkn x hx
      have HX := Lib.hid hx
      have hkn' : (k : Int) < (ys.length : Int) := by omega
      clear hx
      go_wp2_with fail
      refine (HC.out x wr HB.out).mono ?_
      rintro e w2 ⟨rfl, hb2⟩
      have HB2 := Lib.hid (HB.out.trans (hb2.mono HB.out.size))
      clear hb2 d0 d1 d2 d3
      by_cases hp : p x.1 = true
      · have HP := Lib.hid hp
        simp only [hp]
        clear hp
        go_wp2_with fail
        go_ret
        refine ⟨k, rfl, .inl ⟨k, hkn, rfl, ?_, by rw [HX.out]; exact HP.out⟩, HB2.out⟩
        rw [List.findIdx?_eq_some_iff_getElem]
        exact ⟨hkn, by rw [HX.out]; exact HP.out, fun j hj => by simp [HA.out j (by omega) hj]⟩
      · have hp' : p x.1 = false := by simpa using hp
        have HP := Lib.hid hp'
        simp only [hp']
        clear hp hp'
        go_wp2_with fail
        go_roundg (ys.length - (k + 1))
        case measure => have := Hg.out; omega
        case rel =>
          refine ⟨k + 1, rfl, by omega, by simp, HB2.out, fun j hj hjk => ?_⟩
          by_cases e : j = k
          · subst e; rw [HX.out]; exact HP.out
          · exact HA.out j hj (by omega)
    · go_wp2_with fail
      go_ret
      refine ⟨-1, rfl, .inr ⟨rfl, ?_⟩, HB.out⟩
      rw [List.findIdx?_eq_none_iff]
      intro x hx
      obtain ⟨j, hj, rfl⟩ := List.getElem_of_mem hx
      exact HA.out j hj (by omega)

set_option maxHeartbeats 400000 in
theorem clo60 (id : Int) (b : Nat) (x : Tx × Value) (w : World) (hc : w.cell? ⟨b, 0, none⟩ = some (.int .i64 id)) :
    Calls Try.prog 60 #[tval x, .pointer (some ⟨b, 0, none⟩)] w fun e w' => e = .returned (.bool (x.1.id == id)) ∧ Below w.heap.size w w' := by
  have hne : b ≠ w.heap.size := by have := World.block_lt_of_cell? _ _ hc; simp at this; omega
  have hc2 : (w.alloc (.cells #[.int .i64 x.1.id, .string x.1.ow, .bool x.1.wr, x.2] 36)).cell? ⟨b, 0, none⟩ = some (.int .i64 id) := by rw [World.cell?_alloc_some _ _ _ (by rw [hc]; rfl)]; exact hc
  go_enter Try.func60, Try.ntmps60
  go_wp2_with fail
  go_ret
  exact ⟨rfl, (Below.refl _ _).alloc (Nat.le_refl _) _⟩
set_option maxHeartbeats 400000 in
theorem clo62 (x : Tx × Value) (w : World) : Calls Try.prog 62 #[tval x] w fun e w' => e = .returned (.bool x.1.wr) ∧ Below w.heap.size w w' := by
  go_enter Try.func62, Try.ntmps62
  go_wp2_with fail
  go_ret
  exact ⟨rfl, (Below.refl _ _).alloc (Nat.le_refl _) _⟩

def fnd (id : Int) (txs : List Tx) : Option Nat := txs.findIdx? (fun t => t.id == id)
def fndI (id : Int) (txs : List Tx) : Int := match fnd id txs with | some k => (k : Int) | none => -1
def turnB (txs : List Tx) (i : Nat) : Bool := match txs[i]? with | some t => if t.wr then decide (i = 0) else !((txs.take i).any (·.wr)) | none => false
def curE (id : Int) (txs : List Tx) : Int := match fnd id txs with | some k => if turnB txs k then 0 else 19 | none => 6
theorem idx_is {p : Tx → Bool} {cv : Value} {txs : List Tx} {r : Int} (h : IdxIs p (yz cv txs) r) : r = match txs.findIdx? p with | some k => (k : Int) | none => -1 := by
  have e : (yz cv txs).findIdx? (fun x => p x.1) = txs.findIdx? p := by
    conv => rhs; rw [← yz_fst cv txs]
    rw [List.findIdx?_map]
    rfl
  rcases h with ⟨k, hk, rfl, h2, -⟩ | ⟨rfl, h2⟩
  · rw [e] at h2; rw [h2]
  · rw [e] at h2; rw [h2]
theorem fnd_lt {id : Int} {txs : List Tx} {k : Nat} (h : fnd id txs = some k) : k < txs.length := by
  unfold fnd at h
  rw [List.findIdx?_eq_some_iff_getElem] at h
  exact h.1

set_option maxHeartbeats 400000 in
theorem find_any (b : Nat) (id : Int) (cv : Value) (txs : List Tx) (s : Option Addr) (c : Nat) (w : World) (hb : w.cell? ⟨b, 1, none⟩ = some (.slice s txs.length c)) (hr : Rd w 4 s txs.length (flat ycells (yz cv txs))) (hn : txs.length ≤ 100000) :
    Calls Try.prog 44 #[.pointer (some ⟨b, 0, none⟩), .int .i64 id] w fun e w' => e = .returned (.int .i64 (fndI id txs)) ∧ Below w.heap.size w w' := by
  have hr2 : Rd (w.alloc (.cells #[.int .i64 id] 3)) 4 s (yz cv txs).length (flat ycells (yz cv txs)) := by rw [yz_len]; exact hr.alloc _
  have HR2 := Lib.hid hr2
  have hlt : b < w.heap.size := World.block_lt_of_cell? _ _ hb
  have hb2 : (w.alloc (.cells #[.int .i64 id] 3)).cell? ⟨b, 1, none⟩ = some (.slice s txs.length c) := by rw [World.cell?_alloc_some _ _ _ (by rw [hb]; rfl)]; exact hb
  have hcl := Lib.hid (show ∀ (x : Tx × Value) (w' : World), Below (w.alloc (.cells #[.int .i64 id] 3)).heap.size (w.alloc (.cells #[.int .i64 id] 3)) w' → Calls Try.prog 60 #[tval x, .pointer (some ⟨w.heap.size, 0, none⟩)] w' fun e w'' => e = .returned (.bool (x.1.id == id)) ∧ Below w'.heap.size w' w'' from
    fun x w' hb => clo60 id _ x w' ((hb.cell (p := ⟨w.heap.size, 0, none⟩) (by simp)).trans (by simp)))
  have HI := Lib.hid (idx60 (fun t => t.id == id) s c (yz cv txs) _ HR2.out (by rw [yz_len]; exact hn) hcl.out)
  rw [yz_len] at HI
  clear hr2 hb
  go_enter Try.func44, Try.ntmps44
  go_wp2_with (go_at_call 59; refine (HI.out).mono ?_; rintro e w2 ⟨r, rfl, hi, hb3⟩)
  go_ret
  have e1 := idx_is hi
  refine ⟨?_, ((Below.refl _ _).alloc (Nat.le_refl _) _).trans (hb3.mono (by simp))⟩
  rw [e1]
  rfl

set_option maxHeartbeats 400000 in
theorem contains_any (cv : Value) (txs : List Tx) (s : Option Addr) (c : Nat) (w : World) (hr : Rd w 4 s txs.length (flat ycells (yz cv txs))) (hn : txs.length ≤ 100000) :
    Calls Try.prog 61 #[.slice s txs.length c, .func (.func 62) #[] #[]] w fun e w' => e = .returned (.bool (txs.any (·.wr))) ∧ Below w.heap.size w w' := by
  have HI := Lib.hid (idx62 (cap := nilS) (fun t => t.wr) s c (yz cv txs) w (by rw [yz_len]; exact hr) (by rw [yz_len]; exact hn) (fun x w' _ => clo62 x w'))
  rw [yz_len] at HI
  go_enter Try.func61, Try.ntmps61
  go_wp2_with (go_at_call 59; refine (HI.out).mono ?_; rintro e w2 ⟨r, rfl, hi, hb3⟩)
  have e1 := idx_is hi
  have e2 : txs.any (·.wr) = decide (0 ≤ r) := by
    rw [e1]
    cases h : txs.findIdx? (fun t => t.wr) with
    | none =>
      rw [List.findIdx?_eq_none_iff] at h
      rw [Bool.eq_iff_iff]
      simp
      exact h
    | some k =>
      rw [List.findIdx?_eq_some_iff_getElem] at h
      obtain ⟨hk, hp, -⟩ := h
      simp
      exact ⟨txs[k], List.getElem_mem hk, hp⟩
  refine bodyPost_ret (v := .bool (txs.any (·.wr))) (by simp [results, Try.results61, go_sem, e2]) rfl ⟨rfl, hb3⟩
set_option maxHeartbeats 600000 in
theorem turn_any (b : Nat) (i : Nat) (cv : Value) (txs : List Tx) (s : Option Addr) (c : Nat) (w : World) (hb : w.cell? ⟨b, 1, none⟩ = some (.slice s txs.length c)) (hr : Sl w 36 4 s txs.length c (flat ycells (yz cv txs))) (hn : txs.length ≤ 100000) (hi : i < txs.length) :
    Calls Try.prog 46 #[.pointer (some ⟨b, 0, none⟩), .int .i64 i] w fun e w' => e = .returned (.bool (turnB txs i)) ∧ Below w.heap.size w w' := by
  obtain ⟨g, off, rfl, -⟩ := hr.rd.addr (by omega)
  have hyl : i < (yz cv txs).length := by rw [yz_len]; exact hi
  obtain ⟨t, ht⟩ : ∃ t, txs[i] = t := ⟨_, rfl⟩
  obtain ⟨d0, d1, d2, d3⟩ := y_at hr.rd hyl _ rfl
  rw [yz_get cv txs i hi, ht] at d2
  simp only at d2
  have htb : turnB txs i = if t.wr then decide (i = 0) else !((txs.take i).any (·.wr)) := by
    unfold turnB
    rw [List.getElem?_eq_getElem hi, ht]
  have HTB := Lib.hid htb
  obtain ⟨sh, hrun, hsh, -⟩ := hr.cut_h elX i (by omega)
  have e4 : (flat ycells (yz cv txs)).take (i * 4) = flat ycells (yz cv (txs.take i)) := by
    rw [flat_take (sz := 4) (fun _ => rfl)]
    congr 1
    cases txs with
    | nil => simp [yz]
    | cons t0 r =>
      cases i with
      | zero => rfl
      | succ i => simp [yz, List.map_take]
  rw [e4] at hsh
  have hti : (txs.take i).length = i := by rw [List.length_take]; omega
  have HI := Lib.hid (contains_any cv (txs.take i) sh c w (by rw [hti]; exact hsh.rd) (by rw [hti]; omega))
  rw [hti] at HI
  have hiI : (i : Int) < (txs.length : Int) := by omega
  clear d0 d1 d3 ht hsh hr hti e4 hyl htb
  by_cases hw : t.wr = true
  · rw [hw] at d2
    have h2 := HTB.out
    rw [hw, if_pos rfl] at h2
    have H2 := Lib.hid h2
    clear h2
    go_enter Try.func46, Try.ntmps46
    go_wp2_with fail
    go_ret
    refine ⟨?_, Below.refl _ _⟩
    rw [H2.out]
    by_cases h0 : i = 0
    · subst h0; rfl
    · have : ((i : Int) == 0) = false := by simp; omega
      simp [this, h0]
  · have hw' : t.wr = false := by simpa using hw
    rw [hw'] at d2
    have h2 := HTB.out
    rw [hw', if_neg (by simp)] at h2
    have H2 := Lib.hid h2
    clear h2 hw
    go_enter Try.func46, Try.ntmps46
    go_wp2_with (go_at_call 61; refine (HI.out).mono ?_; rintro e w2 ⟨rfl, hb3⟩)
    go_ret
    exact ⟨by rw [H2.out]; rfl, hb3⟩
def turnE (id : Int) (txs : List Tx) : Bool := match fnd id txs with | some k => turnB txs k | none => false
set_option maxHeartbeats 600000 in
theorem current_any (b : Nat) (id : Int) (cv : Value) (txs : List Tx) (s : Option Addr) (c : Nat) (w : World) (hb : w.cell? ⟨b, 1, none⟩ = some (.slice s txs.length c)) (hr : Sl w 36 4 s txs.length c (flat ycells (yz cv txs))) (hn : txs.length ≤ 100000) :
    Calls Try.prog 32 #[.pointer (some ⟨b, 0, none⟩), .int .i64 id] w fun e w' => e = .returned (.tuple #[.int .i64 (fndI id txs), .int .i64 (curE id txs)]) ∧ Below w.heap.size w w' := by
  have hlt : b < w.heap.size := World.block_lt_of_cell? _ _ hb
  have HR := Lib.hid hr
  cases hf : fnd id txs with
  | none =>
    have e1 : fndI id txs = -1 := by unfold fndI; rw [hf]
    have e2 : curE id txs = 6 := by unfold curE; rw [hf]
    rw [e1, e2]
    have E1 := Lib.hid e1
    clear hf e1 e2 hr
    go_enter Try.func32, Try.ntmps32
    go_wp2_with (go_at_call 44; refine (find_any b id cv txs s c _ hb HR.out.rd hn).mono ?_; rintro e w2 ⟨rfl, hb3⟩; rw [E1.out])
    refine bodyPost_ret (v := .tuple #[.int .i64 (-1), .int .i64 6]) (by simp [results, Try.results32, go_sem]) rfl ⟨rfl, hb3⟩
  | some k =>
    have hk := fnd_lt hf
    have e1 : fndI id txs = k := by unfold fndI; rw [hf]
    have e2 : curE id txs = if turnB txs k then 0 else 19 := by unfold curE; rw [hf]
    rw [e1, e2]
    have E1 := Lib.hid e1
    clear hf e1 e2 hr
    cases ht : turnB txs k with
    | true =>
      have HT := Lib.hid ht
      clear ht
      simp only [if_true]
      go_enter Try.func32, Try.ntmps32
      go_wp2_with (first
        | (go_at_call 44; refine (find_any b id cv txs s c _ hb HR.out.rd hn).mono ?_; rintro e w2 ⟨rfl, hb3⟩; rw [E1.out]; have hbb := Lib.hid ((hb3.cell (p := ⟨b, 1, none⟩) hlt).trans hb); have HR2 := Lib.hid (HR.out.kept (Fr.of_below hb3) (fun _ _ q => q)); have HB3 := Lib.hid hb3; clear hb3)
        | (go_at_call 46; refine (turn_any b k cv txs s c _ hbb.out HR2.out hn hk).mono ?_; rintro e w3 ⟨rfl, hb4⟩; rw [HT.out]))
      refine bodyPost_ret (v := .tuple #[.int .i64 k, .int .i64 0]) (by simp [results, Try.results32, go_sem]) rfl ⟨rfl, HB3.out.trans (hb4.mono HB3.out.size)⟩
    | false =>
      have HT := Lib.hid ht
      clear ht
      simp only [Bool.false_eq_true, if_false]
      go_enter Try.func32, Try.ntmps32
      go_wp2_with (first
        | (go_at_call 44; refine (find_any b id cv txs s c _ hb HR.out.rd hn).mono ?_; rintro e w2 ⟨rfl, hb3⟩; rw [E1.out]; have hbb := Lib.hid ((hb3.cell (p := ⟨b, 1, none⟩) hlt).trans hb); have HR2 := Lib.hid (HR.out.kept (Fr.of_below hb3) (fun _ _ q => q)); have HB3 := Lib.hid hb3; clear hb3)
        | (go_at_call 46; refine (turn_any b k cv txs s c _ hbb.out HR2.out hn hk).mono ?_; rintro e w3 ⟨rfl, hb4⟩; rw [HT.out]))
      refine bodyPost_ret (v := .tuple #[.int .i64 k, .int .i64 19]) (by simp [results, Try.results32, go_sem]) rfl ⟨rfl, HB3.out.trans (hb4.mono HB3.out.size)⟩
set_option maxHeartbeats 600000 in
theorem ready_any (b : Nat) (id : Int) (cv : Value) (txs : List Tx) (s : Option Addr) (c : Nat) (w : World) (hb : w.cell? ⟨b, 1, none⟩ = some (.slice s txs.length c)) (hr : Sl w 36 4 s txs.length c (flat ycells (yz cv txs))) (hn : txs.length ≤ 100000) :
    Calls Try.prog 26 #[.pointer (some ⟨b, 0, none⟩), .int .i64 id] w fun e w' => e = .returned (.tuple #[.bool (turnE id txs), .int .i64 (if fnd id txs = none then 6 else 0)]) ∧ Below w.heap.size w w' := by
  have hlt : b < w.heap.size := World.block_lt_of_cell? _ _ hb
  have HR := Lib.hid hr
  cases hf : fnd id txs with
  | none =>
    have e1 : fndI id txs = -1 := by unfold fndI; rw [hf]
    have e2 : turnE id txs = false := by unfold turnE; rw [hf]
    rw [e2]
    simp only [if_true]
    have E1 := Lib.hid e1
    clear hf e1 e2 hr
    go_enter Try.func26, Try.ntmps26
    go_wp2_with (go_at_call 44; refine (find_any b id cv txs s c _ hb HR.out.rd hn).mono ?_; rintro e w2 ⟨rfl, hb3⟩; rw [E1.out])
    refine bodyPost_ret (v := .tuple #[.bool false, .int .i64 6]) (by simp [results, Try.results26, go_sem]) rfl ⟨rfl, hb3⟩
  | some k =>
    have hk := fnd_lt hf
    have e1 : fndI id txs = k := by unfold fndI; rw [hf]
    have e2 : turnE id txs = turnB txs k := by unfold turnE; rw [hf]
    rw [e2]
    simp only [reduceCtorEq, if_false]
    have E1 := Lib.hid e1
    clear hf e1 e2 hr
    go_enter Try.func26, Try.ntmps26
    go_wp2_with (first
      | (go_at_call 44; refine (find_any b id cv txs s c _ hb HR.out.rd hn).mono ?_; rintro e w2 ⟨rfl, hb3⟩; rw [E1.out]; have hbb := Lib.hid ((hb3.cell (p := ⟨b, 1, none⟩) hlt).trans hb); have HR2 := Lib.hid (HR.out.kept (Fr.of_below hb3) (fun _ _ q => q)); have HB3 := Lib.hid hb3; clear hb3)
      | (go_at_call 46; refine (turn_any b k cv txs s c _ hbb.out HR2.out hn hk).mono ?_; rintro e w3 ⟨rfl, hb4⟩))
    refine bodyPost_ret (v := .tuple #[.bool (turnB txs k), .int .i64 0]) (by simp [results, Try.results26, go_sem]) rfl ⟨rfl, HB3.out.trans (hb4.mono HB3.out.size)⟩
end Go.Proofs.Ytcglnjklnlejmaa
