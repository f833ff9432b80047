/-
  The law's fit, few and number.
-/
import Derived.Test.YtcglnjklnlejmaaSn
set_option linter.unusedVariables false
set_option linter.unusedSimpArgs false
namespace Go.Proofs.Ytcglnjklnlejmaa
open Go.RowKit Go.K Go.K.Sr

def opc (o : Op') : List Value := [.int .u8 o.kd, .int .u8 o.tx, .string o.key, .string o.val, .bool o.wr]
theorem o_at {w : World} {g off n : Nat} {ls : List Op'} (hs : Rd w 5 (some ⟨g, off, none⟩) n (flat opc ls)) {k : Nat} (hk : k < ls.length) (x : Op') (hx : ls[k] = x) :
    w.cell? ⟨g, off + k * 5, none⟩ = some (.int .u8 x.kd) ∧ w.cell? ⟨g, off + k * 5 + 1, none⟩ = some (.int .u8 x.tx) ∧ w.cell? ⟨g, off + k * 5 + 2, none⟩ = some (.string x.key) ∧ w.cell? ⟨g, off + k * 5 + 3, none⟩ = some (.string x.val) ∧ w.cell? ⟨g, off + k * 5 + 4, none⟩ = some (.bool x.wr) := by
  have e := fun j hj => flat_at (f := opc) (sz := 5) (fun _ => rfl) ls k j hk hj
  rw [hx] at e
  have c := fun j u h => hs.cells _ rfl j u h
  simp only [Addr.add_lit] at c
  have q := fun j hj => c _ _ ((e j hj).trans (List.getElem?_eq_getElem (by show j < 5; exact hj)))
  simp only [← Nat.add_assoc] at q
  exact ⟨by have := q 0 (by omega); rwa [Nat.add_zero] at this, q 1 (by omega), q 2 (by omega), q 3 (by omega), q 4 (by omega)⟩

/-- the number that an operation names -/
def numF (o : Op') (n : Int) : Int := o.tx % (n + 2)
set_option maxHeartbeats 400000 in
theorem number_any (o : Op') (n : Int) (w : World) (ho : o.ok) (hn : 0 ≤ n) (hn2 : n ≤ 1000000) :
    Calls Try.prog 19 #[.agg #[.int .u8 o.kd, .int .u8 o.tx, .string o.key, .string o.val, .bool o.wr], .int .i64 n] w fun e w' => e = .returned (.int .i64 (numF o n)) ∧ Below w.heap.size w w' := by
  obtain ⟨h1, h2, h3, h4⟩ := ho
  have hw1 : IntKind.i64.wrap o.tx = o.tx := by rw [IntKind.wrap_i64]; omega
  have hw2 : IntKind.i64.wrap (n + 2) = n + 2 := by rw [IntKind.wrap_i64]; omega
  have ht : o.tx.tmod (n + 2) = numF o n := by unfold numF; exact Int.tmod_eq_emod_of_nonneg h3
  have hlt : 0 ≤ numF o n ∧ numF o n < n + 2 := ⟨Int.emod_nonneg _ (by omega), Int.emod_lt_of_pos _ (by omega)⟩
  obtain ⟨r, hr⟩ : ∃ r, numF o n = r := ⟨_, rfl⟩
  rw [hr] at ht hlt ⊢
  obtain ⟨hr0, hr1⟩ := hlt
  have hw3 : IntKind.i64.wrap r = r := by rw [IntKind.wrap_i64]; omega
  have hne : (n + 2 == 0) = false := by simp; omega
  have hne2 : n + 2 ≠ 0 := by omega
  clear hr
  go_enter Try.func19, Try.ntmps19
  go_wp2_with fail
  go_ret
  exact ⟨rfl, (Below.refl _ _).alloc (Nat.le_refl _) _⟩

def shortO (o : Op') : Bool := decide (o.key.size ≤ 100) && decide (o.val.size ≤ 100)
def fewB (ls : List Op') : Bool := ls.all shortO && decide (ls.length ≤ 40)
def FwRel (ls : List Op') (w : World) (g : Nat) (u : Value) (wr : World) : Prop :=
  ∃ k : Nat, g = ls.length - k ∧ k ≤ ls.length ∧ u = .int .i64 k ∧ Below w.heap.size w wr ∧ ∀ j (hj : j < ls.length), j < k → shortO ls[j] = true
set_option maxHeartbeats 1000000 in
theorem few_any (s : Option Addr) (c : Nat) (ls : List Op') (w : World) (h : Rd w 5 s ls.length (flat opc ls)) (hn : (ls.length : Int) ≤ 9223372036854775807) :
    Calls Try.prog 18 #[.slice s ls.length c] w fun e w' => e = .returned (.bool (fewB ls)) ∧ Below w.heap.size w w' := by
  have HR := Lib.hid h
  clear h
  go_enter Try.func18, Try.ntmps18
  go_wp2_with fail
  go_loopg [7] ls.length (FwRel ls w)
  case atStart => exact ⟨0, rfl, Nat.zero_le _, rfl, Below.refl _ _, fun j hj h => by omega⟩
  case round =>
    obtain ⟨k, hg, hk, rfl, hb, hall⟩ := hrel
    have Hg := Lib.hid hg
    have HA := Lib.hid hall
    have HB := Lib.hid hb
    clear hg hall hb
    by_cases hkn : k < ls.length
    · have hrd := HR.out.below HB.out
      obtain ⟨g, off, rfl, -⟩ := hrd.addr (by omega)
      obtain ⟨x, hx⟩ : ∃ x, ls[k] = x := ⟨_, rfl⟩
      obtain ⟨d0, d1, d2, d3, d4⟩ := o_at hrd hkn x hx
      have HX := Lib.hid hx
      have hkn' : (k : Int) < (ls.length : Int) := by omega
      have hB2 := Lib.hid (HB.out.alloc HB.out.size (.cells #[.int .u8 x.kd, .int .u8 x.tx, .string x.key, .string x.val, .bool x.wr] 45))
      clear hx hrd
      by_cases h1 : x.key.size ≤ 100
      · have h1' : (x.key.size : Int) ≤ 100 := by omega
        by_cases h2 : x.val.size ≤ 100
        · have h2' : (x.val.size : Int) ≤ 100 := by omega
          have HV := Lib.hid (show shortO x = true by simp [shortO, h1, h2])
          clear h1 h2
          go_wp2_with fail
          go_roundg (ls.length - (k + 1))
          case measure => have := Hg.out; omega
          case rel =>
            refine ⟨k + 1, rfl, by omega, by simp, hB2.out, fun j hj h => ?_⟩
            by_cases e : j = k
            · subst e; rw [HX.out]; exact HV.out
            · exact HA.out j hj (by omega)
        · have h2' : (100 : Int) < (x.val.size : Int) := by omega
          have HV := Lib.hid (show shortO x = false by simp [shortO]; omega)
          clear h1 h2
          go_wp2_with fail
          go_ret
          refine ⟨?_, hB2.out⟩
          have : fewB ls = false := by
            unfold fewB
            rw [Bool.and_eq_false_iff]
            left
            rw [List.all_eq_false]
            exact ⟨x, by rw [← HX.out]; exact List.getElem_mem hkn, by simp [HV.out]⟩
          rw [this]
          rfl
      · have h1' : (100 : Int) < (x.key.size : Int) := by omega
        have HV := Lib.hid (show shortO x = false by simp [shortO]; omega)
        clear h1
        go_wp2_with fail
        go_ret
        refine ⟨?_, hB2.out⟩
        have : fewB ls = false := by
          unfold fewB
          rw [Bool.and_eq_false_iff]
          left
          rw [List.all_eq_false]
          exact ⟨x, by rw [← HX.out]; exact List.getElem_mem hkn, by simp [HV.out]⟩
        rw [this]
        rfl
    · have hall : ls.all shortO = true := by
        rw [List.all_eq_true]
        intro x hx
        obtain ⟨j, hj, rfl⟩ := List.getElem_of_mem hx
        exact HA.out j hj (by omega)
      have e : fewB ls = decide (ls.length ≤ 40) := by unfold fewB; rw [hall, Bool.true_and]
      have E := Lib.hid e
      clear hall e
      by_cases h40 : ls.length ≤ 40
      · have h40' : (ls.length : Int) ≤ 40 := by omega
        go_wp2_with fail
        go_ret
        exact ⟨by rw [E.out]; simp [h40], HB.out⟩
      · have h40' : ¬ (ls.length : Int) ≤ 40 := by omega
        go_wp2_with fail
        go_ret
        exact ⟨by rw [E.out]; simp [h40], HB.out⟩

def S0 : SS := ⟨[], [], [], 0⟩
theorem s0_at {w0 w : World} {L : List As} (h : St w0 w L) : SAt w.heap.size S0 w0 (w.alloc (.cells #[.slice none 0 0, .slice none 0 0, .int .i64 0] 28)) L := by
  have h1 := St.sh [_, _, _, _] [3, 2, 1, 0] (by decide) (((h.new #[.slice none 0 0, .slice none 0 0, .int .i64 0] 28).row_nil 36 4 |>.rdr_nil 2).rdr_nil 3)
  simp only [List.map_cons, List.map_nil, List.getD_cons_zero, List.getD_cons_succ, List.cons_append, List.nil_append] at h1
  have h2 := St.sh [_, _, _, _] [0, 1, 2, 3] (by decide) h1
  exact ⟨⟨none, 0, none, 0, none, 0⟩, h1⟩
theorem iv0 : Iv 0 S0 := ⟨List.Pairwise.nil, List.Pairwise.nil, by simp [S0], by simp [S0], by simp [S0], by simp [S0], fun _ => rfl, by simp [S0], by simp [S0]⟩

abbrev bP : ByteArray := { data := #[112] }
abbrev bA : ByteArray := { data := #[97] }
abbrev bX : ByteArray := { data := #[120] }
def F1 : SS := openS S0 bP true
def F2 : SS := openS F1 bP false
def F3 : SS := (altS F2 1 ⟨bA, bX, false⟩).1
def F4 : SS := (commitS F3 1).1
theorem f_get : getS F2 2 bA = (.empty, false, 19) := by rfl
theorem f_put : altS F2 1 ⟨bA, bX, false⟩ = ({ F2 with cs := [⟨bA, bX, false⟩] }, 0) := by rfl
theorem f_commit : (commitS F3 1).2 = 0 := by rfl
theorem f_get2 : getS F4 2 bA = (bX, true, 0) := by rfl
theorem iv1 : Iv 1 F1 := iv_open iv0 _ _
theorem iv2 : Iv 2 F2 := iv_open iv1 _ _
theorem iv3 : Iv 3 F3 := iv_alt iv2 _ _ (by decide)
theorem iv4 : Iv 3 F4 := iv_commit iv3 _

set_option maxRecDepth 100000 in
set_option maxHeartbeats 1000000 in
theorem fit_any (w : World) : Calls Try.prog 11 #[] w fun e w' => e = .returned (.bool true) ∧ Below w.heap.size w w' := by
  have H0 := Lib.hid (s0_at (St.start w (Below.refl _ w)))
  have G2 := Lib.hid f_get
  have GP := Lib.hid (show (altS F2 1 ⟨bA, bX, false⟩).2 = 0 by rw [f_put])
  have GC := Lib.hid f_commit
  have GG := Lib.hid f_get2
  have hz : sizeP (content F2.pairs (withC ⟨bA, bX, false⟩ F2.cs)) ≤ 4611686018427387904 := by decide
  have g0 := iv0.gd (by omega)
  have g1 := iv1.gd (by omega)
  have g2 := iv2.gd (by omega)
  have g3 := iv3.gd (by omega)
  have g4 := iv4.gd (by omega)
  have HG0 := Lib.hid g0
  have HG1 := Lib.hid g1
  have HG2 := Lib.hid g2
  have HG3 := Lib.hid g3
  have HG4 := Lib.hid g4
  have HZ := Lib.hid hz
  clear g0 g1 g2 g3 g4 hz
  go_enter Try.func11, Try.ntmps11
  go_wp2_with (first
    | (go_at_call 12; refine (open_st bP true H0.out HG0.out.tl HG0.out.nx0 (by have := HG0.out.nx1; omega) HG0.out.nil).mono ?_; rintro e w1 ⟨rfl, h1⟩; have H1 := Lib.hid (show SAt _ F1 w w1 [] from h1); clear h1 H0; rw [show S0.nx + 1 = 1 from rfl])
    | (go_at_call 12; refine (open_st bP false H1.out HG1.out.tl HG1.out.nx0 (by have := HG1.out.nx1; omega) HG1.out.nil).mono ?_; rintro e w2 ⟨rfl, h2⟩; have H2 := Lib.hid (show SAt _ F2 w w2 [] from h2); clear h2 H1; rw [show F1.nx + 1 = 2 from rfl])
    | (go_at_call 14; refine (get_st 2 bA H2.out HG2.out.tl HG2.out.pl HG2.out.cl HG2.out.pa HG2.out.ca).mono ?_; rintro e w3 ⟨rfl, hb3⟩; rw [G2.out]; have H3 := Lib.hid (H2.out.of_below hb3); clear hb3 H2)
    | (go_at_call 13; refine (put_st 1 bA bX H3.out HG2.out.tl HG2.out.pl HG2.out.cl HG2.out.pa HG2.out.ca HZ.out).mono ?_; rintro e w4 ⟨rfl, h4⟩; rw [GP.out]; have H4 := Lib.hid (show SAt _ F3 w w4 [] from h4); clear h4 H3)
    | (go_at_call 15; refine (commit_st 1 H4.out HG3.out.tl HG3.out.pl HG3.out.cl HG3.out.pa).mono ?_; rintro e w5 ⟨rfl, h5⟩; rw [GC.out]; have H5 := Lib.hid (show SAt _ F4 w w5 [] from h5); clear h5 H4)
    | (go_at_call 14; refine (get_st 2 bA H5.out HG4.out.tl HG4.out.pl HG4.out.cl HG4.out.pa HG4.out.ca).mono ?_; rintro e w6 ⟨rfl, hb6⟩; rw [GG.out]; have H6 := Lib.hid (H5.out.of_below hb6); clear hb6 H5))
  obtain ⟨p, h⟩ := H6.out
  refine bodyPost_ret (v := .bool true) (by simp [results, Try.results11, go_sem]) rfl ⟨rfl, h.bel⟩
end Go.Proofs.Ytcglnjklnlejmaa
