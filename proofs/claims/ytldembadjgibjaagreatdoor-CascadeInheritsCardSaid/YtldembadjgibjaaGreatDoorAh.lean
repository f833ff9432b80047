/-
  Cascade: paint.
-/
import Derived.Test.YtldembadjgibjaaGreatDoorAg
import Derived.Lib.QuietBelow
set_option linter.unusedVariables false
set_option linter.unusedSimpArgs false
namespace Go.Proofs.YtldembadjgibjaaGreatDoor
open Go.RowKit Go.K Go.PlainAid Go.Lib

def dblL (h : List UInt8) : List UInt8 := Lib.repeatL (h.take 1) 2 ++ Lib.repeatL ((h.drop 1).take 1) 2 ++ Lib.repeatL (h.drop 2) 2
theorem rep_any (l : List UInt8) (hl : l.length ≤ 100000) (w : World) : Calls Tryz.prog 115 #[.string (S l), .int .i64 2] w fun e w' => e = .returned (.string (S (Lib.repeatL l 2))) ∧ Below w.heap.size w w' := by
  have h := Tryz.strings_Repeat (S l) 2 w (by omega) (by rw [S_size]; omega)
  rw [S_list] at h
  exact h
theorem len_beq (p : List UInt8) (n : Nat) : ((p.length : Int) == (n : Int)) = (p.length == n) := by
  rw [Bool.eq_iff_iff]
  simp
  omega
set_option maxRecDepth 100000 in
set_option maxHeartbeats 4000000 in
/-- '#' and hex digits -/
theorem paint_hex (l : List UInt8) (hl : l.length ≤ 100000) (h1 : Lib.hasPrefix l [35] = true) (h2 : hexL (Lib.trimPrefix l [35]) = true) (h3 : (Lib.trimPrefix l [35]).length ≠ 3) (w : World) :
    Calls Tryz.prog 81 #[.string (S l)] w fun e w' => e = .returned (.tuple #[.agg (Va.cells ⟨6, 0, 35 :: Lib.trimPrefix l [35]⟩), .bool ((Lib.trimPrefix l [35]).length == 6)]) ∧ Below w.heap.size w w' := by
  have hc := fun w => Tryz.strings_CutPrefix (S l) (S [35]) w
  rw [S_list, S_list, h1] at hc
  have hpl : (Lib.trimPrefix l [35]).length ≤ 100000 := by unfold Lib.trimPrefix; split <;> simp <;> omega
  obtain ⟨p, hp⟩ : ∃ p, Lib.trimPrefix l [35] = p := ⟨_, rfl⟩
  rw [hp] at hc h2 h3 hpl ⊢
  have hh := fun w => hex_any p w hpl
  rw [h2] at hh
  have HC := Lib.hid hc
  have HH := Lib.hid hh
  have H := Lib.hid ((St.start w (Below.refl _ w)).new #[.int .i64 0, .int .i64 0, .string ⟨#[]⟩] 68)
  have h3I : ¬ (p.length : Int) = 3 := by omega
  have hsz := S_size p
  have hcat : ¬ (S [35]).size + (S p).size > 9223372036854775807 := by rw [S_size, S_size]; simp; omega
  clear hc hh h1 h2 hp h3
  go_enter Tryz.func81, Tryz.ntmps81
  go_wp2_with (first
    | (go_at_call 113; refine (HC.out _).mono ?_; rintro e w1 ⟨rfl, hw⟩; rw [hw]; clear hw)
    | (go_at_call 114; refine (HH.out _).mono ?_; rintro e w1 ⟨rfl, hb1⟩; have H1 := Lib.hid (H.out.of_below hb1); have d0 := H1.out.cell 0; have d1 := H1.out.cell 1; have d2 := H1.out.cell 2; have f0 := H1.out.free 0; have f1 := H1.out.free 1; have f2 := H1.out.free 2; have hlt := H1.out.blk.1.lt; simp at d0 d1 d2))
  rw [show (({ data := #[35] } : ByteArray) ++ { data := p.toArray }) = S (35 :: p) from S_app [35] p, show (((p.length : Nat) : Int) == 6) = (p.length == 6) from len_beq p 6]
  have H9 := Lib.hid (((H1.out.set 0 (.int .i64 6)).set 1 (.int .i64 0)).set 2 (.string (S (35 :: p))))
  simp only [List.setIfInBounds_toArray, List.set_cons_zero, List.set_cons_succ] at H9
  obtain ⟨w9, e9⟩ : ∃ w9, ((w1.setCell ⟨w.heap.size, 0, none⟩ (.int .i64 6)).setCell ⟨w.heap.size, 1, none⟩ (.int .i64 0)).setCell ⟨w.heap.size, 2, none⟩ (.string (S (35 :: p))) = w9 := ⟨_, rfl⟩
  rw [e9] at H9
  rw [e9]
  have z0 := H9.out.cell 0
  have z1 := H9.out.cell 1
  have z2 := H9.out.cell 2
  simp at z0 z1 z2
  refine bodyPost_ret (v := .tuple #[.agg #[.int .i64 6, .int .i64 0, .string (S (35 :: p))], .bool (p.length == 6)]) (by simp [results, Tryz.results81, go_sem, z0, z1, z2]) rfl ⟨by simp [Va.cells], H9.out.bel⟩
set_option maxRecDepth 100000 in
set_option maxHeartbeats 4000000 in
/-- '#' and three hex digits -/
theorem paint_three (l : List UInt8) (hl : l.length ≤ 100000) (h1 : Lib.hasPrefix l [35] = true) (h2 : hexL (Lib.trimPrefix l [35]) = true) (h3 : (Lib.trimPrefix l [35]).length = 3) (w : World) :
    Calls Tryz.prog 81 #[.string (S l)] w fun e w' => e = .returned (.tuple #[.agg (Va.cells ⟨6, 0, 35 :: dblL (Lib.trimPrefix l [35])⟩), .bool true]) ∧ Below w.heap.size w w' := by
  have hc := fun w => Tryz.strings_CutPrefix (S l) (S [35]) w
  rw [S_list, S_list, h1] at hc
  obtain ⟨p, hp⟩ : ∃ p, Lib.trimPrefix l [35] = p := ⟨_, rfl⟩
  rw [hp] at hc h2 h3 ⊢
  have hh := fun w => hex_any p w (by omega)
  rw [h2] at hh
  obtain ⟨a, b, c, rfl⟩ : ∃ a b c, p = [a, b, c] := by
    match p, h3 with
    | [a, b, c], _ => exact ⟨a, b, c, rfl⟩
  obtain ⟨s, hs⟩ : ∃ s, S [a, b, c] = s := ⟨_, rfl⟩
  obtain ⟨s1, q1⟩ : ∃ s, S [a] = s := ⟨_, rfl⟩
  obtain ⟨s2, q2⟩ : ∃ s, S [b] = s := ⟨_, rfl⟩
  obtain ⟨s3, q3⟩ : ∃ s, S [c] = s := ⟨_, rfl⟩
  obtain ⟨r1, t1⟩ : ∃ s, S (Lib.repeatL [a] 2) = s := ⟨_, rfl⟩
  obtain ⟨r2, t2⟩ : ∃ s, S (Lib.repeatL [b] 2) = s := ⟨_, rfl⟩
  obtain ⟨r3, t3⟩ : ∃ s, S (Lib.repeatL [c] 2) = s := ⟨_, rfl⟩
  obtain ⟨r12, t12⟩ : ∃ s, r1 ++ r2 = s := ⟨_, rfl⟩
  obtain ⟨r, tr⟩ : ∃ s, r12 ++ r3 = s := ⟨_, rfl⟩
  have hsz : s.size = 3 := by rw [← hs]; rfl
  have k1 : s.extract 0 1 = s1 := by rw [← hs, ← q1]; exact S_ext [a, b, c] 0 1
  have k2 : s.extract 1 2 = s2 := by rw [← hs, ← q2]; exact S_ext [a, b, c] 1 2
  have k3 : s.extract 2 3 = s3 := by rw [← hs, ← q3]; exact S_ext [a, b, c] 2 3
  have m12 : ¬ r1.size + r2.size > 9223372036854775807 := by rw [← t1, ← t2, S_size, S_size]; simp [Lib.repeatL]
  have m3 : ¬ r12.size + r3.size > 9223372036854775807 := by rw [← t12, ← t3, ← t1, ← t2, S_app, S_size, S_size]; simp [Lib.repeatL]
  have HR1 := fun w => rep_any [a] (by simp) w
  have HR2 := fun w => rep_any [b] (by simp) w
  have HR3 := fun w => rep_any [c] (by simp) w
  simp only [q1, q2, q3, t1, t2, t3] at HR1 HR2 HR3
  have hc' : ∀ w, Calls Tryz.prog 113 #[.string (S l), .string (S [35])] w fun e w' => e = .returned (.tuple #[.string s, .bool true]) ∧ w' = w := by intro w; rw [← hs]; exact hc w
  have hh' : ∀ w, Calls Tryz.prog 114 #[.string s] w fun e w' => e = .returned (.bool true) ∧ Below w.heap.size w w' := by intro w; rw [← hs]; exact hh w
  have hr : r = S (dblL [a, b, c]) := by
    rw [← tr, ← t12, ← t1, ← t2, ← t3, S_app, S_app]; rfl
  have hrs : r.size = 6 := by rw [hr]; rfl
  have hcat : ¬ (S [35]).size + r.size > 9223372036854775807 := by rw [hrs, S_size]; simp
  have hrr : ({ data := #[35] } : ByteArray) ++ r = S (35 :: dblL [a, b, c]) := by rw [hr]; exact S_app [35] _
  have HC := Lib.hid hc'
  have HH := Lib.hid hh'
  have HRR := Lib.hid hrr
  have H := Lib.hid ((St.start w (Below.refl _ w)).new #[.int .i64 0, .int .i64 0, .string ⟨#[]⟩] 68)
  obtain ⟨D, hD⟩ : ∃ D, dblL [a, b, c] = D := ⟨_, rfl⟩
  rw [hD] at HRR ⊢
  clear hc hh h1 h2 hp h3 hc' hh' hr hs q1 q2 q3 t1 t2 t3 hD hrr
  go_enter Tryz.func81, Tryz.ntmps81
  go_wp2_with (first
    | (go_at_call 113; refine (HC.out _).mono ?_; rintro e w1 ⟨rfl, hw⟩; rw [hw]; clear hw)
    | (go_at_call 114; refine (HH.out _).mono ?_; rintro e w1 ⟨rfl, hb1⟩; have H1 := Lib.hid (H.out.of_below hb1)))
  have c1 := Lib.hid (fun d os => Calls.regrown_of (w := w1) (d := d) (os := os) (HR1 _))
  have c2 := Lib.hid (fun d os => Calls.regrown_of (w := w1) (d := d) (os := os) (HR2 _))
  have c3 := Lib.hid (fun d os => Calls.regrown_of (w := w1) (d := d) (os := os) (HR3 _))
  clear HR1 HR2 HR3
  refine wp_region_quiet_below (by kernel_rfl) (by kernel_rfl) ?_
  repeat (go_big_quiet_step (first | with_reducible exact c1.out _ _ | with_reducible exact c2.out _ _ | with_reducible exact c3.out _ _))
  refine wpQuiet_nil ?_
  intro _ hw'
  obtain ⟨⟨dq, osq⟩, hw''⟩ := hw'
  obtain ⟨w2, hw2⟩ : ∃ w2, Sort.grow (redrawn w1 dq) osq = w2 := ⟨_, rfl⟩
  have hb2 : Below w1.heap.size w1 w2 := by rw [← hw2]; exact below_regrown w1 dq osq
  subst hw''
  rw [show Sort.grow (redrawn w1 (⟨dq, osq⟩ : Regrown).d) (⟨dq, osq⟩ : Regrown).os = w2 from hw2]
  clear c1 c2 c3 hw2 k1 k2 k3 m12 m3 t12 tr
  have H2 := Lib.hid (H1.out.of_below hb2)
  clear hb1 hb2
  have d0 := H2.out.cell 0
  have d1 := H2.out.cell 1
  have d2 := H2.out.cell 2
  have f0 := H2.out.free 0
  have f1 := H2.out.free 1
  have f2 := H2.out.free 2
  have hlt := H2.out.blk.1.lt
  simp at d0 d1 d2
  go_wp2_with fail
  rw [HRR.out]
  have H9 := Lib.hid (((H2.out.set 0 (.int .i64 6)).set 1 (.int .i64 0)).set 2 (.string (S (35 :: D))))
  simp only [List.setIfInBounds_toArray, List.set_cons_zero, List.set_cons_succ] at H9
  obtain ⟨w9, e9⟩ : ∃ w9, ((w2.setCell ⟨w.heap.size, 0, none⟩ (.int .i64 6)).setCell ⟨w.heap.size, 1, none⟩ (.int .i64 0)).setCell ⟨w.heap.size, 2, none⟩ (.string (S (35 :: D))) = w9 := ⟨_, rfl⟩
  rw [e9] at H9
  rw [e9]
  have z0 := H9.out.cell 0
  have z1 := H9.out.cell 1
  have z2 := H9.out.cell 2
  simp at z0 z1 z2
  refine bodyPost_ret (v := .tuple #[.agg #[.int .i64 6, .int .i64 0, .string (S (35 :: D))], .bool true]) (by simp [results, Tryz.results81, go_sem, z0, z1, z2]) rfl ⟨by simp [Va.cells], H9.out.bel⟩
def colL : List UInt8 := [98, 108, 97, 99, 107, 32, 48, 48, 48, 48, 48, 48, 32, 98, 108, 117, 101, 32, 48, 48, 48, 48, 102, 102, 32, 103, 114, 97, 121, 32, 56, 48, 56, 48, 56, 48, 32, 103, 114, 101, 101, 110, 32, 48, 48, 56, 48, 48, 48, 32, 109, 97, 114, 111, 111, 110, 32, 56, 48, 48, 48, 48, 48, 32, 110, 97, 118, 121, 32, 48, 48, 48, 48, 56, 48, 32, 111, 114, 97, 110, 103, 101, 32, 102, 102, 97, 53, 48, 48, 32, 112, 117, 114, 112, 108, 101, 32, 56, 48, 48, 48, 56, 48, 32, 114, 101, 100, 32, 102, 102, 48, 48, 48, 48, 32, 115, 105, 108, 118, 101, 114, 32, 99, 48, 99, 48, 99, 48, 32, 119, 104, 105, 116, 101, 32, 102, 102, 102, 102, 102, 102, 32, 121, 101, 108, 108, 111, 119, 32, 102, 102, 102, 102, 48, 48]
def colF : List (List UInt8) := [[98, 108, 97, 99, 107], [48, 48, 48, 48, 48, 48], [98, 108, 117, 101], [48, 48, 48, 48, 102, 102], [103, 114, 97, 121], [56, 48, 56, 48, 56, 48], [103, 114, 101, 101, 110], [48, 48, 56, 48, 48, 48], [109, 97, 114, 111, 111, 110], [56, 48, 48, 48, 48, 48], [110, 97, 118, 121], [48, 48, 48, 48, 56, 48], [111, 114, 97, 110, 103, 101], [102, 102, 97, 53, 48, 48], [112, 117, 114, 112, 108, 101], [56, 48, 48, 48, 56, 48], [114, 101, 100], [102, 102, 48, 48, 48, 48], [115, 105, 108, 118, 101, 114], [99, 48, 99, 48, 99, 48], [119, 104, 105, 116, 101], [102, 102, 102, 102, 102, 102], [121, 101, 108, 108, 111, 119], [102, 102, 102, 102, 48, 48]]
theorem colF_eq : Lib.fields colL = colF := by decide +kernel
/-- the colour that a word names -/
def seekC (s : List UInt8) : List (List UInt8) → Option (List UInt8)
  | a :: b :: r => if a = s then some b else seekC s r
  | _ => none
def wordM (l : List UInt8) : Va × Bool := match seekC l colF with
  | some c => (⟨6, 0, 35 :: c⟩, true)
  | none => (⟨0, 0, []⟩, false)
set_option maxRecDepth 100000 in
set_option maxHeartbeats 4000000 in
/-- a word -/
theorem paint_word [Inhabited TbBox] (l : List UInt8) (hl : l.length ≤ 100000) (h1 : ¬ (Lib.hasPrefix l [35] = true ∧ hexL (Lib.trimPrefix l [35]) = true)) (w : World) (E : Env w) :
    Calls Tryz.prog 81 #[.string (S l)] w fun e w' => e = .returned (.tuple #[.agg (wordM l).1.cells, .bool (wordM l).2]) ∧ Below w.heap.size w w' := by
  have hc := fun w => Tryz.strings_CutPrefix (S l) (S [35]) w
  rw [S_list, S_list] at hc
  have hpl : (Lib.trimPrefix l [35]).length ≤ 100000 := by unfold Lib.trimPrefix; split <;> (try simp) <;> omega
  obtain ⟨p, hp⟩ : ∃ p, Lib.trimPrefix l [35] = p := ⟨_, rfl⟩
  obtain ⟨ok, hok⟩ : ∃ p, Lib.hasPrefix l [35] = p := ⟨_, rfl⟩
  rw [hp, hok] at h1
  rw [hp, hok] at hc
  rw [hp] at hpl
  have hh := fun w => hex_any p w hpl
  have hf := fun (w : World) (E : Env w) => Tryz.strings_Fields (S colL) w (by rw [S_size]; decide) (ascii_of (l := colL) (by decide +kernel)) E.asc
  rw [S_list, colF_eq] at hf
  obtain ⟨f, hF⟩ : ∃ f, colF = f := ⟨_, rfl⟩
  have hn : f.length = 24 := by rw [← hF]; decide
  obtain ⟨⟨vv, vb⟩, hv⟩ : ∃ m, wordM l = m := ⟨_, rfl⟩
  rw [hv]
  unfold wordM at hv
  rw [hF] at hf hv
  rw [hn] at hf
  have hfb : ∀ (j : Nat) (y : List UInt8), f[j]? = some y → y.length ≤ 10 := by
    intro j y hy
    have ha : colF.all (fun y => decide (y.length ≤ 10)) = true := by decide
    rw [hF] at ha
    simpa using List.all_eq_true.1 ha y (List.mem_of_getElem? hy)
  have HFB := Lib.hid hfb
  clear hfb
  have HN := Lib.hid hn
  have HV := Lib.hid hv
  have HC := Lib.hid hc
  have HF := Lib.hid hf
  have HE := Lib.hid E
  have H := Lib.hid ((St.start w (Below.refl _ w)).new #[.int .i64 0, .int .i64 0, .string ⟨#[]⟩] 68)
  obtain ⟨sc, hsc⟩ : ∃ s, S colL = s := ⟨_, rfl⟩
  clear hc hv hf hF hp hok hn E
  cases ok
  · go_enter Tryz.func81, Tryz.ntmps81
    go_wp2_with (first
      | (go_at_call 113; refine (HC.out _).mono ?_; rintro e w1 ⟨rfl, hw⟩; rw [hw]; clear hw)
      | (go_at_call 58; refine (HF.out _ (HE.out.below H.out.bel)).mono ?_; rintro e w2 ⟨rfl, hw⟩; have HW := Lib.hid hw; clear hw))
    have hw := HW.out
    have hb2 : Below (w.alloc (.cells #[.int .i64 0, .int .i64 0, .string ⟨#[]⟩] 68)).heap.size (w.alloc (.cells #[.int .i64 0, .int .i64 0, .string ⟨#[]⟩] 68)) w2 := by rw [hw]; exact (Below.refl _ _).alloc (Nat.le_refl _) _
    have H2 := Lib.hid (H.out.of_below hb2)
    have hcf : ∀ j x, f[j]? = some x → w2.cell? ⟨w.heap.size + 1, j, none⟩ = some (.string (S x)) := by
      intro j x hx
      rw [hw, show (w.heap.size + 1 : Nat) = (w.alloc (.cells #[.int .i64 0, .int .i64 0, .string ⟨#[]⟩] 68)).heap.size from by simp [World.alloc, -World.alloc_eq], (Blk.new (w.alloc (.cells #[.int .i64 0, .int .i64 0, .string ⟨#[]⟩] 68)) _ 9).cell]
      simp [hx, S]
    have HCF := Lib.hid hcf
    clear hb2 hcf hw HW
    go_loopg [7] 12 (fun g v wr => ∃ k m : Nat, g = 12 - k ∧ k ≤ 12 ∧ v = .int .i64 (m : Int) ∧ m = 2 * k ∧ wr = w2 ∧ seekC l f = seekC l (f.drop m))
    case atStart => exact ⟨0, 0, rfl, Nat.zero_le _, rfl, rfl, rfl, rfl⟩
    case round =>
      obtain ⟨k, m, hg, hk, rfl, hm, rfl, hsk⟩ := hrel
      have HSK := Lib.hid hsk
      have HG := Lib.hid hg
      have HM := Lib.hid hm
      clear hsk hg
      have d0 := H2.out.cell 0
      have d1 := H2.out.cell 1
      have d2 := H2.out.cell 2
      have f0 := H2.out.free 0
      have f1 := H2.out.free 1
      have f2 := H2.out.free 2
      have hlt := H2.out.blk.1.lt
      simp at d0 d1 d2
      by_cases hkn : k < 12
      · have hn := HN.out
        obtain ⟨x, hx⟩ : ∃ x, f[m]? = some x := ⟨_, List.getElem?_eq_getElem (by omega)⟩
        obtain ⟨y, hy⟩ : ∃ y, f[m + 1]? = some y := ⟨_, List.getElem?_eq_getElem (by omega)⟩
        have cx := HCF.out m x hx
        have cy := HCF.out (m + 1) y hy
        have hdr : f.drop m = x :: y :: f.drop (m + 2) := by
          obtain ⟨l1, e1⟩ := List.getElem?_eq_some_iff.1 hx
          obtain ⟨l2, e2⟩ := List.getElem?_eq_some_iff.1 hy
          rw [List.drop_eq_getElem_cons l1, e1, List.drop_eq_getElem_cons l2, e2]
        have hyl : ¬ (S [35]).size + (S y).size > 9223372036854775807 := by have := HFB.out (m + 1) y hy; rw [S_size, S_size]; simp; omega
        have b1 : (m : Int) < 24 := by omega
        have b2 : (m : Int) + 1 < 24 := by omega
        have b0 : (0 : Int) ≤ (m : Int) + 1 := by omega
        have g1 := wrapS (a := (m : Int) + 1) (by omega) (by omega)
        have g2 := wrapS (a := (m : Int) + 2) (by omega) (by omega)
        have t1 : ((m : Int) + 1).toNat = m + 1 := by omega
        by_cases hxl : x = l
        · subst hxl
          have hsk := HSK.out
          rw [hdr] at hsk
          have q : (vv, vb) = ((⟨6, 0, 35 :: y⟩ : Va), true) := by rw [← HV.out, hsk]; simp [seekC]
          obtain ⟨rfl, rfl⟩ := Prod.mk.inj q
          clear q HV hsk hdr hx hy hm hn hk
          go_wp2_with fail
          rw [show (({ data := #[35] } : ByteArray) ++ { data := y.toArray }) = S (35 :: y) from S_app [35] y]
          have H9 := Lib.hid (((H2.out.set 0 (.int .i64 6)).set 1 (.int .i64 0)).set 2 (.string (S (35 :: y))))
          simp only [List.setIfInBounds_toArray, List.set_cons_zero, List.set_cons_succ] at H9
          obtain ⟨w9, e9⟩ : ∃ w9, ((wr.setCell ⟨w.heap.size, 0, none⟩ (.int .i64 6)).setCell ⟨w.heap.size, 1, none⟩ (.int .i64 0)).setCell ⟨w.heap.size, 2, none⟩ (.string (S (35 :: y))) = w9 := ⟨_, rfl⟩
          rw [e9] at H9
          rw [e9]
          have z0 := H9.out.cell 0
          have z1 := H9.out.cell 1
          have z2 := H9.out.cell 2
          simp at z0 z1 z2
          refine bodyPost_ret (v := .tuple #[.agg #[.int .i64 6, .int .i64 0, .string (S (35 :: y))], .bool true]) (by simp [results, Tryz.results81, go_sem, z0, z1, z2]) rfl ⟨by simp [Va.cells], H9.out.bel⟩
        · have hxb := l_beq hxl
          have hsk := HSK.out
          rw [hdr] at hsk
          simp only [seekC, if_neg hxl] at hsk
          have HSK2 := Lib.hid hsk
          clear hsk hdr hx hy hm hn hk
          go_wp2_with fail
          go_roundg (12 - (k + 1))
          case measure => have := HG.out; omega
          case rel => exact ⟨k + 1, m + 2, rfl, by omega, by rw [Int.natCast_add]; rfl, by have := HM.out; omega, rfl, HSK2.out⟩
      · have hm2 : m = 24 := by omega
        subst hm2
        have hsk := HSK.out
        rw [List.drop_eq_nil_of_le (Nat.le_of_eq HN.out)] at hsk
        have q : (vv, vb) = ((⟨0, 0, []⟩ : Va), false) := by rw [← HV.out, hsk]; simp [seekC]
        obtain ⟨rfl, rfl⟩ := Prod.mk.inj q
        clear q HV hsk hk
        go_wp2_with fail
        have H9 := Lib.hid (((H2.out.set 0 (.int .i64 0)).set 1 (.int .i64 0)).set 2 (.string (⟨#[]⟩)))
        simp only [List.setIfInBounds_toArray, List.set_cons_zero, List.set_cons_succ] at H9
        obtain ⟨w9, e9⟩ : ∃ w9, ((wr.setCell ⟨w.heap.size, 0, none⟩ (.int .i64 0)).setCell ⟨w.heap.size, 1, none⟩ (.int .i64 0)).setCell ⟨w.heap.size, 2, none⟩ (.string (⟨#[]⟩)) = w9 := ⟨_, rfl⟩
        rw [e9] at H9
        rw [e9]
        have z0 := H9.out.cell 0
        have z1 := H9.out.cell 1
        have z2 := H9.out.cell 2
        simp at z0 z1 z2
        refine bodyPost_ret (v := .tuple #[.agg #[.int .i64 0, .int .i64 0, .string (⟨#[]⟩)], .bool false]) (by simp [results, Tryz.results81, go_sem, z0, z1, z2]) rfl ⟨by simp [Va.cells], H9.out.bel⟩
  · have hq : hexL p = false := by simpa using h1
    rw [hq] at hh
    have HH := Lib.hid hh
    clear hh hq h1
    go_enter Tryz.func81, Tryz.ntmps81
    go_wp2_with (first
      | (go_at_call 113; refine (HC.out _).mono ?_; rintro e w1 ⟨rfl, hw⟩; rw [hw]; clear hw)
      | (go_at_call 114; refine (HH.out _).mono ?_; rintro e w1 ⟨rfl, hb1⟩; have H1 := Lib.hid (H.out.of_below hb1))
      | (go_at_call 58; refine (HF.out _ (HE.out.below H1.out.bel)).mono ?_; rintro e w2 ⟨rfl, hw⟩; have HW := Lib.hid hw; clear hw))
    have hw := HW.out
    have hb2 : Below (w1).heap.size (w1) w2 := by rw [hw]; exact (Below.refl _ _).alloc (Nat.le_refl _) _
    have H2 := Lib.hid (H1.out.of_below hb2)
    have hcf : ∀ j x, f[j]? = some x → w2.cell? ⟨w1.heap.size, j, none⟩ = some (.string (S x)) := by
      intro j x hx
      rw [hw, show (w1.heap.size : Nat) = (w1).heap.size from rfl, (Blk.new (w1) _ 9).cell]
      simp [hx, S]
    have HCF := Lib.hid hcf
    clear hb2 hcf hw HW
    go_loopg [7] 12 (fun g v wr => ∃ k m : Nat, g = 12 - k ∧ k ≤ 12 ∧ v = .int .i64 (m : Int) ∧ m = 2 * k ∧ wr = w2 ∧ seekC l f = seekC l (f.drop m))
    case atStart => exact ⟨0, 0, rfl, Nat.zero_le _, rfl, rfl, rfl, rfl⟩
    case round =>
      obtain ⟨k, m, hg, hk, rfl, hm, rfl, hsk⟩ := hrel
      have HSK := Lib.hid hsk
      have HG := Lib.hid hg
      have HM := Lib.hid hm
      clear hsk hg
      have d0 := H2.out.cell 0
      have d1 := H2.out.cell 1
      have d2 := H2.out.cell 2
      have f0 := H2.out.free 0
      have f1 := H2.out.free 1
      have f2 := H2.out.free 2
      have hlt := H2.out.blk.1.lt
      simp at d0 d1 d2
      by_cases hkn : k < 12
      · have hn := HN.out
        obtain ⟨x, hx⟩ : ∃ x, f[m]? = some x := ⟨_, List.getElem?_eq_getElem (by omega)⟩
        obtain ⟨y, hy⟩ : ∃ y, f[m + 1]? = some y := ⟨_, List.getElem?_eq_getElem (by omega)⟩
        have cx := HCF.out m x hx
        have cy := HCF.out (m + 1) y hy
        have hdr : f.drop m = x :: y :: f.drop (m + 2) := by
          obtain ⟨l1, e1⟩ := List.getElem?_eq_some_iff.1 hx
          obtain ⟨l2, e2⟩ := List.getElem?_eq_some_iff.1 hy
          rw [List.drop_eq_getElem_cons l1, e1, List.drop_eq_getElem_cons l2, e2]
        have hyl : ¬ (S [35]).size + (S y).size > 9223372036854775807 := by have := HFB.out (m + 1) y hy; rw [S_size, S_size]; simp; omega
        have b1 : (m : Int) < 24 := by omega
        have b2 : (m : Int) + 1 < 24 := by omega
        have b0 : (0 : Int) ≤ (m : Int) + 1 := by omega
        have g1 := wrapS (a := (m : Int) + 1) (by omega) (by omega)
        have g2 := wrapS (a := (m : Int) + 2) (by omega) (by omega)
        have t1 : ((m : Int) + 1).toNat = m + 1 := by omega
        by_cases hxl : x = l
        · subst hxl
          have hsk := HSK.out
          rw [hdr] at hsk
          have q : (vv, vb) = ((⟨6, 0, 35 :: y⟩ : Va), true) := by rw [← HV.out, hsk]; simp [seekC]
          obtain ⟨rfl, rfl⟩ := Prod.mk.inj q
          clear q HV hsk hdr hx hy hm hn hk
          go_wp2_with fail
          rw [show (({ data := #[35] } : ByteArray) ++ { data := y.toArray }) = S (35 :: y) from S_app [35] y]
          have H9 := Lib.hid (((H2.out.set 0 (.int .i64 6)).set 1 (.int .i64 0)).set 2 (.string (S (35 :: y))))
          simp only [List.setIfInBounds_toArray, List.set_cons_zero, List.set_cons_succ] at H9
          obtain ⟨w9, e9⟩ : ∃ w9, ((wr.setCell ⟨w.heap.size, 0, none⟩ (.int .i64 6)).setCell ⟨w.heap.size, 1, none⟩ (.int .i64 0)).setCell ⟨w.heap.size, 2, none⟩ (.string (S (35 :: y))) = w9 := ⟨_, rfl⟩
          rw [e9] at H9
          rw [e9]
          have z0 := H9.out.cell 0
          have z1 := H9.out.cell 1
          have z2 := H9.out.cell 2
          simp at z0 z1 z2
          refine bodyPost_ret (v := .tuple #[.agg #[.int .i64 6, .int .i64 0, .string (S (35 :: y))], .bool true]) (by simp [results, Tryz.results81, go_sem, z0, z1, z2]) rfl ⟨by simp [Va.cells], H9.out.bel⟩
        · have hxb := l_beq hxl
          have hsk := HSK.out
          rw [hdr] at hsk
          simp only [seekC, if_neg hxl] at hsk
          have HSK2 := Lib.hid hsk
          clear hsk hdr hx hy hm hn hk
          go_wp2_with fail
          go_roundg (12 - (k + 1))
          case measure => have := HG.out; omega
          case rel => exact ⟨k + 1, m + 2, rfl, by omega, by rw [Int.natCast_add]; rfl, by have := HM.out; omega, rfl, HSK2.out⟩
      · have hm2 : m = 24 := by omega
        subst hm2
        have hsk := HSK.out
        rw [List.drop_eq_nil_of_le (Nat.le_of_eq HN.out)] at hsk
        have q : (vv, vb) = ((⟨0, 0, []⟩ : Va), false) := by rw [← HV.out, hsk]; simp [seekC]
        obtain ⟨rfl, rfl⟩ := Prod.mk.inj q
        clear q HV hsk hk
        go_wp2_with fail
        have H9 := Lib.hid (((H2.out.set 0 (.int .i64 0)).set 1 (.int .i64 0)).set 2 (.string (⟨#[]⟩)))
        simp only [List.setIfInBounds_toArray, List.set_cons_zero, List.set_cons_succ] at H9
        obtain ⟨w9, e9⟩ : ∃ w9, ((wr.setCell ⟨w.heap.size, 0, none⟩ (.int .i64 0)).setCell ⟨w.heap.size, 1, none⟩ (.int .i64 0)).setCell ⟨w.heap.size, 2, none⟩ (.string (⟨#[]⟩)) = w9 := ⟨_, rfl⟩
        rw [e9] at H9
        rw [e9]
        have z0 := H9.out.cell 0
        have z1 := H9.out.cell 1
        have z2 := H9.out.cell 2
        simp at z0 z1 z2
        refine bodyPost_ret (v := .tuple #[.agg #[.int .i64 0, .int .i64 0, .string (⟨#[]⟩)], .bool false]) (by simp [results, Tryz.results81, go_sem, z0, z1, z2]) rfl ⟨by simp [Va.cells], H9.out.bel⟩
def paintM (l : List UInt8) : Va × Bool :=
  if Lib.hasPrefix l [35] = true ∧ hexL (Lib.trimPrefix l [35]) = true then
    if (Lib.trimPrefix l [35]).length = 3 then (⟨6, 0, 35 :: dblL (Lib.trimPrefix l [35])⟩, true)
    else (⟨6, 0, 35 :: Lib.trimPrefix l [35]⟩, (Lib.trimPrefix l [35]).length == 6)
  else wordM l
theorem paint_any [Inhabited TbBox] (l : List UInt8) (hl : l.length ≤ 100000) (w : World) (E : Env w) : Calls Tryz.prog 81 #[.string (S l)] w fun e w' => e = .returned (.tuple #[.agg (paintM l).1.cells, .bool (paintM l).2]) ∧ Below w.heap.size w w' := by
  unfold paintM
  by_cases h : Lib.hasPrefix l [35] = true ∧ hexL (Lib.trimPrefix l [35]) = true
  · rw [if_pos h]
    by_cases h3 : (Lib.trimPrefix l [35]).length = 3
    · rw [if_pos h3]
      exact paint_three l hl h.1 h.2 h3 w
    · rw [if_neg h3]
      exact paint_hex l hl h.1 h.2 h3 w
  · rw [if_neg h]
    exact paint_word l hl h w E
end Go.Proofs.YtldembadjgibjaaGreatDoor
