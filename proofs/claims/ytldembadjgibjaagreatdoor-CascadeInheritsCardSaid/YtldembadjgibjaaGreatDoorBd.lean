/-
  Cascade: boxes.
-/
import Derived.Test.YtldembadjgibjaaGreatDoorBc
import Derived.Test.YtldembadjgibjaaGreatDoorKc
import Derived.Deep.DeepCutAuto
import Derived.Deep.LoopGhost
import Derived.Deep.RegionWith
set_option linter.unusedVariables false
set_option linter.unusedSimpArgs false
namespace Go.Proofs.YtldembadjgibjaaGreatDoor
open Go.RowKit Go.K Go.PlainAid Go.Lib Go.Maps Go.WideMaps

abbrev marP : List UInt8 := [109, 97, 114, 103, 105, 110, 45]
abbrev padP : List UInt8 := [112, 97, 100, 100, 105, 110, 103, 45]
abbrev borP : List UInt8 := [98, 111, 114, 100, 101, 114, 45]
abbrev widP : List UInt8 := [45, 119, 105, 100, 116, 104]
abbrev sideW : List (List UInt8) := [[116, 111, 112], [114, 105, 103, 104, 116], [98, 111, 116, 116, 111, 109], [108, 101, 102, 116]]
def mgM (lk : Lk) (sz : Int) (P : Nat → Int) (i : Nat) : Int × Int := longM lk sz (marP ++ sideW.getD i []) (P (14 + i * 2), P (14 + i * 2 + 1)) (1, 0)
def pdM (lk : Lk) (sz : Int) (P : Nat → Int) (i : Nat) : Int × Int := longM lk sz (padP ++ sideW.getD i []) (P (22 + i * 2), P (22 + i * 2 + 1)) (1, 0)
def bdM (lk : Lk) (sz : Int) (P : Nat → Int) (i : Nat) : Int := (longM lk sz ((borP ++ sideW.getD i []) ++ widP) (1, P (30 + i)) (1, 0)).2
abbrev bxD : List Nat := [14, 15, 16, 17, 18, 19, 20, 21, 22, 23, 24, 25, 26, 27, 28, 29, 30, 31, 32, 33]
theorem bxD_in {i : Nat} (h : 14 ≤ i) (h2 : i < 34) : i ∈ bxD := by
  have : i = 14 ∨ i = 15 ∨ i = 16 ∨ i = 17 ∨ i = 18 ∨ i = 19 ∨ i = 20 ∨ i = 21 ∨ i = 22 ∨ i = 23 ∨ i = 24 ∨ i = 25 ∨ i = 26 ∨ i = 27 ∨ i = 28 ∨ i = 29 ∨ i = 30 ∨ i = 31 ∨ i = 32 ∨ i = 33 := by omega
  rcases this with rfl | rfl | rfl | rfl | rfl | rfl | rfl | rfl | rfl | rfl | rfl | rfl | rfl | rfl | rfl | rfl | rfl | rfl | rfl | rfl <;> decide
/-- what the rounds so far have laid -/
structure BxK (lk : Lk) (sz : Int) (P : Nat → Int) (cs cs' : Array Value) (k : Nat) : Prop where
  up : Up cs cs' bxD
  mg : ∀ i, i < k → cs'[14 + i * 2]? = some (.int .i64 (mgM lk sz P i).1) ∧ cs'[14 + i * 2 + 1]? = some (.int .i64 (mgM lk sz P i).2)
  pd : ∀ i, i < k → cs'[22 + i * 2]? = some (.int .i64 (pdM lk sz P i).1) ∧ cs'[22 + i * 2 + 1]? = some (.int .i64 (pdM lk sz P i).2)
  bd : ∀ i, i < k → cs'[30 + i]? = some (.int .i64 (bdM lk sz P i))
theorem BxK.step {lk : Lk} {sz : Int} {P : Nat → Int} {cs cs' : Array Value} {k : Nat} (hz : cs.size = 53) (hk : k < 4) (h : BxK lk sz P cs cs' k) :
    BxK lk sz P cs (((((cs'.setIfInBounds (14 + k * 2) (.int .i64 (mgM lk sz P k).1)).setIfInBounds (14 + k * 2 + 1) (.int .i64 (mgM lk sz P k).2)).setIfInBounds (22 + k * 2) (.int .i64 (pdM lk sz P k).1)).setIfInBounds (22 + k * 2 + 1) (.int .i64 (pdM lk sz P k).2)).setIfInBounds (30 + k) (.int .i64 (bdM lk sz P k))) (k + 1) := by
  have hs : cs'.size = 53 := by rw [h.up.1]; exact hz
  refine ⟨((((h.up.set (bxD_in (by omega) (by omega)) _).set (bxD_in (by omega) (by omega)) _).set (bxD_in (by omega) (by omega)) _).set (bxD_in (by omega) (by omega)) _).set (bxD_in (by omega) (by omega)) _, fun i hi => ?_, fun i hi => ?_, fun i hi => ?_⟩
  all_goals simp only [Array.getElem?_setIfInBounds, Array.size_setIfInBounds, hs]
  · by_cases e : i = k
    · subst e
      constructor
      · rw [if_neg (by omega), if_neg (by omega), if_neg (by omega), if_neg (by omega), if_pos (by omega), if_pos (by omega)]
      · rw [if_neg (by omega), if_neg (by omega), if_neg (by omega), if_pos (by omega), if_pos (by omega)]
    · obtain ⟨q1, q2⟩ := h.mg i (by omega)
      constructor
      · rw [if_neg (by omega), if_neg (by omega), if_neg (by omega), if_neg (by omega), if_neg (by omega)]; exact q1
      · rw [if_neg (by omega), if_neg (by omega), if_neg (by omega), if_neg (by omega), if_neg (by omega)]; exact q2
  · by_cases e : i = k
    · subst e
      constructor
      · rw [if_neg (by omega), if_neg (by omega), if_pos (by omega), if_pos (by omega)]
      · rw [if_neg (by omega), if_pos (by omega), if_pos (by omega)]
    · obtain ⟨q1, q2⟩ := h.pd i (by omega)
      constructor
      · rw [if_neg (by omega), if_neg (by omega), if_neg (by omega), if_neg (by omega), if_neg (by omega)]; exact q1
      · rw [if_neg (by omega), if_neg (by omega), if_neg (by omega), if_neg (by omega), if_neg (by omega)]; exact q2
  · by_cases e : i = k
    · subst e
      rw [if_pos (by omega), if_pos (by omega)]
    · rw [if_neg (by omega), if_neg (by omega), if_neg (by omega), if_neg (by omega), if_neg (by omega)]; exact h.bd i (by omega)
theorem cells_splice {w0 w : World} {L : List As} {b o : Nat} {cs : Array Value} {T : TypeId} (H : St w0 w (As.cells b cs T :: L)) (vs : List Value) : St w0 (w.setCells b o vs) (As.cells b (splice cs o vs) T :: L) := by
  obtain ⟨F, ⟨hF, hB⟩, hn, hst⟩ := H.head
  exact hst _ F (As.cells b (splice cs o vs) T) ⟨hF, hB.setCells vs o w cs⟩ ⟨Fr.setCells w b o vs ((hF b).2 rfl), fun k hk => .inl hk⟩
theorem wp_putC {P : Program} {w0 w : World} {L : List As} {ops : Array Oper} {op : Oper} {a : Act} {Q : Exit → Act → World → Prop} {KK : Act → World → Prop} {b o : Nat} {t T : TypeId} {cs : Array Value} (hw : Region.wanted op (yielded ops a.tmps) = true) (x y : Operand) (ho : op.op = .store t x y)
    (H : St w0 w (As.cells b cs T :: L)) (hx : a.eval x = .pointer (some ⟨b, o, none⟩)) (v : Value) (hy : a.eval y = v) (vs : List Value) (hv : v.cells = vs.toArray) (hb : o + vs.length ≤ cs.size) (hi : (P.info? t).map (·.size) = some vs.length) (h1 : ∀ v ∈ vs, v.oneCell' = true)
    (h : ∀ W, St w0 W (As.cells b (splice cs o vs) T :: L) → KK (a.put op.dst undef) W) : if Region.wanted op (yielded ops a.tmps) = true then Oper.wp P op a w KK Q else KK (a.put op.dst undef) w := by
  have ht : w.there b o vs.toArray.size := fun j hj => by
    simp at hj
    have hB := H.blk.1
    exact ⟨by rw [hB.cell, Array.getElem?_eq_getElem (by omega)]; rfl, hB.free _⟩
  rw [if_pos hw]
  unfold Oper.wp execOp
  simp only [ho, hx, hy, Instr.storeAt, Instr.sureAddr, Sem.run_bind, Sem.run_pure, Result.andThen_ok, run_storeVar_cells w b o t v vs.toArray hv ht (by simpa using hi) (Array.all_eq_true_iff_forall_mem.2 (fun v hv => h1 v (by simpa using hv)))]
  exact h _ (cells_splice H vs)
theorem size24 : (Tryz.prog.info? 24).map (·.size) = some 2 := by kernel_rfl
theorem size3 : (Tryz.prog.info? 3).map (·.size) = some 1 := by kernel_rfl
set_option maxRecDepth 100000 in
set_option maxHeartbeats 8000000 in
theorem boxes_st {w0 w : World} {L : List As} {bc bm bo n : Nat} {sz : Int} {lk : Lk} {cs : Array Value} (hcs : cs.size = 53) (h : St w0 w (As.cells bo cs 28 :: As.cells bc #[.map (some bm), .int .i64 sz] 66 :: As.mp 9 sK vV sOk bm n lk :: L))
    (pa : Array Value) (P : Nat → Int) (hP : ∀ i, 14 ≤ i → i < 34 → pa[i]? = some (.int .i64 (P i))) (hs0 : 0 ≤ sz) (hs1 : sz ≤ 1000000) (hv : ∀ s v, lk s = some v → VOk v) :
    Calls Tryz.prog 30 #[.pointer (some ⟨bc, 0, none⟩), .pointer (some ⟨bo, 0, none⟩), .agg pa] w fun e w' => e = .returned (.tuple #[]) ∧ ∃ cs', BxK lk sz P cs cs' 4 ∧ St w0 w' (As.cells bo cs' 28 :: As.cells bc #[.map (some bm), .int .i64 sz] 66 :: As.mp 9 sK vV sOk bm n lk :: L) := by
  have hvg : ∀ s, VOk (getM lk s).1 := by
    intro s
    unfold getM
    cases e : lk s with
    | none => exact ⟨by decide, by decide, by decide, by decide, Nat.zero_le _⟩
    | some v => exact hv s v e
  have HVG := Lib.hid hvg
  have HCS := Lib.hid hcs
  have HPP := Lib.hid hP
  have h2 := ((h.new pa 28).new #[.int .i64 1, .int .i64 0] 24).new (sideW.map vS).toArray 9
  rw [World.size_alloc, World.size_alloc] at h2
  have H2 := Lib.hid h2
  clear h h2 hv hvg hP
  go_enter Tryz.func30, Tryz.ntmps30
  go_upto_region 3 with fail
  have hw3 : St w0 (((w.alloc (Obj.cells pa 28)).alloc (Obj.cells #[.int .i64 1, .int .i64 0] 24)).alloc (Obj.cells #[.string ⟨#[116, 111, 112]⟩, .string ⟨#[114, 105, 103, 104, 116]⟩, .string ⟨#[98, 111, 116, 116, 111, 109]⟩, .string ⟨#[108, 101, 102, 116]⟩] 9))
      (As.cells bo cs 28 :: As.cells (w.heap.size + 1 + 1) (sideW.map vS).toArray 9 :: As.cells (w.heap.size + 1) #[.int .i64 1, .int .i64 0] 24 :: As.cells w.heap.size pa 28 :: As.cells bc #[.map (some bm), .int .i64 sz] 66 :: As.mp 9 sK vV sOk bm n lk :: L) := by
    have q := St.sh [_, _, _, _] [3, 0, 1, 2] (by decide) H2.out
    exact q
  revert hw3
  generalize (((w.alloc (Obj.cells pa 28)).alloc (Obj.cells #[.int .i64 1, .int .i64 0] 24)).alloc (Obj.cells #[.string ⟨#[116, 111, 112]⟩, .string ⟨#[114, 105, 103, 104, 116]⟩, .string ⟨#[98, 111, 116, 116, 111, 109]⟩, .string ⟨#[108, 101, 102, 116]⟩] 9)) = w3
  generalize w.heap.size + 1 + 1 = ms
  generalize w.heap.size + 1 = mz
  generalize w.heap.size = mp
  intro hw3
  have H3 := Lib.hid hw3
  clear hw3 H2
  go_loopg [7, 8, 12] 4 (fun g v7 v8 v12 wr => ∃ (k : Nat) (csk : Array Value), g = 4 - k ∧ k ≤ 4 ∧ v12 = .int .i64 (k : Int) ∧ BxK lk sz P cs csk k ∧ St w0 wr (As.cells bo csk 28 :: As.cells ms (sideW.map vS).toArray 9 :: As.cells mz #[.int .i64 1, .int .i64 0] 24 :: As.cells mp pa 28 :: As.cells bc #[.map (some bm), .int .i64 sz] 66 :: As.mp 9 sK vV sOk bm n lk :: L))
  case atStart => exact ⟨0, cs, rfl, Nat.zero_le _, rfl, ⟨Up.refl _ _, fun i hi => absurd hi (Nat.not_lt_zero _), fun i hi => absurd hi (Nat.not_lt_zero _), fun i hi => absurd hi (Nat.not_lt_zero _)⟩, H3.out⟩
  case round =>
    obtain ⟨k, csk, hg, hk4, rfl, hbx, hst⟩ := hrel
    have HG := Lib.hid hg
    have HBX := Lib.hid hbx
    have H4 := Lib.hid hst
    clear hg hbx hst
    by_cases hk : k < 4
    · have hkI : (k : Int) < 4 := by omega
      have hk0 : (0 : Int) ≤ (k : Int) := by omega
      have g1 := wrapS (a := (k : Int) + 1) (by omega) (by omega)
      obtain ⟨x, hx⟩ : ∃ x, sideW[k]? = some x := ⟨_, List.getElem?_eq_getElem (by show k < 4; exact hk)⟩
      have hxl : x.length ≤ 10 := by
        have ha : sideW.all (fun y => decide (y.length ≤ 10)) = true := by decide
        simpa using List.all_eq_true.1 ha x (List.mem_of_getElem? hx)
      have hxd : sideW.getD k [] = x := by rw [List.getD_eq_getElem?_getD, hx]; rfl
      have s0 : wr.cell? ⟨ms, k, none⟩ = some (.string (S x)) := by
        rw [(H4.out.blkm (b := ms) (.tail _ (.head _))).cell k]
        show (sideW.map vS).toArray[k]? = _
        rw [List.getElem?_toArray, List.getElem?_map, hx]; rfl
      have hp50 := HPP.out (14 + k * 2) (by omega) (by omega)
      have hp51 := HPP.out (14 + k * 2 + 1) (by omega) (by omega)
      have hp60 := HPP.out (22 + k * 2) (by omega) (by omega)
      have hp61 := HPP.out (22 + k * 2 + 1) (by omega) (by omega)
      have hp70 := HPP.out (30 + k) (by omega) (by omega)
      have hp71 := HPP.out (30 + k) (by omega) (by omega)
      have HXD := Lib.hid hxd
      have hx7 : 7 + x.length ≤ 9223372036854775807 := by omega
      have hx8 : 8 + x.length ≤ 9223372036854775807 := by omega
      have HCZ : csk.size = 53 := by rw [HBX.out.up.1]; exact HCS.out
      clear hx hxd
      obtain ⟨WW, hWW⟩ : ∃ W, wr = W := ⟨_, rfl⟩
      rw [hWW] at H4 s0 ⊢
      clear hWW
      go_upto_region 5 with fail
      obtain ⟨nm, hnm⟩ : ∃ z, ({ data := #[109, 97, 114, 103, 105, 110, 45] } : ByteArray) ++ S x = z := ⟨_, rfl⟩
      have hnz : ¬ ({ data := #[109, 97, 114, 103, 105, 110, 45] } : ByteArray).size + (S x).size > 9223372036854775807 := by have h1 : ({ data := #[109, 97, 114, 103, 105, 110, 45] } : ByteArray).size ≤ 20 := (by decide); have h2 := S_size x; omega
      have hnS : nm = S (marP ++ x) := by rw [← hnm]; exact S_app marP x
      have HNS := Lib.hid hnS
      clear hnS
      have hS : (fun w' : World => ∃ csx : Array Value, csx.size = 53 ∧ St w0 w' (As.cells bo csx 28 :: As.cells ms (sideW.map vS).toArray 9 :: As.cells mz #[.int .i64 1, .int .i64 0] 24 :: As.cells mp pa 28 :: As.cells bc #[.map (some bm), .int .i64 sz] 66 :: As.mp 9 sK vV sOk bm n lk :: L)) WW.drew := ⟨_, HCZ, H4.out.drew⟩
      refine wp_region_held (S := (fun w' : World => ∃ csx : Array Value, csx.size = 53 ∧ St w0 w' (As.cells bo csx 28 :: As.cells ms (sideW.map vS).toArray 9 :: As.cells mz #[.int .i64 1, .int .i64 0] 24 :: As.cells mp pa 28 :: As.cells bc #[.map (some bm), .int .i64 sz] 66 :: As.mp 9 sK vV sOk bm n lk :: L))) (by kernel_rfl) ?_
      change wpAnyH _ _ _ _ _ _ _ _ (World.drew _)
      refine' wpAnyH_take (i := 0) (v := .pointer (some ⟨bo, 0, none⟩)) rfl (by kernel_rfl) (by kernel_rfl) (by kernel_rfl) (fun _ _ _ h => h) (Or.inl ⟨by rfl, ?hy1⟩) hS ?rest1
      case hy1 => (intro w' hSw; obtain ⟨csx, hcz, hSt⟩ := hSw; have mp0 := (hSt.blkm (b := mp) (.tail _ (.tail _ (.tail _ (.head _))))).cell (14 + k * 2); have mp1 := (hSt.blkm (b := mp) (.tail _ (.tail _ (.tail _ (.head _))))).cell (14 + k * 2 + 1); rw [hp50] at mp0; rw [hp51] at mp1; have mz0 := (hSt.blkm (b := mz) (.tail _ (.tail _ (.head _)))).cell 0; have mz1 := (hSt.blkm (b := mz) (.tail _ (.tail _ (.head _)))).cell 1; simp at mz0 mz1; go_simp; (try with_reducible rfl); all_goals first | done | rfl)
      try simp only [Act.put, List.getElem_toArray, List.getElem_cons_zero, List.getElem_cons_succ, List.setIfInBounds_toArray, List.set_cons_zero, List.set_cons_succ]
      refine' wpAnyH_take (i := 1) (v := .int .i64 (k : Int)) rfl (by kernel_rfl) (by kernel_rfl) (by kernel_rfl) (fun _ _ _ h => h) (Or.inl ⟨by rfl, ?hy2⟩) hS ?rest2
      case hy2 => (intro w' hSw; obtain ⟨csx, hcz, hSt⟩ := hSw; have mp0 := (hSt.blkm (b := mp) (.tail _ (.tail _ (.tail _ (.head _))))).cell (14 + k * 2); have mp1 := (hSt.blkm (b := mp) (.tail _ (.tail _ (.tail _ (.head _))))).cell (14 + k * 2 + 1); rw [hp50] at mp0; rw [hp51] at mp1; have mz0 := (hSt.blkm (b := mz) (.tail _ (.tail _ (.head _)))).cell 0; have mz1 := (hSt.blkm (b := mz) (.tail _ (.tail _ (.head _)))).cell 1; simp at mz0 mz1; go_simp; (try with_reducible rfl); all_goals first | done | rfl)
      try simp only [Act.put, List.getElem_toArray, List.getElem_cons_zero, List.getElem_cons_succ, List.setIfInBounds_toArray, List.set_cons_zero, List.set_cons_succ]
      refine' wpAnyH_take (i := 2) (v := .pointer (some ⟨bc, 0, none⟩)) rfl (by kernel_rfl) (by kernel_rfl) (by kernel_rfl) (fun _ _ _ h => h) (Or.inl ⟨by rfl, ?hy3⟩) hS ?rest3
      case hy3 => (intro w' hSw; obtain ⟨csx, hcz, hSt⟩ := hSw; have mp0 := (hSt.blkm (b := mp) (.tail _ (.tail _ (.tail _ (.head _))))).cell (14 + k * 2); have mp1 := (hSt.blkm (b := mp) (.tail _ (.tail _ (.tail _ (.head _))))).cell (14 + k * 2 + 1); rw [hp50] at mp0; rw [hp51] at mp1; have mz0 := (hSt.blkm (b := mz) (.tail _ (.tail _ (.head _)))).cell 0; have mz1 := (hSt.blkm (b := mz) (.tail _ (.tail _ (.head _)))).cell 1; simp at mz0 mz1; go_simp; (try with_reducible rfl); all_goals first | done | rfl)
      try simp only [Act.put, List.getElem_toArray, List.getElem_cons_zero, List.getElem_cons_succ, List.setIfInBounds_toArray, List.set_cons_zero, List.set_cons_succ]
      refine' wpAnyH_take (i := 3) (v := .string (S x)) rfl (by kernel_rfl) (by kernel_rfl) (by kernel_rfl) (fun _ _ _ h => h) (Or.inl ⟨by rfl, ?hy4⟩) hS ?rest4
      case hy4 => (intro w' hSw; obtain ⟨csx, hcz, hSt⟩ := hSw; have mp0 := (hSt.blkm (b := mp) (.tail _ (.tail _ (.tail _ (.head _))))).cell (14 + k * 2); have mp1 := (hSt.blkm (b := mp) (.tail _ (.tail _ (.tail _ (.head _))))).cell (14 + k * 2 + 1); rw [hp50] at mp0; rw [hp51] at mp1; have mz0 := (hSt.blkm (b := mz) (.tail _ (.tail _ (.head _)))).cell 0; have mz1 := (hSt.blkm (b := mz) (.tail _ (.tail _ (.head _)))).cell 1; simp at mz0 mz1; go_simp; (try with_reducible rfl); all_goals first | done | rfl)
      try simp only [Act.put, List.getElem_toArray, List.getElem_cons_zero, List.getElem_cons_succ, List.setIfInBounds_toArray, List.set_cons_zero, List.set_cons_succ]
      refine' wpAnyH_take (i := 4) (v := .string nm) rfl (by kernel_rfl) (by kernel_rfl) (by kernel_rfl) (fun _ _ _ h => h) (Or.inl ⟨by rfl, ?hy5⟩) hS ?rest5
      case hy5 => (intro w' hSw; obtain ⟨csx, hcz, hSt⟩ := hSw; have mp0 := (hSt.blkm (b := mp) (.tail _ (.tail _ (.tail _ (.head _))))).cell (14 + k * 2); have mp1 := (hSt.blkm (b := mp) (.tail _ (.tail _ (.tail _ (.head _))))).cell (14 + k * 2 + 1); rw [hp50] at mp0; rw [hp51] at mp1; have mz0 := (hSt.blkm (b := mz) (.tail _ (.tail _ (.head _)))).cell 0; have mz1 := (hSt.blkm (b := mz) (.tail _ (.tail _ (.head _)))).cell 1; simp at mz0 mz1; go_simp; (try with_reducible rfl); all_goals first | done | rfl)
      try simp only [Act.put, List.getElem_toArray, List.getElem_cons_zero, List.getElem_cons_succ, List.setIfInBounds_toArray, List.set_cons_zero, List.set_cons_succ]
      refine' wpAnyH_take (i := 5) (v := .int .i64 (k : Int)) rfl (by kernel_rfl) (by kernel_rfl) (by kernel_rfl) (fun _ _ _ h => h) (Or.inl ⟨by rfl, ?hy6⟩) hS ?rest6
      case hy6 => (intro w' hSw; obtain ⟨csx, hcz, hSt⟩ := hSw; have mp0 := (hSt.blkm (b := mp) (.tail _ (.tail _ (.tail _ (.head _))))).cell (14 + k * 2); have mp1 := (hSt.blkm (b := mp) (.tail _ (.tail _ (.tail _ (.head _))))).cell (14 + k * 2 + 1); rw [hp50] at mp0; rw [hp51] at mp1; have mz0 := (hSt.blkm (b := mz) (.tail _ (.tail _ (.head _)))).cell 0; have mz1 := (hSt.blkm (b := mz) (.tail _ (.tail _ (.head _)))).cell 1; simp at mz0 mz1; go_simp; (try with_reducible rfl); all_goals first | done | rfl)
      try simp only [Act.put, List.getElem_toArray, List.getElem_cons_zero, List.getElem_cons_succ, List.setIfInBounds_toArray, List.set_cons_zero, List.set_cons_succ]
      refine' wpAnyH_take (i := 6) (v := .pointer (some ⟨mp, 14, none⟩)) rfl (by kernel_rfl) (by kernel_rfl) (by kernel_rfl) (fun _ _ _ h => h) (Or.inl ⟨by rfl, ?hy7⟩) hS ?rest7
      case hy7 => (intro w' hSw; obtain ⟨csx, hcz, hSt⟩ := hSw; have mp0 := (hSt.blkm (b := mp) (.tail _ (.tail _ (.tail _ (.head _))))).cell (14 + k * 2); have mp1 := (hSt.blkm (b := mp) (.tail _ (.tail _ (.tail _ (.head _))))).cell (14 + k * 2 + 1); rw [hp50] at mp0; rw [hp51] at mp1; have mz0 := (hSt.blkm (b := mz) (.tail _ (.tail _ (.head _)))).cell 0; have mz1 := (hSt.blkm (b := mz) (.tail _ (.tail _ (.head _)))).cell 1; simp at mz0 mz1; go_simp; (try with_reducible rfl); all_goals first | done | rfl)
      try simp only [Act.put, List.getElem_toArray, List.getElem_cons_zero, List.getElem_cons_succ, List.setIfInBounds_toArray, List.set_cons_zero, List.set_cons_succ]
      refine' wpAnyH_take (i := 7) (v := .pointer (some ⟨mp, 14 + k * 2, none⟩)) rfl (by kernel_rfl) (by kernel_rfl) (by kernel_rfl) (fun _ _ _ h => h) (Or.inl ⟨by rfl, ?hy8⟩) hS ?rest8
      case hy8 => (intro w' hSw; obtain ⟨csx, hcz, hSt⟩ := hSw; have mp0 := (hSt.blkm (b := mp) (.tail _ (.tail _ (.tail _ (.head _))))).cell (14 + k * 2); have mp1 := (hSt.blkm (b := mp) (.tail _ (.tail _ (.tail _ (.head _))))).cell (14 + k * 2 + 1); rw [hp50] at mp0; rw [hp51] at mp1; have mz0 := (hSt.blkm (b := mz) (.tail _ (.tail _ (.head _)))).cell 0; have mz1 := (hSt.blkm (b := mz) (.tail _ (.tail _ (.head _)))).cell 1; simp at mz0 mz1; go_simp; (try with_reducible rfl); all_goals first | done | rfl)
      try simp only [Act.put, List.getElem_toArray, List.getElem_cons_zero, List.getElem_cons_succ, List.setIfInBounds_toArray, List.set_cons_zero, List.set_cons_succ]
      refine' wpAnyH_take (i := 8) (v := .agg #[.int .i64 (P (14 + k * 2)), .int .i64 (P (14 + k * 2 + 1))]) rfl (by kernel_rfl) (by kernel_rfl) (by kernel_rfl) (fun _ _ _ h => h) (Or.inl ⟨by rfl, ?hy9⟩) hS ?rest9
      case hy9 => (intro w' hSw; obtain ⟨csx, hcz, hSt⟩ := hSw; have mp0 := (hSt.blkm (b := mp) (.tail _ (.tail _ (.tail _ (.head _))))).cell (14 + k * 2); have mp1 := (hSt.blkm (b := mp) (.tail _ (.tail _ (.tail _ (.head _))))).cell (14 + k * 2 + 1); rw [hp50] at mp0; rw [hp51] at mp1; have mz0 := (hSt.blkm (b := mz) (.tail _ (.tail _ (.head _)))).cell 0; have mz1 := (hSt.blkm (b := mz) (.tail _ (.tail _ (.head _)))).cell 1; simp at mz0 mz1; go_simp; (try with_reducible rfl); all_goals first | done | rfl)
      try simp only [Act.put, List.getElem_toArray, List.getElem_cons_zero, List.getElem_cons_succ, List.setIfInBounds_toArray, List.set_cons_zero, List.set_cons_succ]
      refine' wpAnyH_take (i := 9) (v := .agg #[.int .i64 1, .int .i64 0]) rfl (by kernel_rfl) (by kernel_rfl) (by kernel_rfl) (fun _ _ _ h => h) (Or.inl ⟨by rfl, ?hy10⟩) hS ?rest10
      case hy10 => (intro w' hSw; obtain ⟨csx, hcz, hSt⟩ := hSw; have mp0 := (hSt.blkm (b := mp) (.tail _ (.tail _ (.tail _ (.head _))))).cell (14 + k * 2); have mp1 := (hSt.blkm (b := mp) (.tail _ (.tail _ (.tail _ (.head _))))).cell (14 + k * 2 + 1); rw [hp50] at mp0; rw [hp51] at mp1; have mz0 := (hSt.blkm (b := mz) (.tail _ (.tail _ (.head _)))).cell 0; have mz1 := (hSt.blkm (b := mz) (.tail _ (.tail _ (.head _)))).cell 1; simp at mz0 mz1; go_simp; (try with_reducible rfl); all_goals first | done | rfl)
      try simp only [Act.put, List.getElem_toArray, List.getElem_cons_zero, List.getElem_cons_succ, List.setIfInBounds_toArray, List.set_cons_zero, List.set_cons_succ]
      refine' wpAnyH_take (i := 11) (v := .pointer (some ⟨bo, 0, none⟩)) rfl (by kernel_rfl) (by kernel_rfl) (by kernel_rfl) (fun _ _ _ h => h) (Or.inl ⟨by rfl, ?hy11⟩) hS ?rest11
      case hy11 => (intro w' hSw; obtain ⟨csx, hcz, hSt⟩ := hSw; have mp0 := (hSt.blkm (b := mp) (.tail _ (.tail _ (.tail _ (.head _))))).cell (14 + k * 2); have mp1 := (hSt.blkm (b := mp) (.tail _ (.tail _ (.tail _ (.head _))))).cell (14 + k * 2 + 1); rw [hp50] at mp0; rw [hp51] at mp1; have mz0 := (hSt.blkm (b := mz) (.tail _ (.tail _ (.head _)))).cell 0; have mz1 := (hSt.blkm (b := mz) (.tail _ (.tail _ (.head _)))).cell 1; simp at mz0 mz1; go_simp; (try with_reducible rfl); all_goals first | done | rfl)
      try simp only [Act.put, List.getElem_toArray, List.getElem_cons_zero, List.getElem_cons_succ, List.setIfInBounds_toArray, List.set_cons_zero, List.set_cons_succ]
      refine' wpAnyH_take (i := 12) (v := .pointer (some ⟨bo, 14, none⟩)) rfl (by kernel_rfl) (by kernel_rfl) (by kernel_rfl) (fun _ _ _ h => h) (Or.inl ⟨by rfl, ?hy12⟩) hS ?rest12
      case hy12 => (intro w' hSw; obtain ⟨csx, hcz, hSt⟩ := hSw; have mp0 := (hSt.blkm (b := mp) (.tail _ (.tail _ (.tail _ (.head _))))).cell (14 + k * 2); have mp1 := (hSt.blkm (b := mp) (.tail _ (.tail _ (.tail _ (.head _))))).cell (14 + k * 2 + 1); rw [hp50] at mp0; rw [hp51] at mp1; have mz0 := (hSt.blkm (b := mz) (.tail _ (.tail _ (.head _)))).cell 0; have mz1 := (hSt.blkm (b := mz) (.tail _ (.tail _ (.head _)))).cell 1; simp at mz0 mz1; go_simp; (try with_reducible rfl); all_goals first | done | rfl)
      try simp only [Act.put, List.getElem_toArray, List.getElem_cons_zero, List.getElem_cons_succ, List.setIfInBounds_toArray, List.set_cons_zero, List.set_cons_succ]
      refine held_one (i := 10) rfl (by kernel_rfl) ?_
      intro K' hK; have HK' := Lib.hid hK; clear hK
      have hlg := long_any (Comp.of (bc := bc) (bm := bm) H4.out.drew (.tail _ (.tail _ (.tail _ (.tail _ (.head _))))) (.tail _ (.tail _ (.tail _ (.tail _ (.tail _ (.head _))))))) hs0 hs1 (marP ++ x) (by have h1 : (marP ++ x).length ≤ 50 := (by simp; omega); omega) (HVG.out _) (P (14 + k * 2), P (14 + k * 2 + 1)) (1, 0)
      rw [← HNS.out] at hlg
      refine wp_call (by rfl) (by rfl) Tryz.func32 (by kernel_rfl) (by kernel_rfl) (by kernel_rfl) hlg ?_
      rintro e WC ⟨rfl, hb⟩
      have HD := Lib.hid (H4.out.drew.of_below hb)
      obtain ⟨⟨r1, r2⟩, hres⟩ : ∃ z, (longM lk sz (marP ++ x) (P (14 + k * 2), P (14 + k * 2 + 1)) (1, 0)) = z := ⟨_, rfl⟩
      rw [hres]
      have HRES := Lib.hid hres
      refine ⟨_, rfl, HK'.out _ _ ⟨⟨_, HCZ, HD.out⟩, ?_⟩⟩
      clear HK' K' hS hb hlg hres
      have hS : (fun w' : World => ∃ csx : Array Value, csx.size = 53 ∧ St w0 w' (As.cells bo csx 28 :: As.cells ms (sideW.map vS).toArray 9 :: As.cells mz #[.int .i64 1, .int .i64 0] 24 :: As.cells mp pa 28 :: As.cells bc #[.map (some bm), .int .i64 sz] 66 :: As.mp 9 sK vV sOk bm n lk :: L)) WC := ⟨_, HCZ, HD.out⟩
      try simp only [Act.put, List.getElem_toArray, List.getElem_cons_zero, List.getElem_cons_succ, List.setIfInBounds_toArray, List.set_cons_zero, List.set_cons_succ]
      refine' wpAnyH_take (i := 13) (v := .pointer (some ⟨bo, 14 + k * 2, none⟩)) rfl (by kernel_rfl) (by kernel_rfl) (by kernel_rfl) (fun _ _ _ h => h) (Or.inl ⟨by rfl, ?hy13⟩) hS ?rest13
      case hy13 => (intro w' hSw; obtain ⟨csx, hcz, hSt⟩ := hSw; have mp0 := (hSt.blkm (b := mp) (.tail _ (.tail _ (.tail _ (.head _))))).cell (14 + k * 2); have mp1 := (hSt.blkm (b := mp) (.tail _ (.tail _ (.tail _ (.head _))))).cell (14 + k * 2 + 1); rw [hp50] at mp0; rw [hp51] at mp1; have mz0 := (hSt.blkm (b := mz) (.tail _ (.tail _ (.head _)))).cell 0; have mz1 := (hSt.blkm (b := mz) (.tail _ (.tail _ (.head _)))).cell 1; simp at mz0 mz1; go_simp; (try with_reducible rfl); all_goals first | done | rfl)
      try simp only [Act.put, List.getElem_toArray, List.getElem_cons_zero, List.getElem_cons_succ, List.setIfInBounds_toArray, List.set_cons_zero, List.set_cons_succ]
      refine held_one (i := 14) rfl (by kernel_rfl) ?_
      intro K' hK; have HK' := Lib.hid hK; clear hK hS
      refine wp_putC (by rfl) (.tmp 30) (.tmp 27) rfl HD.out rfl (.agg #[.int .i64 r1, .int .i64 r2]) rfl [.int .i64 r1, .int .i64 r2] rfl (by rw [HCZ]; simp; omega) size24 (by simp [Value.oneCell']) ?_
      intro WN HW
      have HZN : (splice csk (14 + k * 2) [.int .i64 r1, .int .i64 r2]).size = 53 := by rw [splice_size]; exact HCZ
      have H5 := Lib.hid HW
      refine HK'.out _ _ ⟨⟨_, HZN, HW⟩, ?_⟩
      clear HK' K' HW HD H4
      try simp only [Act.put, List.getElem_toArray, List.getElem_cons_zero, List.getElem_cons_succ, List.setIfInBounds_toArray, List.set_cons_zero, List.set_cons_succ]
      refine wpAnyH_done (by kernel_rfl) ?_ _
      obtain ⟨cs5, h5⟩ : ∃ z, splice csk (14 + k * 2) [.int .i64 r1, .int .i64 r2] = z := ⟨_, rfl⟩
      rw [h5] at HZN H5
      have H5E := Lib.hid h5
      have RES5 := HRES
      clear HCZ h5 hnm hnz HNS HRES s0
      have HCZ := HZN
      clear HZN
      obtain ⟨WW, hWW⟩ : ∃ W, WN = W := ⟨_, rfl⟩
      rw [hWW] at H5 ⊢
      clear hWW
      go_upto_region 6 with fail
      obtain ⟨nm, hnm⟩ : ∃ z, ({ data := #[112, 97, 100, 100, 105, 110, 103, 45] } : ByteArray) ++ S x = z := ⟨_, rfl⟩
      have hnz : ¬ ({ data := #[112, 97, 100, 100, 105, 110, 103, 45] } : ByteArray).size + (S x).size > 9223372036854775807 := by have h1 : ({ data := #[112, 97, 100, 100, 105, 110, 103, 45] } : ByteArray).size ≤ 20 := (by decide); have h2 := S_size x; omega
      have hnS : nm = S (padP ++ x) := by rw [← hnm]; exact S_app padP x
      have HNS := Lib.hid hnS
      clear hnS
      have hS : (fun w' : World => ∃ csx : Array Value, csx.size = 53 ∧ St w0 w' (As.cells bo csx 28 :: As.cells ms (sideW.map vS).toArray 9 :: As.cells mz #[.int .i64 1, .int .i64 0] 24 :: As.cells mp pa 28 :: As.cells bc #[.map (some bm), .int .i64 sz] 66 :: As.mp 9 sK vV sOk bm n lk :: L)) WW.drew := ⟨_, HCZ, H5.out.drew⟩
      refine wp_region_held (S := (fun w' : World => ∃ csx : Array Value, csx.size = 53 ∧ St w0 w' (As.cells bo csx 28 :: As.cells ms (sideW.map vS).toArray 9 :: As.cells mz #[.int .i64 1, .int .i64 0] 24 :: As.cells mp pa 28 :: As.cells bc #[.map (some bm), .int .i64 sz] 66 :: As.mp 9 sK vV sOk bm n lk :: L))) (by kernel_rfl) ?_
      change wpAnyH _ _ _ _ _ _ _ _ (World.drew _)
      refine' wpAnyH_take (i := 0) (v := .pointer (some ⟨bo, 0, none⟩)) rfl (by kernel_rfl) (by kernel_rfl) (by kernel_rfl) (fun _ _ _ h => h) (Or.inl ⟨by rfl, ?hy14⟩) hS ?rest14
      case hy14 => (intro w' hSw; obtain ⟨csx, hcz, hSt⟩ := hSw; have mp0 := (hSt.blkm (b := mp) (.tail _ (.tail _ (.tail _ (.head _))))).cell (22 + k * 2); have mp1 := (hSt.blkm (b := mp) (.tail _ (.tail _ (.tail _ (.head _))))).cell (22 + k * 2 + 1); rw [hp60] at mp0; rw [hp61] at mp1; have mz0 := (hSt.blkm (b := mz) (.tail _ (.tail _ (.head _)))).cell 0; have mz1 := (hSt.blkm (b := mz) (.tail _ (.tail _ (.head _)))).cell 1; simp at mz0 mz1; go_simp; (try with_reducible rfl); all_goals first | done | rfl)
      try simp only [Act.put, List.getElem_toArray, List.getElem_cons_zero, List.getElem_cons_succ, List.setIfInBounds_toArray, List.set_cons_zero, List.set_cons_succ]
      refine' wpAnyH_take (i := 1) (v := .int .i64 (k : Int)) rfl (by kernel_rfl) (by kernel_rfl) (by kernel_rfl) (fun _ _ _ h => h) (Or.inl ⟨by rfl, ?hy15⟩) hS ?rest15
      case hy15 => (intro w' hSw; obtain ⟨csx, hcz, hSt⟩ := hSw; have mp0 := (hSt.blkm (b := mp) (.tail _ (.tail _ (.tail _ (.head _))))).cell (22 + k * 2); have mp1 := (hSt.blkm (b := mp) (.tail _ (.tail _ (.tail _ (.head _))))).cell (22 + k * 2 + 1); rw [hp60] at mp0; rw [hp61] at mp1; have mz0 := (hSt.blkm (b := mz) (.tail _ (.tail _ (.head _)))).cell 0; have mz1 := (hSt.blkm (b := mz) (.tail _ (.tail _ (.head _)))).cell 1; simp at mz0 mz1; go_simp; (try with_reducible rfl); all_goals first | done | rfl)
      try simp only [Act.put, List.getElem_toArray, List.getElem_cons_zero, List.getElem_cons_succ, List.setIfInBounds_toArray, List.set_cons_zero, List.set_cons_succ]
      refine' wpAnyH_take (i := 2) (v := .pointer (some ⟨bc, 0, none⟩)) rfl (by kernel_rfl) (by kernel_rfl) (by kernel_rfl) (fun _ _ _ h => h) (Or.inl ⟨by rfl, ?hy16⟩) hS ?rest16
      case hy16 => (intro w' hSw; obtain ⟨csx, hcz, hSt⟩ := hSw; have mp0 := (hSt.blkm (b := mp) (.tail _ (.tail _ (.tail _ (.head _))))).cell (22 + k * 2); have mp1 := (hSt.blkm (b := mp) (.tail _ (.tail _ (.tail _ (.head _))))).cell (22 + k * 2 + 1); rw [hp60] at mp0; rw [hp61] at mp1; have mz0 := (hSt.blkm (b := mz) (.tail _ (.tail _ (.head _)))).cell 0; have mz1 := (hSt.blkm (b := mz) (.tail _ (.tail _ (.head _)))).cell 1; simp at mz0 mz1; go_simp; (try with_reducible rfl); all_goals first | done | rfl)
      try simp only [Act.put, List.getElem_toArray, List.getElem_cons_zero, List.getElem_cons_succ, List.setIfInBounds_toArray, List.set_cons_zero, List.set_cons_succ]
      refine' wpAnyH_take (i := 3) (v := .string (S x)) rfl (by kernel_rfl) (by kernel_rfl) (by kernel_rfl) (fun _ _ _ h => h) (Or.inl ⟨by rfl, ?hy17⟩) hS ?rest17
      case hy17 => (intro w' hSw; obtain ⟨csx, hcz, hSt⟩ := hSw; have mp0 := (hSt.blkm (b := mp) (.tail _ (.tail _ (.tail _ (.head _))))).cell (22 + k * 2); have mp1 := (hSt.blkm (b := mp) (.tail _ (.tail _ (.tail _ (.head _))))).cell (22 + k * 2 + 1); rw [hp60] at mp0; rw [hp61] at mp1; have mz0 := (hSt.blkm (b := mz) (.tail _ (.tail _ (.head _)))).cell 0; have mz1 := (hSt.blkm (b := mz) (.tail _ (.tail _ (.head _)))).cell 1; simp at mz0 mz1; go_simp; (try with_reducible rfl); all_goals first | done | rfl)
      try simp only [Act.put, List.getElem_toArray, List.getElem_cons_zero, List.getElem_cons_succ, List.setIfInBounds_toArray, List.set_cons_zero, List.set_cons_succ]
      refine' wpAnyH_take (i := 4) (v := .string nm) rfl (by kernel_rfl) (by kernel_rfl) (by kernel_rfl) (fun _ _ _ h => h) (Or.inl ⟨by rfl, ?hy18⟩) hS ?rest18
      case hy18 => (intro w' hSw; obtain ⟨csx, hcz, hSt⟩ := hSw; have mp0 := (hSt.blkm (b := mp) (.tail _ (.tail _ (.tail _ (.head _))))).cell (22 + k * 2); have mp1 := (hSt.blkm (b := mp) (.tail _ (.tail _ (.tail _ (.head _))))).cell (22 + k * 2 + 1); rw [hp60] at mp0; rw [hp61] at mp1; have mz0 := (hSt.blkm (b := mz) (.tail _ (.tail _ (.head _)))).cell 0; have mz1 := (hSt.blkm (b := mz) (.tail _ (.tail _ (.head _)))).cell 1; simp at mz0 mz1; go_simp; (try with_reducible rfl); all_goals first | done | rfl)
      try simp only [Act.put, List.getElem_toArray, List.getElem_cons_zero, List.getElem_cons_succ, List.setIfInBounds_toArray, List.set_cons_zero, List.set_cons_succ]
      refine' wpAnyH_take (i := 5) (v := .int .i64 (k : Int)) rfl (by kernel_rfl) (by kernel_rfl) (by kernel_rfl) (fun _ _ _ h => h) (Or.inl ⟨by rfl, ?hy19⟩) hS ?rest19
      case hy19 => (intro w' hSw; obtain ⟨csx, hcz, hSt⟩ := hSw; have mp0 := (hSt.blkm (b := mp) (.tail _ (.tail _ (.tail _ (.head _))))).cell (22 + k * 2); have mp1 := (hSt.blkm (b := mp) (.tail _ (.tail _ (.tail _ (.head _))))).cell (22 + k * 2 + 1); rw [hp60] at mp0; rw [hp61] at mp1; have mz0 := (hSt.blkm (b := mz) (.tail _ (.tail _ (.head _)))).cell 0; have mz1 := (hSt.blkm (b := mz) (.tail _ (.tail _ (.head _)))).cell 1; simp at mz0 mz1; go_simp; (try with_reducible rfl); all_goals first | done | rfl)
      try simp only [Act.put, List.getElem_toArray, List.getElem_cons_zero, List.getElem_cons_succ, List.setIfInBounds_toArray, List.set_cons_zero, List.set_cons_succ]
      refine' wpAnyH_take (i := 6) (v := .pointer (some ⟨mp, 22, none⟩)) rfl (by kernel_rfl) (by kernel_rfl) (by kernel_rfl) (fun _ _ _ h => h) (Or.inl ⟨by rfl, ?hy20⟩) hS ?rest20
      case hy20 => (intro w' hSw; obtain ⟨csx, hcz, hSt⟩ := hSw; have mp0 := (hSt.blkm (b := mp) (.tail _ (.tail _ (.tail _ (.head _))))).cell (22 + k * 2); have mp1 := (hSt.blkm (b := mp) (.tail _ (.tail _ (.tail _ (.head _))))).cell (22 + k * 2 + 1); rw [hp60] at mp0; rw [hp61] at mp1; have mz0 := (hSt.blkm (b := mz) (.tail _ (.tail _ (.head _)))).cell 0; have mz1 := (hSt.blkm (b := mz) (.tail _ (.tail _ (.head _)))).cell 1; simp at mz0 mz1; go_simp; (try with_reducible rfl); all_goals first | done | rfl)
      try simp only [Act.put, List.getElem_toArray, List.getElem_cons_zero, List.getElem_cons_succ, List.setIfInBounds_toArray, List.set_cons_zero, List.set_cons_succ]
      refine' wpAnyH_take (i := 7) (v := .pointer (some ⟨mp, 22 + k * 2, none⟩)) rfl (by kernel_rfl) (by kernel_rfl) (by kernel_rfl) (fun _ _ _ h => h) (Or.inl ⟨by rfl, ?hy21⟩) hS ?rest21
      case hy21 => (intro w' hSw; obtain ⟨csx, hcz, hSt⟩ := hSw; have mp0 := (hSt.blkm (b := mp) (.tail _ (.tail _ (.tail _ (.head _))))).cell (22 + k * 2); have mp1 := (hSt.blkm (b := mp) (.tail _ (.tail _ (.tail _ (.head _))))).cell (22 + k * 2 + 1); rw [hp60] at mp0; rw [hp61] at mp1; have mz0 := (hSt.blkm (b := mz) (.tail _ (.tail _ (.head _)))).cell 0; have mz1 := (hSt.blkm (b := mz) (.tail _ (.tail _ (.head _)))).cell 1; simp at mz0 mz1; go_simp; (try with_reducible rfl); all_goals first | done | rfl)
      try simp only [Act.put, List.getElem_toArray, List.getElem_cons_zero, List.getElem_cons_succ, List.setIfInBounds_toArray, List.set_cons_zero, List.set_cons_succ]
      refine' wpAnyH_take (i := 8) (v := .agg #[.int .i64 (P (22 + k * 2)), .int .i64 (P (22 + k * 2 + 1))]) rfl (by kernel_rfl) (by kernel_rfl) (by kernel_rfl) (fun _ _ _ h => h) (Or.inl ⟨by rfl, ?hy22⟩) hS ?rest22
      case hy22 => (intro w' hSw; obtain ⟨csx, hcz, hSt⟩ := hSw; have mp0 := (hSt.blkm (b := mp) (.tail _ (.tail _ (.tail _ (.head _))))).cell (22 + k * 2); have mp1 := (hSt.blkm (b := mp) (.tail _ (.tail _ (.tail _ (.head _))))).cell (22 + k * 2 + 1); rw [hp60] at mp0; rw [hp61] at mp1; have mz0 := (hSt.blkm (b := mz) (.tail _ (.tail _ (.head _)))).cell 0; have mz1 := (hSt.blkm (b := mz) (.tail _ (.tail _ (.head _)))).cell 1; simp at mz0 mz1; go_simp; (try with_reducible rfl); all_goals first | done | rfl)
      try simp only [Act.put, List.getElem_toArray, List.getElem_cons_zero, List.getElem_cons_succ, List.setIfInBounds_toArray, List.set_cons_zero, List.set_cons_succ]
      refine' wpAnyH_take (i := 9) (v := .agg #[.int .i64 1, .int .i64 0]) rfl (by kernel_rfl) (by kernel_rfl) (by kernel_rfl) (fun _ _ _ h => h) (Or.inl ⟨by rfl, ?hy23⟩) hS ?rest23
      case hy23 => (intro w' hSw; obtain ⟨csx, hcz, hSt⟩ := hSw; have mp0 := (hSt.blkm (b := mp) (.tail _ (.tail _ (.tail _ (.head _))))).cell (22 + k * 2); have mp1 := (hSt.blkm (b := mp) (.tail _ (.tail _ (.tail _ (.head _))))).cell (22 + k * 2 + 1); rw [hp60] at mp0; rw [hp61] at mp1; have mz0 := (hSt.blkm (b := mz) (.tail _ (.tail _ (.head _)))).cell 0; have mz1 := (hSt.blkm (b := mz) (.tail _ (.tail _ (.head _)))).cell 1; simp at mz0 mz1; go_simp; (try with_reducible rfl); all_goals first | done | rfl)
      try simp only [Act.put, List.getElem_toArray, List.getElem_cons_zero, List.getElem_cons_succ, List.setIfInBounds_toArray, List.set_cons_zero, List.set_cons_succ]
      refine' wpAnyH_take (i := 11) (v := .pointer (some ⟨bo, 0, none⟩)) rfl (by kernel_rfl) (by kernel_rfl) (by kernel_rfl) (fun _ _ _ h => h) (Or.inl ⟨by rfl, ?hy24⟩) hS ?rest24
      case hy24 => (intro w' hSw; obtain ⟨csx, hcz, hSt⟩ := hSw; have mp0 := (hSt.blkm (b := mp) (.tail _ (.tail _ (.tail _ (.head _))))).cell (22 + k * 2); have mp1 := (hSt.blkm (b := mp) (.tail _ (.tail _ (.tail _ (.head _))))).cell (22 + k * 2 + 1); rw [hp60] at mp0; rw [hp61] at mp1; have mz0 := (hSt.blkm (b := mz) (.tail _ (.tail _ (.head _)))).cell 0; have mz1 := (hSt.blkm (b := mz) (.tail _ (.tail _ (.head _)))).cell 1; simp at mz0 mz1; go_simp; (try with_reducible rfl); all_goals first | done | rfl)
      try simp only [Act.put, List.getElem_toArray, List.getElem_cons_zero, List.getElem_cons_succ, List.setIfInBounds_toArray, List.set_cons_zero, List.set_cons_succ]
      refine' wpAnyH_take (i := 12) (v := .pointer (some ⟨bo, 22, none⟩)) rfl (by kernel_rfl) (by kernel_rfl) (by kernel_rfl) (fun _ _ _ h => h) (Or.inl ⟨by rfl, ?hy25⟩) hS ?rest25
      case hy25 => (intro w' hSw; obtain ⟨csx, hcz, hSt⟩ := hSw; have mp0 := (hSt.blkm (b := mp) (.tail _ (.tail _ (.tail _ (.head _))))).cell (22 + k * 2); have mp1 := (hSt.blkm (b := mp) (.tail _ (.tail _ (.tail _ (.head _))))).cell (22 + k * 2 + 1); rw [hp60] at mp0; rw [hp61] at mp1; have mz0 := (hSt.blkm (b := mz) (.tail _ (.tail _ (.head _)))).cell 0; have mz1 := (hSt.blkm (b := mz) (.tail _ (.tail _ (.head _)))).cell 1; simp at mz0 mz1; go_simp; (try with_reducible rfl); all_goals first | done | rfl)
      try simp only [Act.put, List.getElem_toArray, List.getElem_cons_zero, List.getElem_cons_succ, List.setIfInBounds_toArray, List.set_cons_zero, List.set_cons_succ]
      refine held_one (i := 10) rfl (by kernel_rfl) ?_
      intro K' hK; have HK' := Lib.hid hK; clear hK
      have hlg := long_any (Comp.of (bc := bc) (bm := bm) H5.out.drew (.tail _ (.tail _ (.tail _ (.tail _ (.head _))))) (.tail _ (.tail _ (.tail _ (.tail _ (.tail _ (.head _))))))) hs0 hs1 (padP ++ x) (by have h1 : (padP ++ x).length ≤ 50 := (by simp; omega); omega) (HVG.out _) (P (22 + k * 2), P (22 + k * 2 + 1)) (1, 0)
      rw [← HNS.out] at hlg
      refine wp_call (by rfl) (by rfl) Tryz.func32 (by kernel_rfl) (by kernel_rfl) (by kernel_rfl) hlg ?_
      rintro e WC ⟨rfl, hb⟩
      have HD := Lib.hid (H5.out.drew.of_below hb)
      obtain ⟨⟨t1, t2⟩, hres⟩ : ∃ z, (longM lk sz (padP ++ x) (P (22 + k * 2), P (22 + k * 2 + 1)) (1, 0)) = z := ⟨_, rfl⟩
      rw [hres]
      have HRES := Lib.hid hres
      refine ⟨_, rfl, HK'.out _ _ ⟨⟨_, HCZ, HD.out⟩, ?_⟩⟩
      clear HK' K' hS hb hlg hres
      have hS : (fun w' : World => ∃ csx : Array Value, csx.size = 53 ∧ St w0 w' (As.cells bo csx 28 :: As.cells ms (sideW.map vS).toArray 9 :: As.cells mz #[.int .i64 1, .int .i64 0] 24 :: As.cells mp pa 28 :: As.cells bc #[.map (some bm), .int .i64 sz] 66 :: As.mp 9 sK vV sOk bm n lk :: L)) WC := ⟨_, HCZ, HD.out⟩
      try simp only [Act.put, List.getElem_toArray, List.getElem_cons_zero, List.getElem_cons_succ, List.setIfInBounds_toArray, List.set_cons_zero, List.set_cons_succ]
      refine' wpAnyH_take (i := 13) (v := .pointer (some ⟨bo, 22 + k * 2, none⟩)) rfl (by kernel_rfl) (by kernel_rfl) (by kernel_rfl) (fun _ _ _ h => h) (Or.inl ⟨by rfl, ?hy26⟩) hS ?rest26
      case hy26 => (intro w' hSw; obtain ⟨csx, hcz, hSt⟩ := hSw; have mp0 := (hSt.blkm (b := mp) (.tail _ (.tail _ (.tail _ (.head _))))).cell (22 + k * 2); have mp1 := (hSt.blkm (b := mp) (.tail _ (.tail _ (.tail _ (.head _))))).cell (22 + k * 2 + 1); rw [hp60] at mp0; rw [hp61] at mp1; have mz0 := (hSt.blkm (b := mz) (.tail _ (.tail _ (.head _)))).cell 0; have mz1 := (hSt.blkm (b := mz) (.tail _ (.tail _ (.head _)))).cell 1; simp at mz0 mz1; go_simp; (try with_reducible rfl); all_goals first | done | rfl)
      try simp only [Act.put, List.getElem_toArray, List.getElem_cons_zero, List.getElem_cons_succ, List.setIfInBounds_toArray, List.set_cons_zero, List.set_cons_succ]
      refine held_one (i := 14) rfl (by kernel_rfl) ?_
      intro K' hK; have HK' := Lib.hid hK; clear hK hS
      refine wp_putC (by rfl) (.tmp 44) (.tmp 41) rfl HD.out rfl (.agg #[.int .i64 t1, .int .i64 t2]) rfl [.int .i64 t1, .int .i64 t2] rfl (by rw [HCZ]; simp; omega) size24 (by simp [Value.oneCell']) ?_
      intro WN HW
      have HZN : (splice cs5 (22 + k * 2) [.int .i64 t1, .int .i64 t2]).size = 53 := by rw [splice_size]; exact HCZ
      have H6 := Lib.hid HW
      refine HK'.out _ _ ⟨⟨_, HZN, HW⟩, ?_⟩
      clear HK' K' HW HD H5
      try simp only [Act.put, List.getElem_toArray, List.getElem_cons_zero, List.getElem_cons_succ, List.setIfInBounds_toArray, List.set_cons_zero, List.set_cons_succ]
      refine wpAnyH_done (by kernel_rfl) ?_ _
      obtain ⟨cs6, h6⟩ : ∃ z, splice cs5 (22 + k * 2) [.int .i64 t1, .int .i64 t2] = z := ⟨_, rfl⟩
      rw [h6] at HZN H6
      have H6E := Lib.hid h6
      have RES6 := HRES
      clear HCZ h6 hnm hnz HNS HRES
      have HCZ := HZN
      clear HZN
      obtain ⟨WW, hWW⟩ : ∃ W, WN = W := ⟨_, rfl⟩
      rw [hWW] at H6 ⊢
      clear hWW
      go_upto_region 7 with fail
      obtain ⟨nm, hnm⟩ : ∃ z, ({ data := #[98, 111, 114, 100, 101, 114, 45] } : ByteArray) ++ S x = z := ⟨_, rfl⟩
      have hnz : ¬ ({ data := #[98, 111, 114, 100, 101, 114, 45] } : ByteArray).size + (S x).size > 9223372036854775807 := by have h1 : ({ data := #[98, 111, 114, 100, 101, 114, 45] } : ByteArray).size ≤ 20 := (by decide); have h2 := S_size x; omega
      have hnS : nm = S (borP ++ x) := by rw [← hnm]; exact S_app borP x
      obtain ⟨nm2, hnm2⟩ : ∃ z, nm ++ ({ data := #[45, 119, 105, 100, 116, 104] } : ByteArray) = z := ⟨_, rfl⟩
      have hnz2 : ¬ nm.size + ({ data := #[45, 119, 105, 100, 116, 104] } : ByteArray).size > 9223372036854775807 := by have h1 : ({ data := #[45, 119, 105, 100, 116, 104] } : ByteArray).size ≤ 20 := (by decide); have h3 : nm.size = (borP ++ x).length := (by rw [hnS, S_size]); rw [List.length_append] at h3; have h2 : borP.length ≤ 20 := (by decide); omega
      have hnz3 : nm.size + 6 ≤ 9223372036854775807 := by have h3 : nm.size = (borP ++ x).length := (by rw [hnS, S_size]); rw [List.length_append] at h3; have h2 : borP.length ≤ 20 := (by decide); omega
      have hnS2 : nm2 = S ((borP ++ x) ++ widP) := by rw [← hnm2, hnS]; exact S_app _ widP
      have HNS := Lib.hid hnS
      have HNS2 := Lib.hid hnS2
      clear hnS hnS2
      have hS : (fun w' : World => ∃ csx : Array Value, csx.size = 53 ∧ St w0 w' (As.cells bo csx 28 :: As.cells ms (sideW.map vS).toArray 9 :: As.cells mz #[.int .i64 1, .int .i64 0] 24 :: As.cells mp pa 28 :: As.cells bc #[.map (some bm), .int .i64 sz] 66 :: As.mp 9 sK vV sOk bm n lk :: L)) WW.drew := ⟨_, HCZ, H6.out.drew⟩
      refine wp_region_held (S := (fun w' : World => ∃ csx : Array Value, csx.size = 53 ∧ St w0 w' (As.cells bo csx 28 :: As.cells ms (sideW.map vS).toArray 9 :: As.cells mz #[.int .i64 1, .int .i64 0] 24 :: As.cells mp pa 28 :: As.cells bc #[.map (some bm), .int .i64 sz] 66 :: As.mp 9 sK vV sOk bm n lk :: L))) (by kernel_rfl) ?_
      change wpAnyH _ _ _ _ _ _ _ _ (World.drew _)
      refine' wpAnyH_take (i := 0) (v := .pointer (some ⟨bo, 0, none⟩)) rfl (by kernel_rfl) (by kernel_rfl) (by kernel_rfl) (fun _ _ _ h => h) (Or.inl ⟨by rfl, ?hy27⟩) hS ?rest27
      case hy27 => (intro w' hSw; obtain ⟨csx, hcz, hSt⟩ := hSw; have mp0 := (hSt.blkm (b := mp) (.tail _ (.tail _ (.tail _ (.head _))))).cell (30 + k); have mp1 := (hSt.blkm (b := mp) (.tail _ (.tail _ (.tail _ (.head _))))).cell (30 + k); rw [hp70] at mp0; rw [hp71] at mp1; have mz0 := (hSt.blkm (b := mz) (.tail _ (.tail _ (.head _)))).cell 0; have mz1 := (hSt.blkm (b := mz) (.tail _ (.tail _ (.head _)))).cell 1; simp at mz0 mz1; go_simp; (try with_reducible rfl); all_goals first | done | rfl)
      try simp only [Act.put, List.getElem_toArray, List.getElem_cons_zero, List.getElem_cons_succ, List.setIfInBounds_toArray, List.set_cons_zero, List.set_cons_succ]
      refine' wpAnyH_take (i := 1) (v := .int .i64 (k : Int)) rfl (by kernel_rfl) (by kernel_rfl) (by kernel_rfl) (fun _ _ _ h => h) (Or.inl ⟨by rfl, ?hy28⟩) hS ?rest28
      case hy28 => (intro w' hSw; obtain ⟨csx, hcz, hSt⟩ := hSw; have mp0 := (hSt.blkm (b := mp) (.tail _ (.tail _ (.tail _ (.head _))))).cell (30 + k); have mp1 := (hSt.blkm (b := mp) (.tail _ (.tail _ (.tail _ (.head _))))).cell (30 + k); rw [hp70] at mp0; rw [hp71] at mp1; have mz0 := (hSt.blkm (b := mz) (.tail _ (.tail _ (.head _)))).cell 0; have mz1 := (hSt.blkm (b := mz) (.tail _ (.tail _ (.head _)))).cell 1; simp at mz0 mz1; go_simp; (try with_reducible rfl); all_goals first | done | rfl)
      try simp only [Act.put, List.getElem_toArray, List.getElem_cons_zero, List.getElem_cons_succ, List.setIfInBounds_toArray, List.set_cons_zero, List.set_cons_succ]
      refine' wpAnyH_take (i := 2) (v := .pointer (some ⟨bc, 0, none⟩)) rfl (by kernel_rfl) (by kernel_rfl) (by kernel_rfl) (fun _ _ _ h => h) (Or.inl ⟨by rfl, ?hy29⟩) hS ?rest29
      case hy29 => (intro w' hSw; obtain ⟨csx, hcz, hSt⟩ := hSw; have mp0 := (hSt.blkm (b := mp) (.tail _ (.tail _ (.tail _ (.head _))))).cell (30 + k); have mp1 := (hSt.blkm (b := mp) (.tail _ (.tail _ (.tail _ (.head _))))).cell (30 + k); rw [hp70] at mp0; rw [hp71] at mp1; have mz0 := (hSt.blkm (b := mz) (.tail _ (.tail _ (.head _)))).cell 0; have mz1 := (hSt.blkm (b := mz) (.tail _ (.tail _ (.head _)))).cell 1; simp at mz0 mz1; go_simp; (try with_reducible rfl); all_goals first | done | rfl)
      try simp only [Act.put, List.getElem_toArray, List.getElem_cons_zero, List.getElem_cons_succ, List.setIfInBounds_toArray, List.set_cons_zero, List.set_cons_succ]
      refine' wpAnyH_take (i := 3) (v := .string (S x)) rfl (by kernel_rfl) (by kernel_rfl) (by kernel_rfl) (fun _ _ _ h => h) (Or.inl ⟨by rfl, ?hy30⟩) hS ?rest30
      case hy30 => (intro w' hSw; obtain ⟨csx, hcz, hSt⟩ := hSw; have mp0 := (hSt.blkm (b := mp) (.tail _ (.tail _ (.tail _ (.head _))))).cell (30 + k); have mp1 := (hSt.blkm (b := mp) (.tail _ (.tail _ (.tail _ (.head _))))).cell (30 + k); rw [hp70] at mp0; rw [hp71] at mp1; have mz0 := (hSt.blkm (b := mz) (.tail _ (.tail _ (.head _)))).cell 0; have mz1 := (hSt.blkm (b := mz) (.tail _ (.tail _ (.head _)))).cell 1; simp at mz0 mz1; go_simp; (try with_reducible rfl); all_goals first | done | rfl)
      try simp only [Act.put, List.getElem_toArray, List.getElem_cons_zero, List.getElem_cons_succ, List.setIfInBounds_toArray, List.set_cons_zero, List.set_cons_succ]
      refine' wpAnyH_take (i := 4) (v := .string nm) rfl (by kernel_rfl) (by kernel_rfl) (by kernel_rfl) (fun _ _ _ h => h) (Or.inl ⟨by rfl, ?hy31⟩) hS ?rest31
      case hy31 => (intro w' hSw; obtain ⟨csx, hcz, hSt⟩ := hSw; have mp0 := (hSt.blkm (b := mp) (.tail _ (.tail _ (.tail _ (.head _))))).cell (30 + k); have mp1 := (hSt.blkm (b := mp) (.tail _ (.tail _ (.tail _ (.head _))))).cell (30 + k); rw [hp70] at mp0; rw [hp71] at mp1; have mz0 := (hSt.blkm (b := mz) (.tail _ (.tail _ (.head _)))).cell 0; have mz1 := (hSt.blkm (b := mz) (.tail _ (.tail _ (.head _)))).cell 1; simp at mz0 mz1; go_simp; (try with_reducible rfl); all_goals first | done | rfl)
      try simp only [Act.put, List.getElem_toArray, List.getElem_cons_zero, List.getElem_cons_succ, List.setIfInBounds_toArray, List.set_cons_zero, List.set_cons_succ]
      refine' wpAnyH_take (i := 5) (v := .string nm2) rfl (by kernel_rfl) (by kernel_rfl) (by kernel_rfl) (fun _ _ _ h => h) (Or.inl ⟨by rfl, ?hy32⟩) hS ?rest32
      case hy32 => (intro w' hSw; obtain ⟨csx, hcz, hSt⟩ := hSw; have mp0 := (hSt.blkm (b := mp) (.tail _ (.tail _ (.tail _ (.head _))))).cell (30 + k); have mp1 := (hSt.blkm (b := mp) (.tail _ (.tail _ (.tail _ (.head _))))).cell (30 + k); rw [hp70] at mp0; rw [hp71] at mp1; have mz0 := (hSt.blkm (b := mz) (.tail _ (.tail _ (.head _)))).cell 0; have mz1 := (hSt.blkm (b := mz) (.tail _ (.tail _ (.head _)))).cell 1; simp at mz0 mz1; go_simp; (try with_reducible rfl); all_goals first | done | rfl)
      try simp only [Act.put, List.getElem_toArray, List.getElem_cons_zero, List.getElem_cons_succ, List.setIfInBounds_toArray, List.set_cons_zero, List.set_cons_succ]
      refine' wpAnyH_take (i := 6) (v := .int .i64 (k : Int)) rfl (by kernel_rfl) (by kernel_rfl) (by kernel_rfl) (fun _ _ _ h => h) (Or.inl ⟨by rfl, ?hy33⟩) hS ?rest33
      case hy33 => (intro w' hSw; obtain ⟨csx, hcz, hSt⟩ := hSw; have mp0 := (hSt.blkm (b := mp) (.tail _ (.tail _ (.tail _ (.head _))))).cell (30 + k); have mp1 := (hSt.blkm (b := mp) (.tail _ (.tail _ (.tail _ (.head _))))).cell (30 + k); rw [hp70] at mp0; rw [hp71] at mp1; have mz0 := (hSt.blkm (b := mz) (.tail _ (.tail _ (.head _)))).cell 0; have mz1 := (hSt.blkm (b := mz) (.tail _ (.tail _ (.head _)))).cell 1; simp at mz0 mz1; go_simp; (try with_reducible rfl); all_goals first | done | rfl)
      try simp only [Act.put, List.getElem_toArray, List.getElem_cons_zero, List.getElem_cons_succ, List.setIfInBounds_toArray, List.set_cons_zero, List.set_cons_succ]
      refine' wpAnyH_take (i := 7) (v := .pointer (some ⟨mp, 30, none⟩)) rfl (by kernel_rfl) (by kernel_rfl) (by kernel_rfl) (fun _ _ _ h => h) (Or.inl ⟨by rfl, ?hy34⟩) hS ?rest34
      case hy34 => (intro w' hSw; obtain ⟨csx, hcz, hSt⟩ := hSw; have mp0 := (hSt.blkm (b := mp) (.tail _ (.tail _ (.tail _ (.head _))))).cell (30 + k); have mp1 := (hSt.blkm (b := mp) (.tail _ (.tail _ (.tail _ (.head _))))).cell (30 + k); rw [hp70] at mp0; rw [hp71] at mp1; have mz0 := (hSt.blkm (b := mz) (.tail _ (.tail _ (.head _)))).cell 0; have mz1 := (hSt.blkm (b := mz) (.tail _ (.tail _ (.head _)))).cell 1; simp at mz0 mz1; go_simp; (try with_reducible rfl); all_goals first | done | rfl)
      try simp only [Act.put, List.getElem_toArray, List.getElem_cons_zero, List.getElem_cons_succ, List.setIfInBounds_toArray, List.set_cons_zero, List.set_cons_succ]
      refine' wpAnyH_take (i := 8) (v := .pointer (some ⟨mp, 30 + k, none⟩)) rfl (by kernel_rfl) (by kernel_rfl) (by kernel_rfl) (fun _ _ _ h => h) (Or.inl ⟨by rfl, ?hy35⟩) hS ?rest35
      case hy35 => (intro w' hSw; obtain ⟨csx, hcz, hSt⟩ := hSw; have mp0 := (hSt.blkm (b := mp) (.tail _ (.tail _ (.tail _ (.head _))))).cell (30 + k); have mp1 := (hSt.blkm (b := mp) (.tail _ (.tail _ (.tail _ (.head _))))).cell (30 + k); rw [hp70] at mp0; rw [hp71] at mp1; have mz0 := (hSt.blkm (b := mz) (.tail _ (.tail _ (.head _)))).cell 0; have mz1 := (hSt.blkm (b := mz) (.tail _ (.tail _ (.head _)))).cell 1; simp at mz0 mz1; go_simp; (try with_reducible rfl); all_goals first | done | rfl)
      try simp only [Act.put, List.getElem_toArray, List.getElem_cons_zero, List.getElem_cons_succ, List.setIfInBounds_toArray, List.set_cons_zero, List.set_cons_succ]
      refine' wpAnyH_take (i := 9) (v := .int .i64 (P (30 + k))) rfl (by kernel_rfl) (by kernel_rfl) (by kernel_rfl) (fun _ _ _ h => h) (Or.inl ⟨by rfl, ?hy36⟩) hS ?rest36
      case hy36 => (intro w' hSw; obtain ⟨csx, hcz, hSt⟩ := hSw; have mp0 := (hSt.blkm (b := mp) (.tail _ (.tail _ (.tail _ (.head _))))).cell (30 + k); have mp1 := (hSt.blkm (b := mp) (.tail _ (.tail _ (.tail _ (.head _))))).cell (30 + k); rw [hp70] at mp0; rw [hp71] at mp1; have mz0 := (hSt.blkm (b := mz) (.tail _ (.tail _ (.head _)))).cell 0; have mz1 := (hSt.blkm (b := mz) (.tail _ (.tail _ (.head _)))).cell 1; simp at mz0 mz1; go_simp; (try with_reducible rfl); all_goals first | done | rfl)
      try simp only [Act.put, List.getElem_toArray, List.getElem_cons_zero, List.getElem_cons_succ, List.setIfInBounds_toArray, List.set_cons_zero, List.set_cons_succ]
      refine' wpAnyH_take (i := 10) (v := .agg #[.int .i64 1, .int .i64 (P (30 + k))]) rfl (by kernel_rfl) (by kernel_rfl) (by kernel_rfl) (fun _ _ _ h => h) (Or.inl ⟨by rfl, ?hy37⟩) hS ?rest37
      case hy37 => (intro w' hSw; obtain ⟨csx, hcz, hSt⟩ := hSw; have mp0 := (hSt.blkm (b := mp) (.tail _ (.tail _ (.tail _ (.head _))))).cell (30 + k); have mp1 := (hSt.blkm (b := mp) (.tail _ (.tail _ (.tail _ (.head _))))).cell (30 + k); rw [hp70] at mp0; rw [hp71] at mp1; have mz0 := (hSt.blkm (b := mz) (.tail _ (.tail _ (.head _)))).cell 0; have mz1 := (hSt.blkm (b := mz) (.tail _ (.tail _ (.head _)))).cell 1; simp at mz0 mz1; go_simp; (try with_reducible rfl); all_goals first | done | rfl)
      try simp only [Act.put, List.getElem_toArray, List.getElem_cons_zero, List.getElem_cons_succ, List.setIfInBounds_toArray, List.set_cons_zero, List.set_cons_succ]
      refine' wpAnyH_take (i := 11) (v := .agg #[.int .i64 1, .int .i64 0]) rfl (by kernel_rfl) (by kernel_rfl) (by kernel_rfl) (fun _ _ _ h => h) (Or.inl ⟨by rfl, ?hy38⟩) hS ?rest38
      case hy38 => (intro w' hSw; obtain ⟨csx, hcz, hSt⟩ := hSw; have mp0 := (hSt.blkm (b := mp) (.tail _ (.tail _ (.tail _ (.head _))))).cell (30 + k); have mp1 := (hSt.blkm (b := mp) (.tail _ (.tail _ (.tail _ (.head _))))).cell (30 + k); rw [hp70] at mp0; rw [hp71] at mp1; have mz0 := (hSt.blkm (b := mz) (.tail _ (.tail _ (.head _)))).cell 0; have mz1 := (hSt.blkm (b := mz) (.tail _ (.tail _ (.head _)))).cell 1; simp at mz0 mz1; go_simp; (try with_reducible rfl); all_goals first | done | rfl)
      try simp only [Act.put, List.getElem_toArray, List.getElem_cons_zero, List.getElem_cons_succ, List.setIfInBounds_toArray, List.set_cons_zero, List.set_cons_succ]
      refine' wpAnyH_take (i := 14) (v := .pointer (some ⟨bo, 0, none⟩)) rfl (by kernel_rfl) (by kernel_rfl) (by kernel_rfl) (fun _ _ _ h => h) (Or.inl ⟨by rfl, ?hy39⟩) hS ?rest39
      case hy39 => (intro w' hSw; obtain ⟨csx, hcz, hSt⟩ := hSw; have mp0 := (hSt.blkm (b := mp) (.tail _ (.tail _ (.tail _ (.head _))))).cell (30 + k); have mp1 := (hSt.blkm (b := mp) (.tail _ (.tail _ (.tail _ (.head _))))).cell (30 + k); rw [hp70] at mp0; rw [hp71] at mp1; have mz0 := (hSt.blkm (b := mz) (.tail _ (.tail _ (.head _)))).cell 0; have mz1 := (hSt.blkm (b := mz) (.tail _ (.tail _ (.head _)))).cell 1; simp at mz0 mz1; go_simp; (try with_reducible rfl); all_goals first | done | rfl)
      try simp only [Act.put, List.getElem_toArray, List.getElem_cons_zero, List.getElem_cons_succ, List.setIfInBounds_toArray, List.set_cons_zero, List.set_cons_succ]
      refine' wpAnyH_take (i := 15) (v := .pointer (some ⟨bo, 30, none⟩)) rfl (by kernel_rfl) (by kernel_rfl) (by kernel_rfl) (fun _ _ _ h => h) (Or.inl ⟨by rfl, ?hy40⟩) hS ?rest40
      case hy40 => (intro w' hSw; obtain ⟨csx, hcz, hSt⟩ := hSw; have mp0 := (hSt.blkm (b := mp) (.tail _ (.tail _ (.tail _ (.head _))))).cell (30 + k); have mp1 := (hSt.blkm (b := mp) (.tail _ (.tail _ (.tail _ (.head _))))).cell (30 + k); rw [hp70] at mp0; rw [hp71] at mp1; have mz0 := (hSt.blkm (b := mz) (.tail _ (.tail _ (.head _)))).cell 0; have mz1 := (hSt.blkm (b := mz) (.tail _ (.tail _ (.head _)))).cell 1; simp at mz0 mz1; go_simp; (try with_reducible rfl); all_goals first | done | rfl)
      try simp only [Act.put, List.getElem_toArray, List.getElem_cons_zero, List.getElem_cons_succ, List.setIfInBounds_toArray, List.set_cons_zero, List.set_cons_succ]
      refine held_one (i := 12) rfl (by kernel_rfl) ?_
      intro K' hK; have HK' := Lib.hid hK; clear hK
      have hlg := long_any (Comp.of (bc := bc) (bm := bm) H6.out.drew (.tail _ (.tail _ (.tail _ (.tail _ (.head _))))) (.tail _ (.tail _ (.tail _ (.tail _ (.tail _ (.head _))))))) hs0 hs1 ((borP ++ x) ++ widP) (by have h1 : ((borP ++ x) ++ widP).length ≤ 50 := (by simp; omega); omega) (HVG.out _) (1, P (30 + k)) (1, 0)
      rw [← HNS2.out] at hlg
      refine wp_call (by rfl) (by rfl) Tryz.func32 (by kernel_rfl) (by kernel_rfl) (by kernel_rfl) hlg ?_
      rintro e WC ⟨rfl, hb⟩
      have HD := Lib.hid (H6.out.drew.of_below hb)
      obtain ⟨⟨u1, u2⟩, hres⟩ : ∃ z, (longM lk sz ((borP ++ x) ++ widP) (1, P (30 + k)) (1, 0)) = z := ⟨_, rfl⟩
      rw [hres]
      have HRES := Lib.hid hres
      refine ⟨_, rfl, HK'.out _ _ ⟨⟨_, HCZ, HD.out⟩, ?_⟩⟩
      clear HK' K' hS hb hlg hres
      have hS : (fun w' : World => ∃ csx : Array Value, csx.size = 53 ∧ St w0 w' (As.cells bo csx 28 :: As.cells ms (sideW.map vS).toArray 9 :: As.cells mz #[.int .i64 1, .int .i64 0] 24 :: As.cells mp pa 28 :: As.cells bc #[.map (some bm), .int .i64 sz] 66 :: As.mp 9 sK vV sOk bm n lk :: L)) WC := ⟨_, HCZ, HD.out⟩
      try simp only [Act.put, List.getElem_toArray, List.getElem_cons_zero, List.getElem_cons_succ, List.setIfInBounds_toArray, List.set_cons_zero, List.set_cons_succ]
      refine' wpAnyH_take (i := 13) (v := .int .i64 u2) rfl (by kernel_rfl) (by kernel_rfl) (by kernel_rfl) (fun _ _ _ h => h) (Or.inl ⟨by rfl, ?hy41⟩) hS ?rest41
      case hy41 => (intro w' hSw; obtain ⟨csx, hcz, hSt⟩ := hSw; have mp0 := (hSt.blkm (b := mp) (.tail _ (.tail _ (.tail _ (.head _))))).cell (30 + k); have mp1 := (hSt.blkm (b := mp) (.tail _ (.tail _ (.tail _ (.head _))))).cell (30 + k); rw [hp70] at mp0; rw [hp71] at mp1; have mz0 := (hSt.blkm (b := mz) (.tail _ (.tail _ (.head _)))).cell 0; have mz1 := (hSt.blkm (b := mz) (.tail _ (.tail _ (.head _)))).cell 1; simp at mz0 mz1; go_simp; (try with_reducible rfl); all_goals first | done | rfl)
      try simp only [Act.put, List.getElem_toArray, List.getElem_cons_zero, List.getElem_cons_succ, List.setIfInBounds_toArray, List.set_cons_zero, List.set_cons_succ]
      refine' wpAnyH_take (i := 16) (v := .pointer (some ⟨bo, 30 + k, none⟩)) rfl (by kernel_rfl) (by kernel_rfl) (by kernel_rfl) (fun _ _ _ h => h) (Or.inl ⟨by rfl, ?hy42⟩) hS ?rest42
      case hy42 => (intro w' hSw; obtain ⟨csx, hcz, hSt⟩ := hSw; have mp0 := (hSt.blkm (b := mp) (.tail _ (.tail _ (.tail _ (.head _))))).cell (30 + k); have mp1 := (hSt.blkm (b := mp) (.tail _ (.tail _ (.tail _ (.head _))))).cell (30 + k); rw [hp70] at mp0; rw [hp71] at mp1; have mz0 := (hSt.blkm (b := mz) (.tail _ (.tail _ (.head _)))).cell 0; have mz1 := (hSt.blkm (b := mz) (.tail _ (.tail _ (.head _)))).cell 1; simp at mz0 mz1; go_simp; (try with_reducible rfl); all_goals first | done | rfl)
      try simp only [Act.put, List.getElem_toArray, List.getElem_cons_zero, List.getElem_cons_succ, List.setIfInBounds_toArray, List.set_cons_zero, List.set_cons_succ]
      refine held_one (i := 17) rfl (by kernel_rfl) ?_
      intro K' hK; have HK' := Lib.hid hK; clear hK hS
      refine wp_putC (by rfl) (.tmp 61) (.tmp 58) rfl HD.out rfl (.int .i64 u2) rfl [.int .i64 u2] rfl (by rw [HCZ]; simp; omega) size3 (by simp [Value.oneCell']) ?_
      intro WN HW
      have HZN : (splice cs6 (30 + k) [.int .i64 u2]).size = 53 := by rw [splice_size]; exact HCZ
      have H7 := Lib.hid HW
      refine HK'.out _ _ ⟨⟨_, HZN, HW⟩, ?_⟩
      clear HK' K' HW HD H6
      try simp only [Act.put, List.getElem_toArray, List.getElem_cons_zero, List.getElem_cons_succ, List.setIfInBounds_toArray, List.set_cons_zero, List.set_cons_succ]
      refine wpAnyH_done (by kernel_rfl) ?_ _
      have RES7 := HRES
      go_wp2_with fail
      go_roundg (4 - (k + 1))
      case measure => have := HG.out; omega
      case rel =>
        refine ⟨k + 1, _, rfl, by omega, by rw [Int.natCast_add]; rfl, HBX.out.step HCS.out hk, ?_⟩
        have e1 : mgM lk sz P k = (r1, r2) := by unfold mgM; rw [HXD.out]; exact RES5.out
        have e2 : pdM lk sz P k = (t1, t2) := by unfold pdM; rw [HXD.out]; exact RES6.out
        have e3 : bdM lk sz P k = u2 := by unfold bdM; rw [HXD.out, RES7.out]
        rw [e1, e2, e3]
        have q := H7.out
        rw [← H6E.out, ← H5E.out] at q
        exact q

    · have hke : k = 4 := by omega
      subst hke
      go_wp2_with fail
      refine ⟨rfl, _, results_none rfl _ _ _, rfl, csk, HBX.out, ?_⟩
      have q := St.sh [_, _, _, _] [1, 2, 3, 0] (by decide) H4.out
      exact q.drop.drop.drop
end Go.Proofs.YtldembadjgibjaaGreatDoor
