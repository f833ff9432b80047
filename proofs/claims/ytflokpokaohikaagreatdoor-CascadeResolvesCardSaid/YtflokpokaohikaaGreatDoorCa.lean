/-
  CascadeResolves: a look-up in an empty map; the method get of the computer.
-/
import Derived.Test.YtflokpokaohikaaGreatDoorProg
import Derived.Test.YtflokpokaohikaaGreatDoorKb
import Derived.Maps.OwnSet
import Derived.StillTailTactics
import Derived.BigQuiet
import Derived.Deep.RegionHeld3
import Derived.Lib.QuietBelow
set_option linter.unusedVariables false
set_option linter.unusedSimpArgs false
namespace Go.Proofs.YtflokpokaohikaaGreatDoor
open Go.RowKit Go.K Go.Maps Go.WideMaps

theorem key9 : Keyed Tryz.prog 9 := string_keyed Tryz.underlying9
theorem look_empty (w : World) (bm : Nat) (s : ByteArray) (hb : w.heap[bm]? = some (.map #[] 0)) (hs : s.size ≤ maxLen) :
    (Instr.lookup 38 (.map (some bm)) (.string s) true).run Tryz.prog w = .ok (.tuple #[.agg #[.int .i64 0, .int .i64 0, .string ⟨#[]⟩], .bool false]) w := by
  have hkey := keyOf_string_mk Tryz.underlying9 hs
  rcases key9.find w hkey [] (by simp) with ⟨f1, _⟩ | ⟨j, e0, _, f2, _⟩
  · simp [Instr.lookup, run_underlying Tryz.underlying38, MapKept.run_getObj_map hb, key9.check w _ hkey, f1, Tryz.zeroValue42 w, Result.andThen]
  · simp at f2
theorem wpl_lookup {P : Program} (w : World) {ops : Array Oper} {rest : List Oper} {o : Oper} {a : Act} {Q : Exit → Act → World → Prop} (hg : o.guard = none) (m x : Operand) (t : TypeId) (hop : o.op = Op.lookup t m x true)
    (vm vx v : Value) (hm : a.eval m = vm) (hx : a.eval x = vx) (hrun : (Instr.lookup t vm vx true).run P w = .ok v w)
    (hK : wpList P ops Q rest (a.put o.dst v) w) : wpList P ops Q (o :: rest) a w := by
  refine wpList_plain hg fun K' hK' => ?_
  unfold Oper.wp
  simp [execOp, hop, hm, hx, hrun, Result.andThen]
  exact hK' _ _ hK

theorem size42 : (Tryz.prog.info? 42).map (·.size) = some 3 := by kernel_rfl
theorem size26 : (Tryz.prog.info? 26).map (·.size) = some 2 := by kernel_rfl
theorem size31 : (Tryz.prog.info? 31).map (·.size) = some 53 := by kernel_rfl
set_option maxRecDepth 100000 in
set_option maxHeartbeats 2000000 in
theorem get_c {w : World} {bc bm : Nat} (s : ByteArray) (hc : w.cell? ⟨bc, 0, none⟩ = some (.map (some bm))) (hm : w.heap[bm]? = some (.map #[] 0)) (hs : s.size ≤ maxLen) :
    Calls Tryz.prog 16 #[.pointer (some ⟨bc, 0, none⟩), .string s] w fun e w' => e = .returned (.tuple #[.agg #[.int .i64 0, .int .i64 0, .string ⟨#[]⟩], .int .i64 0]) ∧ Below w.heap.size w w' := by
  have hlt : bm < w.heap.size := lt_of_block hm
  have hc' : ∀ o, (w.alloc o).cell? ⟨bc, 0, none⟩ = some (.map (some bm)) := fun o => (World.cell?_of_block (Below.heap_alloc w o _ (World.block_lt_of_cell? w _ hc))).trans hc
  have hm' : ∀ o, (w.alloc o).heap[bm]? = some (.map #[] 0) := fun o => (Below.heap_alloc w o _ hlt).trans hm
  go_enter Tryz.func16, Tryz.ntmps16
  go_wp2_with (first
    | (at_lookup; refine wpl_lookup _ rfl _ _ 38 rfl (.map (some bm)) (.string s) _ rfl rfl (look_empty _ bm s (hm' _) hs) ?_)
    | fail)
  have hh : ((w.alloc (Obj.cells #[.int .i64 0, .int .i64 0, .string ⟨#[]⟩] 42)).alloc (Obj.cells #[.int .i64 0, .int .i64 0, .string ⟨#[]⟩] 42)).heap[w.heap.size]? = some (.cells #[.int .i64 0, .int .i64 0, .string ⟨#[]⟩] 42 (0, 0)) :=
    (Below.heap_alloc _ _ _ (by rw [World.size_alloc]; exact Nat.lt_succ_self _)).trans (Go.MapKept.heap_alloc w _).1
  have hl := run_loadVar_row (P := Tryz.prog) _ w.heap.size 42 42 _ (0, 0) _ hh Tryz.underlying42 rfl size42
  refine bodyPost_ret (v := .tuple #[.agg #[.int .i64 0, .int .i64 0, .string ⟨#[]⟩], .int .i64 0]) (by rw [results_cell_tmp Tryz.results16]; simp [hl, asAddr, Sem.run_bind]) rfl ⟨rfl, ?_⟩
  exact ((Below.refl _ _).alloc (Nat.le_refl _) _).alloc (by rw [World.size_alloc]; exact Nat.le_succ _) _
/-- what get of the computer is called at -/
structure Comp (w : World) (bc bm : Nat) : Prop where
  cell : w.cell? ⟨bc, 0, none⟩ = some (.map (some bm))
  map : w.heap[bm]? = some (.map #[] 0)
theorem Comp.below {w w' : World} {bc bm : Nat} (h : Comp w bc bm) (hb : Below w.heap.size w w') : Comp w' bc bm :=
  ⟨(World.cell?_of_block (hb.block _ (World.block_lt_of_cell? w _ h.cell))).trans h.cell, (hb.block _ (lt_of_block h.map)).trans h.map⟩
theorem Comp.alloc {w : World} {bc bm : Nat} (h : Comp w bc bm) (o : Obj) : Comp (w.alloc o) bc bm := h.below ((Below.refl _ _).alloc (Nat.le_refl _) o)
abbrev zval : List Value := [.int .i64 0, .int .i64 0, .string ⟨#[]⟩]
theorem get_st {w0 w : World} {L : List As} {bc bm : Nat} (s : ByteArray) (hs : s.size ≤ maxLen) (hc : Comp w bc bm) (h : St w0 w L) :
    Calls Tryz.prog 16 #[.pointer (some ⟨bc, 0, none⟩), .string s] w fun e w' => e = .returned (.tuple #[.agg #[.int .i64 0, .int .i64 0, .string ⟨#[]⟩], .int .i64 0]) ∧ Comp w' bc bm ∧ St w0 w' L ∧ Below w.heap.size w w' := by
  refine (get_c s hc.cell hc.map hs).mono ?_
  rintro e w' ⟨he, hb⟩
  exact ⟨he, hc.below hb, h.of_below hb, hb⟩
set_option maxRecDepth 100000 in
set_option maxHeartbeats 2000000 in
theorem long_c {w : World} {bc bm : Nat} (s : ByteArray) (pk pv k v : Int) (hc : Comp w bc bm) (hs : s.size ≤ maxLen) :
    Calls Tryz.prog 14 #[.pointer (some ⟨bc, 0, none⟩), .string s, .agg #[.int .i64 pk, .int .i64 pv], .agg #[.int .i64 k, .int .i64 v]] w fun e w' => e = .returned (.agg #[.int .i64 k, .int .i64 v]) ∧ Below w.heap.size w w' := by
  have h0 := ((St.start w (Below.refl _ _)).new #[.int .i64 pk, .int .i64 pv] 26)
  have h1 := h0.drop.new #[.int .i64 k, .int .i64 v] 26
  have h2 := h1.new #[.int .i64 0, .int .i64 0] 26
  rw [World.size_alloc, World.size_alloc] at h2
  have hc2 := ((hc.alloc (.cells #[.int .i64 pk, .int .i64 pv] 26)).alloc (.cells #[.int .i64 k, .int .i64 v] 26)).alloc (.cells #[.int .i64 0, .int .i64 0] 26)
  have H2 := Lib.hid h2
  have HC := Lib.hid hc2
  clear h0 h1 h2 hc2 hc
  go_enter Tryz.func14, Tryz.ntmps14
  go_wp2_with (first
    | (go_at_call 16; refine (get_st s hs HC.out H2.out).mono ?_; rintro e w6 ⟨rfl, -, h6, -⟩; have H6 := Lib.hid (h6.alloc (.cells #[.int .i64 0, .int .i64 0, .string ⟨#[]⟩] 42)); clear h6)
    | (refine st_load rfl (.tmp 7) rfl [.int .i64 k, .int .i64 v] H6.out (.tail _ (.head _)) rfl rfl Tryz.underlying26 rfl size26 ?_)
    | (refine st_store rfl (.tmp 8) (.tmp 26) rfl H6.out [.int .i64 k, .int .i64 v] rfl rfl rfl rfl size26 (by simp [Value.oneCell']) ?_; intro W8 HW8; have H8 := Lib.hid HW8; clear HW8)
    | fail)
  refine bodyPost_ret (results_cell_row (P := Tryz.prog) Tryz.results14 _ _ (w.heap.size + 1 + 1) 26 #[.int .i64 k, .int .i64 v] _ _ rfl H8.out.blk.1 Tryz.underlying26 rfl size26) rfl ⟨rfl, H8.out.bel⟩
set_option maxRecDepth 100000 in
set_option maxHeartbeats 2000000 in
theorem word_c {w : World} {bc bm : Nat} (s words : ByteArray) (p st : Int) (inh : Bool) (hc : Comp w bc bm) (hs : s.size ≤ maxLen) :
    Calls Tryz.prog 13 #[.pointer (some ⟨bc, 0, none⟩), .string s, .string words, .int .i64 p, .int .i64 st, .bool inh] w fun e w' => e = .returned (.int .i64 (if inh then p else st)) ∧ Below w.heap.size w w' := by
  have H0 := Lib.hid (St.start w (Below.refl _ _))
  have HC := Lib.hid hc
  clear hc
  cases inh with
  | true =>
    go_enter Tryz.func13, Tryz.ntmps13
    go_wp2_with (first
      | (go_at_call 16; refine (get_st s hs HC.out H0.out).mono ?_; rintro e w6 ⟨rfl, -, h6, -⟩; have H6 := Lib.hid (h6.alloc (.cells #[.int .i64 0, .int .i64 0, .string ⟨#[]⟩] 42)); clear h6)
      | fail)
    refine bodyPost_ret (results_tmp Tryz.results13 _ _ _) rfl ⟨rfl, H6.out.bel⟩
  | false =>
    go_enter Tryz.func13, Tryz.ntmps13
    go_wp2_with (first
      | (go_at_call 16; refine (get_st s hs HC.out H0.out).mono ?_; rintro e w6 ⟨rfl, -, h6, -⟩; have H6 := Lib.hid (h6.alloc (.cells #[.int .i64 0, .int .i64 0, .string ⟨#[]⟩] 42)); clear h6)
      | fail)
    refine bodyPost_ret (results_tmp Tryz.results13 _ _ _) rfl ⟨rfl, H6.out.bel⟩
set_option maxRecDepth 100000 in
set_option maxHeartbeats 2000000 in
theorem number_c {w : World} {bc bm : Nat} (s : ByteArray) (per p st : Int) (hc : Comp w bc bm) (hs : s.size ≤ maxLen) :
    Calls Tryz.prog 15 #[.pointer (some ⟨bc, 0, none⟩), .string s, .int .i64 per, .int .i64 p, .int .i64 st] w fun e w' => e = .returned (.int .i64 st) ∧ Below w.heap.size w w' := by
  have H0 := Lib.hid (St.start w (Below.refl _ _))
  have HC := Lib.hid hc
  clear hc
  go_enter Tryz.func15, Tryz.ntmps15
  go_wp2_with (first
    | (go_at_call 16; refine (get_st s hs HC.out H0.out).mono ?_; rintro e w6 ⟨rfl, -, h6, -⟩; have H6 := Lib.hid (h6.alloc (.cells #[.int .i64 0, .int .i64 0, .string ⟨#[]⟩] 42)); clear h6)
    | fail)
  refine bodyPost_ret (results_tmp Tryz.results15 _ _ _) rfl ⟨rfl, H6.out.bel⟩
end Go.Proofs.YtflokpokaohikaaGreatDoor
