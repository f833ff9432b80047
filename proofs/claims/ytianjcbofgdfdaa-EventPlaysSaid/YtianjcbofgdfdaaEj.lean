/-
  Contracts of the law's small functions: Few, listener, equal, and the chapter's Add.
-/
import Derived.Test.YtianjcbofgdfdaaEi
set_option linter.unusedVariables false
set_option linter.unusedSimpArgs false
namespace Go.Proofs.Ytianjcbofgdfdaa
open Go.RowKit Go.K Go.K.Ev

/-- an event as the law hands it over -/
structure Evt where
  ty : ByteArray
  bub : Bool
  can : Bool
  path : List Tg
abbrev evVal (ty : ByteArray) (bub can : Bool) (s : Option Addr) (n c : Nat) : Value := .agg #[.string ty, .bool bub, .bool can, .slice s n c]

set_option maxHeartbeats 1000000 in
theorem few_any (s0 : Option Addr) (n0 c0 : Nat) (ty : ByteArray) (bub can : Bool) (s1 : Option Addr) (n1 c1 : Nat) (s2 : Option Addr) (n2 c2 : Nat) (w : World) :
    Calls Try.prog 12 #[.slice s0 n0 c0, evVal ty bub can s1 n1 c1, .slice s2 n2 c2] w fun e w' => e = .returned (.bool (decide (n0 ≤ 40) && (decide (n1 ≤ 12) && decide (n2 ≤ 30)))) ∧ Below w.heap.size w w' := by
  by_cases h0 : n0 ≤ 40
  · have e0 : decide ((n0 : Int) ≤ 40) = true := by simp; omega
    by_cases h1 : n1 ≤ 12
    · have e1 : decide ((n1 : Int) ≤ 12) = true := by simp; omega
      by_cases h2 : n2 ≤ 30
      · have e2 : decide ((n2 : Int) ≤ 30) = true := by simp; omega
        have hres := Lib.hid (show (decide (n0 ≤ 40) && (decide (n1 ≤ 12) && decide (n2 ≤ 30))) = true by simp [h0, h1, h2])
        go_enter Try.func12, Try.ntmps12
        go_wp2_with fail
        go_ret
        exact ⟨by rw [hres.out]; rfl, (Below.refl _ _).alloc (Nat.le_refl _) _⟩
      · have e2 : decide ((n2 : Int) ≤ 30) = false := by simp; omega
        have hres := Lib.hid (show (decide (n0 ≤ 40) && (decide (n1 ≤ 12) && decide (n2 ≤ 30))) = false by simp [h2])
        go_enter Try.func12, Try.ntmps12
        go_wp2_with fail
        go_ret
        exact ⟨by rw [hres.out]; rfl, (Below.refl _ _).alloc (Nat.le_refl _) _⟩
    · have e1 : decide ((n1 : Int) ≤ 12) = false := by simp; omega
      have hres := Lib.hid (show (decide (n0 ≤ 40) && (decide (n1 ≤ 12) && decide (n2 ≤ 30))) = false by simp [h1])
      go_enter Try.func12, Try.ntmps12
      go_wp2_with fail
      go_ret
      exact ⟨by rw [hres.out]; rfl, (Below.refl _ _).alloc (Nat.le_refl _) _⟩
  · have e0 : decide ((n0 : Int) ≤ 40) = false := by simp; omega
    have hres := Lib.hid (show (decide (n0 ≤ 40) && (decide (n1 ≤ 12) && decide (n2 ≤ 30))) = false by simp [h0])
    go_enter Try.func12, Try.ntmps12
    go_wp2_with fail
    go_ret
    exact ⟨by rw [hres.out]; rfl, (Below.refl _ _).alloc (Nat.le_refl _) _⟩

set_option maxHeartbeats 1000000 in
theorem listener_any (x : Li) (w : World) : Calls Try.prog 27 #[lval x] w fun e w' => e = .returned (lval x) ∧ Below w.heap.size w w' := by
  obtain ⟨x0, ⟨x1, x2⟩, x3, x4, x5, x6, x7⟩ := x
  unfold lval
  go_enter Try.func27, Try.ntmps27
  go_wp2_with fail
  refine bodyPost_ret (v := .agg #[.int .i64 x0, .int .i64 x1, .int .i64 x2, .string x3, .int .i64 x4, .bool x5, .bool x6, .bool x7]) (by simp [results, Try.results27, go_sem]) rfl ⟨rfl, ?_⟩
  exact ((Below.refl _ _).alloc (Nat.le_refl _) _).alloc (by simp) _

set_option maxHeartbeats 1000000 in
theorem equal_any (x y : Li) (w : World) : Calls Try.prog 45 #[lval x, lval y] w fun e w' => e = .returned (.bool (eqL x y)) ∧ Below w.heap.size w w' := by
  obtain ⟨x0, ⟨x1, x2⟩, x3, x4, x5, x6, x7⟩ := x
  obtain ⟨y0, ⟨y1, y2⟩, y3, y4, y5, y6, y7⟩ := y
  unfold lval eqL Tg.same
  go_enter Try.func45, Try.ntmps45
  go_wp2_with fail
  all_goals
    go_ret
    exact ⟨by first | rfl | (congr 2; simp [*]), ((Below.refl _ _).alloc (Nat.le_refl _) _).alloc (by simp) _⟩

theorem infoM : (Try.prog.info? 55).map (fun i => (i.zero, i.size, i.bytes)) = some (some (.agg #[.int .i64 0, .int .i64 0, .int .i64 0, .string ByteArray.empty, .int .i64 0, .bool false, .bool false, .bool false]), 8, 56) := by kernel_rfl
theorem elM : El Try.prog 22 55 8 56 := by
  obtain ⟨i, hi, h1, h2, h3⟩ := info_parts infoM
  exact ⟨by kernel_rfl, ⟨i, _, hi, h1, h2, h3, rfl⟩, by decide⟩

abbrev mVal (s : Option Addr) (n c : Nat) (nx : Int) : Value := .agg #[.slice s n c, .int .i64 nx]

def RAddRel (x : Li) (ls : List Li) (W : World) (n : Nat) (g : Nat) (v : Value) (wr : World) : Prop :=
  ∃ k : Nat, g = n - k ∧ k ≤ n ∧ v = .int .i64 k ∧ Below W.heap.size W wr ∧ ∀ j (hj : j < ls.length), j < k → eqL ls[j] x = false
def RAddPost (S : Ls) (x : Li) (s : Option Addr) (c : Nat) (w : World) (E : Ending) (w' : World) : Prop :=
  ∃ s' c', E = .returned (.tuple #[mVal s' (S.add x).l.length c' (S.add x).nx, .int .i64 (S.addId x)]) ∧ Rc w' 8 s' (S.add x).l.length c' (flat lcells (S.add x).l) ∧ ((s' = s ∧ c' = c ∧ S.add x = S) ∨ NewAt w s') ∧ Below w.heap.size w w'

theorem radd_fin {w V w3 : World} {s s2 : Option Addr} {c c2 r : Nat} {S : Ls} {x : Li} (hh : S.has x = false) (hb : Below w.heap.size w w3)
    (o : Own V w3 55 8 s2 (S.l.length + 1) c2 (flat lcells S.l ++ #[Value.int .i64 (S.nx + 1), .int .i64 x.tg.kind, .int .i64 x.tg.id, .string x.ty, .int .i64 x.cb, .bool x.cap, .bool x.once, .bool x.pas].toList)) (h1 : r < V.heap.size) (h2 : w.heap.size ≤ r) :
    RAddPost S x s c w (.returned (.tuple #[mVal s2 (S.l.length + 1) c2 (S.nx + 1), .int .i64 (S.nx + 1)])) ((w3.setCell ⟨r, 0, none⟩ (.slice s2 (S.l.length + 1) c2)).setCell ⟨r, 1, none⟩ (.int .i64 (S.nx + 1))) := by
  have ha : S.add x = ⟨S.l ++ [{ x with id := S.nx + 1 }], S.nx + 1⟩ := by simp [Ls.add, hh]
  have hi : S.addId x = S.nx + 1 := by simp [Ls.addId, hh]
  unfold RAddPost
  rw [ha, hi]
  refine ⟨s2, c2, by simp, ?_, .inr (fun k hk => by have := o.row k hk; omega), (hb.setCell (p := ⟨r, 0, none⟩) h2 _).setCell (p := ⟨r, 1, none⟩) h2 _⟩
  have := ((o.put (p := ⟨r, 0, none⟩) h1 (.slice s2 (S.l.length + 1) c2)).put o.row (p := ⟨r, 1, none⟩) h1 (.int .i64 (S.nx + 1))).rc
  simp only [List.length_append, List.length_cons, List.length_nil, Nat.zero_add]
  rw [flat_append, flat_one]
  exact this
set_option maxRecDepth 100000 in
set_option maxHeartbeats 4000000 in
theorem radd_any (s : Option Addr) (c : Nat) (S : Ls) (x : Li) (w : World) (hs : Rc w 8 s S.l.length c (flat lcells S.l)) (hn : S.l.length ≤ 10000) (hx : 0 ≤ S.nx) (hx2 : S.nx ≤ 4294967296) :
    Calls Try.prog 26 #[mVal s S.l.length c S.nx, lval x] w (RAddPost S x s c w) := by
  have hw1 : IntKind.i64.wrap (S.nx + 1) = S.nx + 1 := by rw [IntKind.wrap_i64]; omega
  have HS := Lib.hid hs
  obtain ⟨W, hW⟩ : ∃ W, W = ((w.alloc (.cells #[.slice s S.l.length c, .int .i64 S.nx] 34)).alloc (.cells (lrow x) 55)).alloc (.cells #[.slice none 0 0, .int .i64 0] 34) := ⟨_, rfl⟩
  have B0 : Hid (Below w.heap.size w W) := Lib.hid (by rw [hW]; exact (((Below.refl _ _).alloc (Nat.le_refl _) _).alloc (by simp) _).alloc (by simp; omega) _)
  have K0 : Hid (Blk W w.heap.size #[.slice s S.l.length c, .int .i64 S.nx] 34) := Lib.hid (by rw [hW]; exact ((Blk.new w _ 34).alloc _).alloc _)
  have K1 : Hid (Blk W (w.heap.size + 1) (lrow x) 55) := Lib.hid (by rw [hW]; exact (blk_new _ _ _ _ (by simp)).alloc _)
  have K2 : Hid (Blk W (w.heap.size + 1 + 1) #[.slice none 0 0, .int .i64 0] 34) := Lib.hid (by rw [hW]; exact blk_new _ _ _ _ (by simp))
  have hWs : Hid (W.heap.size = w.heap.size + 1 + 1 + 1) := Lib.hid (by rw [hW]; simp)
  have HR := Lib.hid (hs.below B0.out)
  obtain ⟨x0, ⟨x1, x2⟩, x3, x4, x5, x6, x7⟩ := x
  unfold lrow at hW K1
  unfold lval
  have HW := Lib.hid hW
  clear hs hW
  go_enter Try.func26, Try.ntmps26
  go_wp2_with fail
  rw [← HW.out]
  go_loopg [10] S.l.length (RAddRel ⟨x0, ⟨x1, x2⟩, x3, x4, x5, x6, x7⟩ S.l W S.l.length)
  case atStart => exact ⟨0, rfl, Nat.zero_le _, rfl, Below.refl _ _, by intro j hj h; omega⟩
  case round =>
    obtain ⟨k, hg, hk, rfl, hb, hall⟩ := hrel
    have Hg := Lib.hid hg
    have HA := Lib.hid hall
    have HB := Lib.hid hb
    have HR2 := Lib.hid (HR.out.below hb)
    have k0 := K0.out.kept (Fr.of_below hb) (fun q => q)
    have k1 := K1.out.kept (Fr.of_below hb) (fun q => q)
    have k2 := K2.out.kept (Fr.of_below hb) (fun q => q)
    obtain ⟨a0, a1, af0, af1⟩ := k0.two
    obtain ⟨y0, y1, y2, y3, y4, y5, y6, y7⟩ := Blk.c8 k1
    have hyf := k1.free 0
    obtain ⟨b0, b1, bf0, bf1⟩ := k2.two
    have KK1 := Lib.hid k1
    have KK2 := Lib.hid k2
    have hlt2 := k2.lt
    have hlt1 := k1.lt
    have hlt0 := k0.lt
    clear hg hall hb k0 k1 k2
    by_cases hkn : k < S.l.length
    · obtain ⟨g, off, rfl, -⟩ := HR2.out.rd.addr (by omega)
      obtain ⟨y, hy⟩ : ∃ y, S.l[k] = y := ⟨_, rfl⟩
      obtain ⟨d0, d1, d2, d3, d4, d5, d6, d7⟩ := l_at HR2.out.rd hkn y hy
      have HY := Lib.hid hy
      have hkn' : (k : Int) < (S.l.length : Int) := by omega
      clear hy
      go_wp2_with fail
      go_still_tail 6, (by kernel_rfl)
      change wpList _ _ _ _ _ wr.drew
      go_wp2_with fail
      refine (equal_any y ⟨x0, ⟨x1, x2⟩, x3, x4, x5, x6, x7⟩ _).mono ?_
      rintro e w2 ⟨rfl, hb2⟩
      have hb3 : Below wr.heap.size wr w2 := ⟨hb2.os, hb2.tape, hb2.output, hb2.size, hb2.block⟩
      have HB3 := Lib.hid hb3
      obtain ⟨b0', b1', bf0', bf1'⟩ := (KK2.out.kept (Fr.of_below hb3) (fun q => q)).two
      have a0' := (hb3.cell (p := ⟨w.heap.size, 0, none⟩) hlt0).trans a0
      have a1' := (hb3.cell (p := ⟨w.heap.size, 1, none⟩) hlt0).trans a1
      clear hb2 hb3 d0 d1 d2 d3 d4 d5 d6 d7 y0 y1 y2 y3 y4 y5 y6 y7 a0 a1 b0 b1 bf0 bf1
      cases he : eqL y ⟨x0, ⟨x1, x2⟩, x3, x4, x5, x6, x7⟩ with
      | true =>
        have hhas : Hid (S.has ⟨x0, ⟨x1, x2⟩, x3, x4, x5, x6, x7⟩ = true) := Lib.hid (by
          unfold Ls.has
          refine List.any_eq_true.2 ⟨y, ?_, by rw [eqL_comm]; exact he⟩
          rw [← HY.out]; exact List.getElem_mem hkn)
        clear he
        go_wp2_with fail
        refine bodyPost_ret (v := .tuple #[mVal (some ⟨g, off, none⟩) S.l.length c S.nx, .int .i64 0]) (by simp [results, Try.results26, go_sem, b0', b1']) rfl ?_
        have hadd : S.add ⟨x0, ⟨x1, x2⟩, x3, x4, x5, x6, x7⟩ = S := by simp [Ls.add, hhas.out]
        have haid : S.addId ⟨x0, ⟨x1, x2⟩, x3, x4, x5, x6, x7⟩ = 0 := by simp [Ls.addId, hhas.out]
        unfold RAddPost
        rw [hadd, haid]
        have hB := B0.out.trans ((HB.out.trans (HB3.out.mono HB.out.size)).mono B0.out.size)
        refine ⟨_, c, rfl, ?_, .inl ⟨rfl, rfl, rfl⟩, (hB.setCell (p := ⟨w.heap.size + 1 + 1, 0, none⟩) (by simp; omega) _).setCell (p := ⟨w.heap.size + 1 + 1, 1, none⟩) (by simp; omega) _⟩
        exact HS.out.below ((hB.setCell (p := ⟨w.heap.size + 1 + 1, 0, none⟩) (by simp; omega) _).setCell (p := ⟨w.heap.size + 1 + 1, 1, none⟩) (by simp; omega) _)
      | false =>
        have HE := Lib.hid he
        clear he
        go_wp2_with fail
        go_roundg (S.l.length - (k + 1))
        case measure => have := Hg.out; omega
        case rel =>
          refine ⟨k + 1, rfl, by omega, by simp, HB.out.trans (HB3.out.mono HB.out.size), fun j hj hjk => ?_⟩
          by_cases e : j = k
          · subst e; rw [HY.out]; exact HE.out
          · exact HA.out j hj (by omega)
    · have hhas : Hid (S.has ⟨x0, ⟨x1, x2⟩, x3, x4, x5, x6, x7⟩ = false) := Lib.hid (by
        unfold Ls.has
        refine List.any_eq_false.2 fun y hy => ?_
        obtain ⟨j, hj, rfl⟩ := List.getElem_of_mem hy
        rw [eqL_comm, HA.out j hj (by omega)]; simp)
      go_upto_region 8 with fail
      have kx := KK1.out.set 0 (.int .i64 (S.nx + 1))
      simp at kx
      have k2' := KK2.out.other (p := ⟨w.heap.size + 1, 0, none⟩) (by simp) (.int .i64 (S.nx + 1))
      have k0' := (K0.out.kept (Fr.of_below HB.out) (fun q => q)).other (p := ⟨w.heap.size + 1, 0, none⟩) (by simp) (.int .i64 (S.nx + 1))
      have hbv := (B0.out.trans (HB.out.mono B0.out.size)).setCell (p := ⟨w.heap.size + 1, 0, none⟩) (by simp) (.int .i64 (S.nx + 1))
      have hrv := HR2.out.kept0 (S := fun k => k = w.heap.size + 1) (Fr.setCell (S := fun k => k = w.heap.size + 1) (p := ⟨w.heap.size + 1, 0, none⟩) (Fr.refl _ wr) (fun _ => rfl) (.int .i64 (S.nx + 1))) (fun h0 k hk e => by have := HS.out.lt h0 k hk; omega)
      have hvs : (wr.setCell ⟨w.heap.size + 1, 0, none⟩ (.int .i64 (S.nx + 1))).heap.size = wr.heap.size := by simp
      clear a0 a1 af0 af1 y0 y1 y2 y3 y4 y5 y6 y7 hyf b0 b1 bf0 bf1
      generalize wr.setCell ⟨w.heap.size + 1, 0, none⟩ (.int .i64 (S.nx + 1)) = V at *
      obtain ⟨a0, a1, af0, af1⟩ := k0'.two
      obtain ⟨y0, y1, y2, y3, y4, y5, y6, y7⟩ := Blk.c8 kx
      obtain ⟨b0, b1, bf0, bf1⟩ := k2'.two
      have hv2 := k2'.lt
      have hv1 := kx.lt
      have hv0 := k0'.lt
      have KV := Lib.hid k2'
      clear hvs
      have HBV := Lib.hid hbv
      have HRV := Lib.hid hrv
      have hkeep : ∀ w', Below V.heap.size V w' → (w'.cell? ⟨w.heap.size, 0, none⟩ = some (.slice s S.l.length c) ∧ w'.cell? ⟨w.heap.size + 1, 0, none⟩ = some (.int .i64 (S.nx + 1)) ∧ w'.cell? ⟨w.heap.size + 1, 1, none⟩ = some (.int .i64 x1) ∧ w'.cell? ⟨w.heap.size + 1, 2, none⟩ = some (.int .i64 x2) ∧ w'.cell? ⟨w.heap.size + 1, 3, none⟩ = some (.string x3) ∧ w'.cell? ⟨w.heap.size + 1, 4, none⟩ = some (.int .i64 x4) ∧ w'.cell? ⟨w.heap.size + 1, 5, none⟩ = some (.bool x5) ∧ w'.cell? ⟨w.heap.size + 1, 6, none⟩ = some (.bool x6) ∧ w'.cell? ⟨w.heap.size + 1, 7, none⟩ = some (.bool x7)) :=
        fun w' h => ⟨(h.cell hv0).trans a0, (h.cell hv1).trans y0, (h.cell hv1).trans y1, (h.cell hv1).trans y2, (h.cell hv1).trans y3, (h.cell hv1).trans y4, (h.cell hv1).trans y5, (h.cell hv1).trans y6, (h.cell hv1).trans y7⟩
      have KP := Lib.hid hkeep
      have oa := (Own.fresh (Below.refl V.heap.size V) 55 8).drew
      have ob := ((Own.fresh (Below.refl V.heap.size V) 55 8).alloc (.cells #[.int .i64 (S.nx + 1), .int .i64 x1, .int .i64 x2, .string x3, .int .i64 x4, .bool x5, .bool x6, .bool x7] 55)).drew
      have oc := (Own.fresh_at ((Below.refl V.heap.size V).alloc (Nat.le_refl _) (.cells #[.int .i64 (S.nx + 1), .int .i64 x1, .int .i64 x2, .string x3, .int .i64 x4, .bool x5, .bool x6, .bool x7] 55)) 55 8 (V.heap.size + 1) (by simp)).drew
      have ra := (HRV.out.below oa.bel).rd
      have rb := (HRV.out.below ob.bel).rd
      have rc := (HRV.out.below oc.bel).rd
      have rxb := rd_built_at (V.alloc (.cells #[] 55)) #[.int .i64 (S.nx + 1), .int .i64 x1, .int .i64 x2, .string x3, .int .i64 x4, .bool x5, .bool x6, .bool x7] 55 8 1 (V.heap.size + 1) (by simp) rfl (by simp [Value.oneCell'])
      have rxc := (rd_built_at V #[.int .i64 (S.nx + 1), .int .i64 x1, .int .i64 x2, .string x3, .int .i64 x4, .bool x5, .bool x6, .bool x7] 55 8 1 V.heap.size rfl rfl (by simp [Value.oneCell'])).below ((Below.refl _ _).alloc (Nat.le_refl _) (.cells #[] 55))
      have RXB := Lib.hid (show Rd ((V.alloc (.cells #[] 55)).alloc (.cells #[.int .i64 (S.nx + 1), .int .i64 x1, .int .i64 x2, .string x3, .int .i64 x4, .bool x5, .bool x6, .bool x7] 55)).drew 8 _ 1 _ from ⟨rxb.len, rxb.one, rxb.nil, rxb.cells⟩)
      have RXC := Lib.hid (show Rd ((V.alloc (.cells #[.int .i64 (S.nx + 1), .int .i64 x1, .int .i64 x2, .string x3, .int .i64 x4, .bool x5, .bool x6, .bool x7] 55)).alloc (.cells #[] 55)).drew 8 _ 1 _ from ⟨rxc.len, rxc.one, rxc.nil, rxc.cells⟩)
      clear hkeep hrv kx k2' k0' hbv HR2 HR KK1 KK2 rxb rxc
      have hn32 : w.heap.size + 1 + 1 ≠ w.heap.size := by omega
      have hn23 : w.heap.size ≠ w.heap.size + 1 + 1 := by omega
      go_region_held3 (fun w' => w'.cell? ⟨w.heap.size, 0, none⟩ = some (.slice s S.l.length c) ∧ w'.cell? ⟨w.heap.size + 1, 0, none⟩ = some (.int .i64 (S.nx + 1)) ∧ w'.cell? ⟨w.heap.size + 1, 1, none⟩ = some (.int .i64 x1) ∧ w'.cell? ⟨w.heap.size + 1, 2, none⟩ = some (.int .i64 x2) ∧ w'.cell? ⟨w.heap.size + 1, 3, none⟩ = some (.string x3) ∧ w'.cell? ⟨w.heap.size + 1, 4, none⟩ = some (.int .i64 x4) ∧ w'.cell? ⟨w.heap.size + 1, 5, none⟩ = some (.bool x5) ∧ w'.cell? ⟨w.heap.size + 1, 6, none⟩ = some (.bool x6) ∧ w'.cell? ⟨w.heap.size + 1, 7, none⟩ = some (.bool x7))
        (first | exact KP.out _ o3.bel | exact KP.out _ o1.bel | exact KP.out _ oa.bel | exact KP.out _ ob.bel | exact KP.out _ oc.bel | go_keep)
        (first
          | ((refine step_append_own (by rfl) _ _ 22 (by rfl) elM _ 0 0 [] (by rfl) oa s S.l.length c (flat lcells S.l) (by rfl) ra (by omega) (by omega) ?_; intro s1 c1 w2 o1r f1 n1; have o1 := o1r; rw [Nat.zero_add, List.nil_append] at o1))
          | ((refine step_append_own (by rfl) _ _ 22 (by rfl) elM _ 0 0 [] (by rfl) ob s S.l.length c (flat lcells S.l) (by rfl) rb (by omega) (by omega) ?_; intro s1 c1 w2 o1r f1 n1; have o1 := o1r; rw [Nat.zero_add, List.nil_append] at o1; have rX := RXB.out.kept f1 (fun k hk e => by have h1 := Option.some.inj hk; have h2 := Option.some.inj e; simp only at h1 h2; omega)))
          | ((refine step_append_own (by rfl) _ _ 22 (by rfl) elM _ 0 0 [] (by rfl) oc s S.l.length c (flat lcells S.l) (by rfl) rc (by omega) (by omega) ?_; intro s1 c1 w2 o1r f1 n1; have o1 := o1r; rw [Nat.zero_add, List.nil_append] at o1; have rX := RXC.out.kept f1 (fun k hk e => by have h1 := Option.some.inj hk; have h2 := Option.some.inj e; simp only at h1 h2; omega)))
          | ((refine step_append_own (by rfl) _ _ 22 (by rfl) elM s1 S.l.length c1 _ (by rfl) o1 _ 1 _ _ (by rfl) rX (by omega) (by omega) ?_; intro s2 c2 w3 o3 f2 n2; obtain ⟨p0, p1, pf0, pf1⟩ := (o3.blk KV.out).two))
          | ((refine step_append_own (by rfl) _ _ 22 (by rfl) elM s1 (0 + S.l.length) c1 _ (by rfl) o1r _ 1 _ _ (by rfl) rX (by omega) (by omega) ?_; intro s2 c2 w3 o3 f2 n2; obtain ⟨p0, p1, pf0, pf1⟩ := (o3.blk KV.out).two))
          | ((refine step_append_own (by rfl) _ _ 22 (by rfl) elM s1 S.l.length c1 _ (by rfl) (o1.alloc _) _ 1 _ _ (by rfl) (rd_built_at w2 #[.int .i64 (S.nx + 1), .int .i64 x1, .int .i64 x2, .string x3, .int .i64 x4, .bool x5, .bool x6, .bool x7] 55 8 1 w2.heap.size rfl rfl (by simp [Value.oneCell'])) (by omega) (by omega) ?_; intro s2 c2 w3 o3 f2 n2; obtain ⟨p0, p1, pf0, pf1⟩ := (o3.blk KV.out).two))
          | ((refine step_append_own (by rfl) _ _ 22 (by rfl) elM s1 (0 + S.l.length) c1 _ (by rfl) (o1r.alloc _) _ 1 _ _ (by rfl) (rd_built_at w2 #[.int .i64 (S.nx + 1), .int .i64 x1, .int .i64 x2, .string x3, .int .i64 x4, .bool x5, .bool x6, .bool x7] 55 8 1 w2.heap.size rfl rfl (by simp [Value.oneCell'])) (by omega) (by omega) ?_; intro s2 c2 w3 o3 f2 n2; obtain ⟨p0, p1, pf0, pf1⟩ := (o3.blk KV.out).two)))
      all_goals
        go_wp2_with fail
        refine bodyPost_ret (v := .tuple #[mVal s2 (S.l.length + 1) c2 (S.nx + 1), .int .i64 (S.nx + 1)]) (by simp [results, Try.results26, go_sem, p0, p1]) rfl ?_
        try simp only [Nat.zero_add]
        exact radd_fin hhas.out (HBV.out.trans (o3.bel.mono HBV.out.size)) (by simpa only [Nat.zero_add, List.nil_append] using o3) (by omega) (by omega)
end Go.Proofs.Ytianjcbofgdfdaa
