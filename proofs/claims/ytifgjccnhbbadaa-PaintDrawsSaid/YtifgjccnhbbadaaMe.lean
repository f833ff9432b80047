/-
  Draw of an empty list in a window of one cell.
-/
import Derived.Test.YtifgjccnhbbadaaMd
import Derived.Deep.RegionLaw
import Derived.Test.YtifgjccnhbbadaaKp
set_option linter.unusedVariables false
set_option linter.unusedSimpArgs false
namespace Go.Proofs.Ytifgjccnhbbadaa
open Go.RowKit Go.K

/-- a call of a function, as one step of a region that draws -/
theorem step_call {P : Program} {ops : Array Oper} {o : Oper} {a : Act} {w : World} {K : Act → World → Prop} {Q : Exit → Act → World → Prop} {E : Prop} {f : FuncId} {fn : Func} {xs : Array Operand} {ts : Array TypeId} {vs : Array Value} {R : Ending → World → Prop}
    (hg : o.guard = none) (ho : o.op = .call { callee := .value (.func f), args := xs, argTypes := ts })
    (hf : P.funcs[f]? = some fn) (hn : (fn.name == "runtime.NumGoroutine") = false) (hb : fn.body.isNone = false) (hx : xs.map a.eval = vs)
    (hc : Calls P f vs w R) (hR : ∀ e w', R e w' → ∃ v, e = .returned v ∧ K (a.put o.dst v) w') :
    if Region.wanted o (yielded ops a.tmps) = true then Oper.wp P o a w K Q else E := by
  have hw : Region.wanted o (yielded ops a.tmps) = true := by simp [Region.wanted, hg]
  rw [if_pos hw]
  subst hx
  unfold Oper.wp
  have hrun : (execOp a.eval o).run P w = .ok (.enter f (xs.map a.eval)) w := by
    unfold execOp
    simp only [ho]
    have h1 := run_enter hf hn hb (xs.map a.eval) w
    simp [resolve, Deferred.ofValue, Act.eval, invoke] at h1 ⊢
    exact h1
  rw [hrun, Oper.upon_enter]
  refine hc.mono fun e w' h => ?_
  obtain ⟨v, rfl, hk⟩ := hR e w' h
  exact hk

theorem step_repeat {ops : Array Oper} {o : Oper} {a : Act} {w0 w : World} {L : List As} {K : Act → World → Prop} {Q : Exit → Act → World → Prop} {E : Prop} {ts : Array TypeId} {s : Option Addr} {c : Nat}
    (hg : o.guard = none) (x y : Operand) (ho : o.op = .call { callee := .value (.func 16), args := #[x, y], argTypes := ts }) (hx : a.eval x = .slice s 1 c) (hy : a.eval y = .int .i64 1)
    (h : St w0 w L) (hs : Rd w 1 s 1 [.int .i32 32]) (hK : ∀ s' c' w', St w0 w' (As.row 21 1 s' 1 c' [.int .i32 32] :: L) → K (a.put o.dst (.slice s' 1 c')) w') :
    if Region.wanted o (yielded ops a.tmps) = true then Oper.wp Try.prog o a w K Q else E :=
  step_call hg ho Try.func16 (by kernel_rfl) (by kernel_rfl) (by simp [hx, hy]) (repeat1 (c := c) h hs) (by rintro e w' ⟨s', c', rfl, h'⟩; exact ⟨_, rfl, hK s' c' w' h'⟩)

theorem infoRow : (Try.prog.info? 55).map (fun i => (i.zero, i.size, i.bytes)) = some (some (.slice none 0 0), 1, 24) := by kernel_rfl
theorem elRow : El Try.prog 52 55 1 24 := by
  obtain ⟨i, hi, h1, h2, h3⟩ := info_parts infoRow
  exact ⟨by kernel_rfl, ⟨i, _, hi, h1, h2, h3, rfl⟩, by decide⟩
theorem infoStr : (Try.prog.info? 9).map (fun i => (i.zero, i.size, i.bytes)) = some (some (.string ByteArray.empty), 1, 16) := by kernel_rfl
theorem elStr : El Try.prog 35 9 1 16 := by
  obtain ⟨i, hi, h1, h2, h3⟩ := info_parts infoStr
  exact ⟨by kernel_rfl, ⟨i, _, hi, h1, h2, h3, rfl⟩, by decide⟩

theorem parts_one (n : Int) (w : World) (h : n = 8 ∨ n = 16) : Calls Try.prog 15 #[.int .i64 n, .int .i64 n] w fun e w' => e = .returned (.int .i64 1) ∧ Below w.heap.size w w' := by
  rcases h with rfl | rfl
  · exact parts8 w
  · exact parts16 w

abbrev zScr : Array Value := #[.int .i64 0, .int .i64 0, .slice none 0 0]
abbrev cv (s : Option Addr) (n c : Nat) : Array Value := #[.int .i64 1, .int .i64 1, .slice s n c]
def CvObj (bc : Nat) (k : Nat) (L : List As) (w0 wr : World) : Prop :=
  (k = 0 ∧ St w0 wr (As.cells bc (cv none 0 0) 54 :: L)) ∨
  (k = 1 ∧ ∃ s c s' c', St w0 wr (As.cells bc (cv s 1 c) 54 :: As.row 55 1 s 1 c [.slice s' 1 c'] :: As.row 21 1 s' 1 c' [.int .i32 32] :: L))
def CvRel (bc : Nat) (L : List As) (w0 : World) (g : Nat) (v : Value) (wr : World) : Prop := ∃ k : Nat, g = 1 - k ∧ k ≤ 1 ∧ v = .int .i64 k ∧ CvObj bc k L w0 wr
def ScRel (b : Nat) (R : List As) (w0 : World) (g : Nat) (v12 v : Value) (wr : World) : Prop := ∃ k : Nat, g = 1 - k ∧ v = .int .i64 k ∧
  ((k = 0 ∧ St w0 wr (As.cells b (cv none 0 0) 37 :: R)) ∨ (k = 1 ∧ ∃ s c str, St w0 wr (As.cells b (cv s 1 c) 37 :: As.row 9 1 s 1 c [.string str] :: R)))
def DrPost (w0 : World) (L : List As) (e : Ending) (w' : World) : Prop := ∃ s c, e = .returned (.agg (cv s 1 c)) ∧ St w0 w' L

set_option maxRecDepth 100000 in
set_option maxHeartbeats 1000000 in
theorem draw_closed {w0 w : World} {L : List As} (h : St w0 w L) : Calls Try.prog 7 #[.slice none 0 0, .int .i64 8, .int .i64 16] w (DrPost w0 L) := by
  have H := Lib.hid (h.new zScr 37)
  clear h
  go_enter Try.func7, Try.ntmps7
  go_upto_region 2 with (go_at_call 15; refine (parts_one _ _ (by decide)).mono ?_; rintro e w1 ⟨rfl, hb1⟩; have H := Lib.hid (H.out.of_below hb1))
  have H := Lib.hid (H.out.new (cv none 0 0) 54)
  go_wp2_with fail
  obtain ⟨bc, hbc⟩ : ∃ b, w1.heap.size = b := ⟨_, rfl⟩
  obtain ⟨W, hW⟩ : ∃ W, w1.alloc (.cells (cv none 0 0) 54) = W := ⟨_, rfl⟩
  rw [hbc, hW] at H ⊢
  go_loopg [23] 1 (CvRel bc (As.cells w.heap.size zScr 37 :: L) w0)
  case atStart => exact ⟨0, rfl, by omega, rfl, .inl ⟨rfl, H.out⟩⟩
  case round =>
    obtain ⟨k, hg, hk, rfl, hO⟩ := hrel
    rcases hO with ⟨rfl, h0⟩ | ⟨rfl, s, c, s', c', h0⟩
    · obtain ⟨c0, c1, c2, f0, f1, f2⟩ := h0.blk.1.three
      have hlt := h0.blk.1.lt
      have H0 := Lib.hid h0
      clear h0
      go_upto_region 4 with fail
      have h1 := (H0.out.alloc (.cells #[.int .i32 32] 21)).drew
      have r0 := rd_built_at wr #[.int .i32 32] 21 1 1 wr.heap.size rfl rfl (by simp [Value.oneCell'])
      have r1 : Rd (wr.alloc (.cells #[.int .i32 32] 21)).drew 1 (some ⟨wr.heap.size, 0, none⟩) 1 [.int .i32 32] := ⟨r0.len, r0.one, r0.nil, r0.cells⟩
      have H1 := Lib.hid h1
      have R1 := Lib.hid r1
      clear h1 r0 r1
      go_region_law (first
        | (refine step_repeat (by rfl) _ _ (by rfl) (by rfl) (by rfl) H1.out R1.out ?_; intro s5 c5 w5 h5; have H5 := Lib.hid (h5.swap); have d2 := H5.out.cell 2; simp [cv] at d2; have lt5 := H5.out.blk.1.lt)
        | (refine step_append_any (by rfl) _ _ 52 (by rfl) elRow none _ 0 _ (by rfl) (Sl.nil _ _ _) _ 1 _ _ (by rfl) (rd_built _ #[.slice s5 1 c5] 55 1 1 rfl (by simp [Value.oneCell'])) (by omega) (by omega) ?_; intro so3 co3 w6 p1 p2 p3; have H6 := Lib.hid ((((H5.out.alloc _).row_nil 55 1).row_step p1 p2 p3).swap); have z2 := H6.out.cell 2; have zf := H6.out.free 2; simp [cv] at z2))
      all_goals
        have H7 := Lib.hid (H6.out.set 2 (.slice so3 1 co3))
        clear p1 p2 p3 z2 zf
        go_wp2_with fail
        go_roundg 0
        case rel => exact ⟨1, by omega, by omega, rfl, .inr ⟨rfl, so3, co3, s5, c5, by simpa using H7.out⟩⟩
        case measure => omega
    · have H0 := Lib.hid h0
      clear h0
      go_wp2_with fail
      go_loopg [43] 0 (fun g v wr => g = 0 ∧ v = .int .i64 0 ∧ St w0 wr (As.cells bc (cv s 1 c) 54 :: As.row 55 1 s 1 c [.slice s' 1 c'] :: As.row 21 1 s' 1 c' [.int .i32 32] :: As.cells w.heap.size zScr 37 :: L))
      case atStart => exact ⟨rfl, rfl, H0.out⟩
      case round =>
        obtain ⟨-, rfl, h1⟩ := hrel
        have H1 := Lib.hid h1
        clear h1
        obtain ⟨c0, c1, c2, f0, f1, f2⟩ := H1.out.blk.1.three
        have hlt := H1.out.blk.1.lt
        go_upto_region 16 with fail
        go_region
        have H2 := Lib.hid ((H1.out.new (cv none 0 0) 37).drew)
        obtain ⟨d0, d1, d2, e0, e1, e2⟩ := H2.out.blk.1.three
        obtain ⟨W, hW⟩ : ∃ W, (wr.alloc (.cells (cv none 0 0) 37)).drew = W := ⟨_, rfl⟩
        obtain ⟨b10, hb10⟩ : ∃ b, wr.heap.size = b := ⟨_, rfl⟩
        rw [hW, hb10] at H2 d0 d1 d2 e0 e1 e2 ⊢
        clear hW hb10 c0 c1 c2 f0 f1 f2
        obtain ⟨c0, c1, c2, f0, f1, f2⟩ := H2.out.drop.blk.1.three
        go_wp2_with fail
        go_loopg [12, 90] 1 (ScRel b10 (As.cells bc (cv s 1 c) 54 :: As.row 55 1 s 1 c [.slice s' 1 c'] :: As.row 21 1 s' 1 c' [.int .i32 32] :: As.cells w.heap.size zScr 37 :: L) w0)
        case atStart => exact ⟨0, rfl, rfl, .inl ⟨rfl, H2.out⟩⟩
        case round =>
          obtain ⟨k, hg, rfl, hO⟩ := hrel
          rcases hO with ⟨rfl, h0⟩ | ⟨rfl, s9, c9, str, h0⟩
          · have hr1 := h0.drop.drop.sl.rd
            have hr2 := h0.drop.drop.drop.sl.rd
            obtain ⟨g1, o1, rfl, q1⟩ := hr1.addr (by decide)
            obtain ⟨g2, o2, rfl, q2⟩ := hr2.addr (by decide)
            have q1 := q1 0 _ rfl
            have q2 := q2 0 _ rfl
            simp only [Nat.add_zero] at q1 q2
            obtain ⟨d0, d1, d2, e0, e1, e2⟩ := h0.blk.1.three
            have HH := Lib.hid h0
            clear h0 hr1 hr2
            have hcv := run_convert_runes (P := Try.prog) wr 55 9 21 ⟨g2, o2, none⟩ 1 c' [32] (by simp) (by kernel_rfl) (by kernel_rfl) (by kernel_rfl) (fun j hj => by
              have : j = 0 := by simp at hj; omega
              subst this; exact q2)
            obtain ⟨str, hstr⟩ : ∃ str, runesBytes ([32].take 1) = str := ⟨_, rfl⟩
            rw [hstr] at hcv
            clear hstr
            have lt10 := HH.out.blk.1.lt
            go_wp2_with (refine wpList_append_any rfl _ _ 35 rfl elStr none _ 0 _ rfl (Sl.nil _ _ _) _ 1 _ _ rfl (rd_built _ #[.string str] 9 1 1 rfl (by simp [Value.oneCell'])) (by omega) (by omega) ?_; intro so3 co3 w6 p1 p2 p3; have H6 := Lib.hid ((((HH.out.alloc _).row_nil 9 1).row_step p1 p2 p3).swap); have z2 := H6.out.cell 2; have zf := H6.out.free 2; simp [cv] at z2)
            have H7 := Lib.hid (H6.out.set 2 (.slice so3 1 co3))
            clear p1 p2 p3 z2 zf
            go_roundg 0
            case rel => exact ⟨1, by omega, rfl, .inr ⟨rfl, so3, co3, str, by simpa using H7.out⟩⟩
            case measure => omega
          · obtain ⟨d0, d1, d2, e0, e1, e2⟩ := h0.blk.1.three
            have hbr := h0.drop.drop.drop.drop.drop
            obtain ⟨m0, m1, m2, n0, n1, n2⟩ := hbr.blk.1.three
            have H9 := Lib.hid (((hbr.set 0 (.int .i64 1)).set 1 (.int .i64 1)).set 2 (.slice s9 1 c9))
            clear h0 hbr
            go_wp2_with fail
            obtain ⟨w9, hw9⟩ : ∃ w9, ((wr.setCell ⟨w.heap.size, 0, none⟩ (.int .i64 1)).setCell ⟨w.heap.size, 1, none⟩ (.int .i64 1)).setCell ⟨w.heap.size, 2, none⟩ (.slice s9 1 c9) = w9 := ⟨_, rfl⟩
            rw [hw9] at H9 ⊢
            obtain ⟨z0, z1, z2, -, -, -⟩ := (show Blk w9 w.heap.size (cv s9 1 c9) 37 by simpa using H9.out.blk.1).three
            refine bodyPost_ret (v := .agg (cv s9 1 c9)) (by simp [results, Try.results7, go_sem, z0, z1, z2]) rfl ⟨_, _, rfl, H9.out.drop⟩
end Go.Proofs.Ytifgjccnhbbadaa
