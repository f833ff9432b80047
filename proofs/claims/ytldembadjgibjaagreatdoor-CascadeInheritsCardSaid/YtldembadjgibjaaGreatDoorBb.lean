/-
  Cascade: structs in memory of which some cells are known; fonts.
-/
import Derived.Test.YtldembadjgibjaaGreatDoorBa
set_option linter.unusedVariables false
set_option linter.unusedSimpArgs false
open Go.RowKit
namespace Go.K
open Go.RowKit
section
variable {P : Program} {w0 w : World} {L : List As} {ops : Array Oper} {rest : List Oper} {op : Oper} {a : Act} {Q : Exit → Act → World → Prop}
/-- one cell of a block is loaded -/
theorem st_ld1 {b o : Nat} {cs : Array Value} {t T : TypeId} {v : Value} (hgd : op.guard = none) (x : Operand) (ho : op.op = .load t x)
    (H : St w0 w L) (hm : As.cells b cs T ∈ L) (hx : a.eval x = .pointer (some ⟨b, o, none⟩)) (hv : cs[o]? = some v) (hag : ∀ w, (isAgg t).run P w = .ok false w)
    (h : wpList P ops Q rest (a.put op.dst v) w) : wpList P ops Q (op :: rest) a w :=
  wpList_plain hgd fun _ hK => by
    have hc := (H.blkm hm).cell o
    rw [hv] at hc
    unfold Oper.wp execOp
    simp only [ho, hx, Instr.loadAt, Instr.sureAddr, Sem.run_bind, Sem.run_pure, Result.andThen_ok, loadVar, hag, run_load, hc, Bool.false_eq_true, if_false]
    exact hK _ _ h
/-- some cells of a block are loaded -/
theorem st_ldn {b o sz : Nat} {cs : Array Value} {t T : TypeId} (hgd : op.guard = none) (x : Operand) (ho : op.op = .load t x)
    (H : St w0 w L) (hm : As.cells b cs T ∈ L) (hx : a.eval x = .pointer (some ⟨b, o, none⟩)) (vs : List Value) (hv : ∀ j v, vs[j]? = some v → cs[o + j]? = some v) (hl : vs.length = sz) {d : TypeDesc} (hu : P.underlying t = some d) (hd : d.isRow = true) (hi : (P.info? t).map (·.size) = some sz)
    (h : wpList P ops Q rest (a.put op.dst (.agg vs.toArray)) w) : wpList P ops Q (op :: rest) a w :=
  rg_load hgd x ho vs (fun j v hj => by rw [(H.blkm hm).cell]; exact hv j v hj) hx hl hu hd hi h
theorem run_storeVar_cells (w : World) (b o : Nat) (ty : TypeId) (v : Value) (cells : Array Value) (hv : v.cells = cells) (ht : w.there b o cells.size) (hi : (P.info? ty).map (·.size) = some cells.size) (h1 : cells.all (·.oneCell') = true) :
    (storeVar ty ⟨b, o, none⟩ v).run P w = .ok () (w.setCells b o cells.toList) := by
  have := run_storeVar_mid (P := P) w b o ty cells ht hi h1
  unfold storeVar at this ⊢
  rw [hv]
  exact this
end
/-- a struct in memory of which the cells K are known -/
def As.sty (n : Nat) (T : TypeId) (b : Nat) (K : List (Nat × Value)) : As :=
  As.ex fun cs : { cs : Array Value // cs.size = n ∧ (∀ v ∈ cs, v.oneCell' = true) ∧ ∀ p ∈ K, cs[p.1]? = some p.2 } => As.cells b cs.1 T
theorem splice_one : ∀ (vs : List Value) (o : Nat) (cs : Array Value), (∀ v ∈ cs, v.oneCell' = true) → (∀ v ∈ vs, v.oneCell' = true) → ∀ v ∈ splice cs o vs, v.oneCell' = true
  | [], _, _, h, _ => h
  | x :: r, o, cs, h, h1 => by
    rw [splice]
    refine splice_one r (o + 1) _ (fun v hv => ?_) (fun v hv => h1 v (.tail _ hv))
    rcases Array.mem_or_eq_of_mem_setIfInBounds hv with q | q
    · exact h v q
    · rw [q]; exact h1 x (.head _)
section
variable {P : Program} {w0 w : World} {L : List As} {ops : Array Oper} {rest : List Oper} {op : Oper} {a : Act} {Q : Exit → Act → World → Prop}
theorem St.sty_blk {n b : Nat} {T : TypeId} {K : List (Nat × Value)} (H : St w0 w L) (hm : As.sty n T b K ∈ L) : ∃ cs : Array Value, cs.size = n ∧ (∀ v ∈ cs, v.oneCell' = true) ∧ (∀ p ∈ K, cs[p.1]? = some p.2) ∧ Blk w b cs T := by
  obtain ⟨G, cs, h⟩ := H.mem hm
  exact ⟨cs.1, cs.2.1, cs.2.2.1, cs.2.2.2, h.2⟩
theorem St.sty_set {n b o : Nat} {T : TypeId} {K K' : List (Nat × Value)} (H : St w0 w (As.sty n T b K :: L)) (vs : List Value) (hb : o + vs.length ≤ n) (h1 : ∀ v ∈ vs, v.oneCell' = true)
    (hK : ∀ p ∈ K', (p ∈ K ∧ (p.1 < o ∨ o + vs.length ≤ p.1)) ∨ ∃ j, p.1 = o + j ∧ vs[j]? = some p.2) : St w0 (w.setCells b o vs) (As.sty n T b K' :: L) := by
  obtain ⟨⟨cs, hs, hc, hk⟩, H⟩ := H.open_ex
  obtain ⟨F, ⟨hF, hB⟩, hn, hst⟩ := H.head
  refine (hst _ F (As.cells b (splice cs o vs) T) ⟨hF, hB.setCells vs o w cs⟩ ⟨Fr.setCells w b o vs ((hF b).2 rfl), fun k hk => .inl hk⟩).shut_ex ⟨splice cs o vs, by rw [splice_size]; exact hs, splice_one vs o cs hc h1, fun p hp => ?_⟩
  rcases hK p hp with ⟨q1, q2⟩ | ⟨j, q1, q2⟩
  · rw [splice_out vs o cs p.1 q2]; exact hk p q1
  · rw [q1, splice_in vs o cs j (by omega) (by have := List.getElem?_eq_some_iff.1 q2; exact this.1)]; exact q2
theorem St.sty_there {n b o m : Nat} {T : TypeId} {K : List (Nat × Value)} (H : St w0 w (As.sty n T b K :: L)) (hb : o + m ≤ n) : w.there b o m := fun j hj => by
  obtain ⟨cs, hs, -, -, hB⟩ := H.sty_blk (.head _)
  refine ⟨?_, hB.free _⟩
  rw [hB.cell, Array.getElem?_eq_getElem (by omega)]
  rfl
/-- a store into a struct -/
theorem st_put {n b o : Nat} {t T : TypeId} {K K' : List (Nat × Value)} (hgd : op.guard = none) (x y : Operand) (ho : op.op = .store t x y)
    (H : St w0 w (As.sty n T b K :: L)) (hx : a.eval x = .pointer (some ⟨b, o, none⟩)) (v : Value) (hy : a.eval y = v) (vs : List Value) (hv : v.cells = vs.toArray) (hb : o + vs.length ≤ n) (hi : (P.info? t).map (·.size) = some vs.length) (h1 : ∀ v ∈ vs, v.oneCell' = true)
    (hK : ∀ p ∈ K', (p ∈ K ∧ (p.1 < o ∨ o + vs.length ≤ p.1)) ∨ ∃ j, p.1 = o + j ∧ vs[j]? = some p.2)
    (h : ∀ W, St w0 W (As.sty n T b K' :: L) → wpList P ops Q rest (a.put op.dst undef) W) : wpList P ops Q (op :: rest) a w :=
  wpList_plain hgd fun _ hK' => by
    unfold Oper.wp execOp
    simp only [ho, hx, hy, Instr.storeAt, Instr.sureAddr, Sem.run_bind, Sem.run_pure, Result.andThen_ok, run_storeVar_cells w b o t v vs.toArray hv (H.sty_there (by simpa using hb)) (by simpa using hi) (Array.all_eq_true_iff_forall_mem.2 (fun v hv => h1 v (by simpa using hv)))]
    exact hK' _ _ (h _ (H.sty_set vs hb h1 hK))
/-- a known cell of a struct is loaded -/
theorem st_get {n b o : Nat} {t T : TypeId} {K : List (Nat × Value)} {v : Value} (hgd : op.guard = none) (x : Operand) (ho : op.op = .load t x)
    (H : St w0 w L) (hm : As.sty n T b K ∈ L) (hx : a.eval x = .pointer (some ⟨b, o, none⟩)) (hv : (o, v) ∈ K) (hag : ∀ w, (isAgg t).run P w = .ok false w)
    (h : wpList P ops Q rest (a.put op.dst v) w) : wpList P ops Q (op :: rest) a w :=
  wpList_plain hgd fun _ hK => by
    obtain ⟨cs, -, -, hk, hB⟩ := H.sty_blk hm
    have hc := hB.cell o
    rw [hk _ hv] at hc
    unfold Oper.wp execOp
    simp only [ho, hx, Instr.loadAt, Instr.sureAddr, Sem.run_bind, Sem.run_pure, Result.andThen_ok, loadVar, hag, run_load, hc, Bool.false_eq_true, if_false]
    exact hK _ _ h
end
end Go.K
namespace Go.Proofs.YtldembadjgibjaaGreatDoor
open Go.RowKit Go.K Go.PlainAid Go.Lib Go.Maps Go.WideMaps

theorem Comp.of {w0 w : World} {L : List As} {bc bm n : Nat} {sz : Int} {lk : Lk} (h : St w0 w L) (h1 : As.cells bc #[.map (some bm), .int .i64 sz] 66 ∈ L) (h2 : As.mp 9 sK vV sOk bm n lk ∈ L) : Comp w bc bm n sz lk :=
  ⟨h.blkm h1, St.mpI h h2⟩
def fontL : List UInt8 := [102, 111, 110, 116, 45, 115, 105, 122, 101]
def lineL : List UInt8 := [108, 105, 110, 101, 45, 104, 101, 105, 103, 104, 116]
/-- the size of the font; a: the parent's -/
def fontM (lk : Lk) (a : Int) : Int :=
  if (getM lk fontL).2 = 0 ∨ (getM lk fontL).2 = 1 then a
  else if (getM lk fontL).2 = 2 then 16
  else if (getM lk fontL).1.kd = 4 then limZ ((a * (getM lk fontL).1.nm).tdiv 1000) 1 1000
  else if (getM lk fontL).1.kd = 5 then limZ ((a * (getM lk fontL).1.nm).tdiv 100000) 1 1000
  else limZ ((getM lk fontL).1.nm.tdiv 1000) 1 1000
def lineN (lk : Lk) (fs : Int) : Int :=
  if (getM lk lineL).2 = 2 ∨ (getM lk lineL).1.kd = 1 then (fs * 5).tdiv 4
  else if (getM lk lineL).1.kd = 2 then (fs * (getM lk lineL).1.nm).tdiv 1000
  else if (getM lk lineL).1.kd = 5 then (fs * (getM lk lineL).1.nm).tdiv 100000
  else (lenM fs (getM lk lineL).1).2
/-- the height of lines -/
def lineM (lk : Lk) (fs b : Int) : Int :=
  if (getM lk lineL).2 = 0 ∨ (getM lk lineL).2 = 1 then b else limZ (lineN lk fs) 0 10000
theorem field24 (a b : Int) (w : World) : (Instr.field 24 (.agg #[.int .i64 a, .int .i64 b]) 1).run Tryz.prog w = .ok (.int .i64 b) w := by kernel_rfl
theorem mul_b (a n : Int) (h0 : 0 ≤ a) (h1 : a ≤ 1000000) (n0 : -1048999999 ≤ n) (n1 : n ≤ 1048999999) : -1000000000000000000 ≤ a * n ∧ a * n ≤ 1000000000000000000 := by
  have a1 := Int.mul_le_mul_of_nonneg_left n1 h0
  have a2 := Int.mul_le_mul_of_nonneg_left n0 h0
  omega
theorem fontM_in (lk : Lk) (a : Int) (h0 : 0 ≤ a) (h1 : a ≤ 1000000) : 0 ≤ fontM lk a ∧ fontM lk a ≤ 1000000 := by
  have q := fun n => limZ_in n 1 1000 (by decide)
  unfold fontM
  repeat' split
  · exact ⟨h0, h1⟩
  · omega
  all_goals (have := q ((a * (getM lk fontL).1.nm).tdiv 1000); have := q ((a * (getM lk fontL).1.nm).tdiv 100000); have := q ((getM lk fontL).1.nm.tdiv 1000); omega)
set_option maxRecDepth 100000 in
set_option maxHeartbeats 8000000 in
theorem fonts_st {w0 w : World} {L : List As} {bc bm bo n : Nat} {sz0 : Int} {lk : Lk} {cs : Array Value} (hcs : cs.size = 53) (h : St w0 w (As.cells bo cs 28 :: As.cells bc #[.map (some bm), .int .i64 sz0] 66 :: As.mp 9 sK vV sOk bm n lk :: L))
    (pa : Array Value) (a b : Int) (P37 : pa[37]? = some (.int .i64 a)) (P38 : pa[38]? = some (.int .i64 b)) (ha0 : 0 ≤ a) (ha1 : a ≤ 1000000) (hv : ∀ s v, lk s = some v → VOk v) :
    Calls Tryz.prog 28 #[.pointer (some ⟨bc, 0, none⟩), .pointer (some ⟨bo, 0, none⟩), .agg pa] w fun e w' => e = .returned (.tuple #[]) ∧ St w0 w' (As.cells bo ((cs.setIfInBounds 37 (.int .i64 (fontM lk a))).setIfInBounds 38 (.int .i64 (lineM lk (fontM lk a) b))) 28 :: As.cells bc #[.map (some bm), .int .i64 (fontM lk a)] 66 :: As.mp 9 sK vV sOk bm n lk :: L) := by
  obtain ⟨fs, hfs⟩ : ∃ z, fontM lk a = z := ⟨_, rfl⟩
  have hfb := fontM_in lk a ha0 ha1
  rw [hfs] at hfb ⊢
  obtain ⟨lh, hlh⟩ : ∃ z, lineM lk fs b = z := ⟨_, rfl⟩
  rw [hlh]
  obtain ⟨csF, hcsF⟩ : ∃ z, (cs.setIfInBounds 37 (.int .i64 fs)).setIfInBounds 38 (.int .i64 lh) = z := ⟨_, rfl⟩
  rw [hcsF]
  have HCF := Lib.hid hcsF
  clear hcsF
  obtain ⟨hf0, hf1⟩ := hfb
  have hvg : ∀ s, VOk (getM lk s).1 := by
    intro s
    unfold getM
    cases e : lk s with
    | none => exact ⟨by decide, by decide, by decide, by decide, Nat.zero_le _⟩
    | some v => exact hv s v e
  have hv1 := hvg fontL
  have hv2 := hvg lineL
  have hg1 := fun (w : World) (sz : Int) (C : Comp w bc bm n sz lk) => get_any C fontL (by decide)
  have hg2 := fun (w : World) (sz : Int) (C : Comp w bc bm n sz lk) => get_any C lineL (by decide)
  have hln := fun (w : World) (C : Comp w bc bm n fs lk) => length_any C hf0 hf1 (getM lk lineL).1 hv2
  unfold fontM at hfs
  unfold lineM lineN at hlh
  obtain ⟨⟨⟨gk, gn, gw⟩, gh⟩, hG⟩ : ∃ g, getM lk fontL = g := ⟨_, rfl⟩
  obtain ⟨⟨⟨hk, hn, hw⟩, hh⟩, hH⟩ : ∃ g, getM lk lineL = g := ⟨_, rfl⟩
  simp only [hG] at hg1 hfs hv1
  simp only [hH] at hg2 hlh hv2 hln
  have gn0 := hv1.n0
  have gn1 := hv1.n1
  have hn0 := hv2.n0
  have hn1 := hv2.n1
  obtain ⟨⟨l1, l2⟩, hL⟩ : ∃ z, lenM fs ⟨hk, hn, hw⟩ = z := ⟨_, rfl⟩
  simp only [hL] at hln hlh
  simp only [Va.cells] at hg1 hg2 hln gn0 gn1 hn0 hn1
  have hl2 : -10000000 ≤ l2 ∧ l2 ≤ 10000000 := by
    have e : l2 = (lenM fs ⟨hk, hn, hw⟩).2 := by rw [hL]
    rw [e]
    unfold lenM
    have q1 := fun n => limZ_in n (-1048576) 1048576 (by decide)
    have q2 := fun n => limZ_in n (-10000000) 10000000 (by decide)
    repeat' split
    · have := q1 (hn.tdiv 1000); simp only; omega
    · have := q1 ((fs * hn).tdiv 1000); simp only; omega
    · have := q2 (hn.tdiv 10); simp only; omega
    · simp only; omega
  have HFS := Lib.hid hfs
  have HLH := Lib.hid hlh
  have HG1 := Lib.hid hg1
  have HG2 := Lib.hid hg2
  have HLN := Lib.hid hln
  have HLM := Lib.hid limit_any
  have hcs37 : 37 < cs.size := by omega
  obtain ⟨x37, hx37⟩ : ∃ x, cs[37]? = some x := ⟨_, Array.getElem?_eq_getElem (by omega)⟩
  have H0 := Lib.hid (h.new pa 28)
  have HCMP := Lib.hid (Comp.of (bc := bc) (bm := bm) H0.out (.tail _ (.tail _ (.head _))) (.tail _ (.tail _ (.tail _ (.head _)))))
  have HP37 := Lib.hid P37
  have HP38 := Lib.hid P38
  have HX37 := Lib.hid hx37
  have HSZ := Lib.hid hcs
  clear hfs hlh hg1 hg2 hln hG hH hL hv1 hv2 hvg hv h P37 P38 hx37 hcs37 hcs
  go_enter Tryz.func28, Tryz.ntmps28
  go_upto_block 0 with (go_at_call 34; refine (HG1.out _ _ HCMP.out).mono ?_; rintro e w1 ⟨rfl, hb1⟩; have H1 := Lib.hid ((H0.out.of_below hb1).new #[.int .i64 gk, .int .i64 gn, .string (S gw)] 68); clear hb1)
  obtain ⟨bp, hbp⟩ : ∃ z, w.heap.size = z := ⟨_, rfl⟩
  obtain ⟨b6, hb6⟩ : ∃ z, w1.heap.size = z := ⟨_, rfl⟩
  obtain ⟨W1, hW1⟩ : ∃ z, w1.alloc (.cells #[.int .i64 gk, .int .i64 gn, .string (S gw)] 68) = z := ⟨_, rfl⟩
  rw [hb6, hbp, hW1] at H1
  try rw [hW1]
  try simp only [hb6, hbp]
  clear hb6 hbp hW1 H0 HCMP
  have H2 := Lib.hid (show St w0 W1 (As.cells bo cs 28 :: As.cells b6 #[.int .i64 gk, .int .i64 gn, .string (S gw)] 68 :: As.cells bp pa 28 :: As.cells bc #[.map (some bm), .int .i64 sz0] 66 :: As.mp 9 sK vV sOk bm n lk :: L) from St.sh [_, _, _] [2, 0, 1] (by decide) H1.out)
  clear H1
  go_cut [21, 33, 39, 53] (fun _ _ _ _ wx => St w0 wx (As.cells bo (cs.setIfInBounds 37 (.int .i64 fs)) 28 :: As.cells b6 #[.int .i64 gk, .int .i64 gn, .string (S gw)] 68 :: As.cells bp pa 28 :: As.cells bc #[.map (some bm), .int .i64 sz0] 66 :: As.mp 9 sK vV sOk bm n lk :: L))
  case first =>
    have d37 := H2.out.cell 37
    rw [HX37.out] at d37
    have f37 := H2.out.free 37
    have x0 := H2.out.swap.cell 0
    have x1 := H2.out.swap.cell 1
    have x2 := H2.out.swap.cell 2
    have q37 := (H2.out.blkm (.tail _ (.tail _ (.head _)))).cell 37
    rw [HP37.out] at q37
    simp at x0 x1 x2
    by_cases k01 : gh = 0 ∨ gh = 1
    · have e : a = fs := by have := HFS.out; rwa [if_pos k01] at this
      rcases k01 with rfl | rfl
      · go_wp2_with fail
        go_meet
        rw [← e]; exact H2.out.set 37 _
      · go_wp2_with fail
        go_meet
        rw [← e]; exact H2.out.set 37 _
    have e0 := HFS.out
    rw [if_neg k01] at e0
    have n0 : (gh == 0) = false := by rw [beq_eq_false_iff_ne]; exact fun q => k01 (.inl q)
    have n1 : (gh == 1) = false := by rw [beq_eq_false_iff_ne]; exact fun q => k01 (.inr q)
    by_cases k2 : gh = 2
    · subst k2
      rw [if_pos rfl] at e0
      clear k01 n0 n1
      have E0 := Lib.hid e0
      clear e0
      go_wp2_with fail
      go_meet
      rw [← E0.out]; exact H2.out.set 37 _
    rw [if_neg k2] at e0
    have n2 : (gh == 2) = false := by rw [beq_eq_false_iff_ne]; exact k2
    by_cases k4 : gk = 4
    · subst k4
      rw [if_pos rfl] at e0
      obtain ⟨m0, m1⟩ := mul_b a gn ha0 ha1 gn0 gn1
      obtain ⟨m, hm⟩ : ∃ m, a * gn = m := ⟨_, rfl⟩
      rw [hm] at m0 m1 e0
      obtain ⟨u0, u1⟩ := tdv_b m 1000 (by decide) (by decide) (by omega) (by omega)
      obtain ⟨d, hd⟩ : ∃ d, m.tdiv 1000 = d := ⟨_, rfl⟩
      rw [hd] at u0 u1 e0
      have g1 := wrapS (a := m) (by omega) (by omega)
      have g2 := wrapS (a := d) (by omega) (by omega)
      have E0 := Lib.hid e0
      clear e0 k01 k2
      go_wp2_with (go_at_call 55; refine (HLM.out _ _ _ _).mono ?_; rintro e w2 ⟨rfl, hw2⟩; rw [hw2]; clear hw2)
      go_meet
      rw [← E0.out]; exact H2.out.set 37 _
    rw [if_neg k4] at e0
    have n4 : (gk == 4) = false := by rw [beq_eq_false_iff_ne]; exact k4
    by_cases k5 : gk = 5
    · subst k5
      rw [if_pos rfl] at e0
      obtain ⟨m0, m1⟩ := mul_b a gn ha0 ha1 gn0 gn1
      obtain ⟨m, hm⟩ : ∃ m, a * gn = m := ⟨_, rfl⟩
      rw [hm] at m0 m1 e0
      obtain ⟨u0, u1⟩ := tdv_b m 100000 (by decide) (by decide) (by omega) (by omega)
      obtain ⟨d, hd⟩ : ∃ d, m.tdiv 100000 = d := ⟨_, rfl⟩
      rw [hd] at u0 u1 e0
      have g1 := wrapS (a := m) (by omega) (by omega)
      have g2 := wrapS (a := d) (by omega) (by omega)
      have E0 := Lib.hid e0
      clear e0 k01 k2 k4 n4
      go_wp2_with (go_at_call 55; refine (HLM.out _ _ _ _).mono ?_; rintro e w2 ⟨rfl, hw2⟩; rw [hw2]; clear hw2)
      go_meet
      rw [← E0.out]; exact H2.out.set 37 _
    rw [if_neg k5] at e0
    have n5 : (gk == 5) = false := by rw [beq_eq_false_iff_ne]; exact k5
    obtain ⟨u0, u1⟩ := tdv_b gn 1000 (by decide) (by decide) (by omega) (by omega)
    obtain ⟨d, hd⟩ : ∃ d, gn.tdiv 1000 = d := ⟨_, rfl⟩
    rw [hd] at u0 u1 e0
    have g2 := wrapS (a := d) (by omega) (by omega)
    have E0 := Lib.hid e0
    clear e0 k01 k2 k4 k5
    go_wp2_with (go_at_call 55; refine (HLM.out _ _ _ _).mono ?_; rintro e w2 ⟨rfl, hw2⟩; rw [hw2]; clear hw2)
    go_meet
    rw [← E0.out]; exact H2.out.set 37 _
  case rest =>
    have H3 := Lib.hid hcut
    clear hcut H2 HG1 HFS
    have s1 : (cs.setIfInBounds 37 (.int .i64 fs)).size = 53 := by rw [Array.size_setIfInBounds]; exact HSZ.out
    have K37 : (cs.setIfInBounds 37 (.int .i64 fs))[37]? = some (.int .i64 fs) := by rw [Array.getElem?_setIfInBounds_self_of_lt (by rw [HSZ.out]; decide)]
    obtain ⟨cs1, hcs1⟩ : ∃ z, cs.setIfInBounds 37 (.int .i64 fs) = z := ⟨_, rfl⟩
    rw [hcs1] at H3 s1 K37 HCF
    obtain ⟨x38, hx38⟩ : ∃ x, cs1[38]? = some x := ⟨_, Array.getElem?_eq_getElem (by omega)⟩
    have d37 := H3.out.cell 37
    rw [K37] at d37
    have b0 := (H3.out.blkm (.tail _ (.tail _ (.tail _ (.head _))))).cell 0
    have b1 := (H3.out.blkm (.tail _ (.tail _ (.tail _ (.head _))))).cell 1
    have fb := (H3.out.blkm (.tail _ (.tail _ (.tail _ (.head _))))).free 1
    simp at b0 b1
    clear hcs1
    have S1 := Lib.hid s1
    have HX38 := Lib.hid hx38
    clear s1 hx38 K37
    go_upto_region 12 with fail
    have H4 := Lib.hid (show St w0 (wc.setCell ⟨bc, 1, none⟩ (.int .i64 fs)) (As.cells bo cs1 28 :: As.cells b6 #[.int .i64 gk, .int .i64 gn, .string (S gw)] 68 :: As.cells bp pa 28 :: As.cells bc #[.map (some bm), .int .i64 fs] 66 :: As.mp 9 sK vV sOk bm n lk :: L) from St.sh [_, _, _, _] [1, 2, 3, 0] (by decide) ((St.sh [_, _, _, _] [3, 0, 1, 2] (by decide) H3.out).set 1 (.int .i64 fs)))
    obtain ⟨W4, hW4⟩ : ∃ z, wc.setCell ⟨bc, 1, none⟩ (.int .i64 fs) = z := ⟨_, rfl⟩
    rw [hW4] at H4
    rw [hW4]
    clear hW4 d37 b0 b1 fb H3
    have HC4 := Lib.hid (Comp.of (bc := bc) (bm := bm) H4.out (.tail _ (.tail _ (.tail _ (.head _)))) (.tail _ (.tail _ (.tail _ (.tail _ (.head _))))))
    go_upto_region 13 with (go_at_call 34; refine (HG2.out _ _ HC4.out).mono ?_; rintro e w5 ⟨rfl, hb5⟩; have H5 := Lib.hid (H4.out.of_below hb5); clear hb5; have x0 := H5.out.swap.cell 0; have x1 := H5.out.swap.cell 1; have x2 := H5.out.swap.cell 2; have y0 := H5.out.swap.free 0; have y1 := H5.out.swap.free 1; have y2 := H5.out.swap.free 2; simp at x0 x1 x2)
    have h6 := (((H5.out.swap.set 0 (.int .i64 hk)).set 1 (.int .i64 hn)).set 2 (.string (S hw))).swap
    simp only [List.setIfInBounds_toArray, List.set_cons_zero, List.set_cons_succ] at h6
    have H6 := Lib.hid h6
    obtain ⟨W6, hW6⟩ : ∃ z, ((w5.setCell ⟨b6, 0, none⟩ (.int .i64 hk)).setCell ⟨b6, 1, none⟩ (.int .i64 hn)).setCell ⟨b6, 2, none⟩ (.string (S hw)) = z := ⟨_, rfl⟩
    rw [hW6] at H6
    rw [hW6]
    clear hW6 h6 x0 x1 x2 y0 y1 y2 H5 HC4 H4 HG2
    have d38 := H6.out.cell 38
    rw [HX38.out] at d38
    have f38 := H6.out.free 38
    have x0 := H6.out.swap.cell 0
    have x1 := H6.out.swap.cell 1
    have x2 := H6.out.swap.cell 2
    have q38 := (H6.out.blkm (.tail _ (.tail _ (.head _)))).cell 38
    rw [HP38.out] at q38
    have b1 := (H6.out.blkm (.tail _ (.tail _ (.tail _ (.head _))))).cell 1
    simp at x0 x1 x2 b1
    by_cases k01 : hh = 0 ∨ hh = 1
    · have e : b = lh := by have := HLH.out; rwa [if_pos k01] at this
      have hfin : ∀ W, St w0 W (As.cells bo (cs1.setIfInBounds 38 (.int .i64 b)) 28 :: As.cells b6 #[.int .i64 hk, .int .i64 hn, .string (S hw)] 68 :: As.cells bp pa 28 :: As.cells bc #[.map (some bm), .int .i64 fs] 66 :: As.mp 9 sK vV sOk bm n lk :: L) → St w0 W (As.cells bo csF 28 :: As.cells bc #[.map (some bm), .int .i64 fs] 66 :: As.mp 9 sK vV sOk bm n lk :: L) := by
        intro W h
        rw [← HCF.out, ← e]
        exact (h.swap.drop).swap.drop
      have HFIN := Lib.hid hfin
      clear hfin e
      rcases k01 with rfl | rfl
      · go_wp2_with fail
        exact bodyPost_ret (results_none rfl _ _ _) rfl ⟨rfl, HFIN.out _ (H6.out.set 38 _)⟩
      · go_wp2_with fail
        exact bodyPost_ret (results_none rfl _ _ _) rfl ⟨rfl, HFIN.out _ (H6.out.set 38 _)⟩
    have e0 := HLH.out
    rw [if_neg k01] at e0
    have n0 : (hh == 0) = false := by rw [beq_eq_false_iff_ne]; exact fun q => k01 (.inl q)
    have n1 : (hh == 1) = false := by rw [beq_eq_false_iff_ne]; exact fun q => k01 (.inr q)
    clear q38
    obtain ⟨nn, hnn⟩ : ∃ z, (if hh = 2 ∨ hk = 1 then (fs * 5).tdiv 4 else if hk = 2 then (fs * hn).tdiv 1000 else if hk = 5 then (fs * hn).tdiv 100000 else l2) = z := ⟨_, rfl⟩
    rw [hnn] at e0
    have E0 := Lib.hid e0
    have HNN := Lib.hid hnn
    clear e0 hnn k01 HLH
    go_upto_block 1 with fail
    go_cut [8, 94, 108, 120] (fun v8 _ _ _ wx => v8 = .int .i64 nn ∧ St w0 wx (As.cells bo cs1 28 :: As.cells b6 #[.int .i64 hk, .int .i64 hn, .string (S hw)] 68 :: As.cells bp pa 28 :: As.cells bc #[.map (some bm), .int .i64 fs] 66 :: As.mp 9 sK vV sOk bm n lk :: L))
    case first =>
      have e0 := HNN.out
      by_cases k2 : hh = 2
      · subst k2
        rw [if_pos (Or.inl rfl)] at e0
        obtain ⟨m, hm⟩ : ∃ m, fs * 5 = m := ⟨_, rfl⟩
        rw [hm] at e0
        have m0 : 0 ≤ m ∧ m ≤ 5000000 := by omega
        obtain ⟨u0, u1⟩ := tdv_b m 4 (by decide) (by decide) (by omega) (by omega)
        rw [e0] at u0 u1
        have g1 := wrapS (a := m) (by omega) (by omega)
        have g2 := wrapS (a := nn) (by omega) (by omega)
        clear n0 n1
        go_wp2_with fail
        go_meet
        exact ⟨rfl, H6.out⟩
      have n2 : (hh == 2) = false := by rw [beq_eq_false_iff_ne]; exact k2
      by_cases k1 : hk = 1
      · subst k1
        rw [if_pos (Or.inr rfl)] at e0
        obtain ⟨m, hm⟩ : ∃ m, fs * 5 = m := ⟨_, rfl⟩
        rw [hm] at e0
        have m0 : 0 ≤ m ∧ m ≤ 5000000 := by omega
        obtain ⟨u0, u1⟩ := tdv_b m 4 (by decide) (by decide) (by omega) (by omega)
        rw [e0] at u0 u1
        have g1 := wrapS (a := m) (by omega) (by omega)
        have g2 := wrapS (a := nn) (by omega) (by omega)
        clear k2
        go_wp2_with fail
        go_meet
        exact ⟨rfl, H6.out⟩
      rw [if_neg (by rintro (h | h); exact k2 h; exact k1 h)] at e0
      have m1 : (hk == 1) = false := by rw [beq_eq_false_iff_ne]; exact k1
      clear k2
      by_cases k2 : hk = 2
      · subst k2
        rw [if_pos rfl] at e0
        obtain ⟨q0, q1⟩ := mul_b fs hn hf0 hf1 hn0 hn1
        obtain ⟨m, hm⟩ : ∃ m, fs * hn = m := ⟨_, rfl⟩
        rw [hm] at q0 q1 e0
        obtain ⟨u0, u1⟩ := tdv_b m 1000 (by decide) (by decide) (by omega) (by omega)
        rw [e0] at u0 u1
        have g1 := wrapS (a := m) (by omega) (by omega)
        have g2 := wrapS (a := nn) (by omega) (by omega)
        clear k1
        go_wp2_with go_quiet (fail)
        go_meet
        exact ⟨rfl, H6.out.drewN _⟩
      rw [if_neg k2] at e0
      have m2 : (hk == 2) = false := by rw [beq_eq_false_iff_ne]; exact k2
      by_cases k5 : hk = 5
      · subst k5
        rw [if_pos rfl] at e0
        obtain ⟨q0, q1⟩ := mul_b fs hn hf0 hf1 hn0 hn1
        obtain ⟨m, hm⟩ : ∃ m, fs * hn = m := ⟨_, rfl⟩
        rw [hm] at q0 q1 e0
        obtain ⟨u0, u1⟩ := tdv_b m 100000 (by decide) (by decide) (by omega) (by omega)
        rw [e0] at u0 u1
        have g1 := wrapS (a := m) (by omega) (by omega)
        have g2 := wrapS (a := nn) (by omega) (by omega)
        clear k1 k2
        go_wp2_with go_quiet (fail)
        go_meet
        exact ⟨rfl, H6.out.drewN _⟩
      rw [if_neg k5] at e0
      have m5 : (hk == 5) = false := by rw [beq_eq_false_iff_ne]; exact k5
      subst e0
      have HC6 := Lib.hid (Comp.of (bc := bc) (bm := bm) H6.out (.tail _ (.tail _ (.tail _ (.head _)))) (.tail _ (.tail _ (.tail _ (.tail _ (.head _))))))
      clear k1 k2 k5
      have hfl := field24
      go_wp2_with (go_at_call 56; refine (HLN.out _ HC6.out).mono ?_; rintro e w7 ⟨rfl, hb7⟩; have H7 := Lib.hid (H6.out.of_below hb7); clear hb7)
      go_meet
      exact ⟨rfl, H7.out⟩
    case rest =>
      obtain ⟨hv8, h8⟩ := hcut
      subst hv8
      have H8 := Lib.hid h8
      have d38 := H8.out.cell 38
      rw [HX38.out] at d38
      have f38 := H8.out.free 38
      clear h8 H6 x0 x1 x2 b1
      go_wp2_with (go_at_call 55; refine (HLM.out _ _ _ _).mono ?_; rintro e w2 ⟨rfl, hw2⟩; rw [hw2]; clear hw2)
      refine ⟨rfl, _, results_none rfl _ _ _, rfl, ?_⟩
      rw [← HCF.out, ← E0.out]
      exact ((H8.out.set 38 _).swap.drop).swap.drop
end Go.Proofs.YtldembadjgibjaaGreatDoor
