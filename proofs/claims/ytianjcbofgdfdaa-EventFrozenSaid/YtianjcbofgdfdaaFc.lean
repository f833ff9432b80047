/-
  Two dispatches that are begun in one statement.
-/
import Derived.Test.YtianjcbofgdfdaaEv
import Derived.Test.YtianjcbofgdfdaaKp
set_option linter.unusedVariables false
set_option linter.unusedSimpArgs false
namespace Go.Proofs.Ytianjcbofgdfdaa
open Go.RowKit Go.K Go.K.Ev

theorem info25 : (Try.prog.info? 25).map (·.size) = some 4 := by kernel_rfl
theorem info45s : (Try.prog.info? 45).map (·.size) = some 14 := by kernel_rfl
def zero45 : Value := .agg #[.string ByteArray.empty, .bool false, .bool false, .slice none 0 0, .int .i64 0, .slice none 0 0, .int .i64 0, .int .i64 0, .int .i64 0, .bool false, .bool false, .bool false, .bool false, .bool false]
theorem info45z : (Try.prog.info? 45).map (·.zero) = some (some zero45) := by kernel_rfl

/-- a dispatch's cells stored into a block -/
theorem d_put {w0 w : World} {L : List As} {b : Nat} {cs : Array Value} {d : Dp} {s : Option Addr} {c : Nat} (hcs : cs.size = 14) (hq : d.q = []) (h : St w0 w (As.cells b cs 45 :: As.row 39 2 s d.path.length c (flat gcells d.path) :: L)) :
    St w0 (w.setCells b 0 (dCells d s c none 0).toList) (dObj b d :: L) := by
  have h2 := (h.setAll (vs := dCells d s c none 0) (by rw [hcs]; rfl)).swap.row_nil 3 1
  have h3 := St.sh [_, _, _] [2, 1, 0] (by decide) h2
  simp only [List.map_cons, List.map_nil, List.getD_cons_zero, List.getD_cons_succ, List.cons_append, List.nil_append] at h3
  refine d_shut (sp := s) (cp := c) (sq := none) (cq := 0) ?_
  simp only [dOpen, hq, ints, List.length_nil, List.map_nil]
  simpa only [dCells, hq, List.length_nil] using h3

set_option maxHeartbeats 1000000 in
theorem two_begun {w0 w : World} {L0 : List As} {a0 : Act} {Q : Exit → Act → World → Prop} {id : Nat} {y0 y1 y2 y3 y4 y5 y6 y7 : TypeId} {p0 p1 p2 p3 p4 p5 p6 p7 : String} {r0 r1 r2 r3 r4 r5 r6 r7 : Array Edge}
    (x f0 f2 d1 d2 e1 e2 be : Nat) (ty : ByteArray) (bub can : Bool) (s1 : Option Addr) (c1 : Nat) (P : List Tg) (ops : Array Oper)
    (hops : ops = #[⟨some f0, .load 25 (.tmp x), y0, p0, r0, none⟩, ⟨some d1, .call { callee := .value (.func 16), args := #[.tmp f0], argTypes := #[25] }, y1, p1, r1, none⟩, ⟨some f2, .load 25 (.tmp x), y2, p2, r2, none⟩,
      ⟨some d2, .call { callee := .value (.func 16), args := #[.tmp f2], argTypes := #[25] }, y3, p3, r3, none⟩, ⟨some e1, .alloc 45, y4, p4, r4, none⟩, ⟨some e2, .alloc 45, y5, p5, r5, none⟩, ⟨none, .store 45 (.tmp e1) (.tmp d1), y6, p6, r6, none⟩, ⟨none, .store 45 (.tmp e2) (.tmp d2), y7, p7, r7, none⟩])
    (hx : a0.tmps[x]? = some (.pointer (some ⟨be, 0, none⟩))) (hxD : x ∉ [f0, f2, d1, d2, e1, e2]) (hnd : [f0, f2, d1, d2, e1, e2].Nodup) (hlt : ∀ d ∈ [f0, f2, d1, d2, e1, e2], d < a0.tmps.size)
    (hbe : As.cells be #[.string ty, .bool bub, .bool can, .slice s1 P.length c1] 25 ∈ L0) (hr : Rd w0 2 s1 P.length (flat gcells P)) (hP : P.length ≤ 1000) (hst : St w0 w L0)
    (hrdy : ∀ l0 l2 c1 c2 m1 m2, (c1 = true → l0 = true) → (c2 = true → c1 = true ∧ l2 = true) → Region.ready .any ops #[l0, c1, l2, c2, m1, m2, false, false] = rdyOf 0 1 2 3 4 5 6 l0 l2 c1 c2 m1 m2)
    (hr7 : Region.ready .any ops #[true, true, true, true, true, true, true, false] = [7]) (hr8 : Region.ready .any ops #[true, true, true, true, true, true, true, true] = [])
    (fin : ∀ (v1 v2 : Value) (b1 b2 : Nat) w, St w0 w (dObj b1 (dNew ty bub can P) :: dObj b2 (dNew ty bub can P) :: L0) → Q .normal ((((((a0.put (some f0) (evVal ty bub can s1 P.length c1)).put (some f2) (evVal ty bub can s1 P.length c1)).put (some d1) v1).put (some d2) v2).put (some e1) (.pointer (some ⟨b1, 0, none⟩))).put (some e2) (.pointer (some ⟨b2, 0, none⟩))) w) :
    (Code.region id ops true).wp Try.prog Q a0 w := by
  have hsz : ops.size = 8 := by rw [hops]; rfl
  have hblk : ∀ w L', St w0 w (L0 ++ L') → Blk w be #[.string ty, .bool bub, .bool can, .slice s1 P.length c1] 25 := fun w L' h => h.blkm (List.mem_append_left _ hbe)
  refine wp_region_any (by kernel_rfl) ?_
  rw [hsz]
  have hcall : ∀ (i : Nat) (o : Oper) (f d : Nat) (K : Act → World → Prop) (a : Act) (w : World) (L' : List As), ops[i]? = some o → o.guard = none → o.op = .call { callee := .value (.func 16), args := #[.tmp f], argTypes := #[25] } → o.dst = some d → a.tmps[f]? = some (evVal ty bub can s1 P.length c1) → St w0 w (L0 ++ L') →
      (∀ (p : Option Addr × Nat) w', St w0 w' (As.row 39 2 p.1 P.length p.2 (flat gcells P) :: (L0 ++ L')) → K (a.put (some d) (.agg (dCells (dNew ty bub can P) p.1 p.2 none 0))) w') → wpOp Try.prog ops Q i K a w := by
    intro i o f d K a w L' h1 h2 h3 h4 h5 h6 h7
    refine wpOp_call (R := NewPost (dNew ty bub can P) w0 (L0 ++ L')) h1 h2 h3 Try.func16 (by kernel_rfl) (by kernel_rfl) ?_ ?_
    · have e : (#[Operand.tmp f].map a.eval) = #[evVal ty bub can s1 P.length c1] := by simp [Act.eval, h5]
      rw [e]
      exact begun_st ty bub can s1 c1 P h6 hr hP
    · rintro e w' ⟨s, c, rfl, h8⟩
      rw [h4]
      exact ⟨_, rfl, h7 (s, c) w' h8⟩
  refine two_calls (P := Try.prog) (ops := ops) (Q := Q) (w0 := w0) (L0 := L0) (α := Option Addr × Nat) (β := Option Addr × Nat) (a0 := a0) [f0, f2, d1, d2, e1, e2] 0 1 2 3 4 5 6 7 f0 f2 d1 d2 e1 e2 (evVal ty bub can s1 P.length c1) (evVal ty bub can s1 P.length c1)
    (fun p => .agg (dCells (dNew ty bub can P) p.1 p.2 none 0)) (fun p => .agg (dCells (dNew ty bub can P) p.1 p.2 none 0))
    (fun p => As.row 39 2 p.1 P.length p.2 (flat gcells P)) (fun p => As.row 39 2 p.1 P.length p.2 (flat gcells P)) (fun b _ => dObj b (dNew ty bub can P)) (fun b _ => dObj b (dNew ty bub can P)) zero45 zero45 45 45
    (fun p => dCells (dNew ty bub can P) p.1 p.2 none 0) (fun p => dCells (dNew ty bub can P) p.1 p.2 none 0) (fun _ _ => true) (fun l0 l2 c1 c2 m1 m2 u v => #[l0, c1, l2, c2, m1, m2, u, v])
    rfl hnd hlt (fun l0 l2 c1 c2 m1 m2 _ h1 h2 => hrdy l0 l2 c1 c2 m1 m2 h1 h2) hr7 hr8
    (fun _ _ _ _ _ _ => rfl) (fun _ _ _ _ _ _ => rfl) (fun _ _ _ _ _ => rfl) (fun _ _ _ _ _ => rfl) (fun _ _ _ _ _ => rfl) (fun _ _ _ _ _ => rfl) rfl rfl (fun _ _ => rfl) (fun _ _ => rfl)
    ?_ ?_ (fun _ _ => rfl) (fun _ _ => rfl) ?_ ?_ ?_ ?_ ?_ ?_ ?_ ?_ ?_ 6 false false false false false false (none, 0) (none, 0) 0 0 a0 _ rfl rfl (by simp) (by simp) ?_
  · intro K a w L' _ ho hs hk
    exact wpOp_load (by rw [hops]; rfl) rfl rfl (ho.eval hxD hx) (hblk w L' hs) Try.underlying25 rfl info25 hk
  · intro K a w L' _ ho hs hk
    exact wpOp_load (by rw [hops]; rfl) rfl rfl (ho.eval hxD hx) (hblk w L' hs) Try.underlying25 rfl info25 hk
  · intro K a w L' ho h5 hs hk
    exact hcall 1 _ f0 d1 K a w L' (by rw [hops]; rfl) rfl rfl rfl h5 hs hk
  · intro K a w L' ho h5 hs hk
    exact hcall 3 _ f2 d2 K a w L' (by rw [hops]; rfl) rfl rfl rfl h5 hs hk
  · intro K a w hk
    exact wpOp_alloc (by rw [hops]; rfl) rfl rfl info45z hk
  · intro K a w hk
    exact wpOp_alloc (by rw [hops]; rfl) rfl rfl info45z hk
  · intro K a w b p h1 h2 h3 hk
    exact wpOp_store (i := 6) (o := ⟨none, .store 45 (.tmp e1) (.tmp d1), y6, p6, r6, none⟩) (vs := dCells (dNew ty bub can P) p.1 p.2 none 0) (by rw [hops]; rfl) rfl rfl (eval_of h1) (eval_of h2) h3 rfl info45s (by intro v hv; simp [dCells] at hv; rcases hv with h | h | h | h | h | h | h | h | h | h | h | h | h | h <;> subst h <;> rfl) hk
  · intro K a w b p h1 h2 h3 hk
    exact wpOp_store (i := 7) (o := ⟨none, .store 45 (.tmp e2) (.tmp d2), y7, p7, r7, none⟩) (vs := dCells (dNew ty bub can P) p.1 p.2 none 0) (by rw [hops]; rfl) rfl rfl (eval_of h1) (eval_of h2) h3 rfl info45s (by intro v hv; simp [dCells] at hv; rcases hv with h | h | h | h | h | h | h | h | h | h | h | h | h | h <;> subst h <;> rfl) hk
  · intro w b p L' h
    exact d_put rfl rfl h
  · intro w b p L' h
    exact d_put rfl rfl h
  · intro p q b1 b2 w h
    exact fin _ _ b1 b2 w h
  · exact ⟨⟨rfl, rfl, fun _ _ => rfl⟩, (fun h => by cases h), (fun h => by cases h), (fun h => by cases h), (fun h => by cases h), (fun h => by cases h), (fun h => by cases h), hst.drew.addT.addT.addT.addT⟩
end Go.Proofs.Ytianjcbofgdfdaa
