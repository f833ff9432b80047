/-
  Contracts of the law's helpers: found, begun.
-/
import Derived.Test.YtianjcbofgdfdaaEk
set_option linter.unusedVariables false
set_option linter.unusedSimpArgs false
namespace Go.Proofs.Ytianjcbofgdfdaa
open Go.RowKit Go.K Go.K.Ev

def foundL (ls : List Li) (id : Int) : Li := (ls.find? (fun x => x.id == id)).getD Li.zero
def FdRel (ls : List Li) (id : Int) (W : World) (g : Nat) (v : Value) (wr : World) : Prop :=
  ∃ k : Nat, g = ls.length - k ∧ k ≤ ls.length ∧ v = .int .i64 k ∧ wr = W ∧ ∀ j (hj : j < ls.length), j < k → (ls[j].id == id) = false
theorem find_first {ls : List Li} {id : Int} {k : Nat} (hk : k < ls.length) (h : (ls[k].id == id) = true) (ha : ∀ j (hj : j < ls.length), j < k → (ls[j].id == id) = false) : foundL ls id = ls[k] := by
  unfold foundL
  have : ls.find? (fun x => x.id == id) = some ls[k] := by
    rw [List.find?_eq_some_iff_getElem]
    exact ⟨h, k, hk, rfl, fun j hj => by simp [ha j (by omega) hj]⟩
  rw [this]; rfl

set_option maxRecDepth 100000 in
set_option maxHeartbeats 2000000 in
theorem found_any (s : Option Addr) (c : Nat) (ls : List Li) (nx id : Int) (w : World) (h : Rd w 8 s ls.length (flat lcells ls)) (hn : ls.length ≤ 10000) :
    Calls Try.prog 18 #[.agg #[.slice s ls.length c, .int .i64 nx], .int .i64 id] w fun e w' => e = .returned (lval (foundL ls id)) ∧ Below w.heap.size w w' := by
  have H := Lib.hid ((h.alloc (.cells #[.slice s ls.length c, .int .i64 nx] 32)).alloc (.cells #[.int .i64 0, .int .i64 0, .int .i64 0, .string ByteArray.empty, .int .i64 0, .bool false, .bool false, .bool false] 41))
  clear h
  go_enter Try.func18, Try.ntmps18
  go_wp2_with fail
  go_loopg [9] ls.length (FdRel ls id ((w.alloc (.cells #[.slice s ls.length c, .int .i64 nx] 32)).alloc (.cells #[.int .i64 0, .int .i64 0, .int .i64 0, .string ByteArray.empty, .int .i64 0, .bool false, .bool false, .bool false] 41)))
  case atStart => exact ⟨0, rfl, Nat.zero_le _, rfl, rfl, by intro j hj h; omega⟩
  case round =>
    obtain ⟨k, hg, hk, rfl, rfl, hall⟩ := hrel
    have Hg := Lib.hid hg
    have HA := Lib.hid hall
    clear hg hall
    by_cases hkn : k < ls.length
    · obtain ⟨g1, o1, rfl, -⟩ := H.out.addr (by omega)
      obtain ⟨x, hx⟩ : ∃ x, ls[k] = x := ⟨_, rfl⟩
      obtain ⟨d0, d1, d2, d3, d4, d5, d6, d7⟩ := l_at H.out hkn x hx
      have HX := Lib.hid hx
      have hkn' : (k : Int) < (ls.length : Int) := by omega
      obtain ⟨x0, ⟨x1, x2⟩, x3, x4, x5, x6, x7⟩ := x
      simp only at d0 d1 d2 d3 d4 d5 d6 d7
      clear hx
      by_cases he : x0 = id
      · have heb : (x0 == id) = true := by simp [he]
        have hf := Lib.hid (find_first hkn (by rw [HX.out]; exact heb) HA.out)
        clear he
        go_wp2_with fail
        refine bodyPost_ret (v := lval ⟨x0, ⟨x1, x2⟩, x3, x4, x5, x6, x7⟩) (by simp [results, Try.results18, go_sem, lval]) rfl ⟨by rw [hf.out, HX.out], ?_⟩
        exact ((Below.refl _ _).alloc (Nat.le_refl _) _).alloc (by simp) _
      · have heb : (x0 == id) = false := by simp [he]
        have hh := Lib.hid heb
        clear he
        go_wp2_with fail
        go_roundg (ls.length - (k + 1))
        case measure => have := Hg.out; omega
        case rel =>
          refine ⟨k + 1, rfl, by omega, by simp, rfl, fun j hj hjk => ?_⟩
          by_cases e : j = k
          · subst e; rw [HX.out]; exact hh.out
          · exact HA.out j hj (by omega)
    · have hf := Lib.hid (show foundL ls id = Li.zero by
        unfold foundL
        have : ls.find? (fun x => x.id == id) = none := by
          rw [List.find?_eq_none]
          intro x hx
          obtain ⟨j, hj, rfl⟩ := List.getElem_of_mem hx
          simp [HA.out j hj (by omega)]
        rw [this]; rfl)
      go_wp2_with fail
      refine bodyPost_ret (v := lval Li.zero) (by simp [results, Try.results18, go_sem, lval, Li.zero]; rfl) rfl ⟨by rw [hf.out], ?_⟩
      exact ((Below.refl _ _).alloc (Nat.le_refl _) _).alloc (by simp) _

def BgRel (w0 : World) (L : List As) (br : Nat) (Z : Array Value) (P : List Tg) (W : World) (bx : Nat) (X : Array Value) (g : Nat) (v3 v8 : Value) (wr : World) : Prop :=
  ∃ (k : Nat) (so : Option Addr) (co : Nat), g = P.length - k ∧ k ≤ P.length ∧ v8 = .int .i64 k ∧ v3 = .slice so k co ∧
    St w0 wr (As.row 39 2 so k co (flat gcells (P.take k)) :: As.cells br Z 45 :: As.cells bx X 25 :: L)
theorem flat_take_succ {α : Type} (f : α → List Value) (l : List α) (k : Nat) (hk : k < l.length) : flat f (l.take (k + 1)) = flat f (l.take k) ++ f l[k] := by
  rw [List.take_succ_eq_append_getElem hk, flat_append, flat_one]

set_option maxRecDepth 100000 in
set_option maxHeartbeats 2000000 in
theorem begun_st {w0 w : World} {L : List As} (ty : ByteArray) (bub can : Bool) (s : Option Addr) (c : Nat) (P : List Tg) (h : St w0 w L) (hs : Rd w0 2 s P.length (flat gcells P)) (hn : P.length ≤ 1000) :
    Calls Try.prog 16 #[evVal ty bub can s P.length c] w (NewPost (dNew ty bub can P) w0 L) := by
  have h1 := St.sh [_, _] [1, 0] (by decide) (((h.new #[.string ty, .bool bub, .bool can, .slice s P.length c] 25).new (dCells (dNew ByteArray.empty false false []) none 0 none 0) 45).swap)
  simp only [List.map_cons, List.map_nil, List.getD_cons_zero, List.getD_cons_succ, List.cons_append, List.nil_append, World.size_alloc] at h1
  have H1 := Lib.hid (h1.row_nil 39 2)
  have HS := Lib.hid hs
  unfold dNew at H1
  simp only [dCells, List.length_nil] at H1
  clear h h1 hs
  go_enter Try.func16, Try.ntmps16
  go_wp2_with fail
  go_loopg [3, 8] P.length (BgRel w0 L (w.heap.size + 1) #[.string ByteArray.empty, .bool false, .bool false, .slice none 0 0, .int .i64 0, .slice none 0 0, .int .i64 0, .int .i64 0, .int .i64 0, .bool false, .bool false, .bool false, .bool false, .bool false] P w w.heap.size #[.string ty, .bool bub, .bool can, .slice s P.length c])
  case atStart => exact ⟨0, none, 0, rfl, Nat.zero_le _, rfl, rfl, H1.out⟩
  case round =>
    obtain ⟨k, so, co, hg, hk, rfl, rfl, hp⟩ := hrel
    have Hg := Lib.hid hg
    have Hp := Lib.hid hp
    have hbx := hp.blkm (.tail _ (.tail _ (.head _)))
    have hbxl := hbx.lt
    have k0 := hbx.cell 0
    have k1 := hbx.cell 1
    have k2 := hbx.cell 2
    have k3 := hbx.cell 3
    simp at k0 k1 k2 k3
    clear hg hp H1 hbx
    by_cases hkn : k < P.length
    · have hr := HS.out.below Hp.out.bel
      obtain ⟨g1, o1, rfl, -⟩ := hr.addr (by omega)
      obtain ⟨x, hx⟩ : ∃ x, P[k] = x := ⟨_, rfl⟩
      obtain ⟨d0, d1⟩ := g_at hr hkn x hx
      have HX := Lib.hid hx
      have hkn' : (k : Int) < (P.length : Int) := by omega
      obtain ⟨x0, x1⟩ := x
      simp only at d0 d1
      have hxs := (Hp.out.sl).alloc (.cells #[.int .i64 x0, .int .i64 x1] 39)
      have r2 := rd_built_at wr #[.int .i64 x0, .int .i64 x1] 39 2 1 wr.heap.size rfl rfl (by simp [Value.oneCell'])
      clear hx hr
      go_wp2_with (refine wpList_append_any rfl (.tmp 11) (.tmp 17) 42 rfl elG so _ co _ rfl hxs _ 1 _ _ rfl r2 (by omega) (by omega) ?_)
      intro so' co' w2 p1 p2 p3
      have H2 := Lib.hid ((Hp.out.alloc (.cells #[.int .i64 x0, .int .i64 x1] 39)).row_step p1 p2 p3)
      clear p1 p2 p3 d0 d1 hxs r2
      go_wp2_with fail
      go_roundg (P.length - (k + 1))
      case measure => have := Hg.out; omega
      case rel => exact ⟨k + 1, so', co', rfl, by omega, by simp, rfl, by rw [flat_take_succ _ _ _ hkn, HX.out]; exact H2.out⟩
    · obtain rfl : k = P.length := by omega
      rw [List.take_length] at Hp
      have hrc := Hp.out.sl.rc
      have HN := Lib.hid (new_st ty so P.length co P bub can Hp.out hrc rfl (by omega))
      clear hrc
      go_wp2_with fail
      refine HN.out.mono ?_
      rintro e w2 ⟨s1, c1, rfl, h2⟩
      have H2 := Lib.hid (St.sh [_, _, _, _] [2, 0, 1, 3] (by decide) h2)
      simp only [List.map_cons, List.map_nil, List.getD_cons_zero, List.getD_cons_succ, List.cons_append, List.nil_append] at H2
      obtain ⟨c0, c1', c2, c3, c4, c5, c6, c7, c8, c9, c10, c11, c12, c13⟩ := Blk.c14 H2.out.blk.1
      obtain ⟨f0, f1, f2, f3, f4, f5, f6, f7, f8, f9, f10, f11, f12, f13⟩ := Blk.f14 H2.out.blk.1
      clear h2 HN
      unfold dNew at H2
      go_wp2_with fail
      refine bodyPost_ret (v := .agg (dCells (dNew ty bub can P) s1 c1 none 0)) (by simp [results, Try.results16, go_sem, dNew, c0, c1', c2, c3, c4, c5, c6, c7, c8, c9, c10, c11, c12, c13]) rfl ⟨s1, c1, rfl, ?_⟩
      have h4 := (H2.out.set14 (.string ty) (.bool bub) (.bool can) (.slice s1 P.length c1) (.int .i64 0) (.slice none 0 0) (.int .i64 0) (.int .i64 0) (.int .i64 0) (.bool false) (.bool false) (.bool false) (.bool false) (.bool false)).drop
      have h5 := h4.swap.drop
      have h6 := h5.swap.drop
      exact h6
end Go.Proofs.Ytianjcbofgdfdaa
