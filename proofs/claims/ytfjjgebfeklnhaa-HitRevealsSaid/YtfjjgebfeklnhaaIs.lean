/-
  Scroll offsets: how they lie; scrolls, hit.Get.
-/
import Derived.Test.YtfjjgebfeklnhaaIn
import Derived.Test.YtfjjgebfeklnhaaIr
set_option linter.unusedVariables false
set_option linter.unusedSimpArgs false
namespace Go.Proofs.Ytfjjgebfeklnhaa
open Go.RowKit Go.K

structure Sc where
  n : Int
  x : Int
  y : Int
def scc (o : Sc) : List Value := [.int .i64 o.n, .int .i64 o.x, .int .i64 o.y]
theorem scc_one : ∀ (o : Sc), ∀ u ∈ scc o, u.oneCell' = true := by
  intro o u hu
  simp [scc] at hu
  rcases hu with h | h | h <;> subst h <;> rfl
def scOf (o : Of) : Sc := ⟨o.n, o.x, o.y⟩
theorem zero61 : (Try.prog.info? 61).map (fun i => (i.zero, i.size, i.bytes)) = some (some (.agg #[.int .i64 0, .int .i64 0, .int .i64 0]), 3, 24) := by kernel_rfl
theorem el61 : El Try.prog 66 61 3 24 := by
  obtain ⟨i, hi, h1, h2, h3⟩ := info_parts zero61
  exact ⟨by kernel_rfl, ⟨i, _, hi, h1, h2, h3, rfl⟩, by decide⟩
theorem three_at {α : Type} {f : α → List Value} (hf : ∀ a, (f a).length = 3) {w : World} {g off n : Nat} {ls : List α} (hs : Rd w 3 (some ⟨g, off, none⟩) n (flat f ls)) {k : Nat} (hk : k < ls.length) (x : α) (hx : ls[k] = x) :
    w.cell? ⟨g, off + k * 3, none⟩ = (f x)[0]? ∧ w.cell? ⟨g, off + k * 3 + 1, none⟩ = (f x)[1]? ∧ w.cell? ⟨g, off + k * 3 + 2, none⟩ = (f x)[2]? := by
  have e := fun j hj => flat_at (f := f) (sz := 3) hf ls k j hk hj
  rw [hx] at e
  have c := fun j u h => hs.cells _ rfl j u h
  simp only [Addr.add_lit] at c
  have q : ∀ j, j < 3 → w.cell? ⟨g, off + (k * 3 + j), none⟩ = (f x)[j]? := fun j hj => by
    have hl : j < (f x).length := by rw [hf]; exact hj
    rw [List.getElem?_eq_getElem hl]
    exact c _ _ ((e j hj).trans (List.getElem?_eq_getElem hl))
  simp only [← Nat.add_assoc] at q
  exact ⟨by have := q 0 (by omega); rwa [Nat.add_zero] at this, q 1 (by omega), q 2 (by omega)⟩
theorem of_at {w : World} {g off n : Nat} {ls : List Of} (hs : Rd w 3 (some ⟨g, off, none⟩) n (flat ofc ls)) {k : Nat} (hk : k < ls.length) (x : Of) (hx : ls[k] = x) :
    w.cell? ⟨g, off + k * 3, none⟩ = some (.int .u8 x.n) ∧ w.cell? ⟨g, off + k * 3 + 1, none⟩ = some (.int .i16 x.x) ∧ w.cell? ⟨g, off + k * 3 + 2, none⟩ = some (.int .i16 x.y) := three_at (fun _ => rfl) hs hk x hx
theorem sc_at {w : World} {g off n : Nat} {ls : List Sc} (hs : Rd w 3 (some ⟨g, off, none⟩) n (flat scc ls)) {k : Nat} (hk : k < ls.length) (x : Sc) (hx : ls[k] = x) :
    w.cell? ⟨g, off + k * 3, none⟩ = some (.int .i64 x.n) ∧ w.cell? ⟨g, off + k * 3 + 1, none⟩ = some (.int .i64 x.x) ∧ w.cell? ⟨g, off + k * 3 + 2, none⟩ = some (.int .i64 x.y) := three_at (fun _ => rfl) hs hk x hx

def ScsRel (ls : List Of) (w : World) (g : Nat) (v3 v7 : Value) (wr' : World) : Prop :=
  ∃ (k : Nat) (s : Option Addr) (c : Nat), g = ls.length - k ∧ k ≤ ls.length ∧ v7 = .int .i64 k ∧ v3 = .slice s k c ∧ K.Own w wr' 61 3 s k c (flat scc ((ls.take k).map scOf))
def ScsPost (ls : List Of) (w : World) (e : Ending) (w' : World) : Prop :=
  ∃ s c, e = .returned (.slice s ls.length c) ∧ K.Own w w' 61 3 s ls.length c (flat scc (ls.map scOf))
set_option maxRecDepth 100000 in
set_option maxHeartbeats 2000000 in
theorem scrolls_any (s : Option Addr) (c : Nat) (ls : List Of) (w : World) (h : Rd w 3 s ls.length (flat ofc ls)) (hok : ∀ o ∈ ls, o.ok) (hn : ls.length ≤ 1000) :
    Calls Try.prog 20 #[.slice s ls.length c] w (ScsPost ls w) := by
  have HR := Lib.hid h
  have HOK := Lib.hid hok
  clear h hok
  have hnI : (ls.length : Int) ≤ 1000 := by omega
  go_enter Try.func20, Try.ntmps20
  go_wp2_with fail
  go_loopg [3, 7] ls.length (ScsRel ls w)
  case atStart => exact ⟨0, none, 0, rfl, Nat.zero_le _, rfl, rfl, K.Own.nil (Below.refl _ _) _ _⟩
  case round =>
    obtain ⟨k, so, co, hg, hk, rfl, rfl, hp⟩ := hrel
    have Hg := Lib.hid hg
    have Hp := Lib.hid hp
    clear hg hp
    by_cases hkn : k < ls.length
    · have hr := HR.out.below Hp.out.bel
      obtain ⟨g, off, rfl, -⟩ := hr.addr (by omega)
      obtain ⟨x, hx⟩ : ∃ x, ls[k] = x := ⟨_, rfl⟩
      have HX := Lib.hid hx
      obtain ⟨⟨hn0, hn1⟩, ⟨hx0, hx1⟩, ⟨hy0, hy1⟩⟩ := HOK.out x (by rw [← hx]; exact List.getElem_mem hkn)
      have hkI : (k : Int) < (ls.length : Int) := by omega
      have hkI0 : (0 : Int) ≤ (k : Int) := by omega
      have en : IntKind.i64.wrap x.n = x.n := wr_id (by omega) (by omega)
      have ex : IntKind.i64.wrap x.x = x.x := wr_id (by omega) (by omega)
      have ey : IntKind.i64.wrap x.y = x.y := wr_id (by omega) (by omega)
      have KP := Lib.hid (show ∀ w', Below w.heap.size w w' → (fun w' : World => w'.cell? ⟨g, off + k * 3, none⟩ = some (.int .u8 x.n) ∧ w'.cell? ⟨g, off + k * 3 + 1, none⟩ = some (.int .i16 x.x) ∧ w'.cell? ⟨g, off + k * 3 + 2, none⟩ = some (.int .i16 x.y)) w' from fun w' hb => of_at (HR.out.below hb) hkn x HX.out)
      have hS := KP.out wr.drew ⟨Hp.out.bel.os, Hp.out.bel.tape, Hp.out.bel.output, Hp.out.bel.size, Hp.out.bel.block⟩
      clear hr hx hn0 hn1 hx0 hx1 hy0 hy1
      go_upto_region 5 with fail
      refine wp_region_held (S := (fun w' : World => w'.cell? ⟨g, off + k * 3, none⟩ = some (.int .u8 x.n) ∧ w'.cell? ⟨g, off + k * 3 + 1, none⟩ = some (.int .i16 x.x) ∧ w'.cell? ⟨g, off + k * 3 + 2, none⟩ = some (.int .i16 x.y))) (by kernel_rfl) ?_
      change wpAnyH _ _ _ _ _ _ _ _ (World.drew _)
      refine' wpAnyH_take (i := 0) (v := .slice so k co) rfl (by kernel_rfl) (by kernel_rfl) (by kernel_rfl) (fun _ _ _ h => h) (Or.inl ⟨by rfl, ?hy0⟩) hS ?rest0
      case hy0 => (intro w' hSw; obtain ⟨k0, k1, k2⟩ := hSw; go_simp; try with_reducible rfl)
      try simp only [Act.put, List.getElem_toArray, List.getElem_cons_zero, List.getElem_cons_succ, List.setIfInBounds_toArray, List.set_cons_zero, List.set_cons_succ]
      refine' wpAnyH_take (i := 1) (v := .slice (some ⟨g, off, none⟩) ls.length c) rfl (by kernel_rfl) (by kernel_rfl) (by kernel_rfl) (fun _ _ _ h => h) (Or.inl ⟨by rfl, ?hy1⟩) hS ?rest1
      case hy1 => (intro w' hSw; obtain ⟨k0, k1, k2⟩ := hSw; go_simp; try with_reducible rfl)
      try simp only [Act.put, List.getElem_toArray, List.getElem_cons_zero, List.getElem_cons_succ, List.setIfInBounds_toArray, List.set_cons_zero, List.set_cons_succ]
      refine' wpAnyH_take (i := 2) (v := .int .i64 (k : Int)) rfl (by kernel_rfl) (by kernel_rfl) (by kernel_rfl) (fun _ _ _ h => h) (Or.inl ⟨by rfl, ?hy2⟩) hS ?rest2
      case hy2 => (intro w' hSw; obtain ⟨k0, k1, k2⟩ := hSw; go_simp; try with_reducible rfl)
      try simp only [Act.put, List.getElem_toArray, List.getElem_cons_zero, List.getElem_cons_succ, List.setIfInBounds_toArray, List.set_cons_zero, List.set_cons_succ]
      refine' wpAnyH_take (i := 3) (v := .pointer (some ⟨g, off + k * 3, none⟩)) rfl (by kernel_rfl) (by kernel_rfl) (by kernel_rfl) (fun _ _ _ h => h) (Or.inl ⟨by rfl, ?hy3⟩) hS ?rest3
      case hy3 => (intro w' hSw; obtain ⟨k0, k1, k2⟩ := hSw; go_simp; try with_reducible rfl)
      try simp only [Act.put, List.getElem_toArray, List.getElem_cons_zero, List.getElem_cons_succ, List.setIfInBounds_toArray, List.set_cons_zero, List.set_cons_succ]
      refine' wpAnyH_take (i := 4) (v := .pointer (some ⟨g, off + k * 3, none⟩)) rfl (by kernel_rfl) (by kernel_rfl) (by kernel_rfl) (fun _ _ _ h => h) (Or.inl ⟨by rfl, ?hy4⟩) hS ?rest4
      case hy4 => (intro w' hSw; obtain ⟨k0, k1, k2⟩ := hSw; go_simp; try with_reducible rfl)
      try simp only [Act.put, List.getElem_toArray, List.getElem_cons_zero, List.getElem_cons_succ, List.setIfInBounds_toArray, List.set_cons_zero, List.set_cons_succ]
      refine' wpAnyH_take (i := 5) (v := .int .u8 x.n) rfl (by kernel_rfl) (by kernel_rfl) (by kernel_rfl) (fun _ _ _ h => h) (Or.inl ⟨by rfl, ?hy5⟩) hS ?rest5
      case hy5 => (intro w' hSw; obtain ⟨k0, k1, k2⟩ := hSw; go_simp; try with_reducible rfl)
      try simp only [Act.put, List.getElem_toArray, List.getElem_cons_zero, List.getElem_cons_succ, List.setIfInBounds_toArray, List.set_cons_zero, List.set_cons_succ]
      refine' wpAnyH_take (i := 6) (v := .int .i64 x.n) rfl (by kernel_rfl) (by kernel_rfl) (by kernel_rfl) (fun _ _ _ h => h) (Or.inl ⟨by rfl, ?hy6⟩) hS ?rest6
      case hy6 => (intro w' hSw; obtain ⟨k0, k1, k2⟩ := hSw; go_simp; try with_reducible rfl)
      try simp only [Act.put, List.getElem_toArray, List.getElem_cons_zero, List.getElem_cons_succ, List.setIfInBounds_toArray, List.set_cons_zero, List.set_cons_succ]
      refine' wpAnyH_take (i := 7) (v := .slice (some ⟨g, off, none⟩) ls.length c) rfl (by kernel_rfl) (by kernel_rfl) (by kernel_rfl) (fun _ _ _ h => h) (Or.inl ⟨by rfl, ?hy7⟩) hS ?rest7
      case hy7 => (intro w' hSw; obtain ⟨k0, k1, k2⟩ := hSw; go_simp; try with_reducible rfl)
      try simp only [Act.put, List.getElem_toArray, List.getElem_cons_zero, List.getElem_cons_succ, List.setIfInBounds_toArray, List.set_cons_zero, List.set_cons_succ]
      refine' wpAnyH_take (i := 8) (v := .int .i64 (k : Int)) rfl (by kernel_rfl) (by kernel_rfl) (by kernel_rfl) (fun _ _ _ h => h) (Or.inl ⟨by rfl, ?hy8⟩) hS ?rest8
      case hy8 => (intro w' hSw; obtain ⟨k0, k1, k2⟩ := hSw; go_simp; try with_reducible rfl)
      try simp only [Act.put, List.getElem_toArray, List.getElem_cons_zero, List.getElem_cons_succ, List.setIfInBounds_toArray, List.set_cons_zero, List.set_cons_succ]
      refine' wpAnyH_take (i := 9) (v := .pointer (some ⟨g, off + k * 3, none⟩)) rfl (by kernel_rfl) (by kernel_rfl) (by kernel_rfl) (fun _ _ _ h => h) (Or.inl ⟨by rfl, ?hy9⟩) hS ?rest9
      case hy9 => (intro w' hSw; obtain ⟨k0, k1, k2⟩ := hSw; go_simp; try with_reducible rfl)
      try simp only [Act.put, List.getElem_toArray, List.getElem_cons_zero, List.getElem_cons_succ, List.setIfInBounds_toArray, List.set_cons_zero, List.set_cons_succ]
      refine' wpAnyH_take (i := 10) (v := .pointer (some ⟨g, off + k * 3 + 1, none⟩)) rfl (by kernel_rfl) (by kernel_rfl) (by kernel_rfl) (fun _ _ _ h => h) (Or.inl ⟨by rfl, ?hy10⟩) hS ?rest10
      case hy10 => (intro w' hSw; obtain ⟨k0, k1, k2⟩ := hSw; go_simp; try with_reducible rfl)
      try simp only [Act.put, List.getElem_toArray, List.getElem_cons_zero, List.getElem_cons_succ, List.setIfInBounds_toArray, List.set_cons_zero, List.set_cons_succ]
      refine' wpAnyH_take (i := 11) (v := .int .i16 x.x) rfl (by kernel_rfl) (by kernel_rfl) (by kernel_rfl) (fun _ _ _ h => h) (Or.inl ⟨by rfl, ?hy11⟩) hS ?rest11
      case hy11 => (intro w' hSw; obtain ⟨k0, k1, k2⟩ := hSw; go_simp; try with_reducible rfl)
      try simp only [Act.put, List.getElem_toArray, List.getElem_cons_zero, List.getElem_cons_succ, List.setIfInBounds_toArray, List.set_cons_zero, List.set_cons_succ]
      refine' wpAnyH_take (i := 12) (v := .int .i64 x.x) rfl (by kernel_rfl) (by kernel_rfl) (by kernel_rfl) (fun _ _ _ h => h) (Or.inl ⟨by rfl, ?hy12⟩) hS ?rest12
      case hy12 => (intro w' hSw; obtain ⟨k0, k1, k2⟩ := hSw; go_simp; try with_reducible rfl)
      try simp only [Act.put, List.getElem_toArray, List.getElem_cons_zero, List.getElem_cons_succ, List.setIfInBounds_toArray, List.set_cons_zero, List.set_cons_succ]
      refine' wpAnyH_take (i := 13) (v := .slice (some ⟨g, off, none⟩) ls.length c) rfl (by kernel_rfl) (by kernel_rfl) (by kernel_rfl) (fun _ _ _ h => h) (Or.inl ⟨by rfl, ?hy13⟩) hS ?rest13
      case hy13 => (intro w' hSw; obtain ⟨k0, k1, k2⟩ := hSw; go_simp; try with_reducible rfl)
      try simp only [Act.put, List.getElem_toArray, List.getElem_cons_zero, List.getElem_cons_succ, List.setIfInBounds_toArray, List.set_cons_zero, List.set_cons_succ]
      refine' wpAnyH_take (i := 14) (v := .int .i64 (k : Int)) rfl (by kernel_rfl) (by kernel_rfl) (by kernel_rfl) (fun _ _ _ h => h) (Or.inl ⟨by rfl, ?hy14⟩) hS ?rest14
      case hy14 => (intro w' hSw; obtain ⟨k0, k1, k2⟩ := hSw; go_simp; try with_reducible rfl)
      try simp only [Act.put, List.getElem_toArray, List.getElem_cons_zero, List.getElem_cons_succ, List.setIfInBounds_toArray, List.set_cons_zero, List.set_cons_succ]
      refine' wpAnyH_take (i := 15) (v := .pointer (some ⟨g, off + k * 3, none⟩)) rfl (by kernel_rfl) (by kernel_rfl) (by kernel_rfl) (fun _ _ _ h => h) (Or.inl ⟨by rfl, ?hy15⟩) hS ?rest15
      case hy15 => (intro w' hSw; obtain ⟨k0, k1, k2⟩ := hSw; go_simp; try with_reducible rfl)
      try simp only [Act.put, List.getElem_toArray, List.getElem_cons_zero, List.getElem_cons_succ, List.setIfInBounds_toArray, List.set_cons_zero, List.set_cons_succ]
      refine' wpAnyH_take (i := 16) (v := .pointer (some ⟨g, off + k * 3 + 2, none⟩)) rfl (by kernel_rfl) (by kernel_rfl) (by kernel_rfl) (fun _ _ _ h => h) (Or.inl ⟨by rfl, ?hy16⟩) hS ?rest16
      case hy16 => (intro w' hSw; obtain ⟨k0, k1, k2⟩ := hSw; go_simp; try with_reducible rfl)
      try simp only [Act.put, List.getElem_toArray, List.getElem_cons_zero, List.getElem_cons_succ, List.setIfInBounds_toArray, List.set_cons_zero, List.set_cons_succ]
      refine' wpAnyH_take (i := 17) (v := .int .i16 x.y) rfl (by kernel_rfl) (by kernel_rfl) (by kernel_rfl) (fun _ _ _ h => h) (Or.inl ⟨by rfl, ?hy17⟩) hS ?rest17
      case hy17 => (intro w' hSw; obtain ⟨k0, k1, k2⟩ := hSw; go_simp; try with_reducible rfl)
      try simp only [Act.put, List.getElem_toArray, List.getElem_cons_zero, List.getElem_cons_succ, List.setIfInBounds_toArray, List.set_cons_zero, List.set_cons_succ]
      refine' wpAnyH_take (i := 18) (v := .int .i64 x.y) rfl (by kernel_rfl) (by kernel_rfl) (by kernel_rfl) (fun _ _ _ h => h) (Or.inl ⟨by rfl, ?hy18⟩) hS ?rest18
      case hy18 => (intro w' hSw; obtain ⟨k0, k1, k2⟩ := hSw; go_simp; try with_reducible rfl)
      try simp only [Act.put, List.getElem_toArray, List.getElem_cons_zero, List.getElem_cons_succ, List.setIfInBounds_toArray, List.set_cons_zero, List.set_cons_succ]
      refine' wpAnyH_take (i := 19) (v := .agg #[.int .i64 x.n, .int .i64 x.x, .int .i64 x.y]) rfl (by kernel_rfl) (by kernel_rfl) (by kernel_rfl) (fun _ _ _ h => h) (Or.inl ⟨by rfl, ?hy19⟩) hS ?rest19
      case hy19 => (intro w' hSw; obtain ⟨k0, k1, k2⟩ := hSw; go_simp; try with_reducible rfl)
      try simp only [Act.put, List.getElem_toArray, List.getElem_cons_zero, List.getElem_cons_succ, List.setIfInBounds_toArray, List.set_cons_zero, List.set_cons_succ]
      have H3 := Lib.hid (Hp.out.drew.alloc (.cells #[.int .i64 x.n, .int .i64 x.x, .int .i64 x.y] 61))
      have r2 := rd_built_at wr.drew #[.int .i64 x.n, .int .i64 x.x, .int .i64 x.y] 61 3 1 wr.heap.size rfl rfl (by simp [Value.oneCell'])
      refine held_one (i := 20) rfl (by kernel_rfl) ?_
      intro K' hK; have HK' := Lib.hid hK; clear hK
      go_simp
      refine HK'.out _ _ ⟨KP.out _ H3.out.bel, ?_⟩
      clear HK' K'
      try simp only [Act.put, List.getElem_toArray, List.getElem_cons_zero, List.getElem_cons_succ, List.setIfInBounds_toArray, List.set_cons_zero, List.set_cons_succ]
      refine held_one (i := 21) rfl (by kernel_rfl) ?_
      intro K' hK; have HK' := Lib.hid hK; clear hK
      refine step_append_any (by rfl) (.tmp 10) (.tmp 30) 66 (by rfl) el61 so _ co _ (by rfl) H3.out.sl _ 1 _ _ (by rfl) r2 (by omega) (by omega) ?_
      intro so' co' w4 p1 p2 p3
      have H4 := Lib.hid (H3.out.app p1 p2 p3)
      refine HK'.out _ _ ⟨KP.out _ H4.out.bel, ?_⟩
      clear HK' K' p1 p2 p3 hS r2
      try simp only [Act.put, List.getElem_toArray, List.getElem_cons_zero, List.getElem_cons_succ, List.setIfInBounds_toArray, List.set_cons_zero, List.set_cons_succ]
      refine held_one (i := 22) rfl (by kernel_rfl) ?_
      intro K' hK; have HK' := Lib.hid hK; clear hK
      go_simp
      refine HK'.out _ _ ⟨KP.out _ H4.out.bel, ?_⟩
      clear HK' K'
      try simp only [Act.put, List.getElem_toArray, List.getElem_cons_zero, List.getElem_cons_succ, List.setIfInBounds_toArray, List.set_cons_zero, List.set_cons_succ]
      refine wpAnyH_done (by kernel_rfl) ?_ _
      go_wp2_with fail
      go_roundg (ls.length - (k + 1))
      case measure => have := Hg.out; omega
      case rel =>
        refine ⟨k + 1, so', co', rfl, hkn, by simp, rfl, ?_⟩
        have e : flat scc ((ls.take (k + 1)).map scOf) = flat scc ((ls.take k).map scOf) ++ (#[Value.int .i64 x.n, .int .i64 x.x, .int .i64 x.y]).toList := by
          rw [List.take_succ_eq_append_getElem hkn, HX.out, List.map_append, flat_append]
          simp [flat, scc, scOf]
        rw [e]
        exact H4.out
    · have hkI : ¬ (k : Int) < (ls.length : Int) := by omega
      have hke : k = ls.length := by omega
      subst hke
      go_wp2_with fail
      go_ret
      refine ⟨so, co, rfl, ?_⟩
      have := Hp.out
      rwa [List.take_length] at this

/-! Get -/
def getS (l : List Sc) (nd : Int) : Sc := (l.find? (fun s => s.n == nd)).getD ⟨nd, 0, 0⟩
def GtRel (ls : List Sc) (nd : Int) (w : World) (m : Nat) (g : Nat) (v9 : Value) (wr' : World) : Prop :=
  ∃ k : Nat, g = ls.length - k ∧ k ≤ ls.length ∧ v9 = .int .i64 k ∧ (∀ x ∈ ls.take k, (x.n == nd) = false) ∧ St w wr' [As.cells m #[.int .i64 0, .int .i64 0, .int .i64 0] 61]
theorem find_at' {α : Type} (P : α → Bool) (l : List α) (k : Nat) (hk : k < l.length) (h1 : ∀ p ∈ l.take k, P p = false) (h2 : P l[k] = true) : l.find? P = some l[k] := by
  have e : l = l.take k ++ l[k] :: l.drop (k + 1) := by rw [List.getElem_cons_drop, List.take_append_drop]
  have e2 : l.find? P = (l.take k ++ l[k] :: l.drop (k + 1)).find? P := congrArg _ e
  rw [e2, List.find?_append, List.find?_eq_none.2 (fun p hp => by simp [h1 p hp]), Option.none_or, List.find?_cons_of_pos h2]
set_option maxRecDepth 100000 in
set_option maxHeartbeats 1000000 in
theorem get_any (s : Option Addr) (c n : Nat) (ls : List Sc) (nd : Int) (w : World) (h : Rd w 3 s n (flat scc ls)) (hl : ls.length = n) (hn : n ≤ 100000) :
    Calls Try.prog 22 #[.slice s n c, .int .i64 nd] w fun e w' => e = .returned (sc3 (getS ls nd).n (getS ls nd).x (getS ls nd).y) ∧ Below w.heap.size w w' := by
  subst hl
  have HR := Lib.hid h
  clear h
  have hnI : (ls.length : Int) ≤ 100000 := by omega
  obtain ⟨r, hr⟩ : ∃ r, getS ls nd = r := ⟨_, rfl⟩
  rw [hr]
  have HRR := Lib.hid hr
  clear hr
  have H1 := Lib.hid ((St.start w (Below.refl _ w)).new #[.int .i64 0, .int .i64 0, .int .i64 0] 61)
  obtain ⟨m, hm⟩ : ∃ m, w.heap.size = m := ⟨_, rfl⟩
  go_enter Try.func22, Try.ntmps22
  go_wp2_with fail
  rw [hm] at H1
  go_loopg [9] ls.length (GtRel ls nd w m)
  case atStart => exact ⟨0, rfl, Nat.zero_le _, rfl, by simp, H1.out⟩
  case round =>
    obtain ⟨k, hg, hk, rfl, hno, hst⟩ := hrel
    have Hg := Lib.hid hg
    have HNO := Lib.hid hno
    have HS := Lib.hid hst
    clear hg hno hst
    by_cases hkn : k < ls.length
    · have hkI : (k : Int) < (ls.length : Int) := by omega
      have hkI0 : (0 : Int) ≤ (k : Int) := by omega
      have hrd := HR.out.below HS.out.bel
      obtain ⟨g, off, rfl, -⟩ := hrd.addr (by omega)
      have htk : ls.take (k + 1) = ls.take k ++ [ls[k]] := List.take_succ_eq_append_getElem hkn
      have hfa := fun h2 => find_at' (fun s : Sc => s.n == nd) ls k hkn HNO.out h2
      obtain ⟨x, hx⟩ : ∃ x, ls[k] = x := ⟨_, rfl⟩
      obtain ⟨d0, d1, d2⟩ := sc_at hrd hkn x hx
      rw [hx] at htk hfa
      have HTK := Lib.hid htk
      have HFA := Lib.hid hfa
      clear hrd hx htk hfa
      go_upto_region 4 with fail
      have h4 := HS.out.new #[.int .i64 x.n, .int .i64 x.x, .int .i64 x.y] 61
      obtain ⟨W4, hW4⟩ : ∃ W4, wr.alloc (.cells #[.int .i64 x.n, .int .i64 x.x, .int .i64 x.y] 61) = W4 := ⟨_, rfl⟩
      rw [hW4] at h4 ⊢
      have H4 := Lib.hid h4
      obtain ⟨c0, c1, c2, -⟩ := h4.blk.1.three
      obtain ⟨z0, z1, z2, f0, f1, f2⟩ := (h4.blkm (b := m) (.tail _ (.head _))).three
      clear h4 hW4 d0 d1 d2
      obtain ⟨q, hq⟩ : ∃ q, (x.n == nd) = q := ⟨_, rfl⟩
      have HQ := Lib.hid hq
      cases q with
      | true =>
        go_wp2_with fail
        have h9 := (((H4.out.swap.set 0 (.int .i64 x.n)).set 1 (.int .i64 x.x)).set 2 (.int .i64 x.y))
        simp only [List.setIfInBounds_toArray, List.set_cons_zero, List.set_cons_succ] at h9
        have hrx : r = x := by rw [← HRR.out, getS, HFA.out HQ.out]; rfl
        refine bodyPost_ret (results_cell_row (P := Try.prog) Try.results22 _ _ m 61 #[.int .i64 x.n, .int .i64 x.x, .int .i64 x.y] _ _ rfl h9.blk.1 Try.underlying61 rfl (by kernel_rfl)) rfl ?_
        exact ⟨by rw [hrx], h9.bel⟩
      | false =>
        go_wp2_with fail
        go_roundg (ls.length - (k + 1))
        case measure => have := Hg.out; omega
        case rel =>
          refine ⟨k + 1, rfl, hkn, by simp, ?_, H4.out.drop⟩
          intro y hy
          rw [HTK.out] at hy
          rcases List.mem_append.1 hy with e | e
          · exact HNO.out y e
          · rw [List.mem_singleton.1 e]; exact HQ.out
    · have hkI : ¬ (k : Int) < (ls.length : Int) := by omega
      have hke : k = ls.length := by omega
      subst hke
      obtain ⟨z0, z1, z2, f0, f1, f2⟩ := HS.out.blk.1.three
      go_wp2_with fail
      have h9 := (((HS.out.set 0 (.int .i64 nd)).set 1 (.int .i64 0)).set 2 (.int .i64 0))
      simp only [List.setIfInBounds_toArray, List.set_cons_zero, List.set_cons_succ] at h9
      have hrx : r = ⟨nd, 0, 0⟩ := by
        have h1 := HNO.out
        rw [List.take_length] at h1
        rw [← HRR.out, getS, List.find?_eq_none.2 (fun p hp => by simp only [h1 p hp]; simp)]; rfl
      refine bodyPost_ret (results_cell_row (P := Try.prog) Try.results22 _ _ m 61 #[.int .i64 nd, .int .i64 0, .int .i64 0] _ _ rfl h9.blk.1 Try.underlying61 rfl (by kernel_rfl)) rfl ?_
      exact ⟨by rw [hrx], by have := h9.bel; rw [hm] at this; exact this⟩
end Go.Proofs.Ytfjjgebfeklnhaa
