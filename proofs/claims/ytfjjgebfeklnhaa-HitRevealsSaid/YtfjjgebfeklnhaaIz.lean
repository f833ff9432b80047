/-
  Reveal in one; what the walk of HitReveals needs.
-/
import Derived.Test.YtfjjgebfeklnhaaIu
import Derived.Test.YtfjjgebfeklnhaaIy
set_option linter.unusedVariables false
set_option linter.unusedSimpArgs false
namespace Go.Proofs.Ytfjjgebfeklnhaa
open Go.RowKit Go.K

def revT (t : Ft) (ls : List Sc) (nd wd ht : Int) : List Sc := match locT nd t with | none => ls | some p => revealR t ls p.2 wd ht
theorem reveal_any (t : Ft) (s : Option Addr) (c n : Nat) (ls : List Sc) (nd wd ht : Int) (w : World) (hT : FtAt w t) (hsz : t.sz ≤ 100000) (h : Rd w 3 s n (flat scc ls)) (hl : ls.length = n) (hn : n ≤ 1000) (R : List Sc) (hR : revT t ls nd wd ht = R) :
    Calls Try.prog 23 #[.agg (fc t).toArray, .slice s n c, .int .i64 nd, .int .i64 wd, .int .i64 ht] w fun e w' => ∃ s' c', e = .returned (.slice s' R.length c') ∧ K.Own w w' 61 3 s' R.length c' (flat scc R) := by
  cases hp : locT nd t with
  | none =>
    have e : R = ls := by rw [← hR, revT, hp]
    subst e
    subst hl
    exact reveal_none t s c _ R nd wd ht w hT hsz h rfl hn hp
  | some p =>
    have e : revealR t ls p.2 wd ht = R := by rw [← hR, revT, hp]
    exact reveal_some t s c n ls nd wd ht w hT hsz h hl hn p hp R e
theorem into_moved (o f s w : Int) : movedT o f (wr (f + s)) w = intoT o f s w := rfl
theorem moved_n (o a b d X : Int) (w : World) (h : movedT o a b d = X) : Calls Try.prog 25 #[.int .i64 o, .int .i64 a, .int .i64 b, .int .i64 d] w fun e w' => e = .returned (.int .i64 X) ∧ Below w.heap.size w w' := by
  subst h; exact moved_c o a b d w
/-- the offset of a node among offsets that came in is small -/
theorem getS_bd (ls : List Of) (hok : ∀ o ∈ ls, o.ok) (nd : Int) : (-1000000 ≤ (getS (ls.map scOf) nd).x ∧ (getS (ls.map scOf) nd).x ≤ 1000000) ∧ (-1000000 ≤ (getS (ls.map scOf) nd).y ∧ (getS (ls.map scOf) nd).y ≤ 1000000) := by
  unfold getS
  cases h : (ls.map scOf).find? (fun s => s.n == nd) with
  | none => simp
  | some x =>
    obtain ⟨o, ho, rfl⟩ := List.mem_map.1 (List.mem_of_find?_eq_some h)
    obtain ⟨-, ⟨a1, a2⟩, ⟨b1, b2⟩⟩ := hok o ho
    simp only [Option.getD_some, scOf]
    omega
/-- a box lies near -/
theorem loc_bd {d : Nat} {t : Ft} (h : FtOk d t) (hd : d ≤ 100) (nd : Int) (p : Ft × R4) (hp : locT nd t = some p) :
    (-1000000 ≤ wr (p.2.x - t.a.x) ∧ wr (p.2.x - t.a.x) ≤ 1000000) ∧ (-1000000 ≤ wr (p.2.y - t.a.y) ∧ wr (p.2.y - t.a.y) ≤ 1000000) ∧ (-1000000 ≤ p.2.w ∧ p.2.w ≤ 1000000) ∧ (-1000000 ≤ p.2.h ∧ p.2.h ≤ 1000000) := by
  have hm := List.mem_of_find?_eq_some hp
  obtain ⟨hb, -⟩ := bxs_bd d 0 0 0 t h (by omega) (by omega) (by omega) (by omega) (by omega) p hm
  obtain ⟨⟨a1, a2⟩, ⟨a3, a4⟩, -⟩ := h.a
  obtain ⟨⟨b1, b2⟩, ⟨b3, b4⟩, ⟨b5, b6⟩, ⟨b7, b8⟩⟩ := hb
  rw [wr_id (n := p.2.x - t.a.x) (by omega) (by omega), wr_id (n := p.2.y - t.a.y) (by omega) (by omega)]
  omega
end Go.Proofs.Ytfjjgebfeklnhaa
