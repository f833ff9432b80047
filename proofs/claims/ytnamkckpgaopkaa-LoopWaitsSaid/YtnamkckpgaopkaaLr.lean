/-
  What Next of a State does.
-/
import Derived.Test.YtnamkckpgaopkaaLq
set_option linter.unusedVariables false
set_option linter.unusedSimpArgs false
namespace Go.Proofs.Ytnamkckpgaopkaa
open Go.RowKit Go.K

def popTm (S : LS) : Tm × Bool × LS := match S.tm with
  | [] => (Tm.zero, false, S)
  | t :: r => if t.due ≤ S.now then (t, true, { S with tm := r }) else (Tm.zero, false, S)
theorem tpop_s {w0 w : World} {L : List As} {b : Nat} {S : LS} (h : St w0 w (stO b S :: L)) (hn : S.tm.length ≤ 100000) (T : Tm) (ok : Bool) (S2 : LS) (hp : popTm S = (T, ok, S2)) :
    Calls Try.prog 31 #[.pointer (some ⟨b, 8, none⟩), .int .i64 S.now] w fun E w' => E = .returned (.tuple #[T.val, .bool ok]) ∧ St w0 w' (stO b S2 :: L) := by
  obtain ⟨p, G, hb, h⟩ := st_open h
  refine (tpop_st S.now (foc_t h) hn).mono ?_
  rintro e w' (⟨t, r, h1, h2, rfl, h3⟩ | ⟨h1, rfl, h3⟩)
  · obtain ⟨p', h4⟩ := unf_t h3
    unfold popTm at hp
    rw [h1] at hp
    simp only [if_pos h2, Prod.mk.injEq] at hp
    obtain ⟨rfl, rfl, rfl⟩ := hp
    exact ⟨rfl, st_shut ⟨hb.calls, hb.jobs⟩ h4⟩
  · obtain ⟨p', h4⟩ := unf_t h3
    have e : (T, ok, S2) = (Tm.zero, false, S) := by
      rw [← hp]
      unfold popTm
      cases hs : S.tm with
      | nil => rfl
      | cons t r =>
        have := h1 t r hs
        simp only
        rw [if_neg (by omega)]
    simp only [Prod.mk.injEq] at e
    obtain ⟨rfl, rfl, rfl⟩ := e
    exact ⟨rfl, st_shut hb h4⟩
/-- the tasks of the timers that are due -/
def fireL : List Tm → LS → LS
  | [], S => { S with tm := [] }
  | t :: r, S => if t.due ≤ S.now then fireL r (pushS { S with tm := r } 2 0 t.id) else { S with tm := t :: r }
def fireS (S : LS) : LS := fireL S.tm S
theorem fire_end {S S2 : LS} {T : Tm} (h : popTm S = (T, false, S2)) : fireS S = S ∧ S2 = S := by
  unfold popTm at h
  unfold fireS
  cases hs : S.tm with
  | nil =>
    rw [hs] at h
    simp only [Prod.mk.injEq] at h
    exact ⟨by unfold fireL; rw [← hs], h.2.2.symm⟩
  | cons t r =>
    rw [hs] at h
    simp only at h
    split at h
    · simp at h
    · rename_i hd
      simp only [Prod.mk.injEq] at h
      exact ⟨by unfold fireL; rw [if_neg hd, ← hs], h.2.2.symm⟩
theorem fire_go {S S2 : LS} {T : Tm} (h : popTm S = (T, true, S2)) : fireS S = fireS (pushS S2 2 0 T.id) ∧ S2.tm.length < S.tm.length ∧ S2 = { S with tm := S2.tm } ∧ S.tm.length = S2.tm.length + 1 := by
  unfold popTm at h
  cases hs : S.tm with
  | nil => rw [hs] at h; simp at h
  | cons t r =>
    rw [hs] at h
    simp only at h
    split at h
    · rename_i hd
      simp only [Prod.mk.injEq, true_and] at h
      obtain ⟨rfl, rfl⟩ := h
      refine ⟨?_, by simp, rfl, by simp⟩
      unfold fireS
      rw [hs, fireL, if_pos hd]
      rfl
    · simp at h
/-- room for the tasks of the timers -/
structure Room (S : LS) : Prop where
  bnd : Bnd S
  q : ∀ i, (S.q i).length + S.tm.length ≤ 100000
  ord : S.ord + S.tm.length ≤ 1000000000000
theorem room_step {S S2 : LS} {T : Tm} (h : popTm S = (T, true, S2)) (hR : Room S) : Room (pushS S2 2 0 T.id) ∧ Bnd S2 ∧ S2.ord = S.ord := by
  obtain ⟨-, -, h2, h3⟩ := fire_go h
  have hB := hR.bnd
  have e1 : S2.ord = S.ord := by rw [h2]
  have e2 : S2.q = S.q := by rw [h2]
  have hb2 : Bnd S2 := by
    rw [h2]
    exact ⟨hB.q, by have := hB.tm; simp only; omega, hB.calls, hB.shots, hB.jobs, hB.nx0, hB.nx1, hB.ord0, hB.ord1, hB.now0, hB.now1, hB.last0, hB.last1, hB.us0, hB.us1, hB.ev, hB.sh0, hB.sh1⟩
  have htm : (pushS S2 2 0 T.id).tm = S2.tm := rfl
  have hord : (pushS S2 2 0 T.id).ord = S2.ord + 1 := rfl
  have hq : ∀ i, ((pushS S2 2 0 T.id).q i).length ≤ (S2.q i).length + 1 := fun i => by
    simp only [pushS, LS.setQ, upd]
    split
    · rename_i e; subst e; simp
    · omega
  refine ⟨⟨⟨fun i => ?_, hb2.tm, hb2.calls, hb2.shots, hb2.jobs, hb2.nx0, hb2.nx1, ?_, ?_, hb2.now0, hb2.now1, hb2.last0, hb2.last1, hb2.us0, hb2.us1, hb2.ev, hb2.sh0, hb2.sh1⟩, fun i => ?_, ?_⟩, hb2, e1⟩
  · have h4 : (S2.q i).length = (S.q i).length := by rw [e2]
    have := hq i; have := hR.q i; omega
  · rw [hord]; have := hb2.ord0; omega
  · rw [hord]; have := hR.ord; omega
  · have h4 : (S2.q i).length = (S.q i).length := by rw [e2]
    rw [htm]; have := hq i; have := hR.q i; omega
  · rw [htm, hord]; have := hR.ord; omega
def chJ (j : Jb) : Ch := { Ch.z with k := 1, j := j }
def chH (a : Option Addr) (n c : Nat) : Ch := { Ch.z with k := 3, ha := a, hn := n, hc := c }
/-- a rendering is due -/
def Shows (S : LS) : Prop := (S.dirty = true ∨ 0 < S.shots.length) ∧ S.shown + 16 ≤ S.now
inductive NextR : LS → LS → Ch → List Hs → Prop where
  | job {S : LS} {j : Jb} {r : List Jb} (h : S.jobs = j :: r) : NextR S { S with jobs := r } (chJ j) []
  | shows {S : LS} {a : Option Addr} {c : Nat} (h : S.jobs = []) (hs : Shows S) : NextR S { S with shots := [], dirty := false, shown := S.now } (chH a S.shots.length c) S.shots
  | task {S S' : LS} {x : Ch} (h : S.jobs = []) (hs : ¬ Shows S) (ht : TaskR (fireS S) S' x) : NextR S S' x []
def NextPost (S : LS) (b : Nat) (w0 : World) (L : List As) (E : Ending) (w' : World) : Prop :=
  ∃ S' x l, E = .returned (.agg x.cells.toArray) ∧ NextR S S' x l ∧ x.hn = l.length ∧ (x.k = 1 → Rc w' 4 x.j.a x.j.an x.j.ac (vcells x.j.k)) ∧ St w0 w' (stO b S' :: As.row 63 5 x.ha x.hn x.hc (flat Hs.cells l) :: L)
theorem task_z {S S' : LS} {x : Ch} (h : TaskR S S' x) : x.ha = none ∧ x.hn = 0 ∧ x.hc = 0 ∧ (x.k = 0 ∨ x.k = 2) := by
  induction h with
  | none => exact ⟨rfl, rfl, rfl, .inl rfl⟩
  | plain => exact ⟨rfl, rfl, rfl, .inr rfl⟩
  | skip _ _ _ _ _ ih => exact ih
  | again => exact ⟨rfl, rfl, rfl, .inr rfl⟩
  | once => exact ⟨rfl, rfl, rfl, .inr rfl⟩

end Go.Proofs.Ytnamkckpgaopkaa
