/-
  What task of a State does.
-/
import Derived.Test.YtnamkckpgaopkaaLo
set_option linter.unusedVariables false
set_option linter.unusedSimpArgs false
namespace Go.Proofs.Ytnamkckpgaopkaa
open Go.RowKit Go.K

structure Ch where
  k : Int
  j : Jb
  src : Int
  tk : Int
  tn : Int
  c : Cl
  ha : Option Addr
  hn : Nat
  hc : Nat
def Cl.z : Cl := ⟨0, 0, 0, 0, none, 0, 0⟩
def Jb.z : Jb := ⟨0, none, 0, 0⟩
def Ch.z : Ch := ⟨0, Jb.z, 0, 0, 0, Cl.z, none, 0, 0⟩
def Ch.cells (x : Ch) : List Value := [.int .i64 x.k, .int .i64 x.j.k, .slice x.j.a x.j.an x.j.ac, .int .i64 x.src, .int .i64 x.tk, .int .i64 x.tn, .string { data := #[] }, .slice none 0 0, .int .i64 x.c.id, .int .i64 x.c.ev, .int .i64 x.c.vk, .int .i64 x.c.fn, .string { data := #[] }, .int .i64 0, .slice x.c.a x.c.an x.c.ac, .slice x.ha x.hn x.hc]
theorem Ch.one (x : Ch) : ∀ u ∈ x.cells, u.oneCell' = true := by
  intro u hu
  simp only [Ch.cells, List.mem_cons, List.not_mem_nil, or_false] at hu
  rcases hu with rfl | rfl | rfl | rfl | rfl | rfl | rfl | rfl | rfl | rfl | rfl | rfl | rfl | rfl | rfl | rfl <;> rfl
theorem size50 : (Try.prog.info? 50).map (·.size) = some 16 := by kernel_rfl
theorem zv50 (w : World) : (zeroValue 50).run Try.prog w = .ok (.agg Ch.z.cells.toArray) w := by kernel_rfl

/-- what keeps the numbers in bounds -/
structure Bnd (S : LS) : Prop where
  q : ∀ i, (S.q i).length ≤ 100000
  tm : S.tm.length ≤ 100000
  calls : S.calls.length ≤ 100000
  shots : S.shots.length ≤ 100000
  jobs : S.jobs.length ≤ 100000
  nx0 : 0 ≤ S.nx
  nx1 : S.nx < 4294967296
  ord0 : 0 ≤ S.ord
  ord1 : S.ord ≤ 1000000000000
  now0 : 0 ≤ S.now
  now1 : S.now ≤ 1152921504606846976
  last0 : 0 ≤ S.last
  last1 : S.last ≤ 1000000000000
  us0 : 0 ≤ S.users
  us1 : S.users ≤ 1000000000000
  ev : ∀ c ∈ S.calls, 0 ≤ c.ev ∧ c.ev ≤ 1099511627776
  sh0 : 0 ≤ S.shown
  sh1 : S.shown ≤ 1152921504606846976

theorem best_ok (S : LS) (k : Nat) : (bestN S k = (-1, 0)) ∨ ∃ (i : Nat) (x : Qt) (r : List Qt), i < k ∧ i ≠ 0 ∧ bestN S k = ((i : Int), x.o) ∧ S.q i = x :: r := by
  induction k with
  | zero => exact .inl rfl
  | succ k ih =>
    rw [bestN_succ]
    unfold stepB
    cases hq : S.q k with
    | nil =>
      rcases ih with h | ⟨i, x, r, h1, h0, h2, h3⟩
      · exact .inl h
      · exact .inr ⟨i, x, r, by omega, h0, h2, h3⟩
    | cons y l =>
      simp only
      split
      · rename_i hc
        exact .inr ⟨k, y, l, by omega, hc.1, rfl, hq⟩
      · rcases ih with h | ⟨i, x, r, h1, h0, h2, h3⟩
        · exact .inl h
        · exact .inr ⟨i, x, r, by omega, h0, h2, h3⟩
theorem src_cases (S : LS) : srcR S < 0 ∨ ∃ (i : Nat) (x : Qt) (r : List Qt), i < 5 ∧ srcR S = (i : Int) ∧ S.q i = x :: r := by
  unfold srcR
  split
  · rename_i h
    cases hq : S.q 0 with
    | nil => rw [hq] at h; simp at h
    | cons x r => exact .inr ⟨0, x, r, by omega, rfl, hq⟩
  · rcases best_ok S 5 with h | ⟨i, x, r, h1, -, h2, h3⟩
    · left; rw [h]; decide
    · exact .inr ⟨i, x, r, h1, by rw [h2], h3⟩
/-- the first task of queue i is taken -/
def popS (S : LS) (i : Nat) (r : List Qt) : LS := { S.setQ i r with users := if i = 0 then S.users + 1 else 0 }
/-- a timer is put in again -/
def AgainR (S : LS) (id ev : Int) (S' : LS) : Prop :=
  (1 ≤ id ∧ id ≤ S.nx ∧ (∀ t ∈ S.tm, t.id ≠ id) ∧ ∃ i, Found S.tm ⟨id, S.now + ev, S.nx + 1⟩ i ∧ S' = { S with tm := insAt S.tm i ⟨id, S.now + ev, S.nx + 1⟩, nx := S.nx + 1 }) ∨
  ((id < 1 ∨ S.nx < id ∨ ∃ t ∈ S.tm, t.id = id) ∧ S' = S)
def chP (i : Nat) (x : Qt) : Ch := { Ch.z with k := 2, src := i, tk := x.k, tn := x.n }
inductive TaskR : LS → LS → Ch → Prop where
  | none {S : LS} (h : srcR S < 0) : TaskR S S Ch.z
  | plain {S : LS} {i : Nat} {x : Qt} {r : List Qt} (h : srcR S = (i : Int)) (hi : i < 5) (hq : S.q i = x :: r) (hp : ¬ (i = 2 ∧ x.k = 0)) : TaskR S (popS S i r) (chP i x)
  | skip {S S' : LS} {x : Qt} {r : List Qt} {ch : Ch} (h : srcR S = (2 : Int)) (hq : S.q 2 = x :: r) (hk : x.k = 0) (hf : S.calls.findIdx? (fun c => c.id == x.n) = none) (ht : TaskR (popS S 2 r) S' ch) : TaskR S S' ch
  | again {S S' : LS} {x : Qt} {r : List Qt} {j : Nat} {c : Cl} {a : Option Addr} {ac : Nat} (h : srcR S = (2 : Int)) (hq : S.q 2 = x :: r) (hk : x.k = 0) (hf : S.calls.findIdx? (fun c => c.id == x.n) = some j) (hc : S.calls[j]? = some c) (he : c.ev ≠ 0) (ha : AgainR (popS S 2 r) c.id c.ev S') :
      TaskR S S' { chP 2 x with c := { c with a := a, ac := ac } }
  | once {S : LS} {x : Qt} {r : List Qt} {j : Nat} {c : Cl} {a : Option Addr} {ac : Nat} (h : srcR S = (2 : Int)) (hq : S.q 2 = x :: r) (hk : x.k = 0) (hf : S.calls.findIdx? (fun c => c.id == x.n) = some j) (hc : S.calls[j]? = some c) (he : c.ev = 0) :
      TaskR S (clearS (popS S 2 r) c.id) { chP 2 x with c := { c with a := a, ac := ac } }
def TaskPost (S : LS) (b : Nat) (w0 : World) (L : List As) (E : Ending) (w' : World) : Prop :=
  ∃ S' x, E = .returned (.agg x.cells.toArray) ∧ TaskR S S' x ∧ St w0 w' (stO b S' :: L)
/-- how many tasks wait -/
def tot (S : LS) : Nat := (S.q 0).length + (S.q 1).length + (S.q 2).length + (S.q 3).length + (S.q 4).length
def TkRel (S : LS) (b m : Nat) (w0 : World) (L : List As) (g : Nat) (wr : World) : Prop :=
  ∃ S1, g = tot S1 ∧ (∀ S' x, TaskR S1 S' x → TaskR S S' x) ∧ Bnd S1 ∧ St w0 wr (As.cells m Ch.z.cells.toArray 50 :: stO b S1 :: L)
/-- the pop of a queue -/
theorem pop_fin {w0 w : World} {L : List As} {b i : Nat} {S : LS} {p : Pt} {G : List Bx} {s : Option Addr} {c : Nat} {r : List Qt} (hi : i < 5)
    (h : St w0 w (As.cells b ((stc S p).setIfInBounds (1 + i) (.slice s r.length c)) 37 :: As.row 91 5 s r.length c (flat Qt.cells r) :: (rstQ b S p G i ++ L))) :
    St w0 w (stL b (S.setQ i r) (upd p i (s, c)) G ++ L) := unf_q hi (n := r.length) r rfl h
theorem pop_st {w0 w : World} {L : List As} {b i : Nat} {S : LS} {x : Qt} {r : List Qt} (hi : i < 5) (hq : S.q i = x :: r) (hn : (S.q i).length ≤ 100000) (h : St w0 w (stO b S :: L)) :
    Calls Try.prog 61 #[.pointer (some ⟨b, 1 + i, none⟩)] w (RetSt (.tuple #[.agg x.cells.toArray, .bool true]) w0 (stO b (S.setQ i r) :: L)) := by
  obtain ⟨p, G, hb, h⟩ := st_open h
  have h2 := foc_q hi h
  have e2 := st_q h i hi
  rw [h2.cell] at e2
  unfold rq at h2
  rw [hq] at h2 e2 hn
  rw [flat_cons] at h2
  refine (qpop1Q x.o x.k x.n (n := r.length) h2 e2 (by simp at hn; omega)).mono ?_
  rintro e w' ⟨rfl, s', c', h3⟩
  exact ⟨rfl, st_shut ⟨hb.calls, hb.jobs⟩ (pop_fin hi h3)⟩

end Go.Proofs.Ytnamkckpgaopkaa
