/-
  A state of the event loop as objects in memory.
-/
import Derived.Test.YtnamkckpgaopkaaLg
import Derived.Test.YtnamkckpgaopkaaLh
import Derived.Test.YtnamkckpgaopkaaKf
set_option linter.unusedVariables false
set_option linter.unusedSimpArgs false
namespace Go.Proofs.Ytnamkckpgaopkaa
open Go.RowKit Go.K

/-- a queued task, a call, a shot, a job -/
structure Qt where
  o : Int
  k : Int
  n : Int
structure Cl where
  id : Int
  ev : Int
  vk : Int
  fn : Int
  a : Option Addr
  an : Nat
  ac : Nat
structure Hs where
  id : Int
  fn : Int
structure Jb where
  k : Int
  a : Option Addr
  an : Nat
  ac : Nat
def Qt.cells (q : Qt) : List Value := [.int .i64 q.o, .int .i64 q.k, .int .i64 q.n, .string { data := #[] }, .slice none 0 0]
def Cl.cells (c : Cl) : List Value := [.int .i64 c.id, .int .i64 c.ev, .int .i64 c.vk, .int .i64 c.fn, .string { data := #[] }, .int .i64 0, .slice c.a c.an c.ac]
def Hs.cells (h : Hs) : List Value := [.int .i64 h.id, .int .i64 3, .int .i64 h.fn, .string { data := #[] }, .int .i64 0]
def Jb.cells (j : Jb) : List Value := [.int .i64 j.k, .slice j.a j.an j.ac]
def vcells (n : Int) : List Value := [.int .i64 3, .int .i64 n, .string { data := #[] }, .int .i64 0]

/-- a slice of values that is only read -/
structure Bx where
  a : Option Addr
  n : Nat
  c : Nat
  xs : List Value
/-- slices of values that are only read: they may share blocks -/
def As.bg (G : List Bx) : As where
  holds w F := (∀ k, F k → k < w.heap.size) ∧ ∀ x ∈ G, Rc w 4 x.a x.n x.c x.xs ∧ x.n ≤ 1000 ∧ ∀ k, rowOf x.a = some k → F k
  keep {w w' F} h hk := by
    refine ⟨fun k q => ?_, fun x hx => ?_⟩
    · have e := hk k q
      rw [Array.getElem?_eq_getElem (h.1 k q)] at e
      exact (Array.getElem?_eq_some_iff.1 e).1
    · obtain ⟨hr, hn, hF⟩ := h.2 x hx
      refine ⟨⟨⟨hr.rd.len, hr.rd.one, hr.rd.nil, fun ad had j u hu => ?_⟩, hr.le, hr.cm, hr.nil⟩, hn, hF⟩
      have hb : (ad.add j).block = ad.block := by unfold Addr.add; split <;> rfl
      exact (World.cell?_of_block (by rw [hb]; exact hk _ (hF _ (by rw [had]; rfl)))).trans (hr.rd.cells ad had j u hu)
  lt h k hk := h.1 k hk
theorem _root_.Go.K.St.merge {w0 w : World} {L : List As} {A B C : As} (h : St w0 w (A :: B :: L)) (hC : ∀ F G, A.holds w F → B.holds w G → C.holds w (fun k => F k ∨ G k)) : St w0 w (C :: L) := by
  obtain ⟨F, ⟨F1, F2, h1, ⟨G1, G2, g1, g2, g3, g4⟩, h3, h4⟩, h5⟩ := h.sep
  refine ⟨h.bel, F, ⟨fun k => F1 k ∨ G1 k, G2, hC F1 G1 h1 g1, g2, fun k => ?_, fun k hk hg => ?_⟩, h5⟩
  · rw [h3, g3]
    constructor
    · rintro (q | q | q)
      · exact .inl (.inl q)
      · exact .inl (.inr q)
      · exact .inr q
    · rintro ((q | q) | q)
      · exact .inl q
      · exact .inr (.inl q)
      · exact .inr (.inr q)
  · rcases hk with q | q
    · exact h4 k q ((g3 k).2 (.inr hg))
    · exact g4 k q hg
theorem bg_nil {w0 w : World} {L : List As} (h : St w0 w L) : St w0 w (As.bg [] :: L) := by
  refine (h.row_nil 9 1).to (fun F hF => ?_)
  have hr : ∀ k, ¬ F k := fun k q => by have := (hF.1 k).1 q; cases this
  exact ⟨fun k q => absurd q (hr k), fun x hx => by cases hx⟩
/-- a fresh row of values goes into the bag -/
theorem bg_add {w0 w : World} {L : List As} {G : List Bx} {e : TypeId} {s : Option Addr} {n c : Nat} {xs : List Value} (h : St w0 w (As.row e 4 s n c xs :: As.bg G :: L)) (hn : n ≤ 1000) : St w0 w (As.bg (⟨s, n, c, xs⟩ :: G) :: L) := by
  refine h.merge (fun F F2 hF hG => ⟨fun k hk => ?_, fun x hx => ?_⟩)
  · rcases hk with q | q
    · exact hF.2.lt k ((hF.1 k).1 q)
    · exact hG.1 k q
  · rcases List.mem_cons.1 hx with rfl | hx
    · exact ⟨hF.2.rc, hn, fun k hk => .inl ((hF.1 k).2 hk)⟩
    · obtain ⟨a, b, c⟩ := hG.2 x hx
      exact ⟨a, b, fun k hk => .inr (c k hk)⟩
theorem bg_rc {w0 w : World} {L : List As} {G : List Bx} (h : St w0 w L) (hm : As.bg G ∈ L) {x : Bx} (hx : x ∈ G) : Rc w 4 x.a x.n x.c x.xs ∧ x.n ≤ 1000 := by
  obtain ⟨F, hF⟩ := h.mem hm
  exact ⟨(hF.2 x hx).1, (hF.2 x hx).2.1⟩

/-- all objects of a list, as one -/
def As.all (Ls : List As) : As where
  holds w F := Sep Ls w F
  keep h hk := Sep.keep h hk
  lt h k hk := Sep.lt h k hk
theorem sep_app : ∀ (A : List As) {B : List As} {w : World} {F : Fp}, Sep (A ++ B) w F ↔ Sep (As.all A :: B) w F
  | [], B, w, F => by
    constructor
    · intro h
      exact ⟨fun _ => False, F, fun k hk => hk, h, fun k => by simp, fun k hk => hk.elim⟩
    · rintro ⟨F1, F2, h1, h2, h3, h4⟩
      have e : F = F2 := by funext k; exact propext ((h3 k).trans ⟨fun q => q.resolve_left (h1 k), .inr⟩)
      rw [e]; exact h2
  | A :: As', B, w, F => by
    constructor
    · rintro ⟨F1, F2, h1, h2, h3, h4⟩
      obtain ⟨G1, G2, g1, g2, g3, g4⟩ := (sep_app As').1 h2
      refine ⟨fun k => F1 k ∨ G1 k, G2, ⟨F1, G1, h1, g1, fun _ => Iff.rfl, fun k q r => h4 k q ((g3 k).2 (.inl r))⟩, g2, fun k => ?_, fun k q r => ?_⟩
      · rw [h3, g3, or_assoc]
      · rcases q with q | q
        · exact h4 k q ((g3 k).2 (.inr r))
        · exact g4 k q r
    · rintro ⟨F1, F2, ⟨G1, G2, g1, g2, g3, g4⟩, h2, h3, h4⟩
      refine ⟨G1, fun k => G2 k ∨ F2 k, g1, (sep_app As').2 ⟨G2, F2, g2, h2, fun _ => Iff.rfl, fun k q => h4 k ((g3 k).2 (.inr q))⟩, fun k => ?_, fun k q r => ?_⟩
      · rw [h3, g3, or_assoc]
      · rcases r with r | r
        · exact g4 k q r
        · exact h4 k ((g3 k).2 (.inl q)) r
theorem st_all {w0 w : World} {A L : List As} : St w0 w (A ++ L) ↔ St w0 w (As.all A :: L) := by
  constructor
  · rintro ⟨hb, F, h1, h2⟩
    exact ⟨hb, F, (sep_app A).1 h1, h2⟩
  · rintro ⟨hb, F, h1, h2⟩
    exact ⟨hb, F, (sep_app A).2 h1, h2⟩

/-- a state of the loop -/
structure LS where
  now : Int
  q : Nat → List Qt
  ord : Int
  jobs : List Jb
  tm : List Tm
  nx : Int
  calls : List Cl
  shots : List Hs
  last : Int
  dirty : Bool
  shown : Int
  users : Int
abbrev Pt := Nat → Option Addr × Nat
def upd {α : Type} (f : Nat → α) (i : Nat) (v : α) : Nat → α := fun j => if j = i then v else f j
theorem upd_same {α : Type} (f : Nat → α) (i : Nat) (v : α) : upd f i v i = v := by simp [upd]
theorem upd_other {α : Type} (f : Nat → α) (i j : Nat) (v : α) (h : j ≠ i) : upd f i v j = f j := by simp [upd, h]
def stc (S : LS) (p : Pt) : Array Value := #[.int .i64 S.now, .slice (p 0).1 (S.q 0).length (p 0).2, .slice (p 1).1 (S.q 1).length (p 1).2, .slice (p 2).1 (S.q 2).length (p 2).2, .slice (p 3).1 (S.q 3).length (p 3).2, .slice (p 4).1 (S.q 4).length (p 4).2, .int .i64 S.ord, .slice (p 5).1 S.jobs.length (p 5).2, .slice (p 6).1 S.tm.length (p 6).2, .int .i64 S.nx, .slice (p 7).1 S.calls.length (p 7).2, .slice (p 8).1 S.shots.length (p 8).2, .int .i64 S.last, .bool S.dirty, .int .i64 S.shown, .int .i64 S.users]
def rq (S : LS) (p : Pt) (i : Nat) : As := As.row 91 5 (p i).1 (S.q i).length (p i).2 (flat Qt.cells (S.q i))
def rj (S : LS) (p : Pt) : As := As.row 44 2 (p 5).1 S.jobs.length (p 5).2 (flat Jb.cells S.jobs)
def rt (S : LS) (p : Pt) : As := As.row 95 3 (p 6).1 S.tm.length (p 6).2 (tcells S.tm)
def rc (S : LS) (p : Pt) : As := As.row 48 7 (p 7).1 S.calls.length (p 7).2 (flat Cl.cells S.calls)
def rh (S : LS) (p : Pt) : As := As.row 63 5 (p 8).1 S.shots.length (p 8).2 (flat Hs.cells S.shots)
def stL (b : Nat) (S : LS) (p : Pt) (G : List Bx) : List As := [As.cells b (stc S p) 37, rq S p 0, rq S p 1, rq S p 2, rq S p 3, rq S p 4, rj S p, rt S p, rc S p, rh S p, As.bg G]
structure BagOk (S : LS) (G : List Bx) : Prop where
  calls : ∀ c ∈ S.calls, ∃ xs, ⟨c.a, c.an, c.ac, xs⟩ ∈ G
  jobs : ∀ j ∈ S.jobs, ⟨j.a, j.an, j.ac, vcells j.k⟩ ∈ G
def stO (b : Nat) (S : LS) : As := As.ex fun x : Pt × List Bx => As.star (As.pure (BagOk S x.2)) (As.all (stL b S x.1 x.2))
section
variable {w0 w : World} {L : List As} {b : Nat} {S : LS} {p : Pt} {G : List Bx}
theorem st_open (h : St w0 w (stO b S :: L)) : ∃ p G, BagOk S G ∧ St w0 w (stL b S p G ++ L) := by
  obtain ⟨⟨p, G⟩, h⟩ := h.open_ex
  obtain ⟨hp, h2⟩ := (h.open_star).open_pure
  exact ⟨p, G, hp, st_all.2 h2⟩
theorem st_shut (hb : BagOk S G) (h : St w0 w (stL b S p G ++ L)) : St w0 w (stO b S :: L) := by
  refine St.shut_ex (f := fun x : Pt × List Bx => As.star (As.pure (BagOk S x.2)) (As.all (stL b S x.1 x.2))) (p, G) (St.shut_star ?_)
  exact (St.add (st_all.1 h) (A := As.pure (BagOk S G)) (F' := fun _ => False) ⟨hb, fun _ q => q⟩ (Fr.refl _ _) (fun _ q => q.elim))
/-- what the cells of a state hold -/
theorem st_c (h : St w0 w (As.cells b (stc S p) 37 :: L)) : w.cell? ⟨b, 0, none⟩ = some (.int .i64 S.now) ∧ w.cell? ⟨b, 6, none⟩ = some (.int .i64 S.ord) ∧ w.cell? ⟨b, 9, none⟩ = some (.int .i64 S.nx) ∧ w.cell? ⟨b, 12, none⟩ = some (.int .i64 S.last) ∧ w.cell? ⟨b, 13, none⟩ = some (.bool S.dirty) ∧ w.cell? ⟨b, 14, none⟩ = some (.int .i64 S.shown) ∧ w.cell? ⟨b, 15, none⟩ = some (.int .i64 S.users) := by
  refine ⟨?_, ?_, ?_, ?_, ?_, ?_, ?_⟩ <;> (rw [h.cell]; rfl)
theorem st_s (h : St w0 w (As.cells b (stc S p) 37 :: L)) : w.cell? ⟨b, 7, none⟩ = some (.slice (p 5).1 S.jobs.length (p 5).2) ∧ w.cell? ⟨b, 8, none⟩ = some (.slice (p 6).1 S.tm.length (p 6).2) ∧ w.cell? ⟨b, 10, none⟩ = some (.slice (p 7).1 S.calls.length (p 7).2) ∧ w.cell? ⟨b, 11, none⟩ = some (.slice (p 8).1 S.shots.length (p 8).2) := by
  refine ⟨?_, ?_, ?_, ?_⟩ <;> (rw [h.cell]; rfl)
theorem st_q (h : St w0 w (As.cells b (stc S p) 37 :: L)) (i : Nat) (hi : i < 5) : w.cell? ⟨b, 1 + i, none⟩ = some (.slice (p i).1 (S.q i).length (p i).2) := by
  rw [h.cell]
  match i, hi with
  | 0, _ => rfl
  | 1, _ => rfl
  | 2, _ => rfl
  | 3, _ => rfl
  | 4, _ => rfl
def LS.setQ (S : LS) (i : Nat) (l : List Qt) : LS := { S with q := upd S.q i l }
/-- the queues but number i, and what else a state has -/
def rstQ (b : Nat) (S : LS) (p : Pt) (G : List Bx) (i : Nat) : List As := (((List.range 5).eraseIdx i).map (rq S p)) ++ [rj S p, rt S p, rc S p, rh S p, As.bg G]
theorem foc_q {i : Nat} (hi : i < 5) (h : St w0 w (stL b S p G ++ L)) : St w0 w (As.cells b (stc S p) 37 :: rq S p i :: (rstQ b S p G i ++ L)) := by
  match i, hi with
  | 0, _ => exact h
  | 1, _ => exact St.sh [_, _, _] [0, 2, 1] (by decide) h
  | 2, _ => exact St.sh [_, _, _, _] [0, 3, 1, 2] (by decide) h
  | 3, _ => exact St.sh [_, _, _, _, _] [0, 4, 1, 2, 3] (by decide) h
  | 4, _ => exact St.sh [_, _, _, _, _, _] [0, 5, 1, 2, 3, 4] (by decide) h
theorem unf_q {i n c : Nat} {s : Option Addr} (hi : i < 5) (l : List Qt) (hl : l.length = n) (h : St w0 w (As.cells b ((stc S p).setIfInBounds (1 + i) (.slice s n c)) 37 :: As.row 91 5 s n c (flat Qt.cells l) :: (rstQ b S p G i ++ L))) : St w0 w (stL b (S.setQ i l) (upd p i (s, c)) G ++ L) := by
  subst hl
  obtain rfl | rfl | rfl | rfl | rfl : i = 0 ∨ i = 1 ∨ i = 2 ∨ i = 3 ∨ i = 4 := by omega
  · have e : stL b (S.setQ 0 l) (upd p 0 (s, c)) G = [As.cells b ((stc S p).setIfInBounds (1 + 0) (.slice s l.length c)) 37, As.row 91 5 s l.length c (flat Qt.cells l), rq S p 1, rq S p 2, rq S p 3, rq S p 4, rj S p, rt S p, rc S p, rh S p, As.bg G] := by
      simp [stL, stc, rq, rj, rt, rc, rh, LS.setQ, upd]
    rw [e]
    exact h
  · have e : stL b (S.setQ 1 l) (upd p 1 (s, c)) G = [As.cells b ((stc S p).setIfInBounds (1 + 1) (.slice s l.length c)) 37, rq S p 0, As.row 91 5 s l.length c (flat Qt.cells l), rq S p 2, rq S p 3, rq S p 4, rj S p, rt S p, rc S p, rh S p, As.bg G] := by
      simp [stL, stc, rq, rj, rt, rc, rh, LS.setQ, upd]
    rw [e]
    exact St.sh [_, _, _] [0, 2, 1] (by decide) h
  · have e : stL b (S.setQ 2 l) (upd p 2 (s, c)) G = [As.cells b ((stc S p).setIfInBounds (1 + 2) (.slice s l.length c)) 37, rq S p 0, rq S p 1, As.row 91 5 s l.length c (flat Qt.cells l), rq S p 3, rq S p 4, rj S p, rt S p, rc S p, rh S p, As.bg G] := by
      simp [stL, stc, rq, rj, rt, rc, rh, LS.setQ, upd]
    rw [e]
    exact St.sh [_, _, _, _] [0, 2, 3, 1] (by decide) h
  · have e : stL b (S.setQ 3 l) (upd p 3 (s, c)) G = [As.cells b ((stc S p).setIfInBounds (1 + 3) (.slice s l.length c)) 37, rq S p 0, rq S p 1, rq S p 2, As.row 91 5 s l.length c (flat Qt.cells l), rq S p 4, rj S p, rt S p, rc S p, rh S p, As.bg G] := by
      simp [stL, stc, rq, rj, rt, rc, rh, LS.setQ, upd]
    rw [e]
    exact St.sh [_, _, _, _, _] [0, 2, 3, 4, 1] (by decide) h
  · have e : stL b (S.setQ 4 l) (upd p 4 (s, c)) G = [As.cells b ((stc S p).setIfInBounds (1 + 4) (.slice s l.length c)) 37, rq S p 0, rq S p 1, rq S p 2, rq S p 3, As.row 91 5 s l.length c (flat Qt.cells l), rj S p, rt S p, rc S p, rh S p, As.bg G] := by
      simp [stL, stc, rq, rj, rt, rc, rh, LS.setQ, upd]
    rw [e]
    exact St.sh [_, _, _, _, _, _] [0, 2, 3, 4, 5, 1] (by decide) h
def stv (S : LS) (p : Pt) : Nat → Value
  | 0 => .int .i64 S.now
  | 1 => .slice (p 0).1 (S.q 0).length (p 0).2
  | 2 => .slice (p 1).1 (S.q 1).length (p 1).2
  | 3 => .slice (p 2).1 (S.q 2).length (p 2).2
  | 4 => .slice (p 3).1 (S.q 3).length (p 3).2
  | 5 => .slice (p 4).1 (S.q 4).length (p 4).2
  | 6 => .int .i64 S.ord
  | 7 => .slice (p 5).1 S.jobs.length (p 5).2
  | 10 => .slice (p 7).1 S.calls.length (p 7).2
  | 11 => .slice (p 8).1 S.shots.length (p 8).2
  | 12 => .int .i64 S.last
  | 13 => .bool S.dirty
  | 14 => .int .i64 S.shown
  | 15 => .int .i64 S.users
  | _ => undef
def rstT (S : LS) (p : Pt) (G : List Bx) : List As := [rq S p 0, rq S p 1, rq S p 2, rq S p 3, rq S p 4, rj S p, rc S p, rh S p, As.bg G]
theorem foc_t (h : St w0 w (stL b S p G ++ L)) : St w0 w (tObj b (stv S p) S.tm S.nx :: (rstT S p G ++ L)) := by
  refine t_shut (s := (p 6).1) (c := (p 6).2) ?_
  exact St.sh [_, _, _, _, _, _, _, _] [0, 7, 1, 2, 3, 4, 5, 6] (by decide) h
theorem unf_t {ts : List Tm} {nx : Int} (h : St w0 w (tObj b (stv S p) ts nx :: (rstT S p G ++ L))) : ∃ p', St w0 w (stL b { S with tm := ts, nx := nx } p' G ++ L) := by
  obtain ⟨s, c, h⟩ := t_open h
  refine ⟨upd p 6 (s, c), ?_⟩
  have e : stL b { S with tm := ts, nx := nx } (upd p 6 (s, c)) G = [As.cells b #[stv S p 0, stv S p 1, stv S p 2, stv S p 3, stv S p 4, stv S p 5, stv S p 6, stv S p 7, .slice s ts.length c, .int .i64 nx, stv S p 10, stv S p 11, stv S p 12, stv S p 13, stv S p 14, stv S p 15] 37, rq S p 0, rq S p 1, rq S p 2, rq S p 3, rq S p 4, rj S p, As.row 95 3 s ts.length c (tcells ts), rc S p, rh S p, As.bg G] := by
    simp [stL, stc, rq, rj, rt, rc, rh, upd, stv]
  rw [e]
  exact St.sh [_, _, _, _, _, _, _, _] [0, 2, 3, 4, 5, 6, 7, 1] (by decide) h
/-- jobs -/
def rstJ (S : LS) (p : Pt) (G : List Bx) : List As := [rq S p 0, rq S p 1, rq S p 2, rq S p 3, rq S p 4, rt S p, rc S p, rh S p, As.bg G]
theorem foc_j (h : St w0 w (stL b S p G ++ L)) : St w0 w (As.cells b (stc S p) 37 :: rj S p :: (rstJ S p G ++ L)) := St.sh [_, _, _, _, _, _, _] [0, 6, 1, 2, 3, 4, 5] (by decide) h
theorem unf_j {n c : Nat} {s : Option Addr} (l : List Jb) (hl : l.length = n) (h : St w0 w (As.cells b ((stc S p).setIfInBounds 7 (.slice s n c)) 37 :: As.row 44 2 s n c (flat Jb.cells l) :: (rstJ S p G ++ L))) : St w0 w (stL b { S with jobs := l } (upd p 5 (s, c)) G ++ L) := by
  subst hl
  have e : stL b { S with jobs := l } (upd p 5 (s, c)) G = [As.cells b ((stc S p).setIfInBounds 7 (.slice s l.length c)) 37, rq S p 0, rq S p 1, rq S p 2, rq S p 3, rq S p 4, As.row 44 2 s l.length c (flat Jb.cells l), rt S p, rc S p, rh S p, As.bg G] := by
    simp [stL, stc, rq, rj, rt, rc, rh, upd]
  rw [e]
  exact St.sh [_, _, _, _, _, _, _] [0, 2, 3, 4, 5, 6, 1] (by decide) h
/-- calls -/
def rstC (S : LS) (p : Pt) (G : List Bx) : List As := [rq S p 0, rq S p 1, rq S p 2, rq S p 3, rq S p 4, rj S p, rt S p, rh S p, As.bg G]
theorem foc_c (h : St w0 w (stL b S p G ++ L)) : St w0 w (As.cells b (stc S p) 37 :: rc S p :: (rstC S p G ++ L)) := St.sh [_, _, _, _, _, _, _, _, _] [0, 8, 1, 2, 3, 4, 5, 6, 7] (by decide) h
theorem unf_c {n c : Nat} {s : Option Addr} (l : List Cl) (hl : l.length = n) (h : St w0 w (As.cells b ((stc S p).setIfInBounds 10 (.slice s n c)) 37 :: As.row 48 7 s n c (flat Cl.cells l) :: (rstC S p G ++ L))) : St w0 w (stL b { S with calls := l } (upd p 7 (s, c)) G ++ L) := by
  subst hl
  have e : stL b { S with calls := l } (upd p 7 (s, c)) G = [As.cells b ((stc S p).setIfInBounds 10 (.slice s l.length c)) 37, rq S p 0, rq S p 1, rq S p 2, rq S p 3, rq S p 4, rj S p, rt S p, As.row 48 7 s l.length c (flat Cl.cells l), rh S p, As.bg G] := by
    simp [stL, stc, rq, rj, rt, rc, rh, upd]
  rw [e]
  exact St.sh [_, _, _, _, _, _, _, _, _] [0, 2, 3, 4, 5, 6, 7, 8, 1] (by decide) h
/-- shots -/
def rstH (S : LS) (p : Pt) (G : List Bx) : List As := [rq S p 0, rq S p 1, rq S p 2, rq S p 3, rq S p 4, rj S p, rt S p, rc S p, As.bg G]
theorem foc_h (h : St w0 w (stL b S p G ++ L)) : St w0 w (As.cells b (stc S p) 37 :: rh S p :: (rstH S p G ++ L)) := St.sh [_, _, _, _, _, _, _, _, _, _] [0, 9, 1, 2, 3, 4, 5, 6, 7, 8] (by decide) h
theorem unf_h {n c : Nat} {s : Option Addr} (l : List Hs) (hl : l.length = n) (h : St w0 w (As.cells b ((stc S p).setIfInBounds 11 (.slice s n c)) 37 :: As.row 63 5 s n c (flat Hs.cells l) :: (rstH S p G ++ L))) : St w0 w (stL b { S with shots := l } (upd p 8 (s, c)) G ++ L) := by
  subst hl
  have e : stL b { S with shots := l } (upd p 8 (s, c)) G = [As.cells b ((stc S p).setIfInBounds 11 (.slice s l.length c)) 37, rq S p 0, rq S p 1, rq S p 2, rq S p 3, rq S p 4, rj S p, rt S p, rc S p, As.row 63 5 s l.length c (flat Hs.cells l), As.bg G] := by
    simp [stL, stc, rq, rj, rt, rc, rh, upd]
  rw [e]
  exact St.sh [_, _, _, _, _, _, _, _, _, _] [0, 2, 3, 4, 5, 6, 7, 8, 9, 1] (by decide) h
end
/-- the zero state -/
def LS.zero : LS := ⟨0, fun _ => [], 0, [], [], 0, [], [], 0, false, 0, 0⟩
def zcells : Array Value := #[.int .i64 0, .slice none 0 0, .slice none 0 0, .slice none 0 0, .slice none 0 0, .slice none 0 0, .int .i64 0, .slice none 0 0, .slice none 0 0, .int .i64 0, .slice none 0 0, .slice none 0 0, .int .i64 0, .bool false, .int .i64 0, .int .i64 0]
theorem st_start {w0 w : World} {L : List As} (h : St w0 w L) : St w0 (w.alloc (.cells zcells 37)) (stO w.heap.size LS.zero :: L) := by
  refine st_shut (p := fun _ => (none, 0)) (G := []) ⟨by simp [LS.zero], by simp [LS.zero]⟩ ?_
  have h1 := bg_nil (h.new zcells 37)
  have h2 := (((((((((h1.row_nil 91 5).row_nil 91 5).row_nil 91 5).row_nil 91 5).row_nil 91 5).row_nil 44 2).row_nil 95 3).row_nil 48 7).row_nil 63 5)
  exact St.sh [_, _, _, _, _, _, _, _, _, _, _] [10, 4, 5, 6, 7, 8, 3, 2, 1, 0, 9] (by decide) h2

end Go.Proofs.Ytnamkckpgaopkaa
