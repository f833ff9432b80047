/-
  Plain functions: listeners and a dispatch as the chapter of layer 37 describes them.
-/
import Derived.WalkKit
set_option linter.unusedVariables false
namespace Go.K.Ev

structure Tg where
  kind : Int
  id : Int

structure Li where
  id : Int
  tg : Tg
  ty : ByteArray
  cb : Int
  cap : Bool
  once : Bool
  pas : Bool

def Tg.same (a b : Tg) : Bool := a.kind == b.kind && a.id == b.id
def eqL (x y : Li) : Bool := Tg.same x.tg y.tg && (x.ty.toList == y.ty.toList) && (x.cb == y.cb) && (x.cap == y.cap)

theorem Tg.same_iff {a b : Tg} : Tg.same a b = true ↔ a = b := by
  cases a; cases b; simp [Tg.same]
theorem Tg.same_refl (a : Tg) : Tg.same a a = true := Tg.same_iff.2 rfl
theorem Tg.same_comm (a b : Tg) : Tg.same a b = Tg.same b a := by
  rw [Bool.eq_iff_iff, Tg.same_iff, Tg.same_iff]; exact eq_comm
theorem eqL_comm (x y : Li) : eqL x y = eqL y x := by
  unfold eqL
  rw [Bool.eq_iff_iff]
  simp only [Bool.and_eq_true, beq_iff_eq, Tg.same_iff]
  constructor <;> (rintro ⟨⟨⟨a, b⟩, c⟩, d⟩; exact ⟨⟨⟨a.symm, b.symm⟩, c.symm⟩, d.symm⟩)

/-- the first place of a list where p holds, or -1 -/
def idx {α : Type} (p : α → Bool) (l : List α) : Int := match l.findIdx? p with | some i => i | none => -1

structure Ls where
  l : List Li
  nx : Int

def Ls.has (s : Ls) (x : Li) : Bool := s.l.any (eqL x)
def Ls.add (s : Ls) (x : Li) : Ls := if s.has x then s else ⟨s.l ++ [{ x with id := s.nx + 1 }], s.nx + 1⟩
def Ls.addId (s : Ls) (x : Li) : Int := if s.has x then 0 else s.nx + 1
def Ls.remove (s : Ls) (x : Li) : Ls := match s.l.findIdx? (eqL x) with | some i => ⟨s.l.eraseIdx i, s.nx⟩ | none => s
def Ls.drop (s : Ls) (t : Tg) : Ls := ⟨s.l.filter (fun x => !Tg.same x.tg t), s.nx⟩
def hits (l : List Li) (t : Tg) (k : ByteArray) : List Li := l.filter (fun x => Tg.same x.tg t && (x.ty.toList == k.toList))

structure Dp where
  ty : ByteArray
  bub : Bool
  can : Bool
  path : List Tg
  st : Nat
  q : List Int
  cur : Tg
  ph : Int
  pas : Bool
  stop : Bool
  halt : Bool
  prev : Bool
  done : Bool

structure Cl where
  id : Int
  cb : Int
  cur : Tg
  ph : Int

def Cl.zero : Cl := ⟨0, 0, ⟨0, 0⟩, 0⟩

/-- target, phase and listeners of the stage s -/
def stT (path : List Tg) (s : Nat) : Tg := path.getD (if s < path.length then path.length - 1 - s else s - path.length) ⟨0, 0⟩
def stP (n s : Nat) : Int := if s + 1 < n then 1 else if s ≤ n then 2 else 3
def stI (l : List Li) (t : Tg) (k : ByteArray) (c : Bool) : List Int := ((hits l t k).filter (fun x => x.cap == c)).map Li.id
def Dp.begin (d : Dp) (l : List Li) : Dp :=
  if d.path.length < d.st ∧ d.bub = false then { d with st := d.st + 1 }
  else { d with st := d.st + 1, cur := stT d.path d.st, ph := stP d.path.length d.st, q := d.q ++ stI l (stT d.path d.st) d.ty (decide (d.st < d.path.length)) }
def Dp.fin (d : Dp) : Dp := { d with done := true, q := [], cur := ⟨0, 0⟩, ph := 0 }

/-- the first number of a queue that is registered: its place, itself, what is behind it -/
def scan (l : List Li) : List Int → Option (Nat × Int × List Int)
  | [] => none
  | id :: q => match l.findIdx? (fun x => x.id == id) with
    | some i => some (i, id, q)
    | none => scan l q

def Li.zero : Li := ⟨0, ⟨0, 0⟩, ByteArray.empty, 0, false, false, false⟩
structure Out where
  call : Option Cl
  d : Dp
  l : List Li

def fire (d : Dp) (l : List Li) (i : Nat) (id : Int) (q : List Int) : Out :=
  ⟨some ⟨id, (l.getD i Li.zero).cb, d.cur, d.ph⟩, { d with q := q, pas := (l.getD i Li.zero).pas }, if (l.getD i Li.zero).once then l.eraseIdx i else l⟩

def nextK : Nat → Dp → List Li → Out
  | 0, d, l => match scan l d.q with | some (i, id, q) => fire d l i id q | none => ⟨none, d.fin, l⟩
  | k + 1, d, l => match scan l d.q with
    | some (i, id, q) => fire d l i id q
    | none => if d.stop then ⟨none, d.fin, l⟩ else nextK k (Dp.begin { d with q := [] } l) l

def Dp.next (d : Dp) (l : List Li) : Out :=
  if d.done then ⟨none, { d with pas := false }, l⟩
  else if d.halt then ⟨none, Dp.fin { d with pas := false }, l⟩
  else nextK (2 * d.path.length - d.st) { d with pas := false } l
end Go.K.Ev
