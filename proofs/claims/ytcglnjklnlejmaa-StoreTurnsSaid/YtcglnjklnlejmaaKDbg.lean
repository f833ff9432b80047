import Lean
import Derived.WalkKit
import Derived.Deep.Quiet
import Derived.Still
namespace Go
open Lean Elab Tactic Meta
/-- prints of each goal: head; for lists of operations the first operation and the frame; else the goal's last signs -/
elab "go_dbg" : tactic => do
  for g in ← getGoals do
    g.withContext do
      let t := (← instantiateMVars (← g.getType)).consumeMData
      let args := t.getAppArgs
      let f := t.getAppFn
      let hd := toString (← ppExpr f)
      let mut s := ""
      if t.isAppOf ``wpList then
        let l := args[3]!
        let o ← if l.isAppOfArity ``List.cons 3 then pure (toString (← ppExpr (l.getArg! 1))) else pure "nil"
        s := s!"wpList first op: {o}\nACT {toString (← ppExpr args[4]!)}\nWORLD {toString (← ppExpr args[5]!)}"
      else if t.isAppOf ``wpQuiet then
        let l := args[4]!
        let o ← if l.isAppOfArity ``List.cons 3 then pure (toString (← ppExpr (l.getArg! 1))) else pure "nil"
        s := s!"wpQuiet first op: {o}\nACT {toString (← ppExpr args[5]!)}"
      else if t.isAppOf ``wpStill then
        let l := args[4]!
        let o ← if l.isAppOfArity ``List.cons 3 then pure (toString (← ppExpr (l.getArg! 1))) else pure "nil"
        s := s!"wpStill first op: {o}\nACT {toString (← ppExpr args[5]!)}"
      else if t.isAppOf ``Calls then
        s := s!"Calls {toString (← ppExpr args[1]!)} ARGS {toString (← ppExpr args[2]!)}\nWORLD {toString (← ppExpr args[3]!)}"
      else if t.isAppOf ``Oper.upon then
        s := s!"upon {toString (← ppExpr args[1]!)}\nRESULT {toString (← ppExpr args[args.size-1]!)}"
      else
        let u := toString (← ppExpr t)
        s := s!"{hd.take 60} .. {(u.drop (u.length - min u.length 1800))}"
      logInfo m!"DBG {s.take 6000}"
end Go
