/-
  Cascade: apply, the declarations.
-/
import Derived.Test.YtldembadjgibjaaGreatDoorBd
set_option linter.unusedVariables false
set_option linter.unusedSimpArgs false
namespace Go.Proofs.YtldembadjgibjaaGreatDoor
open Go.RowKit Go.K Go.PlainAid Go.Lib Go.Maps Go.WideMaps

abbrev z28 : Array Value := #[.int .i64 0, .int .i64 0, .int .i64 0, .int .i64 0, .int .i64 0, .int .i64 0, .int .i64 0, .int .i64 0, .int .i64 0, .int .i64 0, .int .i64 0, .int .i64 0, .int .i64 0, .int .i64 0, .int .i64 0, .int .i64 0, .int .i64 0, .int .i64 0, .int .i64 0, .int .i64 0, .int .i64 0, .int .i64 0, .int .i64 0, .int .i64 0, .int .i64 0, .int .i64 0, .int .i64 0, .int .i64 0, .int .i64 0, .int .i64 0, .int .i64 0, .int .i64 0, .int .i64 0, .int .i64 0, .string ⟨#[]⟩, .string ⟨#[]⟩, .string ⟨#[]⟩, .int .i64 0, .int .i64 0, .int .i64 0, .int .i64 0, .int .i64 0, .int .i64 0, .bool false, .int .i64 0, .int .i64 0, .int .i64 0, .int .i64 0, .int .i64 0, .int .i64 0, .bool false, .int .i64 0, .int .i64 0]
/-- the values of declarations, the later ones stronger -/
def putD [Inhabited TbBox] (lk : Lk) (d : De) : Lk := if vM d = true then (fun s => if s = d.n then some d.v else lk s) else lk
def lkOf [Inhabited TbBox] (ds : List De) : Lk := ds.foldl putD (fun _ => none)
theorem lkOf_ok [Inhabited TbBox] (ds : List De) (h : ∀ d ∈ ds, DOk d) : ∀ s v, lkOf ds s = some v → VOk v := by
  have key : ∀ (l : List De) (lk : Lk), (∀ d ∈ l, DOk d) → (∀ s v, lk s = some v → VOk v) → ∀ s v, l.foldl putD lk s = some v → VOk v := by
    intro l
    induction l with
    | nil => intro lk _ h2; exact h2
    | cons d l ih =>
      intro lk h1 h2
      refine ih _ (fun x hx => h1 x (.tail _ hx)) ?_
      intro s v hs
      unfold putD at hs
      split at hs
      · dsimp only at hs
        by_cases e : s = d.n
        · rw [if_pos e] at hs
          rw [← Option.some.inj hs]; exact (h1 d (.head _)).v
        · rw [if_neg e] at hs
          exact h2 s v hs
      · exact h2 s v hs
  exact key ds _ h (fun s v hs => by cases hs)
theorem sK_inj {a b : List UInt8} (h : sK a = sK b) : a = b := by
  injection h
theorem sK_key (a : List UInt8) : WideAt.IsKeyLit (sK a) := by first | exact trivial | simp [WideAt.IsKeyLit]
end Go.Proofs.YtldembadjgibjaaGreatDoor
