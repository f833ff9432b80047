/-
  Cascade: maps as objects; keys that are declarations.
-/
import Derived.Test.YtldembadjgibjaaGreatDoorAv
import Derived.Test.YtldembadjgibjaaGreatDoorAu
import Derived.Maps.OwnSet
import Derived.DeepKeys4
set_option linter.unusedVariables false
set_option linter.unusedSimpArgs false
namespace Go.Proofs.YtldembadjgibjaaGreatDoor
open Go.RowKit Go.K Go.PlainAid Go.Lib Go.Maps

theorem laid : laidOutB Tryz.prog = true := by kernel_rfl
theorem row70 : (70 : TypeId) < Tryz.prog.types.size := of_decide_eq_true (by kernel_rfl)
theorem row68 : (68 : TypeId) < Tryz.prog.types.size := of_decide_eq_true (by kernel_rfl)
theorem wide70 : (match Tryz.prog.underlying 70 with | some (.array _ _) | some (.struct _) => true | _ => false) = true := by kernel_rfl
theorem wide68 : (match Tryz.prog.underlying 68 with | some (.array _ _) | some (.struct _) => true | _ => false) = true := by kernel_rfl
theorem key70T : Keyed Tryz.prog 70 := Keyed.of_law (deep_law_laid laid (m := 3) (by omega) row70 (by kernel_rfl) (by kernel_rfl))
theorem key9T : Keyed Tryz.prog 9 := string_keyed Tryz.underlying9
/-- what a value of the program is bounded by -/
structure VOk (v : Va) : Prop where
  k0 : -1000 ≤ v.kd
  k1 : v.kd ≤ 1000
  n0 : -1048999999 ≤ v.nm
  n1 : v.nm ≤ 1048999999
  wl : v.wd.length ≤ 100000
structure DOk (d : De) : Prop where
  v : VOk d.v
  nl : d.n.length ≤ 100000
theorem types_n : ∃ m, Tryz.prog.types.size = m + 3 := ⟨Tryz.prog.types.size - 3, by have h : (70 : Nat) < Tryz.prog.types.size := row70; omega⟩
theorem cells70 : Tryz.prog.cellsOf 70 = 5 := by kernel_rfl
theorem cells68 : Tryz.prog.cellsOf 68 = 3 := by kernel_rfl
theorem cells9 : Tryz.prog.cellsOf 9 = 1 := by kernel_rfl
theorem cells3 : Tryz.prog.cellsOf 3 = 1 := by kernel_rfl
theorem cells4 : Tryz.prog.cellsOf 4 = 1 := by kernel_rfl
theorem wf_of {n : Int} (h0 : -9223372036854775808 ≤ n) (h1 : n ≤ 9223372036854775807) : (Lit.int .i64 n).wf = true := by
  have e : IntKind.i64.min = -9223372036854775808 := by decide
  simp [Lit.wf, IntKind.wrap, IntKind.bits, IntKind.signed, Int.bmod, e]
  try omega
theorem lits68 (m : Nat) (v : Va) (h : VOk v) : Tryz.prog.keyLits (m + 2) 68 v.cells.toList = some [.int .i64 v.kd, .int .i64 v.nm, .string v.wd] := by
  have w1 := wf_of (n := v.kd) (by have := h.k0; omega) (by have := h.k1; omega)
  have w2 := wf_of (n := v.nm) (by have := h.n0; omega) (by have := h.n1; omega)
  have s1 : (S v.wd).size ≤ maxLen := by rw [S_size]; have := h.wl; unfold maxLen; omega
  conv => lhs; unfold Program.keyLits
  simp only [Tryz.underlying68, cells68, Va.cells]
  simp [Program.keyLits, Tryz.underlying3, Tryz.underlying9, cells3, cells9, w1, w2, s1]
theorem lits70 (m : Nat) (d : De) (h : DOk d) : Tryz.prog.keyLits (m + 3) 70 d.cells = some [.string d.n, .int .i64 d.v.kd, .int .i64 d.v.nm, .string d.v.wd, .bool d.im] := by
  have s1 : (S d.n).size ≤ maxLen := by rw [S_size]; have := h.nl; unfold maxLen; omega
  have e := lits68 m d.v h.v
  simp only [Va.cells] at e
  conv => lhs; unfold Program.keyLits
  simp only [Tryz.underlying70, cells70, De.cells]
  simp only [List.length_cons, List.length_nil]
  simp [cells68, cells9, cells4, e]
  simp [Program.keyLits, Tryz.underlying4, Tryz.underlying9, cells4, cells9, s1]
def kl (d : De) : Lit := .string (keyBytes [.string d.n, .int .i64 d.v.kd, .int .i64 d.v.nm, .string d.v.wd, .bool d.im])
theorem key70 (d : De) (h : DOk d) : keyOf Tryz.prog 70 (.agg d.cells.toArray) = some (kl d) := by
  obtain ⟨m, hm⟩ := types_n
  have hk : Tryz.prog.keyType 70 = true := by kernel_rfl
  have hf : (Value.agg d.cells.toArray).formed Tryz.prog 70 = true := by simp [Value.formed, Tryz.underlying70, cells70, De.cells]
  unfold keyOf
  rw [Tryz.underlying70]
  simp only [hk, hf, Bool.and_self, if_true, Value.cells, hm]
  rw [show m + 3 + 1 = (m + 1) + 3 from by omega, lits70 (m + 1) d h]
  rfl
theorem va_eq {a b : Va} (h : a.cells = b.cells) : a = b := by
  obtain ⟨a1, a2, a3⟩ := a
  obtain ⟨b1, b2, b3⟩ := b
  simp [Va.cells, S] at h
  obtain ⟨rfl, rfl, h3⟩ := h
  have : a3 = b3 := by simpa using h3
  rw [this]
theorem de_eq {a b : De} (h : a.cells = b.cells) : a = b := by
  obtain ⟨an, ⟨a1, a2, a3⟩, ai⟩ := a
  obtain ⟨bn, ⟨b1, b2, b3⟩, bi⟩ := b
  simp [De.cells, S] at h
  obtain ⟨h0, rfl, rfl, h3, rfl⟩ := h
  rw [h0, h3]
theorem kl_inj {a b : De} (ha : DOk a) (hb : DOk b) (h : kl a = kl b) : a = b := by
  have h1 := key70 a ha
  have h2 := key70 b hb
  rw [h] at h1
  have e := keyOf_inj_deep (P := Tryz.prog) (m := 3) (k := 70) (by kernel_rfl) (by kernel_rfl) h1 h2
  exact de_eq (by simpa using e)
theorem kl_key (d : De) : WideAt.IsKeyLit (kl d) := by unfold kl; first | exact trivial | simp [WideAt.IsKeyLit] | decide
/-- an element as it stands -/
abbrev heldR (v : Value) : Option (DataW Value × List MemPlace) := some (.held v, [])
/-- what stands at each key -/
def LkOf {α β : Type} (kf : α → Lit) (vf : β → Value) (ok : α → Prop) (lk : α → Option β) (D : DataW Value) : Prop :=
  ∀ a, ok a → match lk a with
    | none => Maps.has D (kf a) = false
    | some x => Maps.has D (kf a) = true ∧ ∀ z, D.atKey (kf a) z = .held (vf x)
/-- block b is a map -/
def MIs (k : TypeId) {α β : Type} (kf : α → Lit) (vf : β → Value) (ok : α → Prop) (b n : Nat) (lk : α → Option β) (w : World) : Prop :=
  ∃ D : DataW Value, w.ownsMap Tryz.prog k heldR b n D ∧ LkOf kf vf ok lk D
/-- an entry is written -/
theorem LkOf.put {α β : Type} [DecidableEq α] {kf : α → Lit} {vf : β → Value} {ok : α → Prop} {lk : α → Option β} {D : DataW Value} (h : LkOf kf vf ok lk D) (hD : Maps.IsMap D) (hk : ∀ a, WideAt.IsKeyLit (kf a)) (hi : ∀ a b, ok a → ok b → kf a = kf b → a = b) {d : α} (hd : ok d) (x : β) :
    LkOf kf vf ok (fun a => if a = d then some x else lk a) (D.put (kf d) (.held (vf x))) := by
  intro a ha
  dsimp only
  by_cases e : a = d
  · rw [if_pos e, e]
    exact ⟨Maps.has_put_same hD (hk d) _, fun z => Maps.atKey_put_same hD (hk d) _ _⟩
  · rw [if_neg e]
    have hne : kf a ≠ kf d := fun q => e (hi a d ha hd q)
    rw [Maps.has_put_other hne]
    have := h a ha
    cases q : lk a with
    | none => rw [q] at this; exact this
    | some y =>
      rw [q] at this
      exact ⟨this.1, fun z => by rw [Maps.atKey_put_other hne]; exact this.2 z⟩
def As.mp (k : TypeId) {α β : Type} (kf : α → Lit) (vf : β → Value) (ok : α → Prop) (b n : Nat) (lk : α → Option β) : As where
  holds w F := (∀ i, F i ↔ i = b) ∧ MIs k kf vf ok b n lk w
  keep h hk := by
    obtain ⟨h1, D, ⟨es, clock, hb, r⟩, h3⟩ := h
    exact ⟨h1, D, ⟨es, clock, (hk b ((h1 b).2 rfl)).trans hb, r⟩, h3⟩
  lt h i hi := by
    obtain ⟨h1, D, ho, -⟩ := h
    rw [(h1 i).1 hi]
    exact ho.lt
theorem St.mpI {k : TypeId} {α β : Type} {kf : α → Lit} {vf : β → Value} {ok : α → Prop} {b n : Nat} {lk : α → Option β} {w0 w : World} {L : List As} (H : St w0 w L) (hm : As.mp k kf vf ok b n lk ∈ L) : MIs k kf vf ok b n lk w := by
  obtain ⟨G, -, h⟩ := H.mem hm
  exact h
theorem mp_new {k : TypeId} {α β : Type} (kf : α → Lit) (vf : β → Value) (ok : α → Prop) {w0 w : World} {L : List As} (H : St w0 w L) : St w0 (w.alloc (.map #[] 0)) (As.mp k kf vf ok w.heap.size 0 (fun _ => none) :: L) :=
  H.add (F' := fun i => i = w.heap.size) ⟨fun _ => Iff.rfl, .map [], World.ownsMap_made w Tryz.prog k heldR, fun a _ => rfl⟩ ((Fr.refl emp w).alloc _) (fun i hi => by rw [hi]; exact Nat.le_refl _)
theorem mp_put {k : TypeId} {α β : Type} {kf : α → Lit} {vf : β → Value} {ok : α → Prop} {b n n' : Nat} {lk lk' : α → Option β} {w0 w w' : World} {L : List As} (H : St w0 w (As.mp k kf vf ok b n lk :: L)) (hg : w.grownBy w' (some b)) (hm : MIs k kf vf ok b n' lk' w') :
    St w0 w' (As.mp k kf vf ok b n' lk' :: L) := by
  obtain ⟨F, hF, hn, hst⟩ := H.head
  refine hst w' F (As.mp k kf vf ok b n' lk') ⟨hF.1, hm⟩ ⟨⟨hg.os, hg.tape, hg.output, hg.size, fun i hi hni => hg.block i hi (fun e => hni ((hF.1 i).2 (Option.some.inj e)))⟩, fun i hi => .inl hi⟩
end Go.Proofs.YtldembadjgibjaaGreatDoor
