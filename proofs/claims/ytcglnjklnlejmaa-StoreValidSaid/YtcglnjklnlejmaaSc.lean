/-
  The store in plain words: keys in their order, pairs, changes, transactions.
-/
import Derived.Test.YtcglnjklnlejmaaKo
import Derived.Lib.Bytealg
import Derived.Laws.Strings
set_option linter.unusedVariables false
namespace Go.K.Sr
open Go

theorem bl_irrefl : ∀ x : List UInt8, Op.bytesLess x x = false
  | [] => rfl
  | a :: x => by simp [Op.bytesLess, bl_irrefl x]
theorem bl_trans : ∀ x y z : List UInt8, Op.bytesLess x y = true → Op.bytesLess y z = true → Op.bytesLess x z = true
  | _, [], _, h, _ => by simp [Op.bytesLess] at h
  | _, _ :: _, [], _, h => by simp [Op.bytesLess] at h
  | [], _ :: _, _ :: _, _, _ => rfl
  | a :: x, b :: y, c :: z, h, k => by
    simp only [Op.bytesLess, Bool.or_eq_true, decide_eq_true_eq, Bool.and_eq_true, beq_iff_eq] at h k ⊢
    rcases h with h | ⟨rfl, h⟩
    · rcases k with k | ⟨rfl, k⟩
      · exact .inl (UInt8.lt_trans h k)
      · exact .inl h
    · rcases k with k | ⟨rfl, k⟩
      · exact .inl k
      · exact .inr ⟨rfl, bl_trans x y z h k⟩
theorem bl_tri : ∀ x y : List UInt8, Op.bytesLess x y = true ∨ x = y ∨ Op.bytesLess y x = true
  | [], [] => .inr (.inl rfl)
  | [], _ :: _ => .inl rfl
  | _ :: _, [] => .inr (.inr rfl)
  | a :: x, b :: y => by
    simp only [Op.bytesLess, Bool.or_eq_true, decide_eq_true_eq, Bool.and_eq_true, beq_iff_eq, List.cons.injEq]
    rcases Nat.lt_trichotomy a.toNat b.toNat with h | h | h
    · exact .inl (.inl (UInt8.lt_iff_toNat_lt.2 h))
    · have e : a = b := UInt8.toNat_inj.1 h
      subst e
      rcases bl_tri x y with h | h | h
      · exact .inl (.inr ⟨rfl, h⟩)
      · exact .inr (.inl ⟨rfl, h⟩)
      · exact .inr (.inr (.inr ⟨rfl, h⟩))
    · exact .inr (.inr (.inl (UInt8.lt_iff_toNat_lt.2 h)))
theorem cmp_lt : ∀ x y : List UInt8, (Lib.compareBytes x y < 0 ↔ Op.bytesLess x y = true) ∧ (Lib.compareBytes x y = 0 ↔ x = y)
  | [], [] => by simp [Lib.compareBytes, Op.bytesLess]
  | [], _ :: _ => by simp [Lib.compareBytes, Op.bytesLess]
  | _ :: _, [] => by simp [Lib.compareBytes, Op.bytesLess]
  | a :: x, b :: y => by
    have ih := cmp_lt x y
    simp only [Lib.compareBytes, Op.bytesLess]
    by_cases h1 : a < b
    · have hne : a ≠ b := fun e => by subst e; exact absurd h1 (UInt8.lt_irrefl _)
      simp [h1, hne]
    · by_cases h2 : b < a
      · have hne : a ≠ b := fun e => by subst e; exact absurd h2 (UInt8.lt_irrefl _)
        simp [h1, h2, hne]
      · have e : a = b := by
          apply UInt8.toNat_inj.1
          have k1 : ¬ a.toNat < b.toNat := fun h => h1 (UInt8.lt_iff_toNat_lt.2 h)
          have k2 : ¬ b.toNat < a.toNat := fun h => h2 (UInt8.lt_iff_toNat_lt.2 h)
          omega
        subst e
        simp [h1, ih]

def klt (a b : ByteArray) : Bool := Op.bytesLess a.toList b.toList
theorem toList_inj {a b : ByteArray} (h : a.toList = b.toList) : a = b := by
  rw [ByteArray.toList_eq, ByteArray.toList_eq] at h
  exact ByteArray.ext (Array.toList_inj.1 h)
theorem klt_irrefl (a : ByteArray) : klt a a = false := bl_irrefl _
theorem klt_trans {a b c : ByteArray} (h : klt a b = true) (k : klt b c = true) : klt a c = true := bl_trans _ _ _ h k
theorem klt_tri (a b : ByteArray) : klt a b = true ∨ a = b ∨ klt b a = true := by
  rcases bl_tri a.toList b.toList with h | h | h
  · exact .inl h
  · exact .inr (.inl (toList_inj h))
  · exact .inr (.inr h)
theorem klt_ne {a b : ByteArray} (h : klt a b = true) : a ≠ b := fun e => by subst e; rw [klt_irrefl] at h; cases h
theorem klt_asymm {a b : ByteArray} (h : klt a b = true) : klt b a = false := by
  cases k : klt b a with
  | false => rfl
  | true => have := klt_trans h k; rw [klt_irrefl] at this; cases this
theorem klt_of_not {a b : ByteArray} (h : klt a b = false) (hn : a ≠ b) : klt b a = true := by
  rcases klt_tri a b with k | k | k
  · rw [h] at k; cases k
  · exact absurd k hn
  · exact k

structure Pr where
  k : ByteArray
  v : ByteArray
deriving DecidableEq
structure Ch where
  k : ByteArray
  v : ByteArray
  r : Bool
deriving DecidableEq
structure Tx where
  id : Int
  ow : ByteArray
  wr : Bool
deriving DecidableEq
structure SS where
  pairs : List Pr
  txs : List Tx
  cs : List Ch
  nx : Int

def pcells (p : Pr) : List Value := [.string p.k, .string p.v]
def ccells (c : Ch) : List Value := [.string c.k, .string c.v, .bool c.r]

/-- strictly ascending keys -/
def Asc {α : Type} (key : α → ByteArray) (l : List α) : Prop := l.Pairwise (fun a b => klt (key a) (key b) = true)
/-- the list with those before k parted from the rest -/
structure Cut {α : Type} (key : α → ByteArray) (k : ByteArray) (l A B : List α) : Prop where
  eq : l = A ++ B
  lo : ∀ a ∈ A, klt (key a) k = true
  hi : ∀ b ∈ B, klt (key b) k = false
def hasKey {α : Type} (key : α → ByteArray) (k : ByteArray) (B : List α) : Bool := match B with | [] => false | b :: _ => decide (key b = k)

def putP (k v : ByteArray) : List Pr → List Pr
  | [] => [⟨k, v⟩]
  | p :: l => if klt p.k k then p :: putP k v l else if p.k = k then ⟨k, v⟩ :: l else ⟨k, v⟩ :: p :: l
def delP (k : ByteArray) (l : List Pr) : List Pr := l.filter (fun p => decide (p.k ≠ k))
def appC (l : List Pr) (c : Ch) : List Pr := if c.r then delP c.k l else putP c.k c.v l
def content (l : List Pr) (cs : List Ch) : List Pr := cs.foldl appC l
def withC (c : Ch) : List Ch → List Ch
  | [] => [c]
  | p :: l => if klt p.k c.k then p :: withC c l else if p.k = c.k then c :: l else c :: p :: l
def sizeP (l : List Pr) : Nat := (l.map (fun p => p.k.size + p.v.size)).sum

section
variable {α : Type} {key : α → ByteArray} {k : ByteArray} {l A B : List α}
theorem Asc.cut_lt (h : Asc key l) (c : Cut key k l A B) (b : α) (B' : List α) (hB : B = b :: B') : ∀ x ∈ B', klt k (key x) = true := by
  intro x hx
  have h1 := c.eq ▸ h
  subst hB
  have h2 := (List.pairwise_append.1 h1).2.1
  have h3 := (List.pairwise_cons.1 h2).1 x hx
  have h4 := c.hi b (by simp)
  by_cases e : key b = k
  · rw [← e]; exact h3
  · exact klt_trans (klt_of_not h4 e) h3
end
theorem putP_cut {k v : ByteArray} {l A B : List Pr} (h : Asc Pr.k l) (c : Cut Pr.k k l A B) : putP k v l = if hasKey Pr.k k B then A ++ ⟨k, v⟩ :: B.tail else A ++ ⟨k, v⟩ :: B := by
  obtain ⟨rfl, h1, h2⟩ := c
  clear h
  induction A with
  | nil =>
    cases B with
    | nil => rfl
    | cons b B =>
      have h3 := h2 b (by simp)
      by_cases e : b.k = k
      · simp [putP, hasKey, e, klt_irrefl]
      · simp [putP, hasKey, h3, e]
  | cons a A ih =>
    have h3 := h1 a (by simp)
    simp only [List.cons_append, putP, h3, if_true]
    rw [ih (fun x hx => h1 x (by simp [hx]))]
    split <;> rfl
theorem withC_cut {x : Ch} {l A B : List Ch} (c : Cut Ch.k x.k l A B) : withC x l = if hasKey Ch.k x.k B then A ++ x :: B.tail else A ++ x :: B := by
  obtain ⟨rfl, h1, h2⟩ := c
  induction A with
  | nil =>
    cases B with
    | nil => rfl
    | cons b B =>
      have h3 := h2 b (by simp)
      by_cases e : b.k = x.k
      · simp [withC, hasKey, e, klt_irrefl]
      · simp [withC, hasKey, h3, e]
  | cons a A ih =>
    have h3 := h1 a (by simp)
    simp only [List.cons_append, withC, h3, if_true]
    rw [ih (fun x hx => h1 x (by simp [hx]))]
    split <;> rfl
theorem delP_cut {k : ByteArray} {l A B : List Pr} (h : Asc Pr.k l) (c : Cut Pr.k k l A B) : delP k l = if hasKey Pr.k k B then A ++ B.tail else A ++ B := by
  have hA : ∀ a ∈ A, a.k ≠ k := fun a ha => klt_ne (c.lo a ha)
  have e1 : A.filter (fun p => decide (p.k ≠ k)) = A := List.filter_eq_self.2 (fun a ha => by simpa using hA a ha)
  have heq := c.eq
  subst heq
  unfold delP
  rw [List.filter_append, e1]
  cases B with
  | nil => simp [hasKey]
  | cons b B' =>
    have hr := Asc.cut_lt h c b B' rfl
    have e2 : B'.filter (fun p => decide (p.k ≠ k)) = B' := List.filter_eq_self.2 (fun a ha => by simpa using fun e => klt_ne (hr a ha) e.symm)
    by_cases e : b.k = k
    · simp [hasKey, e]
      simpa using e2
    · simp [hasKey, e]
      simpa using e2
theorem Cut.asc_put {k v : ByteArray} {l A B : List Pr} (h : Asc Pr.k l) (c : Cut Pr.k k l A B) : Asc Pr.k (putP k v l) := by
  have hp := putP_cut (v := v) h c
  obtain ⟨rfl, h1, h2⟩ := c
  rw [hp]
  have h0 := List.pairwise_append.1 h
  have key : ∀ B' : List Pr, (∀ x ∈ B', klt k x.k = true) → B'.Pairwise (fun a b => klt a.k b.k = true) → Asc Pr.k (A ++ ⟨k, v⟩ :: B') := by
    intro B' hB hP
    refine List.pairwise_append.2 ⟨h0.1, List.pairwise_cons.2 ⟨hB, hP⟩, ?_⟩
    intro a ha b hb
    rcases List.mem_cons.1 hb with rfl | hb
    · exact h1 a ha
    · exact klt_trans (h1 a ha) (hB b hb)
  cases B with
  | nil => simp [hasKey]; exact key [] (by simp) .nil
  | cons b B' =>
    have hr := Asc.cut_lt h (A := A) (B := b :: B') ⟨rfl, h1, h2⟩ b B' rfl
    have hP := (List.pairwise_cons.1 h0.2.1).2
    by_cases e : b.k = k
    · simp [hasKey, e]; exact key B' hr hP
    · simp [hasKey, e]
      refine key (b :: B') ?_ h0.2.1
      intro x hx
      rcases List.mem_cons.1 hx with rfl | hx
      · exact klt_of_not (h2 x (by simp)) e
      · exact hr x hx
theorem cut_ex {α : Type} (key : α → ByteArray) (k : ByteArray) : ∀ l : List α, Asc key l → ∃ A B, Cut key k l A B
  | [], _ => ⟨[], [], rfl, by simp, by simp⟩
  | a :: l, h => by
    have h1 := List.pairwise_cons.1 h
    cases e : klt (key a) k with
    | true =>
      obtain ⟨A, B, hc⟩ := cut_ex key k l h1.2
      exact ⟨a :: A, B, by rw [hc.eq]; rfl, fun x hx => by
        rcases List.mem_cons.1 hx with rfl | hx
        · exact e
        · exact hc.lo x hx, hc.hi⟩
    | false =>
      refine ⟨[], a :: l, rfl, by simp, fun x hx => ?_⟩
      rcases List.mem_cons.1 hx with rfl | hx
      · exact e
      · cases e2 : klt (key x) k with
        | false => rfl
        | true => rw [klt_trans (h1.1 x hx) e2] at e; cases e
theorem asc_put {k v : ByteArray} {l : List Pr} (h : Asc Pr.k l) : Asc Pr.k (putP k v l) := by
  obtain ⟨A, B, hc⟩ := cut_ex Pr.k k l h
  exact hc.asc_put h
theorem asc_del {k : ByteArray} {l : List Pr} (h : Asc Pr.k l) : Asc Pr.k (delP k l) := h.filter _
theorem asc_app {c : Ch} {l : List Pr} (h : Asc Pr.k l) : Asc Pr.k (appC l c) := by
  unfold appC
  split
  · exact asc_del h
  · exact asc_put h
theorem asc_content {cs : List Ch} : ∀ {l : List Pr}, Asc Pr.k l → Asc Pr.k (content l cs) := by
  induction cs with
  | nil => exact fun h => h
  | cons c cs ih => exact fun h => ih (asc_app h)
end Go.K.Sr
