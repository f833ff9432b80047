/-
  Operations in plain words, and what they keep.
-/
import Derived.Test.YtcglnjklnlejmaaSm
set_option linter.unusedVariables false
set_option linter.unusedSimpArgs false
namespace Go.Proofs.Ytcglnjklnlejmaa
open Go.RowKit Go.K Go.K.Sr

def doS (S : SS) (o : Op') (id : Int) : SS × Rs :=
  if o.kd % 9 = 0 then (openS S o.key o.wr, ⟨S.nx + 1, .empty, false, [], 0⟩)
  else if o.kd % 9 = 1 then (S, ⟨0, (getS S id o.key).1, (getS S id o.key).2.1, [], (getS S id o.key).2.2⟩)
  else if o.kd % 9 = 2 then ((altS S id ⟨o.key, o.val, false⟩).1, ⟨0, .empty, false, [], (altS S id ⟨o.key, o.val, false⟩).2⟩)
  else if o.kd % 9 = 3 then ((altS S id ⟨o.key, .empty, true⟩).1, ⟨0, .empty, false, [], (altS S id ⟨o.key, .empty, true⟩).2⟩)
  else if o.kd % 9 = 4 then (S, ⟨0, .empty, false, (keysS S id o.key o.val).1, (keysS S id o.key o.val).2⟩)
  else if o.kd % 9 = 5 then ((commitS S id).1, ⟨0, .empty, false, [], (commitS S id).2⟩)
  else if o.kd % 9 = 6 then (abortS S id, ⟨0, .empty, false, [], errN (fnd id S.txs)⟩)
  else if o.kd % 9 = 7 then (S, ⟨0, .empty, turnE id S.txs, [], errN (fnd id S.txs)⟩)
  else (leaveS S o.key, ⟨(S.txs.length : Int) - ((leaveS S o.key).txs.length : Int), .empty, false, [], 0⟩)

structure Iv (n : Nat) (S : SS) : Prop where
  pa : Asc Pr.k S.pairs
  ca : Asc Ch.k S.cs
  ln : S.pairs.length + S.cs.length ≤ n
  tl : S.txs.length ≤ n
  nx0 : 0 ≤ S.nx
  nx1 : S.nx ≤ n
  nil : S.txs = [] → S.cs = []
  bp : ∀ p ∈ S.pairs, p.k.size ≤ 100 ∧ p.v.size ≤ 100
  bc : ∀ p ∈ S.cs, p.k.size ≤ 100 ∧ p.v.size ≤ 100
theorem Iv.gd {n : Nat} {S : SS} (h : Iv n S) (hn : n ≤ 9000) : Gd 0 S :=
  ⟨h.pa, h.ca, by have := h.ln; omega, by have := h.ln; omega, by have := h.tl; omega, h.nx0, by have := h.nx1; omega, h.nil⟩

theorem mem_putP {k v : ByteArray} {l : List Pr} {p : Pr} (h : p ∈ putP k v l) : p = ⟨k, v⟩ ∨ p ∈ l := by
  induction l with
  | nil => simp [putP] at h; exact .inl h
  | cons a l ih =>
    unfold putP at h
    split at h
    · rcases List.mem_cons.1 h with rfl | h
      · exact .inr (by simp)
      · rcases ih h with h | h
        · exact .inl h
        · exact .inr (by simp [h])
    · split at h
      · rcases List.mem_cons.1 h with rfl | h
        · exact .inl rfl
        · exact .inr (by simp [h])
      · rcases List.mem_cons.1 h with rfl | h
        · exact .inl rfl
        · exact .inr h
theorem mem_withC {c : Ch} {l : List Ch} {p : Ch} (h : p ∈ withC c l) : p = c ∨ p ∈ l := by
  induction l with
  | nil => simp [withC] at h; exact .inl h
  | cons a l ih =>
    unfold withC at h
    split at h
    · rcases List.mem_cons.1 h with rfl | h
      · exact .inr (by simp)
      · rcases ih h with h | h
        · exact .inl h
        · exact .inr (by simp [h])
    · split at h
      · rcases List.mem_cons.1 h with rfl | h
        · exact .inl rfl
        · exact .inr (by simp [h])
      · rcases List.mem_cons.1 h with rfl | h
        · exact .inl rfl
        · exact .inr h
theorem bd_content {M : Nat} (cs : List Ch) (hc : ∀ c ∈ cs, c.k.size ≤ M ∧ c.v.size ≤ M) : ∀ l : List Pr, (∀ p ∈ l, p.k.size ≤ M ∧ p.v.size ≤ M) → ∀ p ∈ content l cs, p.k.size ≤ M ∧ p.v.size ≤ M := by
  induction cs with
  | nil => exact fun l h => h
  | cons c cs ih =>
    intro l h
    refine ih (fun x hx => hc x (by simp [hx])) (appC l c) ?_
    intro p hp
    unfold appC at hp
    split at hp
    · exact h p (List.mem_filter.1 hp).1
    · rcases mem_putP hp with rfl | hp
      · exact hc c (by simp)
      · exact h p hp
theorem sizeP_bd {M : Nat} : ∀ l : List Pr, (∀ p ∈ l, p.k.size ≤ M ∧ p.v.size ≤ M) → sizeP l ≤ l.length * (2 * M)
  | [], _ => by simp [sizeP]
  | p :: l, h => by
    have h1 := h p (by simp)
    have h2 := sizeP_bd l (fun x hx => h x (by simp [hx]))
    simp only [sizeP, List.map_cons, List.sum_cons, List.length_cons, Nat.add_mul] at h2 ⊢
    omega
theorem asc_withC {c : Ch} {l : List Ch} (h : Asc Ch.k l) : Asc Ch.k (withC c l) := by
  obtain ⟨A, B, hc⟩ := cut_ex Ch.k c.k l h
  have hp := withC_cut hc
  have hlt := fun b B' hB => Asc.cut_lt h hc b B' hB
  obtain ⟨rfl, h1, h2⟩ := hc
  rw [hp]
  have h0 := List.pairwise_append.1 h
  have key : ∀ B' : List Ch, (∀ x ∈ B', klt c.k x.k = true) → B'.Pairwise (fun a b => klt a.k b.k = true) → Asc Ch.k (A ++ c :: B') := by
    intro B' hB hP
    refine List.pairwise_append.2 ⟨h0.1, List.pairwise_cons.2 ⟨hB, hP⟩, ?_⟩
    intro a ha b hb
    rcases List.mem_cons.1 hb with rfl | hb
    · exact h1 a ha
    · exact klt_trans (h1 a ha) (hB b hb)
  cases B with
  | nil => simp [hasKey]; exact key [] (by simp) .nil
  | cons b B' =>
    have hr := hlt b B' rfl
    have hP := (List.pairwise_cons.1 h0.2.1).2
    by_cases e : b.k = c.k
    · simp [hasKey, e]; exact key B' hr hP
    · simp [hasKey, e]
      refine key (b :: B') ?_ h0.2.1
      intro x hx
      rcases List.mem_cons.1 hx with rfl | hx
      · exact klt_of_not (h2 x (by simp)) e
      · exact hr x hx
theorem Iv.mono {n m : Nat} {S : SS} (h : Iv n S) (hm : n ≤ m) : Iv m S :=
  ⟨h.pa, h.ca, by have := h.ln; omega, by have := h.tl; omega, h.nx0, by have := h.nx1; omega, h.nil, h.bp, h.bc⟩
theorem iv_open {n : Nat} {S : SS} (h : Iv n S) (ow : ByteArray) (wr : Bool) : Iv (n + 1) (openS S ow wr) :=
  ⟨h.pa, h.ca, by have := h.ln; show S.pairs.length + S.cs.length ≤ n + 1; omega, by have := h.tl; simp [openS]; omega, by have := h.nx0; show 0 ≤ S.nx + 1; omega, by have := h.nx1; show S.nx + 1 ≤ ((n + 1 : Nat) : Int); omega, fun q => by simp [openS] at q, h.bp, h.bc⟩
theorem iv_alt {n : Nat} {S : SS} (h : Iv n S) (id : Int) (c : Ch) (hc : c.k.size ≤ 100 ∧ c.v.size ≤ 100) : Iv (n + 1) (altS S id c).1 := by
  have h0 := h.mono (Nat.le_succ n)
  unfold altS
  split
  · exact h0
  · rename_i k hk
    split
    · exact h0
    · split
      · split
        · exact h0
        · split
          · exact h0
          · refine ⟨h.pa, asc_withC h.ca, ?_, h0.tl, h0.nx0, h0.nx1, ?_, h.bp, ?_⟩
            · have := withC_len c S.cs; have := h.ln; show S.pairs.length + (withC c S.cs).length ≤ n + 1; omega
            · intro q
              have := fnd_lt hk
              rw [q] at this
              simp at this
            · intro p hp
              rcases mem_withC hp with rfl | hp
              · exact hc
              · exact h.bc p hp
      · exact h0
theorem iv_drop {n : Nat} {S : SS} (h : Iv n S) (k : Nat) (hk : k < S.txs.length) : Iv n (dropS S k) := by
  refine ⟨h.pa, ?_, ?_, ?_, h.nx0, h.nx1, ?_, h.bp, ?_⟩
  · show Asc Ch.k (if k = 0 then [] else S.cs)
    split
    · exact List.Pairwise.nil
    · exact h.ca
  · show S.pairs.length + (if k = 0 then [] else S.cs).length ≤ n
    have := h.ln
    split
    · simp; omega
    · exact this
  · show (S.txs.eraseIdx k).length ≤ n
    have := h.tl
    rw [List.length_eraseIdx, if_pos hk]
    omega
  · intro q
    show (if k = 0 then [] else S.cs) = []
    split
    · rfl
    · have q1 : (S.txs.eraseIdx k).length = 0 := by rw [show S.txs.eraseIdx k = [] from q]; rfl
      rw [List.length_eraseIdx, if_pos hk] at q1
      omega
  · intro p hp
    have hp' : p ∈ (if k = 0 then [] else S.cs) := hp
    split at hp'
    · cases hp'
    · exact h.bc p hp'
theorem iv_commit {n : Nat} {S : SS} (h : Iv n S) (id : Int) : Iv n (commitS S id).1 := by
  unfold commitS
  split
  · exact h
  · rename_i k hk
    split
    · exact h
    · have hkl := fnd_lt hk
      by_cases h0 : k = 0
      · subst h0
        simp only [chs, if_true]
        have hz : Iv n { S with pairs := content S.pairs S.cs, cs := [] } := by
          refine ⟨asc_content h.pa, List.Pairwise.nil, ?_, h.tl, h.nx0, h.nx1, fun _ => rfl, bd_content S.cs h.bc S.pairs h.bp, by simp⟩
          have := content_len S.cs S.pairs
          have := h.ln
          show (content S.pairs S.cs).length + 0 ≤ n
          omega
        exact iv_drop hz 0 hkl
      · have hch : chs S k = [] := by unfold chs; rw [if_neg h0]
        rw [hch]
        exact iv_drop h k hkl
theorem iv_leave {n : Nat} {S : SS} (h : Iv n S) (ow : ByteArray) : Iv n (leaveS S ow) := by
  have hh : headC ow S.txs S.cs = S.cs ∨ headC ow S.txs S.cs = [] := by
    unfold headC
    split
    · exact .inl rfl
    · split
      · exact .inr rfl
      · exact .inl rfl
  refine ⟨h.pa, ?_, ?_, ?_, h.nx0, h.nx1, ?_, h.bp, ?_⟩
  · show Asc Ch.k (headC ow S.txs S.cs)
    rcases hh with q | q <;> rw [q]
    · exact h.ca
    · exact List.Pairwise.nil
  · show S.pairs.length + (headC ow S.txs S.cs).length ≤ n
    have := h.ln
    rcases hh with q | q <;> rw [q]
    · exact this
    · simp; omega
  · exact Nat.le_trans (List.length_filter_le _ _) h.tl
  · intro q
    show headC ow S.txs S.cs = []
    have q' : S.txs.filter (fun t => !isOw ow t) = [] := q
    cases ht : S.txs with
    | nil => simp only [headC]; exact h.nil ht
    | cons t r =>
      rw [ht, List.filter_cons] at q'
      simp only [headC]
      by_cases e : isOw ow t = true
      · rw [if_pos e]
      · rw [if_pos (by simp [e])] at q'; cases q'
  · intro p hp
    have hp' : p ∈ headC ow S.txs S.cs := hp
    rcases hh with q | q <;> rw [q] at hp'
    · exact h.bc p hp'
    · cases hp'
theorem iv_do {n : Nat} {S : SS} (h : Iv n S) (o : Op') (id : Int) (ho : o.key.size ≤ 100 ∧ o.val.size ≤ 100) : Iv (n + 1) (doS S o id).1 := by
  have h0 := h.mono (Nat.le_succ n)
  unfold doS
  split
  · exact iv_open h _ _
  · split
    · exact h0
    · split
      · exact iv_alt h _ _ ho
      · split
        · exact iv_alt h _ _ ⟨ho.1, by simp⟩
        · split
          · exact h0
          · split
            · exact (iv_commit h id).mono (Nat.le_succ n)
            · split
              · unfold abortS
                split
                · rename_i k hk
                  exact (iv_drop h k (fnd_lt hk)).mono (Nat.le_succ n)
                · exact h0
              · split
                · exact h0
                · exact (iv_leave h o.key).mono (Nat.le_succ n)

theorem do_st {w0 w : World} {L : List As} {b n : Nat} {S : SS} (o : Op') (id : Int) (ho : o.ok) (hs : o.key.size ≤ 100 ∧ o.val.size ≤ 100) (h : SAt b S w0 w L) (hi : Iv n S) (hn : n ≤ 9000) :
    Calls Try.prog 22 #[.pointer (some ⟨b, 0, none⟩), .agg #[.int .u8 o.kd, .int .u8 o.tx, .string o.key, .string o.val, .bool o.wr], .int .i64 id] w (DoPost b (doS S o id).1 (doS S o id).2 w0 L) := by
  have hg := hi.gd hn
  have hsz : ∀ c : Ch, (c.k.size ≤ 100 ∧ c.v.size ≤ 100) → sizeP (content S.pairs (withC c S.cs)) ≤ 4611686018427387904 := by
    intro c hc
    have h1 := sizeP_bd (M := 100) _ (bd_content (withC c S.cs) (fun x hx => by rcases mem_withC hx with rfl | hx; exact hc; exact hi.bc x hx) S.pairs hi.bp)
    have h2 := content_len (withC c S.cs) S.pairs
    have h3 := withC_len c S.cs
    have h4 := hi.ln
    omega
  have hm : 0 ≤ o.kd % 9 ∧ o.kd % 9 < 9 := by omega
  unfold doS
  by_cases e0 : o.kd % 9 = 0
  · rw [if_pos e0]; exact do0_st o id 0 e0 ho h hg
  rw [if_neg e0]
  by_cases e1 : o.kd % 9 = 1
  · rw [if_pos e1]; exact do1_st o id 0 e1 ho h hg
  rw [if_neg e1]
  by_cases e2 : o.kd % 9 = 2
  · rw [if_pos e2]; exact do2_st o id 0 e2 ho h hg (hsz _ hs)
  rw [if_neg e2]
  by_cases e3 : o.kd % 9 = 3
  · rw [if_pos e3]; exact do3_st o id 0 e3 ho h hg (hsz _ ⟨hs.1, by simp⟩)
  rw [if_neg e3]
  by_cases e4 : o.kd % 9 = 4
  · rw [if_pos e4]; exact do4_st o id 0 e4 ho h hg
  rw [if_neg e4]
  by_cases e5 : o.kd % 9 = 5
  · rw [if_pos e5]; exact do5_st o id 0 e5 ho h hg
  rw [if_neg e5]
  by_cases e6 : o.kd % 9 = 6
  · rw [if_pos e6]; exact do6_st o id 0 e6 ho h hg
  rw [if_neg e6]
  by_cases e7 : o.kd % 9 = 7
  · rw [if_pos e7]; exact do7_st o id 0 e7 ho h hg
  rw [if_neg e7]
  exact do8_st o id 0 (by omega) ho h hg
end Go.Proofs.Ytcglnjklnlejmaa
