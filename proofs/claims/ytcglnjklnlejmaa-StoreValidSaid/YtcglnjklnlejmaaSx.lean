/-
  The plain law of StoreAtomic.
-/
import Derived.Test.YtcglnjklnlejmaaSt
import Derived.Test.YtcglnjklnlejmaaSn
set_option linter.unusedVariables false
set_option linter.unusedSimpArgs false
namespace Go.Proofs.Ytcglnjklnlejmaa
open Go.RowKit Go.K Go.K.Sr

theorem snoc_ind {α : Type} {P : List α → Prop} (h0 : P []) (h1 : ∀ l x, P l → P (l ++ [x])) (l : List α) : P l := by
  have h : ∀ r : List α, P r.reverse := by
    intro r
    induction r with
    | nil => exact h0
    | cons a r ih => simpa using h1 _ a ih
  simpa using h l.reverse
theorem look_head (a : Pr) (l : List Pr) : lookP (a :: l) a.k = some a := by simp [lookP]
theorem look_cons_ne {a : Pr} {l : List Pr} {q : ByteArray} (h : a.k ≠ q) : lookP (a :: l) q = lookP l q := by simp [lookP, List.find?_cons, h]
theorem look_none {l : List Pr} {q : ByteArray} (h : ∀ x ∈ l, klt q x.k = true) : lookP l q = none := by
  unfold lookP
  rw [List.find?_eq_none]
  intro x hx
  have := klt_ne (h x hx)
  simp only [decide_eq_true_eq]
  exact fun e => this e.symm
theorem asc_ext : ∀ l1 l2 : List Pr, Asc Pr.k l1 → Asc Pr.k l2 → (∀ q, lookP l1 q = lookP l2 q) → l1 = l2
  | [], [], _, _, _ => rfl
  | [], b :: l2, _, _, h => by have := h b.k; rw [look_head] at this; cases this
  | a :: l1, [], _, _, h => by have := h a.k; rw [look_head] at this; cases this
  | a :: l1, b :: l2, h1, h2, h => by
    have g1 := List.pairwise_cons.1 h1
    have g2 := List.pairwise_cons.1 h2
    have hk : a.k = b.k := by
      rcases klt_tri a.k b.k with e | e | e
      · have := h a.k
        rw [look_head, look_none (l := b :: l2)] at this
        · cases this
        · intro x hx
          rcases List.mem_cons.1 hx with rfl | hx
          · exact e
          · exact klt_trans e (g2.1 x hx)
      · exact e
      · have := h b.k
        rw [look_head, look_none (l := a :: l1)] at this
        · cases this
        · intro x hx
          rcases List.mem_cons.1 hx with rfl | hx
          · exact e
          · exact klt_trans e (g1.1 x hx)
    have hab : a = b := by
      have := h a.k
      rw [look_head, hk, look_head] at this
      exact Option.some.inj this
    subst hab
    congr 1
    refine asc_ext l1 l2 g1.2 g2.2 (fun q => ?_)
    by_cases hq : a.k = q
    · subst hq
      rw [look_none g1.1, look_none g2.1]
    · have := h q
      rwa [look_cons_ne hq, look_cons_ne hq] at this
def lookC (cs : List Ch) (q : ByteArray) : Option Ch := cs.find? (fun x => decide (x.k = q))
theorem look_app (l : List Pr) (c : Ch) (q : ByteArray) : lookP (appC l c) q = if c.k = q then (if c.r then none else some ⟨c.k, c.v⟩) else lookP l q := by
  unfold appC
  by_cases hcr : c.r = true
  · rw [if_pos hcr, look_del]; simp [hcr]
  · rw [if_neg hcr, look_put]; simp [hcr]
theorem look_content {cs : List Ch} (q : ByteArray) (ha : Asc Ch.k cs) : ∀ l : List Pr, lookP (content l cs) q = match lookC cs q with | some c => if c.r then none else some ⟨c.k, c.v⟩ | none => lookP l q := by
  induction cs with
  | nil => intro l; rfl
  | cons c cs ih =>
    intro l
    have h1 := List.pairwise_cons.1 ha
    have e : content l (c :: cs) = content (appC l c) cs := rfl
    rw [e, ih h1.2, look_app]
    by_cases hq : c.k = q
    · have hn : lookC cs q = none := by
        unfold lookC
        rw [List.find?_eq_none]
        intro x hx
        have := klt_ne (h1.1 x hx)
        simp only [decide_eq_true_eq]
        intro e2
        exact this (hq.trans e2.symm)
      have hs : lookC (c :: cs) q = some c := by simp [lookC, List.find?_cons, hq]
      rw [hn, hs]
      simp [hq]
    · have hs : lookC (c :: cs) q = lookC cs q := by simp [lookC, List.find?_cons, hq]
      rw [hs]
      simp [hq]
theorem lookC_with (c : Ch) (q : ByteArray) (l : List Ch) : lookC (withC c l) q = if c.k = q then some c else lookC l q := by
  unfold lookC
  induction l with
  | nil => simp only [withC, List.find?_cons, List.find?_nil]; by_cases h : c.k = q <;> simp [h]
  | cons p l ih =>
    unfold withC
    split
    · rename_i h
      rw [List.find?_cons, ih, List.find?_cons]
      have hne := klt_ne h
      by_cases e : c.k = q
      · subst e; simp [hne]
      · simp [e]
    · split
      · rename_i h1 h2
        rw [List.find?_cons, List.find?_cons]
        by_cases e : c.k = q <;> simp [e, h2]
      · rw [List.find?_cons]
        by_cases e : c.k = q <;> simp [e]
theorem content_with {l : List Pr} {cs : List Ch} (c : Ch) (hl : Asc Pr.k l) (hc : Asc Ch.k cs) : content l (withC c cs) = appC (content l cs) c := by
  refine asc_ext _ _ (asc_content hl) (asc_app (asc_content hl)) (fun q => ?_)
  rw [look_content q (asc_withC hc), lookC_with, look_app, look_content q hc]
  by_cases h : c.k = q <;> simp [h]
def normC (c : Ch) : Ch := ⟨c.k, if c.r then .empty else c.v, c.r⟩
theorem app_norm (l : List Pr) (c : Ch) : appC l (normC c) = appC l c := by
  unfold appC normC
  cases h : c.r <;> simp
def foldC (cs : List Ch) : List Ch := cs.foldl (fun a c => withC (normC c) a) []
theorem foldC_succ (cs : List Ch) (i : Nat) (hi : i < cs.length) (x : Ch) (hx : cs[i] = x) : foldC (cs.take (i + 1)) = withC (normC x) (foldC (cs.take i)) := by
  unfold foldC
  rw [List.take_succ_eq_append_getElem hi, hx, List.foldl_append]
  rfl
theorem foldC_snoc (cs : List Ch) (x : Ch) : foldC (cs ++ [x]) = withC (normC x) (foldC cs) := by
  unfold foldC
  rw [List.foldl_append]
  rfl
theorem asc_foldC (cs : List Ch) : Asc Ch.k (foldC cs) := by
  induction cs using snoc_ind with
  | h0 => exact List.Pairwise.nil
  | h1 cs x ih => rw [foldC_snoc]; exact asc_withC ih
theorem foldC_len (cs : List Ch) : (foldC cs).length ≤ cs.length := by
  induction cs using snoc_ind with
  | h0 => exact Nat.le_refl _
  | h1 cs x ih => rw [foldC_snoc]; have := withC_len (normC x) (foldC cs); simp; omega
theorem foldC_bd (cs : List Ch) (h : ∀ c ∈ cs, c.k.size ≤ 100 ∧ c.v.size ≤ 100) : ∀ c ∈ foldC cs, c.k.size ≤ 100 ∧ c.v.size ≤ 100 := by
  induction cs using snoc_ind with
  | h0 => intro c hc; cases hc
  | h1 cs x ih =>
    rw [foldC_snoc]
    intro c hc
    rcases mem_withC hc with rfl | hc
    · have := h x (by simp)
      refine ⟨this.1, ?_⟩
      unfold normC
      simp only
      split
      · exact Nat.zero_le _
      · exact this.2
    · exact ih (fun c hc => h c (by simp [hc])) c hc
theorem content_foldC {l : List Pr} (hl : Asc Pr.k l) (cs : List Ch) : content l (foldC cs) = content l cs := by
  induction cs using snoc_ind with
  | h0 => rfl
  | h1 cs x ih =>
    rw [foldC_snoc, content_with _ hl (asc_foldC cs), app_norm, ih]
    unfold content
    rw [List.foldl_append]
    rfl
def me : ByteArray := { data := #[109, 101] }
def you : ByteArray := { data := #[121, 111, 117] }
/-- two transactions, the first one writes -/
def SA (p : List Pr) (nx : Int) (cs : List Ch) : SS := ⟨p, [⟨nx + 1, me, true⟩, ⟨nx + 1 + 1, you, false⟩], cs, nx + 1 + 1⟩
def SO (p : List Pr) (nx : Int) : SS := ⟨p, [⟨nx + 1 + 1, you, false⟩], [], nx + 1 + 1⟩
def SE (p : List Pr) (nx : Int) : SS := ⟨p, [], [], nx⟩
theorem sa_open (p : List Pr) (nx : Int) : openS (openS (SE p nx) me true) you false = SA p nx [] := rfl
theorem fnd_sa (p : List Pr) (nx : Int) (cs : List Ch) : fnd (nx + 1) (SA p nx cs).txs = some 0 := by simp [fnd, SA, List.findIdx?_cons]
theorem fnd_sa2 (p : List Pr) (nx : Int) (cs : List Ch) : fnd (nx + 1 + 1) (SA p nx cs).txs = some 1 := by
  have h : ¬ nx + 1 = nx + 1 + 1 := by omega
  simp [fnd, SA, List.findIdx?_cons, h]
theorem alt_sa (p : List Pr) (nx : Int) (cs : List Ch) (c : Ch) (h : sizeP (content p (withC c cs)) ≤ 1048576) : altS (SA p nx cs) (nx + 1) c = (SA p nx (withC c cs), 0) := by
  have ht : turnB (SA p nx cs).txs 0 = true := rfl
  have hg : (SA p nx cs).txs[0]? = some ⟨nx + 1, me, true⟩ := rfl
  have h2 : ¬ (1048576 < sizeP (content (SA p nx cs).pairs (withC c (SA p nx cs).cs))) := by show ¬ (1048576 < sizeP (content p (withC c cs))); omega
  unfold altS
  rw [fnd_sa]
  simp only [ht, hg]
  rw [if_neg (by simp), if_neg (by simp), if_neg (fun x => h2 x.2)]
  rfl
theorem get_sa (p : List Pr) (nx : Int) (cs : List Ch) (q : ByteArray) : getS (SA p nx cs) (nx + 1 + 1) q = (.empty, false, 19) := by
  unfold getS
  rw [fnd_sa2]
  simp [turnB, SA]
theorem commit_sa (p : List Pr) (nx : Int) (cs : List Ch) : commitS (SA p nx cs) (nx + 1) = (SO (content p cs) nx, 0) := by
  unfold commitS
  rw [fnd_sa]
  simp [turnB, SA, SO, dropS, chs]
theorem abort_sa (p : List Pr) (nx : Int) (cs : List Ch) : abortS (SA p nx cs) (nx + 1) = SO p nx := by
  unfold abortS
  rw [fnd_sa]
  simp [SA, SO, dropS]
theorem look_self {p : List Pr} (hp : Asc Pr.k p) {i : Nat} (hi : i < p.length) (x : Pr) (hx : p[i] = x) : lookP p x.k = some x := by
  induction p generalizing i with
  | nil => simp at hi
  | cons a l ih =>
    have g := List.pairwise_cons.1 hp
    cases i with
    | zero => simp at hx; subst hx; exact look_head _ _
    | succ j =>
      simp at hx hi
      have hm : x ∈ l := by rw [← hx]; exact List.getElem_mem hi
      rw [look_cons_ne (klt_ne (g.1 x hm))]
      exact ih g.2 hi hx
theorem get_so {p : List Pr} (nx : Int) (hp : Asc Pr.k p) {i : Nat} (hi : i < p.length) (x : Pr) (hx : p[i] = x) : getS (SO p nx) (nx + 1 + 1) x.k = (x.v, true, 0) := by
  have h1 : fnd (nx + 1 + 1) (SO p nx).txs = some 0 := by simp [fnd, SO, List.findIdx?_cons]
  have h2 := look_self hp hi x hx
  unfold getS
  rw [h1]
  have h3 : getV (SO p nx).pairs (chs (SO p nx) 0) x.k = (x.v, true) := by
    show getV p [] x.k = _
    rw [getV_nil, h2]
  simp [turnB, SO] at h3 ⊢
  simp [h3]
theorem size_ok {p : List Pr} {cs : List Ch} (hp : p.length ≤ 40) (hc : cs.length ≤ 40) (bp : ∀ x ∈ p, x.k.size ≤ 100 ∧ x.v.size ≤ 100) (bc : ∀ x ∈ cs, x.k.size ≤ 100 ∧ x.v.size ≤ 100) : sizeP (content p cs) ≤ 1048576 := by
  have h1 := sizeP_bd (M := 100) _ (bd_content cs bc p bp)
  have h2 := content_len cs p
  have : (content p cs).length * (2 * 100) ≤ 80 * 200 := Nat.mul_le_mul (by omega) (by omega)
  omega
/-- the first k of the transactions dropped -/
def SD (S : SS) (k : Nat) : SS := { S with txs := S.txs.drop k, cs := if k = 0 then S.cs else [] }
theorem sd_zero (S : SS) : SD S 0 = S := by simp [SD]
theorem sd_succ {S : SS} {k : Nat} (hk : k < S.txs.length) : abortS (SD S k) S.txs[k].id = SD S (k + 1) ∧ fnd S.txs[k].id (SD S k).txs = some 0 := by
  have h1 : (SD S k).txs = S.txs[k] :: S.txs.drop (k + 1) := List.drop_eq_getElem_cons hk
  have h2 : fnd S.txs[k].id (SD S k).txs = some 0 := by
    unfold fnd
    rw [h1, List.findIdx?_cons]
    simp only [beq_self_eq_true, if_true]
  refine ⟨?_, h2⟩
  unfold abortS
  rw [h2]
  simp only [dropS, h1]
  simp [SD]
theorem sd_all {S : SS} (h : S.txs = [] → S.cs = []) : SD S S.txs.length = SE S.pairs S.nx := by
  unfold SD SE
  rw [List.drop_length]
  by_cases e : S.txs.length = 0
  · have := h (List.length_eq_zero_iff.1 e)
    simp [this]
  · simp [e]

end Go.Proofs.Ytcglnjklnlejmaa
