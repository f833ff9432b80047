/-
  StoreSerial: the objects, and the lists that the walk speaks of.
-/
import Derived.Test.YtcglnjklnlejmaaUc
import Derived.Test.YtcglnjklnlejmaaSy
import Derived.Test.YtcglnjklnlejmaaSu
import Derived.Test.YtcglnjklnlejmaaKu
set_option linter.unusedVariables false
set_option linter.unusedSimpArgs false
namespace Go.Proofs.Ytcglnjklnlejmaa
open Go.RowKit Go.K Go.K.Sr

theorem infoR : (Try.prog.info? 49).map (fun i => (i.zero, i.size, i.bytes)) = some (some (.agg #[.int .i64 0, .string { data := #[] }, .bool false, .slice none 0 0, .int .i64 0]), 5, 64) := by kernel_rfl
theorem elR : El Try.prog 56 49 5 64 := by
  obtain ⟨i, hi, h1, h2, h3⟩ := info_parts infoR
  exact ⟨by kernel_rfl, ⟨i, _, hi, h1, h2, h3, rfl⟩, by decide⟩
theorem _root_.Go.K.St.merge {w0 w : World} {L : List As} {A B C : As} (h : St w0 w (A :: B :: L)) (hC : ∀ F G, A.holds w F → B.holds w G → C.holds w (fun k => F k ∨ G k)) : St w0 w (C :: L) := by
  obtain ⟨F, ⟨F1, F2, h1, ⟨G1, G2, g1, g2, g3, g4⟩, h3, h4⟩, h5⟩ := h.sep
  refine ⟨h.bel, F, ⟨fun k => F1 k ∨ G1 k, G2, hC F1 G1 h1 g1, g2, fun k => ?_, fun k hk hg => ?_⟩, h5⟩
  · rw [h3, g3]
    constructor
    · rintro (q | q | q)
      · exact .inl (.inl q)
      · exact .inl (.inr q)
      · exact .inr q
    · rintro ((q | q) | q)
      · exact .inl q
      · exact .inr (.inl q)
      · exact .inr (.inr q)
  · rcases hk with q | q
    · exact h4 k q ((g3 k).2 (.inr hg))
    · exact g4 k q hg
abbrev Rx := Rs × Option Addr × Nat
def rcells (x : Rx) : List Value := [.int .i64 x.1.id, .string x.1.v, .bool x.1.ok, .slice x.2.1 x.1.l.length x.2.2, .int .i64 x.1.err]
theorem rcells_len (x : Rx) : (rcells x).length = 5 := rfl
def As.bag (b : List Rx) : As where
  holds w F := (∀ k, F k ↔ ∃ e ∈ b, rowOf e.2.1 = some k) ∧ (∀ k, F k → k < w.heap.size) ∧ (∀ e ∈ b, Rd w 1 e.2.1 e.1.l.length (strs e.1.l))
  keep {w w' F} h hk := by
    refine ⟨h.1, fun k q => ?_, fun e he => ?_⟩
    · have e := hk k q
      rw [Array.getElem?_eq_getElem (h.2.1 k q)] at e
      exact (Array.getElem?_eq_some_iff.1 e).1
    · have hr := h.2.2 e he
      refine ⟨hr.len, hr.one, hr.nil, fun ad had j u hu => ?_⟩
      have hb : (ad.add j).block = ad.block := by unfold Addr.add; split <;> rfl
      exact (World.cell?_of_block (by rw [hb]; exact hk _ ((h.1 _).2 ⟨e, he, by rw [had]; rfl⟩))).trans (hr.cells ad had j u hu)
  lt h k hk := h.2.1 k hk
theorem _root_.Go.K.St.bag0 {w0 w : World} {L : List As} (h : St w0 w L) : St w0 w (As.bag [] :: L) := by
  have h1 := h.row_nil 9 1
  refine h1.to (fun F hF => ?_)
  have hr : ∀ k, ¬ F k := fun k q => by have := (hF.1 k).1 q; cases this
  exact ⟨fun k => ⟨fun q => absurd q (hr k), fun ⟨e, he, _⟩ => by cases he⟩, fun k q => absurd q (hr k), fun e he => by cases he⟩
theorem _root_.Go.K.St.bag1 {w0 w : World} {L : List As} {b : List Rx} {R : Rs} {s : Option Addr} {c : Nat} (h : St w0 w (As.row 9 1 s R.l.length c (strs R.l) :: As.bag b :: L)) : St w0 w (As.bag (b ++ [(R, s, c)]) :: L) := by
  refine h.merge (fun F G hF hG => ⟨fun k => ?_, fun k hk => ?_, fun e he => ?_⟩)
  · show F k ∨ G k ↔ _
    rw [hF.1, hG.1]
    constructor
    · rintro (q | ⟨e, he, q⟩)
      · exact ⟨(R, s, c), by simp, q⟩
      · exact ⟨e, by simp [he], q⟩
    · rintro ⟨e, he, q⟩
      rcases List.mem_append.1 he with r | r
      · exact .inr ⟨e, r, q⟩
      · rw [List.mem_singleton.1 r] at q
        exact .inl q
  · rcases hk with q | q
    · exact hF.2.lt k ((hF.1 k).1 q)
    · exact hG.2.1 k q
  · rcases List.mem_append.1 he with r | r
    · exact hG.2.2 e r
    · rw [List.mem_singleton.1 r]
      exact hF.2.rd
def dO : Op' := ⟨0, 0, .empty, .empty, false⟩
def idL (ls : List Op') (q : Nat) : List Int := (List.range q).map (fun i => numF (ls.getD i dO) (fin (ls.take i)).nx)
def rL (ls : List Op') (q : Nat) : List Rs := (List.range q).map (fun i => rsl (fin (ls.take i)) (ls.getD i dO))
def idV (l : List Int) : List Value := l.map (fun i => .int .i64 i)
theorem idL_succ (ls : List Op') (q : Nat) (hq : q < ls.length) (x : Op') (hx : ls[q] = x) : idL ls (q + 1) = idL ls q ++ [numF x (fin (ls.take q)).nx] := by
  unfold idL
  rw [List.range_succ, List.map_append]
  simp [List.getD, List.getElem?_eq_getElem hq, hx]
theorem rL_succ (ls : List Op') (q : Nat) (hq : q < ls.length) (x : Op') (hx : ls[q] = x) : rL ls (q + 1) = rL ls q ++ [rsl (fin (ls.take q)) x] := by
  unfold rL
  rw [List.range_succ, List.map_append]
  simp [List.getD, List.getElem?_eq_getElem hq, hx]
theorem idL_get (ls : List Op') (q i : Nat) (hi : i < q) (hq : q ≤ ls.length) (x : Op') (hx : ls[i]'(by omega) = x) : (idV (idL ls q))[i]? = some (.int .i64 (numF x (fin (ls.take i)).nx)) := by
  unfold idV idL
  simp [List.getElem?_map, List.getElem?_range hi, List.getD, List.getElem?_eq_getElem (show i < ls.length by omega), hx]
theorem rL_get (ls : List Op') (q i : Nat) (hi : i < q) (hq : q ≤ ls.length) (x : Op') (hx : ls[i]'(by omega) = x) : (rL ls q)[i]? = some (rsl (fin (ls.take i)) x) := by
  unfold rL
  simp [List.getElem?_map, List.getElem?_range hi, List.getD, List.getElem?_eq_getElem (show i < ls.length by omega), hx]
theorem fin_take (ls : List Op') (q : Nat) (hq : q < ls.length) (x : Op') (hx : ls[q] = x) : fin (ls.take (q + 1)) = (doS (fin (ls.take q)) x (numF x (fin (ls.take q)).nx)).1 := by
  rw [List.take_succ_eq_append_getElem hq, hx, fin_snoc]
  rfl
/-- a transaction that has ended -/
def AZ (P : List Pr) (t : Int) : SS := ⟨P, [], [], t⟩
theorem az_do (P : List Pr) (t : Int) (o : Op') (h : o.kd % 9 ≠ 0 ∧ o.kd % 9 ≠ 8) : (doS (AZ P t) o t).1 = AZ P t := by
  have hf : fnd t (AZ P t).txs = none := rfl
  have ha : ∀ c, (altS (AZ P t) t c).1 = AZ P t := fun c => by unfold altS; rw [hf]
  unfold doS
  rw [if_neg h.1]
  split
  · rfl
  · split
    · exact ha ⟨o.key, o.val, false⟩
    · split
      · exact ha ⟨o.key, .empty, true⟩
      · split
        · rfl
        · split
          · unfold commitS; rw [hf]
          · split
            · unfold abortS; rw [hf]
            · split
              · rfl
              · rename_i h1 h2 h3 h4 h5 h6 h7
                show leaveS (AZ P t) o.key = AZ P t
                rfl
theorem ao_do (P : List Pr) (t : Int) (cs : List Ch) (o : Op') (h : o.kd % 9 ≠ 0 ∧ o.kd % 9 ≠ 8) : (∃ cs', (doS (AO P t cs) o t).1 = AO P t cs') ∨ ∃ P', (doS (AO P t cs) o t).1 = AZ P' t := by
  have hf : fnd t (AO P t cs).txs = some 0 := by simp [fnd, AO, List.findIdx?_cons]
  have ht : turnB (AO P t cs).txs 0 = true := by simp [turnB, AO]
  have ha : ∀ c, ∃ cs', (altS (AO P t cs) t c).1 = AO P t cs' := fun c => by
    rw [ao_alt]
    split
    · exact ⟨cs, rfl⟩
    · exact ⟨_, rfl⟩
  unfold doS
  rw [if_neg h.1]
  split
  · exact .inl ⟨cs, rfl⟩
  · split
    · exact .inl (ha _)
    · split
      · exact .inl (ha _)
      · split
        · exact .inl ⟨cs, rfl⟩
        · split
          · refine .inr ⟨content P cs, ?_⟩
            have e : commitS (AO P t cs) t = (dropS { AO P t cs with pairs := content P cs } 0, 0) := by unfold commitS; rw [hf]; simp [ht]; rfl
            rw [e]
            rfl
          · split
            · refine .inr ⟨P, ?_⟩
              have e : abortS (AO P t cs) t = dropS (AO P t cs) 0 := by unfold abortS; rw [hf]
              rw [e]
              rfl
            · split
              · exact .inl ⟨cs, rfl⟩
              · exfalso; omega
theorem X_form (t : Int) (P : List Pr) (l : List Op') : (∃ P' cs, X t P l = AO P' t cs) ∨ ∃ P', X t P l = AZ P' t := by
  induction l using snoc_ind with
  | h0 => exact .inl ⟨P, [], rfl⟩
  | h1 l o ih =>
    rw [X_snoc]
    split
    · rename_i hc
      simp only [Bool.and_eq_true, decide_eq_true_eq] at hc
      obtain ⟨-, c2, c3, -⟩ := cnd_iff.1 hc.2
      rcases ih with ⟨P', cs, e⟩ | ⟨P', e⟩
      · rw [e]
        rcases ao_do P' t cs o ⟨c2, c3⟩ with ⟨cs', h⟩ | ⟨Q, h⟩
        · exact .inl ⟨P', cs', h⟩
        · exact .inr ⟨Q, h⟩
      · rw [e, az_do P' t o ⟨c2, c3⟩]
        exact .inr ⟨P', rfl⟩
    · exact ih
theorem X_abort (t : Int) (P : List Pr) (l : List Op') : abortS (X t P l) t = AZ (X t P l).pairs t := by
  rcases X_form t P l with ⟨P', cs, e⟩ | ⟨P', e⟩
  · rw [e]
    have hf : fnd t (AO P' t cs).txs = some 0 := by simp [fnd, AO, List.findIdx?_cons]
    have e2 : abortS (AO P' t cs) t = dropS (AO P' t cs) 0 := by unfold abortS; rw [hf]
    rw [e2]
    rfl
  · rw [e]
    rfl
theorem iv_az {m : Nat} {A : SS} (h : Iv m A) {t : Int} (ht : t = A.nx) : Iv m (AZ A.pairs t) :=
  ⟨h.pa, List.Pairwise.nil, by have := h.ln; show A.pairs.length + 0 ≤ m; omega, Nat.zero_le _, by rw [show (AZ A.pairs t).nx = A.nx from ht]; exact h.nx0, by rw [show (AZ A.pairs t).nx = A.nx from ht]; exact h.nx1, fun _ => rfl, h.bp, fun p hp => by cases hp⟩
theorem X_nx (t : Int) (P : List Pr) (l : List Op') : (X t P l).nx = t := by
  rcases X_form t P l with ⟨P', cs, e⟩ | ⟨P', e⟩ <;> rw [e] <;> rfl
theorem az_open (P : List Pr) (t : Int) : openS (AZ P t) { data := #[] } true = AO P (t + 1) [] := rfl
theorem X_take {t : Int} {P : List Pr} {ls : List Op'} {i : Nat} (hi : i < ls.length) (x : Op') (hx : ls[i] = x) : X t P (ls.take (i + 1)) = if decide (numF x (fin (ls.take i)).nx = t) && cnd x (rsl (fin (ls.take i)) x) then (doS (X t P (ls.take i)) x t).1 else X t P (ls.take i) := by
  rw [List.take_succ_eq_append_getElem hi, hx, X_snoc]
theorem ser_at (ls : List Op') (hall : ∀ x ∈ ls, 0 ≤ x.kd) {i : Nat} (hi : i < ls.length) (x : Op') (hx : ls[i] = x) (hc : cnd x (rsl (fin (ls.take i)) x) = true) (n : Nat) (hn : numF x (fin (ls.take i)).nx = (n : Int) + 1) :
    (doS (X ((n : Int) + 1) (G ls n) (ls.take i)) x ((n : Int) + 1)).2 = rsl (fin (ls.take i)) x := by
  have e : ls = ls.take i ++ x :: ls.drop (i + 1) := by rw [← hx, ← List.drop_eq_getElem_cons hi, List.take_append_drop]
  have h := ser_res (ls.take i) (ls.drop (i + 1)) x (fun y hy => hall y (by rw [e]; exact hy)) hc n hn
  rw [← e] at h
  exact h
theorem sL_mem {b : Nat} {S : SS} {p : Sp} {L : List As} {A : As} (h : A ∈ L) : A ∈ sL b S p L := .tail _ (.tail _ (.tail _ (.tail _ h)))
theorem sat_flip {w0 w : World} {b b2 : Nat} {S A : SS} {p : Sp} {L : List As} (h : SAt b2 A w0 w (sL b S p L)) : SAt b S w0 w L ∧ ∃ p2, St w0 w (sL b S p (sL b2 A p2 L)) := by
  obtain ⟨p2, h⟩ := h
  have h1 := St.sh [_, _, _, _, _, _, _, _] [4, 5, 6, 7, 0, 1, 2, 3] (by decide) h
  simp only [List.map_cons, List.map_nil, List.getD_cons_zero, List.getD_cons_succ, List.cons_append, List.nil_append] at h1
  refine ⟨⟨p, ?_⟩, p2, h1⟩
  have h2 := St.sh [_, _, _, _, _, _, _, _] [4, 5, 6, 7, 0, 1, 2, 3] (by decide) h1
  simp only [List.map_cons, List.map_nil, List.getD_cons_zero, List.getD_cons_succ, List.cons_append, List.nil_append] at h2
  exact h2.drop.drop.drop.drop

end Go.Proofs.Ytcglnjklnlejmaa
