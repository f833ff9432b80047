/-
  The plain law of LoopFrames.
-/
import Derived.Test.YtnamkckpgaopkaaLx
set_option linter.unusedVariables false
set_option linter.unusedSimpArgs false
namespace Go.Proofs.Ytnamkckpgaopkaa
open Go.RowKit Go.K

def shl (O : List Int) : List Hs := O.map (fun i => ⟨i, i⟩)
/-- only shots wait -/
structure FmI (S : LS) (O : List Int) (given : Int) : Prop where
  bnd : Bnd S
  jobs : S.jobs = []
  tm : S.tm = []
  q : ∀ j, S.q j = []
  sh : S.shots = shl O
  last : S.last = given
  asc : O.Pairwise (· < ·)
  le : ∀ x ∈ O, x ≤ given
theorem FmI.room {S : LS} {O : List Int} {given : Int} (h : FmI S O given) : Room S ∧ Bnd (fireS S) := fire_of h.tm h.bnd
theorem fm0 : FmI LS.zero [] 0 := ⟨bnd_zero, rfl, rfl, fun _ => rfl, rfl, rfl, List.Pairwise.nil, by simp⟩
theorem fm_req {S : LS} {O : List Int} {given : Int} (h : FmI S O given) (hl : O.length ≤ 50000) (hg : given ≤ 100000) : FmI (reqS S (given + 1)) (O ++ [given + 1]) (given + 1) := by
  have hB := h.bnd
  have hs : (reqS S (given + 1)).shots = shl (O ++ [given + 1]) := by
    show S.shots ++ [⟨S.last + 1, given + 1⟩] = _
    rw [h.sh, h.last]
    simp [shl]
  refine ⟨⟨hB.q, hB.tm, hB.calls, by rw [hs]; simp [shl]; omega, hB.jobs, hB.nx0, hB.nx1, hB.ord0, hB.ord1, hB.now0, hB.now1, ?_, ?_, hB.us0, hB.us1, hB.ev, hB.sh0, hB.sh1⟩, h.jobs, h.tm, h.q, hs, ?_, ?_, fun x hx => ?_⟩
  · show 0 ≤ S.last + 1; have := hB.last0; omega
  · show S.last + 1 ≤ 1000000000000; rw [h.last]; omega
  · show S.last + 1 = given + 1; rw [h.last]
  · rw [List.pairwise_append]
    refine ⟨h.asc, List.pairwise_singleton _ _, fun a ha b hb => ?_⟩
    rw [List.mem_singleton.1 hb]
    have := h.le a ha; omega
  · rcases List.mem_append.1 hx with q | q
    · have := h.le x q; omega
    · rw [List.mem_singleton.1 q]; omega
theorem fm_dirty {S : LS} {O : List Int} {given : Int} (h : FmI S O given) (d : Bool) : FmI { S with dirty := d } O given :=
  ⟨⟨h.bnd.q, h.bnd.tm, h.bnd.calls, h.bnd.shots, h.bnd.jobs, h.bnd.nx0, h.bnd.nx1, h.bnd.ord0, h.bnd.ord1, h.bnd.now0, h.bnd.now1, h.bnd.last0, h.bnd.last1, h.bnd.us0, h.bnd.us1, h.bnd.ev, h.bnd.sh0, h.bnd.sh1⟩, h.jobs, h.tm, h.q, h.sh, h.last, h.asc, h.le⟩
theorem fm_now {S : LS} {O : List Int} {given : Int} (h : FmI S O given) (t : Int) (h0 : 0 ≤ t) (h1 : t ≤ 1000000) : FmI { S with now := t } O given :=
  ⟨⟨h.bnd.q, h.bnd.tm, h.bnd.calls, h.bnd.shots, h.bnd.jobs, h.bnd.nx0, h.bnd.nx1, h.bnd.ord0, h.bnd.ord1, h0, by simp only; omega, h.bnd.last0, h.bnd.last1, h.bnd.us0, h.bnd.us1, h.bnd.ev, h.bnd.sh0, h.bnd.sh1⟩, h.jobs, h.tm, h.q, h.sh, h.last, h.asc, h.le⟩
theorem shl_find (O : List Int) (id : Int) : (shl O).findIdx? (fun c => c.id == id) = O.findIdx? (fun c => c == id) := by
  unfold shl
  rw [List.findIdx?_map]
  rfl
theorem shl_erase (O : List Int) (i : Nat) : (shl O).eraseIdx i = shl (O.eraseIdx i) := by
  unfold shl
  rw [List.eraseIdx_eq_take_drop_succ, List.eraseIdx_eq_take_drop_succ, List.map_append, List.map_take, List.map_drop]
theorem erase_filter {O : List Int} (h : O.Pairwise (· < ·)) {i : Nat} (hi : i < O.length) : O.eraseIdx i = O.filter (fun x => x != O[i]) := by
  induction O generalizing i with
  | nil => simp at hi
  | cons a l ih =>
    obtain ⟨h1, h2⟩ := List.pairwise_cons.1 h
    cases i with
    | zero =>
      simp only [List.eraseIdx_cons_zero, List.getElem_cons_zero, List.filter_cons, bne_self_eq_false, Bool.false_eq_true, if_false]
      rw [List.filter_eq_self.2]
      intro x hx
      have := h1 x hx
      simp; omega
    | succ i =>
      simp only [List.eraseIdx_cons_succ, List.getElem_cons_succ]
      have hne : (a != l[i]'(by simpa using hi)) = true := by
        have := h1 _ (List.getElem_mem (by simpa using hi : i < l.length))
        simp; omega
      rw [List.filter_cons, if_pos hne, ih h2 (by simpa using hi)]
theorem fm_cancel {S : LS} {O : List Int} {given : Int} (h : FmI S O given) (id : Int) : cancelB S id = O.any (fun x => x == id) ∧ FmI (cancelS S id) (O.filter (fun x => x != id)) given := by
  unfold cancelB cancelS
  rw [h.sh, shl_find]
  cases hf : O.findIdx? (fun c => c == id) with
  | none =>
    have hn := List.findIdx?_eq_none_iff.1 hf
    have e : O.filter (fun x => x != id) = O := by
      rw [List.filter_eq_self]
      intro x hx
      have := hn x hx
      simpa [bne] using this
    rw [e]
    refine ⟨?_, h⟩
    symm
    rw [Option.isSome_none, List.any_eq_false]
    intro x hx
    simpa using hn x hx
  | some i =>
    obtain ⟨h1, h2, -⟩ := List.findIdx?_eq_some_iff_getElem.1 hf
    have h3 : O[i] = id := by simpa using h2
    have e := erase_filter h.asc h1
    rw [h3] at e
    have hs : ({ S with shots := (shl O).eraseIdx i } : LS).shots = shl (O.filter (fun x => x != id)) := by
      show (shl O).eraseIdx i = _
      rw [shl_erase, e]
    show _ ∧ FmI { S with shots := (shl O).eraseIdx i } _ _
    refine ⟨?_, ?_⟩
    · symm
      rw [Option.isSome_some, List.any_eq_true]
      exact ⟨O[i], List.getElem_mem h1, by simp [h3]⟩
    · have hB := h.bnd
      have hle := (List.filter_sublist (p := fun x => x != id) (l := O)).length_le
      have hsl : O.length ≤ 100000 := by have := hB.shots; rw [h.sh] at this; simpa [shl] using this
      refine ⟨⟨hB.q, hB.tm, hB.calls, by rw [hs]; simp only [shl, List.length_map]; omega, hB.jobs, hB.nx0, hB.nx1, hB.ord0, hB.ord1, hB.now0, hB.now1, hB.last0, hB.last1, hB.us0, hB.us1, hB.ev, hB.sh0, hB.sh1⟩, h.jobs, h.tm, h.q, hs, h.last, h.asc.sublist List.filter_sublist, fun x hx => h.le x (List.mem_filter.1 hx).1⟩
theorem fm_next {S S' : LS} {O : List Int} {given : Int} {x : Ch} {l : List Hs} (h : FmI S O given) (hn : NextR S S' x l) :
    (Shows S ∧ x.k = 3 ∧ l = shl O ∧ FmI S' [] given ∧ S'.dirty = false ∧ S'.shown = S.now ∧ S'.now = S.now) ∨ (¬ Shows S ∧ x.k = 0 ∧ S' = S) := by
  by_cases hs : Shows S
  · left
    cases hn with
    | job hj => rw [h.jobs] at hj; cases hj
    | shows hj h2 =>
      have hB := h.bnd
      exact ⟨hs, rfl, h.sh, ⟨⟨hB.q, hB.tm, hB.calls, by simp, hB.jobs, hB.nx0, hB.nx1, hB.ord0, hB.ord1, hB.now0, hB.now1, hB.last0, hB.last1, hB.us0, hB.us1, hB.ev, hB.now0, hB.now1⟩, h.jobs, h.tm, h.q, rfl, h.last, List.Pairwise.nil, by simp⟩, rfl, rfl, rfl⟩
    | task _ h2 => exact absurd hs h2
  · right
    obtain ⟨rfl, rfl⟩ := next_none hn h.jobs hs h.q (fire_nil h.tm)
    exact ⟨hs, rfl, rfl⟩

end Go.Proofs.Ytnamkckpgaopkaa
