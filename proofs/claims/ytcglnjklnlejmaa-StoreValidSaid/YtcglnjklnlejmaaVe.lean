/-
  StoreValid: the store is valid, whatever comes.
-/
import Derived.Test.YtcglnjklnlejmaaVc
import Derived.Test.YtcglnjklnlejmaaUb
set_option linter.unusedVariables false
set_option linter.unusedSimpArgs false
namespace Go.Proofs.Ytcglnjklnlejmaa
open Go.RowKit Go.K Go.K.Sr

/-- the store's own transactions, as stores of any form have them -/
def gts (S : SS) (p : Sp) : List Gt := match S.txs with
  | [] => []
  | t :: r => ⟨t, p.sc, p.cc, S.cs⟩ :: r.map (fun x => ⟨x, none, 0, []⟩)
theorem gts_yz (S : SS) (p : Sp) : (gts S p).map gy = yz (.slice p.sc S.cs.length p.cc) S.txs := by
  unfold gts
  cases S.txs with
  | nil => rfl
  | cons t r =>
    simp only [List.map_cons, List.map_map, yz, gy]
    rfl
theorem gts_len (S : SS) (p : Sp) : (gts S p).length = S.txs.length := by
  unfold gts
  cases S.txs <;> simp
theorem gv_sat {w0 w : World} {L : List As} {b : Nat} {S : SS} (h : SAt b S w0 w L) : ∃ p : Sp, (w.cell? ⟨b, 0, none⟩ = some (.slice p.sp S.pairs.length p.cp) ∧ w.cell? ⟨b, 1, none⟩ = some (.slice p.st S.txs.length p.ct) ∧ w.cell? ⟨b, 2, none⟩ = some (.int .i64 S.nx)) ∧
    Gv w (.agg #[.slice p.sp S.pairs.length p.cp, .slice p.st S.txs.length p.ct, .int .i64 S.nx]) S.pairs (gts S p) S.nx p.sp p.cp p.st p.ct := by
  obtain ⟨p, h⟩ := h
  have c := h.blk.1.three
  refine ⟨p, ⟨c.1, c.2.1, c.2.2.1⟩, ⟨by rw [gts_len], h.front2.rc.rd, h.front2.rc, ?_, fun x hx => ?_⟩⟩
  · rw [gts_len, gts_yz]
    exact h.swap.sl.rd
  · have hc := (St.sh [_, _, _, _] [3, 0, 1, 2] (by decide) h).rc.rd
    unfold gts at hx
    cases ht : S.txs with
    | nil => rw [ht] at hx; cases hx
    | cons t r =>
      rw [ht] at hx
      rcases List.mem_cons.1 hx with rfl | hx
      · exact hc
      · obtain ⟨y, -, rfl⟩ := List.mem_map.1 hx
        exact ⟨by simp [flat], by simp [flat], fun _ => by simp [flat], by simp⟩
theorem fold_rest : ∀ (r : List Tx) (i : Nat) (z : Int), (∀ x ∈ r, z < x.id) → r.Pairwise (fun a b => a.id < b.id) → ∃ last, (r.map (fun x => (⟨x, none, 0, []⟩ : Gt))).foldl stepT (some (i, z)) = some (i + r.length, last) ∧ (last = z ∨ ∃ x ∈ r, last = x.id)
  | [], i, z, _, _ => ⟨z, rfl, .inl rfl⟩
  | x :: r, i, z, h, hp => by
    have h1 := List.pairwise_cons.1 hp
    obtain ⟨last, e, q⟩ := fold_rest r (i + 1) x.id h1.1 h1.2
    refine ⟨last, ?_, ?_⟩
    · rw [List.map_cons, List.foldl_cons, step_ok (by have := h x (by simp); show ¬ x.id ≤ z; omega) (.inl rfl)]
      rw [e]
      simp
      omega
    · rcases q with q | ⟨y, hy, q⟩
      · exact .inr ⟨x, by simp, q⟩
      · exact .inr ⟨y, by simp [hy], q⟩
theorem sizeP_le100 {n : Nat} {S : SS} (hi : Iv n S) (hn : n ≤ 40) {cs : List Ch} (hc : cs.length ≤ 40) (bc : ∀ x ∈ cs, x.k.size ≤ 100 ∧ x.v.size ≤ 100) : sizeP (content S.pairs cs) ≤ 1048576 :=
  size_ok (by have := hi.ln; omega) hc hi.bp bc
theorem vs_of {n : Nat} {S : SS} (p : Sp) (hi : Iv n S) (hn : n ≤ 40) (hids : Ids S) (hfw : ∀ t B, S.txs = t :: B → t.wr = false → S.cs = []) (hrv : Rv S.cs) : VS S.pairs (gts S p) S.nx := by
  have hcl : S.cs.length ≤ 40 := by have := hi.ln; omega
  have hz0 : wz S.pairs ≤ 1048576 := by
    have h := sizeP_le100 hi hn (cs := []) (by simp) (by simp)
    have h' : sizeP S.pairs ≤ 1048576 := h
    rw [wz_small h']
    omega
  refine ⟨hi.pa, ?_⟩
  cases ht : S.txs with
  | nil =>
    have e : gts S p = [] := by unfold gts; rw [ht]
    rw [e]
    exact ⟨0, rfl, hi.nx0, hi.nx0, hz0, fun x r q => by cases q⟩
  | cons t r =>
    have e : gts S p = ⟨t, p.sc, p.cc, S.cs⟩ :: r.map (fun x => ⟨x, none, 0, []⟩) := by unfold gts; rw [ht]
    have hasc := hids.asc
    rw [ht] at hasc
    have h1 := List.pairwise_cons.1 hasc
    obtain ⟨last, e2, q⟩ := fold_rest r 1 t.id h1.1 h1.2
    have hb := hids.bd t (by rw [ht]; simp)
    have hok : stepT (some (0, 0)) (⟨t, p.sc, p.cc, S.cs⟩ : Gt) = some (0 + 1, t.id) := by
      refine step_ok (by show ¬ t.id ≤ 0; omega) ?_
      cases hw : t.wr with
      | true => exact .inr ⟨rfl, rfl⟩
      | false => exact .inl (by show S.cs.length = 0; rw [hfw t r ht hw]; rfl)
    refine ⟨last, ?_, ?_, hi.nx0, hz0, fun x r' q2 => ?_⟩
    · rw [e]
      unfold foldT
      rw [List.foldl_cons, hok, e2]
      simp
      omega
    · rcases q with q | ⟨y, hy, q⟩
      · omega
      · have := (hids.bd y (by rw [ht]; simp [hy])).2
        omega
    · rw [e] at q2
      simp only [List.cons.injEq] at q2
      rw [← q2.1]
      refine ⟨⟨hi.ca, hrv⟩, ?_⟩
      have h := sizeP_le100 hi hn hcl hi.bc
      show wz (content S.pairs S.cs) ≤ 1048576
      rw [wz_small h]
      omega

end Go.Proofs.Ytcglnjklnlejmaa
