/-
  A row of cells known up to its capacity, and what is written into it in place: copies, appends with room, clear.
-/
import Derived.Test.YtldembadjgibjaaGreatDoorKs
import Derived.Lib.SliceRun
set_option linter.unusedVariables false
namespace Go.K
open Go.RowKit

/-- block g holds from off on the m cells R -/
def Row (w : World) (e : TypeId) (g off m : Nat) (R : List Value) : Prop := ∃ cur, Blk w g cur e ∧ off + m ≤ cur.size ∧ (cur.toList.drop off).take m = R

section
variable {w w' : World} {e : TypeId} {g off m : Nat} {R : List Value}
theorem Row.len (h : Row w e g off m R) : R.length = m := by
  obtain ⟨cur, _, h1, rfl⟩ := h
  simp; omega
theorem Row.cell (h : Row w e g off m R) {j : Nat} (hj : j < m) : w.cell? ⟨g, off + j, .none⟩ = R[j]? := by
  obtain ⟨cur, hb, h1, rfl⟩ := h
  rw [hb.cell, List.getElem?_take_of_lt hj, List.getElem?_drop]; simp
theorem Row.isSome (h : Row w e g off m R) {j : Nat} (hj : j < m) : (w.cell? ⟨g, off + j, .none⟩).isSome = true := by
  rw [h.cell hj, List.getElem?_eq_getElem (by rw [h.len]; exact hj)]; rfl
theorem Row.free (h : Row w e g off m R) (j : Nat) : w.frozen? ⟨g, j, .none⟩ = false := by
  obtain ⟨cur, hb, _⟩ := h
  exact hb.free j
theorem Row.drew (h : Row w e g off m R) : Row w.drew e g off m R := h
theorem Row.kept {S : Nat → Prop} (h : Row w e g off m R) (hf : Fr S w w') (hg : ¬ S g) : Row w' e g off m R := by
  obtain ⟨cur, hb, r⟩ := h
  exact ⟨cur, hb.kept hf hg, r⟩
theorem Row.set (h : Row w e g off m R) (k : Nat) (vs : List Value) (hk : k + vs.length ≤ m) : Row (w.setCells g (off + k) vs) e g off m (R.take k ++ vs ++ R.drop (k + vs.length)) := by
  have hlen := h.len
  obtain ⟨cur, hb, h1, h2⟩ := h
  refine ⟨_, Blk.setCells vs (off + k) w cur hb, by rw [splice_size]; exact h1, ?_⟩
  refine take_drop_ext (by simp; omega) fun j hj => ?_
  rw [Array.getElem?_toList]
  by_cases h3 : j < k
  · rw [splice_out _ _ _ _ (Or.inl (by omega)), List.append_assoc, List.getElem?_append_left (by simp; omega), List.getElem?_take_of_lt h3, ← h2, List.getElem?_take_of_lt hj, List.getElem?_drop, Array.getElem?_toList]
  · by_cases h4 : j < k + vs.length
    · rw [show off + j = off + k + (j - k) by omega, splice_in _ _ _ _ (by omega) (by omega), List.append_assoc, List.getElem?_append_right (by simp; omega), List.getElem?_append_left (by simp; omega)]
      congr 1; simp; omega
    · rw [splice_out _ _ _ _ (Or.inr (by omega)), List.getElem?_append_right (by simp; omega), List.getElem?_drop, ← h2]
      rw [List.getElem?_take_of_lt (by simp; omega), List.getElem?_drop, Array.getElem?_toList]
      congr 1; simp; omega
theorem Row.sub (h : Row w e g off m R) (k l : Nat) (hk : k + l ≤ m) : Row w e g (off + k) l ((R.drop k).take l) := by
  obtain ⟨cur, hb, h1, rfl⟩ := h
  refine ⟨cur, hb, by omega, ?_⟩
  rw [List.drop_take, List.take_take, List.drop_drop]
  congr 1; omega
theorem Sl.toRow {sz n c : Nat} {xs : List Value} (h : Sl w e sz (some ⟨g, off, .none⟩) n c xs) : ∃ R, Row w e g off (c * sz) R ∧ R.take (n * sz) = xs := by
  rcases h.row with ⟨q, _⟩ | ⟨g', off', cur, q, hb, h1, h2, h3, h4⟩
  · cases q
  · cases q
    refine ⟨_, ⟨cur, hb, h3, rfl⟩, ?_⟩
    have : n * sz ≤ c * sz := Nat.mul_le_mul_right _ h1
    rw [List.take_take, Nat.min_eq_left this]; exact h4
theorem Row.sl {sz n c : Nat} (h : Row w e g off (c * sz) R) (hn : n ≤ c) (hc : c ≤ maxLen) (h1 : ∀ u ∈ R.take (n * sz), u.oneCell' = true) : Sl w e sz (some ⟨g, off, .none⟩) n c (R.take (n * sz)) := by
  have hlen := h.len
  obtain ⟨cur, hb, h2, rfl⟩ := h
  have : n * sz ≤ c * sz := Nat.mul_le_mul_right _ hn
  refine ⟨by rw [List.length_take, hlen]; omega, h1, .inr ⟨g, off, cur, rfl, hb, hn, hc, h2, ?_⟩⟩
  rw [List.take_take, Nat.min_eq_left this]
theorem Row.fr_set {S : Nat → Prop} {a : World} (hf : Fr S a w) (o : Nat) (vs : List Value) (hg : S g) : Fr S a (w.setCells g o vs) :=
  hf.trans (Fr.setCells w g o vs hg) (fun _ _ q => q)
end

theorem Fr.setCells_new {S : Nat → Prop} {a w : World} (hf : Fr S a w) (b o : Nat) (vs : List Value) (hb : a.heap.size ≤ b) : Fr S a (w.setCells b o vs) :=
  hf.trans (S' := fun k => k = b) (Fr.setCells w b o vs rfl) (fun i hi q => by omega)

/-- the n zero elements that clear lays -/
def zeros (z : Value) (n : Nat) : List Value := (Builtin.zeroCells z.cells n).toList

section
variable {P : Program} {t e : TypeId} {sz bytes : Nat}
theorem run_clear_row (ht : P.underlying t = some (.slice e)) {z : Value} (hz : ∀ w, (zeroValue e).run P w = .ok z w) (h1 : ∀ n, ∀ u ∈ zeros z n, u.oneCell' = true) {w : World} {g off m : Nat} {R : List Value} (hr : Row w e g off m R) (ty : TypeId) (k n c : Nat) (hn : 0 < n) (hk : k + (zeros z n).length ≤ m) :
    (Builtin.clear_ #[t] ty #[.slice (some ⟨g, off + k, none⟩) n c]).run P w = .ok (.tuple #[]) (w.setCells g (off + k) (zeros z n)) := by
  have hst := run_storeCells_cells (P := P) g (off + k) (zeros z n) 0 w (fun j hj => by rw [show off + k + 0 + j = off + (k + j) by omega]; exact hr.isSome (by omega)) (fun j hj => hr.free _) (h1 n)
  simp only [Nat.add_zero] at hst
  obtain ⟨m', rfl⟩ : ∃ m', n = m' + 1 := ⟨n - 1, by omega⟩
  unfold zeros at hst ⊢
  simp [Builtin.clear_, run_underlying ht, hz, hst]
theorem run_append_row (E : El P t e sz bytes) {w : World} {g off m c : Nat} {R : List Value} (hr : Row w e g off (c * sz) R) (ty : TypeId) (i : Nat) (news : List Value) (a : Addr) (q c2 : Nat) (hl : news.length = q * sz) (hnews : ∀ j u, news[j]? = some u → w.cell? (a.add j) = some u) (h1 : ∀ u ∈ news, u.oneCell' = true) (hroom : i + q ≤ c) :
    (Builtin.append_ #[t, t] ty #[.slice (some ⟨g, off, none⟩) i c, .slice (some a) q c2]).run P w = .ok (.slice (some ⟨g, off, none⟩) (i + q) c) (w.setCells g (off + i * sz) news) := by
  obtain ⟨ht, ⟨ti, z, hi, hz, rfl, rfl, hzs⟩, hpos⟩ := E
  have hb : (i + q) * ti.size ≤ c * ti.size := Nat.mul_le_mul_right _ hroom
  rw [Nat.add_mul] at hb
  exact run_append_room_cells (P := P) w t ty e ti ht hi g off i c a q c2 news hl hnews h1 hroom
    (fun j hj => by rw [show off + i * ti.size + j = off + (i * ti.size + j) by omega]; exact hr.isSome (by omega)) (fun j _ => hr.free _)
theorem copy_row (E : El P t e sz bytes) {w : World} {g off M : Nat} {R : List Value} (hr : Row w e g off M R) (sT ty : TypeId) (k dLen dCap : Nat) (a : Addr) (sLen sCap q : Nat) (hq : Nat.min sLen dLen = q) (cs : List Value) (hn : cs.length = q * sz)
    (hsrc : ∀ j v, cs[j]? = some v → w.cell? (a.add j) = some v) (h1 : ∀ v ∈ cs, v.oneCell' = true) (hk : k + cs.length ≤ M) :
    (Builtin.copy_ #[t, sT] ty #[.slice (some ⟨g, off + k, .none⟩) dLen dCap, .slice (some a) sLen sCap]).run P w = .ok (goInt q) (w.setCells g (off + k) cs) :=
  run_copy_any (P := P) w E sT ty g (off + k) dLen dCap a sLen sCap q hq cs hn hsrc (fun j hj => by rw [Nat.add_assoc]; exact hr.isSome (by omega)) (fun j _ => hr.free _) h1
theorem run_slice_lhm' (E : El P t e sz bytes) (s : Option Addr) (n c : Nat) (k k' k'' : IntKind) (l h mx : Int) (hl : 0 ≤ l) (hlh : l ≤ h) (hhm : h ≤ mx) (hn : mx ≤ c) (W : World) :
    (Instr.slice t (.slice s n c) (some (.int k l)) (some (.int k' h)) (some (.int k'' mx))).run P W = .ok (sliced s l.toNat h.toNat mx.toNat sz) W := by
  rw [run_slice_lhm (P := P) W t s n c E.und' k k' k'' l h mx hl hlh hhm hn, E.sizeOf]; rfl
theorem slice_lh_some (E : El P t e sz bytes) (g off n c l h : Nat) (hc : l < c) (hl : l ≤ h) (hh : h ≤ c) (k k' : IntKind) (W : World) :
    (Instr.slice t (.slice (some ⟨g, off, .none⟩) n c) (some (.int k (l : Int))) (some (.int k' (h : Int))) .none).run P W = .ok (.slice (some ⟨g, off + l * sz, .none⟩) (h - l) (c - l)) W := by
  rw [run_slice_lh' E k k' l h (by omega) (by omega) (by omega), Int.toNat_natCast, Int.toNat_natCast]
  unfold sliced
  rw [if_neg (by omega)]
  simp [Addr.add_lit]
end

section
variable {P : Program} {w w' : World} {ops : Array Oper} {rest : List Oper} {o : Oper} {a : Act} {Q : Exit → Act → World → Prop}
/-- append, its run given -/
theorem wpList_append_eq (hgd : o.guard = .none) (so x : Operand) (t t' : TypeId) (ho : o.op = .call { callee := .builtin .append, args := #[so, x], argTypes := #[t, t'] }) (vs vx v : Value) (hs : a.eval so = vs) (hx : a.eval x = vx)
    (hr : (Builtin.append_ #[t, t'] o.type #[vs, vx]).run P w = .ok v w') (h : wpList P ops Q rest (a.put o.dst v) w') : wpList P ops Q (o :: rest) a w := by
  refine wpList_plain hgd fun K hK => ?_
  unfold Oper.wp execOp
  simp only [ho, resolve, invoke, builtin, Sem.run_bind, Sem.run_pure, Result.andThen_ok, List.map_toArray, List.map_cons, List.map_nil, hs, hx, hr]
  exact hK _ _ h
/-- copy, its run given -/
theorem wpList_copy_eq (hgd : o.guard = .none) (so x : Operand) (t t' : TypeId) (ho : o.op = .call { callee := .builtin .copy, args := #[so, x], argTypes := #[t, t'] }) (vs vx v : Value) (hs : a.eval so = vs) (hx : a.eval x = vx)
    (hr : (Builtin.copy_ #[t, t'] o.type #[vs, vx]).run P w = .ok v w') (h : wpList P ops Q rest (a.put o.dst v) w') : wpList P ops Q (o :: rest) a w := by
  refine wpList_plain hgd fun K hK => ?_
  unfold Oper.wp execOp
  simp only [ho, resolve, invoke, builtin, Sem.run_bind, Sem.run_pure, Result.andThen_ok, List.map_toArray, List.map_cons, List.map_nil, hs, hx, hr]
  exact hK _ _ h
/-- clear, its run given -/
theorem wpList_clear_eq (hgd : o.guard = .none) (so : Operand) (t : TypeId) (ho : o.op = .call { callee := .builtin .clear, args := #[so], argTypes := #[t] }) (vs v : Value) (hs : a.eval so = vs)
    (hr : (Builtin.clear_ #[t] o.type #[vs]).run P w = .ok v w') (h : wpList P ops Q rest (a.put o.dst v) w') : wpList P ops Q (o :: rest) a w := by
  refine wpList_plain hgd fun K hK => ?_
  unfold Oper.wp execOp
  simp only [ho, resolve, invoke, builtin, Sem.run_bind, Sem.run_pure, Result.andThen_ok, List.map_toArray, List.map_cons, List.map_nil, hs, hr]
  exact hK _ _ h
end
end Go.K
