/-
  Tick and Push of a State.
-/
import Derived.Test.YtnamkckpgaopkaaLj
import Derived.StillTailTactics
set_option linter.unusedVariables false
set_option linter.unusedSimpArgs false
namespace Go.Proofs.Ytnamkckpgaopkaa
open Go.RowKit Go.K

def RetSt (v : Value) (w0 : World) (L : List As) (E : Ending) (w' : World) : Prop := E = .returned v ∧ St w0 w' L
section
variable {S : LS} {p : Pt}
theorem set_now (x : Int) : (stc S p).setIfInBounds 0 (.int .i64 x) = stc { S with now := x } p := by simp [stc]
theorem set_ord (x : Int) : (stc S p).setIfInBounds 6 (.int .i64 x) = stc { S with ord := x } p := by simp [stc]
theorem set_last (x : Int) : (stc S p).setIfInBounds 12 (.int .i64 x) = stc { S with last := x } p := by simp [stc]
theorem set_dirty (x : Bool) : (stc S p).setIfInBounds 13 (.bool x) = stc { S with dirty := x } p := by simp [stc]
theorem set_shown (x : Int) : (stc S p).setIfInBounds 14 (.int .i64 x) = stc { S with shown := x } p := by simp [stc]
theorem set_users (x : Int) : (stc S p).setIfInBounds 15 (.int .i64 x) = stc { S with users := x } p := by simp [stc]
end
set_option maxHeartbeats 400000 in
theorem tick_st {w0 w : World} {L : List As} {b : Nat} {S : LS} (n : Int) (h : St w0 w (stO b S :: L)) :
    Calls Try.prog 17 #[.pointer (some ⟨b, 0, none⟩), .int .i64 n] w (RetSt (.tuple #[]) w0 (stO b { S with now := max S.now n } :: L)) := by
  obtain ⟨p, G, hb, h⟩ := st_open h
  have HB := Lib.hid (show BagOk { S with now := max S.now n } G from ⟨hb.calls, hb.jobs⟩)
  obtain ⟨c0, -⟩ := st_c h
  have f0 := h.free 0
  have h1 := h.set 0 (.int .i64 (max S.now n))
  rw [set_now] at h1
  have H1 := Lib.hid h1
  have m1 : ∀ a b : Int, (if a < b then b else a) = max a b := fun a b => by split <;> omega
  clear h h1 hb
  go_enter Try.func17, Try.ntmps17
  go_wp2_with fail
  go_end0
  exact ⟨rfl, st_shut HB.out H1.out⟩

/-- the queue of a source -/
def srcN (src : Int) : Nat := if src < 0 ∨ 5 ≤ src then 4 else src.toNat
def pushS (S : LS) (src k n : Int) : LS := ({ S with ord := S.ord + 1 } : LS).setQ (srcN src) (S.q (srcN src) ++ [⟨S.ord + 1, k, n⟩])
theorem srcN_lt (src : Int) : srcN src < 5 := by unfold srcN; split <;> omega
theorem push_fin {w0 w : World} {L : List As} {b i : Nat} {S : LS} {p : Pt} {G : List Bx} {s : Option Addr} {c : Nat} {k n o : Int} (hi : i < 5) (hb : BagOk S G)
    (h : St w0 w (As.cells b ((stc S p).setIfInBounds (1 + i) (.slice s ((S.q i).length + 1) c)) 37 :: As.row 91 5 s ((S.q i).length + 1) c (flat Qt.cells (S.q i) ++ [.int .i64 o, .int .i64 k, .int .i64 n, .string { data := #[] }, .slice none 0 0]) :: (rstQ b S p G i ++ L))) :
    St w0 w (stO b (S.setQ i (S.q i ++ [⟨o, k, n⟩])) :: L) := by
  refine st_shut (p := upd p i (s, c)) (G := G) ⟨hb.calls, hb.jobs⟩ (unf_q hi (n := (S.q i).length + 1) (S.q i ++ [⟨o, k, n⟩]) (by simp) ?_)
  rw [flat_append, flat_one]
  exact h
set_option maxRecDepth 100000 in
set_option maxHeartbeats 1000000 in
theorem push_st {w0 w : World} {L : List As} {b : Nat} {S : LS} (src k n : Int) (h : St w0 w (stO b S :: L)) (hn : ∀ i, (S.q i).length ≤ 100000) (ho : 0 ≤ S.ord) (ho2 : S.ord ≤ 1000000000000) :
    Calls Try.prog 12 #[.pointer (some ⟨b, 0, none⟩), .int .i64 src, .agg #[.int .i64 k, .int .i64 n, .string { data := #[] }, .slice none 0 0]] w (RetSt (.tuple #[]) w0 (stO b (pushS S src k n) :: L)) := by
  obtain ⟨p, G, hb, h⟩ := st_open h
  have HB := Lib.hid (show BagOk { S with ord := S.ord + 1 } G from ⟨hb.calls, hb.jobs⟩)
  have HN := Lib.hid hn
  have hw1 : IntKind.i64.wrap (S.ord + 1) = S.ord + 1 := by rw [IntKind.wrap_i64]; omega
  have h0 := h.new #[.int .i64 k, .int .i64 n, .string { data := #[] }, .slice none 0 0] 41
  have H0 := Lib.hid h0
  clear hb h h0 hn
  obtain ⟨R, hR⟩ : ∃ R, pushS S src k n = R := ⟨_, rfl⟩
  rw [hR]
  have HR := Lib.hid hR
  clear hR
  by_cases h1 : src < 0
  · have hs : srcN src = 4 := by simp [srcN, h1]
    go_enter Try.func12, Try.ntmps12
    go_upto_region 1 with fail
    obtain ⟨m, hm⟩ : ∃ m, w.heap.size = m := ⟨_, rfl⟩
    obtain ⟨W, hW⟩ : ∃ W, w.alloc (.cells #[.int .i64 k, .int .i64 n, .string { data := #[] }, .slice none 0 0] 41) = W := ⟨_, rfl⟩
    rw [hW, hm] at H0
    rw [hW]
    try simp only [hm]
    clear hW hm
    obtain ⟨-, c6, -⟩ := st_c H0.out.swap
    have f6 := H0.out.swap.free 6
    go_upto_region 4 with fail
    have h1 := H0.out.swap.set 6 (.int .i64 (S.ord + 1))
    rw [set_ord] at h1
    obtain ⟨W1, hW1⟩ : ∃ W1, W.setCell ⟨b, 6, none⟩ (.int .i64 (S.ord + 1)) = W1 := ⟨_, rfl⟩
    rw [hW1] at h1
    rw [hW1]
    have H1 := Lib.hid h1
    clear hW1 h1 c6 f6
    obtain ⟨-, c6, -⟩ := st_c H1.out
    have k0 := H1.out.swap.cell 0
    have k1 := H1.out.swap.cell 1
    have k2 := H1.out.swap.cell 2
    have k3 := H1.out.swap.cell 3
    simp at k0 k1 k2 k3
    go_still_tail 11, (by kernel_rfl)
    change wpList _ _ _ _ _ W1.drew
    have h2 := foc_q (i := 4) (by omega) (H1.out.swap.drop.drew)
    have e2 := st_q (H1.out.swap.drop.drew) 4 (by omega)
    have H2 := Lib.hid h2
    have hq : (stc { S with ord := S.ord + 1 } p)[1 + 4]? = some (.slice (p 4).1 (S.q 4).length (p 4).2) := by rw [← h2.cell]; exact e2
    have HQ := Lib.hid hq
    clear h2 e2 hq
    go_wp2_with fail
    refine (qpushQ (S.ord + 1) k n H2.out HQ.out (HN.out _)).mono ?_
    rintro e w2 ⟨rfl, s2, c2, h3⟩
    have h4 := push_fin (by omega) HB.out h3
    have H4 := Lib.hid h4
    clear h3 h4
    go_wp2_with fail
    go_end0
    refine ⟨rfl, ?_⟩
    have e : R = ({ S with ord := S.ord + 1 } : LS).setQ 4 (S.q 4 ++ [⟨S.ord + 1, k, n⟩]) := by
      rw [← HR.out, pushS, hs]
    rw [e]
    exact H4.out
  · by_cases h5 : 5 ≤ src
    · have hs : srcN src = 4 := by simp [srcN, h5]
      go_enter Try.func12, Try.ntmps12
      go_upto_region 1 with fail
      obtain ⟨m, hm⟩ : ∃ m, w.heap.size = m := ⟨_, rfl⟩
      obtain ⟨W, hW⟩ : ∃ W, w.alloc (.cells #[.int .i64 k, .int .i64 n, .string { data := #[] }, .slice none 0 0] 41) = W := ⟨_, rfl⟩
      rw [hW, hm] at H0
      rw [hW]
      try simp only [hm]
      clear hW hm
      obtain ⟨-, c6, -⟩ := st_c H0.out.swap
      have f6 := H0.out.swap.free 6
      go_upto_region 4 with fail
      have h1 := H0.out.swap.set 6 (.int .i64 (S.ord + 1))
      rw [set_ord] at h1
      obtain ⟨W1, hW1⟩ : ∃ W1, W.setCell ⟨b, 6, none⟩ (.int .i64 (S.ord + 1)) = W1 := ⟨_, rfl⟩
      rw [hW1] at h1
      rw [hW1]
      have H1 := Lib.hid h1
      clear hW1 h1 c6 f6
      obtain ⟨-, c6, -⟩ := st_c H1.out
      have k0 := H1.out.swap.cell 0
      have k1 := H1.out.swap.cell 1
      have k2 := H1.out.swap.cell 2
      have k3 := H1.out.swap.cell 3
      simp at k0 k1 k2 k3
      go_still_tail 11, (by kernel_rfl)
      change wpList _ _ _ _ _ W1.drew
      have h2 := foc_q (i := 4) (by omega) (H1.out.swap.drop.drew)
      have e2 := st_q (H1.out.swap.drop.drew) 4 (by omega)
      have H2 := Lib.hid h2
      have hq : (stc { S with ord := S.ord + 1 } p)[1 + 4]? = some (.slice (p 4).1 (S.q 4).length (p 4).2) := by rw [← h2.cell]; exact e2
      have HQ := Lib.hid hq
      clear h2 e2 hq
      go_wp2_with fail
      refine (qpushQ (S.ord + 1) k n H2.out HQ.out (HN.out _)).mono ?_
      rintro e w2 ⟨rfl, s2, c2, h3⟩
      have h4 := push_fin (by omega) HB.out h3
      have H4 := Lib.hid h4
      clear h3 h4
      go_wp2_with fail
      go_end0
      refine ⟨rfl, ?_⟩
      have e : R = ({ S with ord := S.ord + 1 } : LS).setQ 4 (S.q 4 ++ [⟨S.ord + 1, k, n⟩]) := by
        rw [← HR.out, pushS, hs]
      rw [e]
      exact H4.out
    · have hs : srcN src = src.toNat := by simp only [srcN]; rw [if_neg (by omega)]
      obtain ⟨i, hi⟩ : ∃ i : Nat, src.toNat = i := ⟨_, rfl⟩
      rw [hi] at hs
      have hsi : src = (i : Int) := by omega
      have hi5 : i < 5 := by omega
      have hi0 : (0 : Int) ≤ (i : Int) := by omega
      have hi5I : (i : Int) < 5 := by omega
      clear hi
      subst hsi
      go_enter Try.func12, Try.ntmps12
      go_upto_region 1 with fail
      obtain ⟨m, hm⟩ : ∃ m, w.heap.size = m := ⟨_, rfl⟩
      obtain ⟨W, hW⟩ : ∃ W, w.alloc (.cells #[.int .i64 k, .int .i64 n, .string { data := #[] }, .slice none 0 0] 41) = W := ⟨_, rfl⟩
      rw [hW, hm] at H0
      rw [hW]
      try simp only [hm]
      clear hW hm
      obtain ⟨-, c6, -⟩ := st_c H0.out.swap
      have f6 := H0.out.swap.free 6
      go_upto_region 4 with fail
      have h1 := H0.out.swap.set 6 (.int .i64 (S.ord + 1))
      rw [set_ord] at h1
      obtain ⟨W1, hW1⟩ : ∃ W1, W.setCell ⟨b, 6, none⟩ (.int .i64 (S.ord + 1)) = W1 := ⟨_, rfl⟩
      rw [hW1] at h1
      rw [hW1]
      have H1 := Lib.hid h1
      clear hW1 h1 c6 f6
      obtain ⟨-, c6, -⟩ := st_c H1.out
      have k0 := H1.out.swap.cell 0
      have k1 := H1.out.swap.cell 1
      have k2 := H1.out.swap.cell 2
      have k3 := H1.out.swap.cell 3
      simp at k0 k1 k2 k3
      go_still_tail 11, (by kernel_rfl)
      change wpList _ _ _ _ _ W1.drew
      have h2 := foc_q (i := i) hi5 (H1.out.swap.drop.drew)
      have e2 := st_q (H1.out.swap.drop.drew) i hi5
      have H2 := Lib.hid h2
      have hq : (stc { S with ord := S.ord + 1 } p)[1 + i]? = some (.slice (p i).1 (S.q i).length (p i).2) := by rw [← h2.cell]; exact e2
      have HQ := Lib.hid hq
      clear h2 e2 hq
      go_wp2_with fail
      refine (qpushQ (S.ord + 1) k n H2.out HQ.out (HN.out _)).mono ?_
      rintro e w2 ⟨rfl, s2, c2, h3⟩
      have h4 := push_fin hi5 HB.out h3
      have H4 := Lib.hid h4
      clear h3 h4
      go_wp2_with fail
      go_end0
      refine ⟨rfl, ?_⟩
      have e : R = ({ S with ord := S.ord + 1 } : LS).setQ i (S.q i ++ [⟨S.ord + 1, k, n⟩]) := by
        rw [← HR.out, pushS, hs]
      rw [e]
      exact H4.out

end Go.Proofs.Ytnamkckpgaopkaa
