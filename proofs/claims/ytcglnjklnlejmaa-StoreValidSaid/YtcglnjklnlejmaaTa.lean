/-
  StoreSpace: the states and the calls.
-/
import Derived.Test.YtcglnjklnlejmaaSs
set_option linter.unusedVariables false
set_option linter.unusedSimpArgs false
namespace Go.Proofs.Ytcglnjklnlejmaa
open Go.RowKit Go.K Go.K.Sr

def emp : ByteArray := { data := #[] }
def xx : ByteArray := { data := #[120] }
def mo : ByteArray := { data := #[109, 111, 114, 101] }
theorem bl_app : ∀ (a b : List UInt8), b ≠ [] → Op.bytesLess a (a ++ b) = true
  | [], [], h => absurd rfl h
  | [], _ :: _, _ => rfl
  | x :: a, b, h => by
    have := bl_app a b h
    simp [Op.bytesLess, this]
theorem toList_app (a b : ByteArray) : (a ++ b).toList = a.toList ++ b.toList := by
  rw [ByteArray.toList_eq, ByteArray.toList_eq, ByteArray.toList_eq]; simp
theorem klt_x (k : ByteArray) : klt k (k ++ xx) = true := by
  unfold klt
  rw [toList_app]
  exact bl_app _ _ (by rw [ByteArray.toList_eq]; simp [xx])
theorem size_x (k : ByteArray) : (k ++ xx).size = k.size + 1 := by
  rw [ByteArray.size_append]; rfl
def T1 : Tx := ⟨1, emp, true⟩
def T2 : Tx := ⟨2, emp, true⟩
def U0 : SS := ⟨[], [T1], [], 1⟩
def U1 (c : Ch) : SS := ⟨[], [T1], [c], 1⟩
def U2 (p : Pr) : SS := ⟨[p], [], [], 1⟩
def U3 (p : Pr) (l : List Ch) : SS := ⟨[p], [T2], l, 2⟩
theorem alt_one {S : SS} {id : Int} {c : Ch} {t : Tx} (hf : fnd id S.txs = some 0) (ht : S.txs = [t]) (hw : t.wr = true) : altS S id c = if c.r = false ∧ 1048576 < sizeP (content S.pairs (withC c S.cs)) then (S, 20) else ({ S with cs := withC c S.cs }, 0) := by
  have hb : turnB S.txs 0 = true := by rw [ht]; simp [turnB, hw]
  have hg : S.txs[0]? = some t := by rw [ht]; rfl
  unfold altS
  rw [hf]
  simp [hb, hg, hw]
theorem fnd1 : fnd 1 [T1] = some 0 := by decide
theorem fnd2 : fnd 2 [T2] = some 0 := by decide
theorem alt_u0 (k v : ByteArray) : altS U0 1 ⟨k, v, false⟩ = if 1048576 < k.size + v.size then (U0, 20) else (U1 ⟨k, v, false⟩, 0) := by
  rw [alt_one (t := T1) fnd1 rfl rfl]
  have e : sizeP (content U0.pairs (withC ⟨k, v, false⟩ U0.cs)) = k.size + v.size := by simp [U0, withC, content, appC, putP, sizeP]
  rw [e]
  simp [U0, U1, withC]
theorem get_u0 (k : ByteArray) : getS U0 1 k = (.empty, false, 0) := by
  unfold getS
  rw [show fnd 1 U0.txs = some 0 from fnd1]
  rfl
theorem com_u1 (k v : ByteArray) : commitS (U1 ⟨k, v, false⟩) 1 = (U2 ⟨k, v⟩, 0) := by
  unfold commitS
  rw [show fnd 1 (U1 ⟨k, v, false⟩).txs = some 0 from fnd1]
  rfl
theorem rm_u3 (p : Pr) (k : ByteArray) : altS (U3 p []) 2 ⟨k, .empty, true⟩ = (U3 p [⟨k, .empty, true⟩], 0) := by
  rw [alt_one (t := T2) fnd2 rfl rfl]
  simp [U3, withC]
theorem put_u3 (k v : ByteArray) (h : 1048576 < k.size + v.size + (k.size + 1 + 4)) : altS (U3 ⟨k, v⟩ []) 2 ⟨k ++ xx, mo, false⟩ = (U3 ⟨k, v⟩ [], 20) := by
  rw [alt_one (t := T2) fnd2 rfl rfl]
  have hm : mo.size = 4 := rfl
  have hx1 : xx.size = 1 := rfl
  have e : sizeP (content (U3 ⟨k, v⟩ []).pairs (withC ⟨k ++ xx, mo, false⟩ (U3 ⟨k, v⟩ []).cs)) = k.size + v.size + (k.size + 1 + 4) := by
    simp only [U3, withC, content, List.foldl_cons, List.foldl_nil, appC]
    simp only [putP, klt_x, if_true]
    simp [sizeP, size_x, hm, hx1]
  rw [e, if_pos ⟨rfl, h⟩]
theorem put_u4 (k v : ByteArray) (h : k.size ≤ 100) : altS (U3 ⟨k, v⟩ [⟨k, .empty, true⟩]) 2 ⟨k ++ xx, mo, false⟩ = (U3 ⟨k, v⟩ [⟨k, .empty, true⟩, ⟨k ++ xx, mo, false⟩], 0) := by
  rw [alt_one (t := T2) fnd2 rfl rfl]
  have hm : mo.size = 4 := rfl
  have hx1 : xx.size = 1 := rfl
  have e1 : withC ⟨k ++ xx, mo, false⟩ [⟨k, .empty, true⟩] = [⟨k, .empty, true⟩, ⟨k ++ xx, mo, false⟩] := by simp only [withC, klt_x, if_true]
  have e : sizeP (content (U3 ⟨k, v⟩ [⟨k, .empty, true⟩]).pairs (withC ⟨k ++ xx, mo, false⟩ (U3 ⟨k, v⟩ [⟨k, .empty, true⟩]).cs)) = k.size + 1 + 4 := by
    simp only [U3]
    rw [e1]
    simp [content, appC, delP, putP, sizeP, size_x, hm, hx1]
  rw [e, if_neg (by omega)]
  simp only [U3]
  rw [e1]
theorem size_u (p : Pr) (l : List Ch) (q : Int) : sizeP (U3 p l).pairs = p.k.size + p.v.size := by simp [U3, sizeP]
theorem size_u2 (p : Pr) : sizeP (U2 p).pairs = p.k.size + p.v.size := by simp [U2, sizeP]
theorem infoB : (Try.prog.info? 5).map (fun i => (i.zero, i.size, i.bytes)) = some (some (.int .u8 0), 1, 1) := by kernel_rfl
theorem mkN (w : World) (n : Nat) (hn : n ≤ 2000000) : (Instr.makeSlice 24 (.int .i64 (n : Int)) (.int .i64 (n : Int))).run Try.prog w = .ok (.slice (some ⟨w.heap.size, 0, none⟩) n n) (w.alloc (.cells (madeCells #[.int .u8 0] n) 5)) := by
  obtain ⟨i, hi, h1, h2, h3⟩ := info_parts infoB
  have := run_make (P := Try.prog) w 24 5 i (.int .u8 0) (by kernel_rfl) hi h1 .i64 .i64 n n (by omega) (Int.le_refl _) (by rw [h3]; omega) (by omega)
  rw [h2] at this
  simp only [Int.toNat_natCast, Nat.mul_one] at this
  exact this
theorem made_at (n i : Nat) (h : i < n) : (madeCells #[Value.int .u8 0] n)[i]? = some (.int .u8 0) := by
  have hs : i < (madeCells #[Value.int .u8 0] n).toList.length := by simp [size_madeCells, h]
  have e := toList_madeCells_one (Value.int .u8 0) n
  rw [← Array.getElem?_toList, e, List.getElem?_replicate, if_pos h]
/-- the contracts that the law's calls meet -/
theorem k_put0 {w0 w : World} {L : List As} {b : Nat} {k v : ByteArray} (h : SAt b U0 w0 w L) (hs : k.size + v.size ≤ 3000000) :
    Calls Try.prog 13 #[.pointer (some ⟨b, 0, none⟩), .int .i64 1, .string k, .string v] w fun e w' => e = .returned (.int .i64 (if 1048576 < k.size + v.size then 20 else 0)) ∧ SAt b (if 1048576 < k.size + v.size then U0 else U1 ⟨k, v, false⟩) w0 w' L := by
  refine (put_st 1 k v h (by simp [U0]) (by simp [U0]) (by simp [U0]) List.Pairwise.nil List.Pairwise.nil ?_).mono ?_
  · have e : sizeP (content U0.pairs (withC ⟨k, v, false⟩ U0.cs)) = k.size + v.size := by simp [U0, withC, content, appC, putP, sizeP]
    omega
  · rintro e w' ⟨rfl, h2⟩
    rw [alt_u0] at h2 ⊢
    by_cases hz : 1048576 < k.size + v.size
    · rw [if_pos hz] at h2 ⊢; rw [if_pos hz, if_pos hz]; exact ⟨rfl, h2⟩
    · rw [if_neg hz] at h2 ⊢; rw [if_neg hz, if_neg hz]; exact ⟨rfl, h2⟩
theorem k_get0 {w0 w : World} {L : List As} {b : Nat} {k : ByteArray} (h : SAt b U0 w0 w L) :
    Calls Try.prog 14 #[.pointer (some ⟨b, 0, none⟩), .int .i64 1, .string k] w fun e w' => e = .returned (.tuple #[.string .empty, .bool false, .int .i64 0]) ∧ SAt b U0 w0 w' L := by
  refine (get_st 1 k h (by simp [U0]) (by simp [U0]) (by simp [U0]) List.Pairwise.nil List.Pairwise.nil).mono ?_
  rintro e w' ⟨rfl, h2⟩
  rw [get_u0]
  exact ⟨rfl, h.of_below h2⟩
theorem k_com {w0 w : World} {L : List As} {b : Nat} {k v : ByteArray} (h : SAt b (U1 ⟨k, v, false⟩) w0 w L) :
    Calls Try.prog 15 #[.pointer (some ⟨b, 0, none⟩), .int .i64 1] w fun e w' => e = .returned (.int .i64 0) ∧ SAt b (U2 ⟨k, v⟩) w0 w' L := by
  refine (commit_st 1 h (by simp [U1]) (by simp [U1]) (by simp [U1]) List.Pairwise.nil).mono ?_
  rintro e w' ⟨rfl, h2⟩
  rw [com_u1] at h2 ⊢
  exact ⟨rfl, h2⟩
theorem k_size {w0 w : World} {L : List As} {b : Nat} {S : SS} {k v : ByteArray} (h : SAt b S w0 w L) (hp : S.pairs = [⟨k, v⟩]) (hs : k.size + v.size ≤ 3000000) :
    Calls Try.prog 16 #[.pointer (some ⟨b, 0, none⟩)] w fun e w' => e = .returned (.int .i64 ((k.size + v.size : Nat) : Int)) ∧ SAt b S w0 w' L := by
  have e : sizeP S.pairs = k.size + v.size := by rw [hp]; simp [sizeP]
  refine (ssize_st h (by rw [hp]; simp) (by rw [e]; omega)).mono ?_
  rintro e w' ⟨rfl, h2⟩
  rw [e]
  exact ⟨rfl, h.of_below h2⟩
theorem k_open0 {w0 w : World} {L : List As} {b : Nat} (h : SAt b S0 w0 w L) :
    Calls Try.prog 12 #[.pointer (some ⟨b, 0, none⟩), .string { data := #[] }, .bool true] w fun e w' => e = .returned (.int .i64 1) ∧ SAt b U0 w0 w' L := open_st emp true h (by simp [S0]) (by simp [S0]) (by simp [S0]) (fun _ => rfl)
theorem k_open2 {w0 w : World} {L : List As} {b : Nat} {p : Pr} (h : SAt b (U2 p) w0 w L) :
    Calls Try.prog 12 #[.pointer (some ⟨b, 0, none⟩), .string { data := #[] }, .bool true] w fun e w' => e = .returned (.int .i64 2) ∧ SAt b (U3 p []) w0 w' L := open_st emp true h (by simp [U2]) (by simp [U2]) (by simp [U2]) (fun _ => rfl)
theorem asc1 (p : Pr) : Asc Pr.k [p] := List.pairwise_singleton _ _
theorem k_rm {w0 w : World} {L : List As} {b : Nat} {k v : ByteArray} (h : SAt b (U3 ⟨k, v⟩ []) w0 w L) :
    Calls Try.prog 17 #[.pointer (some ⟨b, 0, none⟩), .int .i64 2, .string k] w fun e w' => e = .returned (.int .i64 0) ∧ SAt b (U3 ⟨k, v⟩ [⟨k, .empty, true⟩]) w0 w' L := by
  refine (remove_st 2 k h (by simp [U3]) (by simp [U3]) (by simp [U3]) (asc1 _) List.Pairwise.nil ?_).mono ?_
  · simp [U3, withC, content, appC, delP, sizeP]
  · rintro e w' ⟨rfl, h2⟩
    rw [rm_u3] at h2 ⊢
    exact ⟨rfl, h2⟩
theorem k_put3 {w0 w : World} {L : List As} {b : Nat} {k v : ByteArray} (h : SAt b (U3 ⟨k, v⟩ []) w0 w L) (hs : k.size + v.size ≤ 3000000) (h1 : 1048574 ≤ k.size + v.size) :
    Calls Try.prog 13 #[.pointer (some ⟨b, 0, none⟩), .int .i64 2, .string (k ++ { data := #[120] }), .string { data := #[109, 111, 114, 101] }] w fun e w' => e = .returned (.int .i64 20) ∧ SAt b (U3 ⟨k, v⟩ []) w0 w' L := by
  refine (put_st 2 (k ++ xx) mo h (by simp [U3]) (by simp [U3]) (by simp [U3]) (asc1 _) List.Pairwise.nil ?_).mono ?_
  · have hm : mo.size = 4 := rfl
    have hx1 : xx.size = 1 := rfl
    have e : sizeP (content (U3 ⟨k, v⟩ []).pairs (withC ⟨k ++ xx, mo, false⟩ (U3 ⟨k, v⟩ []).cs)) = k.size + v.size + (k.size + 1 + 4) := by
      simp only [U3, withC, content, List.foldl_cons, List.foldl_nil, appC]
      simp only [putP, klt_x, if_true]
      simp [sizeP, size_x, hm, hx1]
    omega
  · rintro e w' ⟨rfl, h2⟩
    rw [put_u3 k v (by omega)] at h2 ⊢
    exact ⟨rfl, h2⟩
theorem k_put4 {w0 w : World} {L : List As} {b : Nat} {k v : ByteArray} (h : SAt b (U3 ⟨k, v⟩ [⟨k, .empty, true⟩]) w0 w L) (hk : k.size ≤ 100) :
    Calls Try.prog 13 #[.pointer (some ⟨b, 0, none⟩), .int .i64 2, .string (k ++ { data := #[120] }), .string { data := #[109, 111, 114, 101] }] w fun e w' => e = .returned (.int .i64 0) ∧ SAt b (U3 ⟨k, v⟩ [⟨k, .empty, true⟩, ⟨k ++ xx, mo, false⟩]) w0 w' L := by
  refine (put_st 2 (k ++ xx) mo h (by simp [U3]) (by simp [U3]) (by simp [U3]) (asc1 _) (List.pairwise_singleton _ _) ?_).mono ?_
  · have hm : mo.size = 4 := rfl
    have hx1 : xx.size = 1 := rfl
    have e1 : withC ⟨k ++ xx, mo, false⟩ [⟨k, .empty, true⟩] = [⟨k, .empty, true⟩, ⟨k ++ xx, mo, false⟩] := by simp only [withC, klt_x, if_true]
    have e : sizeP (content (U3 ⟨k, v⟩ [⟨k, .empty, true⟩]).pairs (withC ⟨k ++ xx, mo, false⟩ (U3 ⟨k, v⟩ [⟨k, .empty, true⟩]).cs)) = k.size + 1 + 4 := by
      simp only [U3]
      rw [e1]
      simp [content, appC, delP, putP, sizeP, size_x, hm, hx1]
    omega
  · rintro e w' ⟨rfl, h2⟩
    rw [put_u4 k v hk] at h2 ⊢
    exact ⟨rfl, h2⟩

end Go.Proofs.Ytcglnjklnlejmaa
