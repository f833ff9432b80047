/-
  Contracts of the queues of strings and of slices of strings: Push, Peek, Pop and slices.Clone.
-/
import Derived.Test.YtkddkbjgnndflaaQf
set_option linter.unusedVariables false
namespace Go.Proofs.Ytkddkbjgnndflaa
open Go.RowKit Go.K

theorem infoS : (Try.prog.info? 9).map (fun i => (i.zero, i.size, i.bytes)) = some (some (.string ByteArray.empty), 1, 16) := by kernel_rfl
theorem elS : El Try.prog 33 9 1 16 := by
  obtain ⟨i, hi, h1, h2, h3⟩ := info_parts infoS
  exact ⟨by kernel_rfl, ⟨i, _, hi, h1, h2, h3, rfl⟩, by decide⟩

set_option maxHeartbeats 400000 in
theorem peek_noneS (b : Nat) (s : Option Addr) (c : Nat) (w : World) (hq : w.cell? ⟨b, 0, none⟩ = some (.slice s 0 c)) :
    Calls Try.prog 37 #[.pointer (some ⟨b, 0, none⟩)] w fun e w' => e = .returned (.tuple #[.string ByteArray.empty, .bool false]) ∧ w = w' := by
  go_enter Try.func37, Try.ntmps37
  go_wp2
  go_ret2
  exact ⟨rfl, rfl⟩

set_option maxHeartbeats 400000 in
theorem peek_someS (b g off : Nat) (n c : Nat) (x : ByteArray) (w : World) (hq : w.cell? ⟨b, 0, none⟩ = some (.slice (some ⟨g, off, none⟩) (n + 1) c)) (hx : w.cell? ⟨g, off, none⟩ = some (.string x)) :
    Calls Try.prog 37 #[.pointer (some ⟨b, 0, none⟩)] w fun e w' => e = .returned (.tuple #[.string x, .bool true]) ∧ w = w' := by
  have hn1 : ((n : Int) + 1 == 0) = false := by simp; omega
  go_enter Try.func37, Try.ntmps37
  go_wp2
  go_ret2
  exact ⟨rfl, rfl⟩

set_option maxHeartbeats 400000 in
theorem pushS {w0 w : World} {L : List As} {b n : Nat} {xs : List Value} (x : ByteArray) (h : St w0 w (qObj b 35 9 1 n xs :: L)) (hn : n ≤ 4294967296) :
    Calls Try.prog 16 #[.pointer (some ⟨b, 0, none⟩), .string x] w (RetSt (.tuple #[]) w0 (qObj b 35 9 1 (n + 1) (xs ++ [.string x]) :: L)) := by
  obtain ⟨s, c, h⟩ := q_open h
  have hc := h.cell 0
  simp at hc
  have H := Lib.hid h
  have hs := h.swap.sl
  clear h
  go_enter Try.func16, Try.ntmps16
  go_wp2_with (at_builtin; refine wpList_append_one w rfl _ _ 33 rfl elS s n c xs rfl hs 1 _ rfl rfl (by simp [Value.oneCell']) (by omega) (by omega) ?_)
  intro s' c' w' g1 g2 g3
  have h2 := (H.out.swap.row_step g1 g2 g3).swap
  have hc' := h2.cell 0
  have hf' := h2.free 0
  simp at hc'
  have H2 := Lib.hid h2
  clear hc h2 hs
  go_wp2
  go_end0
  have := H2.out.set 0 (.slice s' (n + 1) c')
  exact ⟨rfl, q_shut (by simpa using this)⟩

set_option maxHeartbeats 400000 in
theorem clone_nilS (w : World) : Calls Try.prog 38 #[.slice none 0 0] w (ClonePost w 9 1 0 []) := by
  have hnil := fun w => Lib.run_eql_slice_nil (P := Try.prog) w 33 9 none 0 0 0 0 Try.underlying33
  go_enter Try.func38, Try.ntmps38
  go_wp2
  go_ret
  exact ⟨none, 0, rfl, Sl.nil _ _ _, Fr.refl _ _, .inl rfl⟩

set_option maxHeartbeats 400000 in
theorem clone_someS (a : Addr) (n c : Nat) (xs : List Value) (w : World) (hr : Rd w 1 (some a) n xs) (hn : n ≤ 4294967296) :
    Calls Try.prog 38 #[.slice (some a) n c] w (ClonePost w 9 1 n xs) := by
  have hnil := fun w => Lib.run_eql_slice_nil (P := Try.prog) w 33 9 (some a) n c 0 0 Try.underlying33
  have hr' := hr.alloc (.cells #[] 9)
  have h0 : Sl (w.alloc (.cells #[] 9)) 9 1 (some ⟨w.heap.size, 0, .none⟩) 0 0 [] := ⟨by simp, by simp, .inr ⟨w.heap.size, 0, #[], rfl, Blk.new w #[] 9, by omega, by simp [maxLen], by simp, by simp⟩⟩
  go_enter Try.func38, Try.ntmps38
  go_wp2_with (at_builtin; refine wpList_append_sl _ rfl _ _ 33 rfl elS _ 0 0 [] rfl h0 (some a) n c xs rfl hr'.len hr'.nil hr'.cells hr'.one (by simp only [maxLen]; omega) (by omega) ?_)
  intro s' c' w' g1 g2 g3
  try simp only [Nat.zero_add, List.nil_append] at g1
  go_wp2
  go_ret
  refine ⟨s', c', by simp, g1, (((Fr.refl emp w).alloc _).trans g2 ?_), ?_⟩
  · intro i hi e; simp [rowOf] at e; omega
  · rcases g3 with q | ⟨g, q1, q2⟩
    · exact .inr ⟨w.heap.size, by rw [q]; rfl, Nat.le_refl _⟩
    · exact .inr ⟨g, q1, by simp at q2; omega⟩

theorem cloneS {w0 w : World} {L : List As} {s : Option Addr} {n c : Nat} {xs : List Value} (hs : Sl w 9 1 s n c xs) (h : St w0 w L) (hn : n ≤ 4294967296) :
    Calls Try.prog 38 #[.slice s n c] w fun e w' => ∃ s' c', e = .returned (.slice s' n c') ∧ St w0 w' (As.row 9 1 s' n c' xs :: L) := by
  have key : Calls Try.prog 38 #[.slice s n c] w (ClonePost w 9 1 n xs) := by
    cases s with
    | some a => exact clone_someS a n c xs w hs.rd hn
    | none =>
      rcases hs.row with ⟨_, rfl, rfl⟩ | ⟨_, _, _, h, _⟩
      · rw [hs.empty]; exact clone_nilS w
      · cases h
  exact key.mono fun e w' ⟨s', c', he, q1, q2, q3⟩ => ⟨s', c', he, h.row_new q1 q2 q3⟩

set_option maxHeartbeats 400000 in
theorem popS {w0 w : World} {L : List As} {b n : Nat} {xs : List Value} (x : ByteArray) (h : St w0 w (qObj b 35 9 1 (n + 1) (.string x :: xs) :: L)) (hn : n ≤ 4294967296) :
    Calls Try.prog 18 #[.pointer (some ⟨b, 0, none⟩)] w (RetSt (.tuple #[.string x, .bool true]) w0 (qObj b 35 9 1 n xs :: L)) := by
  obtain ⟨s, c, h⟩ := q_open h
  have hc := h.cell 0
  have hs := h.swap.sl
  have hle := hs.le
  obtain ⟨s', hsl, hs', hr'⟩ := hs.cut_l elS 1 (by omega)
  obtain ⟨g, off, rfl, hcell, _, _⟩ := hs.some_of (by omega)
  simp at hc hsl hs'
  have hx := hcell 0 (by omega)
  simp at hx
  have H := Lib.hid h
  have HS := Lib.hid hs'
  clear hs hcell hr' h hs'
  go_enter Try.func18, Try.ntmps18
  go_wp2_with fail
  refine (peek_someS _ _ _ _ _ _ _ hc hx).mono ?_
  rintro e w' ⟨rfl, rfl⟩
  go_wp2_with fail
  refine (cloneS HS.out H.out hn).mono ?_
  rintro e w1 ⟨s2, c2, rfl, h1⟩
  have h2 := h1.swap
  have hc1 := h2.cell 0
  have hf1 := h2.free 0
  simp at hc1
  have H2 := Lib.hid h2
  clear h1 h2 hc hx hsl
  go_wp2_with fail
  go_ret2
  have h3 := H2.out.set 0 (.slice s2 n c2)
  exact ⟨rfl, q_shut (s := s2) (c := c2) (by simpa using h3.front2.drop)⟩

set_option maxHeartbeats 400000 in
theorem pop0S {w0 w : World} {L : List As} {b : Nat} {xs : List Value} (h : St w0 w (qObj b 35 9 1 0 xs :: L)) :
    Calls Try.prog 18 #[.pointer (some ⟨b, 0, none⟩)] w (RetSt (.tuple #[.string ByteArray.empty, .bool false]) w0 (qObj b 35 9 1 0 xs :: L)) := by
  have H := Lib.hid h
  obtain ⟨s, c, h⟩ := q_open h
  have hc := h.cell 0
  simp at hc
  clear h
  go_enter Try.func18, Try.ntmps18
  go_wp2_with fail
  refine (peek_noneS _ _ _ _ hc).mono ?_
  rintro e w' ⟨rfl, rfl⟩
  go_wp2_with fail
  go_ret2
  exact ⟨rfl, H.out⟩

theorem infoL : (Try.prog.info? 33).map (fun i => (i.zero, i.size, i.bytes)) = some (some (.slice none 0 0), 1, 24) := by kernel_rfl
theorem elL : El Try.prog 36 33 1 24 := by
  obtain ⟨i, hi, h1, h2, h3⟩ := info_parts infoL
  exact ⟨by kernel_rfl, ⟨i, _, hi, h1, h2, h3, rfl⟩, by decide⟩

set_option maxHeartbeats 400000 in
theorem peek_noneL (b : Nat) (s : Option Addr) (c : Nat) (w : World) (hq : w.cell? ⟨b, 0, none⟩ = some (.slice s 0 c)) :
    Calls Try.prog 20 #[.pointer (some ⟨b, 0, none⟩)] w fun e w' => e = .returned (.tuple #[.slice none 0 0, .bool false]) ∧ w = w' := by
  go_enter Try.func20, Try.ntmps20
  go_wp2
  go_ret2
  exact ⟨rfl, rfl⟩

set_option maxHeartbeats 400000 in
theorem peek_someL (b g off : Nat) (n c : Nat) (x : Option Addr) (xn xc : Nat) (w : World) (hq : w.cell? ⟨b, 0, none⟩ = some (.slice (some ⟨g, off, none⟩) (n + 1) c)) (hx : w.cell? ⟨g, off, none⟩ = some (.slice x xn xc)) :
    Calls Try.prog 20 #[.pointer (some ⟨b, 0, none⟩)] w fun e w' => e = .returned (.tuple #[.slice x xn xc, .bool true]) ∧ w = w' := by
  have hn1 : ((n : Int) + 1 == 0) = false := by simp; omega
  go_enter Try.func20, Try.ntmps20
  go_wp2
  go_ret2
  exact ⟨rfl, rfl⟩

set_option maxHeartbeats 400000 in
theorem pushL {w0 w : World} {L : List As} {b n : Nat} {xs : List Value} (x : Option Addr) (xn xc : Nat) (h : St w0 w (qObj b 38 33 1 n xs :: L)) (hn : n ≤ 4294967296) :
    Calls Try.prog 17 #[.pointer (some ⟨b, 0, none⟩), .slice x xn xc] w (RetSt (.tuple #[]) w0 (qObj b 38 33 1 (n + 1) (xs ++ [.slice x xn xc]) :: L)) := by
  obtain ⟨s, c, h⟩ := q_open h
  have hc := h.cell 0
  simp at hc
  have H := Lib.hid h
  have hs := h.swap.sl
  clear h
  go_enter Try.func17, Try.ntmps17
  go_wp2_with (at_builtin; refine wpList_append_one w rfl _ _ 36 rfl elL s n c xs rfl hs 1 _ rfl rfl (by simp [Value.oneCell']) (by omega) (by omega) ?_)
  intro s' c' w' g1 g2 g3
  have h2 := (H.out.swap.row_step g1 g2 g3).swap
  have hc' := h2.cell 0
  have hf' := h2.free 0
  simp at hc'
  have H2 := Lib.hid h2
  clear hc h2 hs
  go_wp2
  go_end0
  have := H2.out.set 0 (.slice s' (n + 1) c')
  exact ⟨rfl, q_shut (by simpa using this)⟩

set_option maxHeartbeats 400000 in
theorem clone_nilL (w : World) : Calls Try.prog 39 #[.slice none 0 0] w (ClonePost w 33 1 0 []) := by
  have hnil := fun w => Lib.run_eql_slice_nil (P := Try.prog) w 36 33 none 0 0 0 0 Try.underlying36
  go_enter Try.func39, Try.ntmps39
  go_wp2
  go_ret
  exact ⟨none, 0, rfl, Sl.nil _ _ _, Fr.refl _ _, .inl rfl⟩

set_option maxHeartbeats 400000 in
theorem clone_someL (a : Addr) (n c : Nat) (xs : List Value) (w : World) (hr : Rd w 1 (some a) n xs) (hn : n ≤ 4294967296) :
    Calls Try.prog 39 #[.slice (some a) n c] w (ClonePost w 33 1 n xs) := by
  have hnil := fun w => Lib.run_eql_slice_nil (P := Try.prog) w 36 33 (some a) n c 0 0 Try.underlying36
  have hr' := hr.alloc (.cells #[] 33)
  have h0 : Sl (w.alloc (.cells #[] 33)) 33 1 (some ⟨w.heap.size, 0, .none⟩) 0 0 [] := ⟨by simp, by simp, .inr ⟨w.heap.size, 0, #[], rfl, Blk.new w #[] 33, by omega, by simp [maxLen], by simp, by simp⟩⟩
  go_enter Try.func39, Try.ntmps39
  go_wp2_with (at_builtin; refine wpList_append_sl _ rfl _ _ 36 rfl elL _ 0 0 [] rfl h0 (some a) n c xs rfl hr'.len hr'.nil hr'.cells hr'.one (by simp only [maxLen]; omega) (by omega) ?_)
  intro s' c' w' g1 g2 g3
  try simp only [Nat.zero_add, List.nil_append] at g1
  go_wp2
  go_ret
  refine ⟨s', c', by simp, g1, (((Fr.refl emp w).alloc _).trans g2 ?_), ?_⟩
  · intro i hi e; simp [rowOf] at e; omega
  · rcases g3 with q | ⟨g, q1, q2⟩
    · exact .inr ⟨w.heap.size, by rw [q]; rfl, Nat.le_refl _⟩
    · exact .inr ⟨g, q1, by simp at q2; omega⟩

theorem cloneL {w0 w : World} {L : List As} {s : Option Addr} {n c : Nat} {xs : List Value} (hs : Sl w 33 1 s n c xs) (h : St w0 w L) (hn : n ≤ 4294967296) :
    Calls Try.prog 39 #[.slice s n c] w fun e w' => ∃ s' c', e = .returned (.slice s' n c') ∧ St w0 w' (As.row 33 1 s' n c' xs :: L) := by
  have key : Calls Try.prog 39 #[.slice s n c] w (ClonePost w 33 1 n xs) := by
    cases s with
    | some a => exact clone_someL a n c xs w hs.rd hn
    | none =>
      rcases hs.row with ⟨_, rfl, rfl⟩ | ⟨_, _, _, h, _⟩
      · rw [hs.empty]; exact clone_nilL w
      · cases h
  exact key.mono fun e w' ⟨s', c', he, q1, q2, q3⟩ => ⟨s', c', he, h.row_new q1 q2 q3⟩

set_option maxHeartbeats 400000 in
theorem popL {w0 w : World} {L : List As} {b n : Nat} {xs : List Value} (x : Option Addr) (xn xc : Nat) (h : St w0 w (qObj b 38 33 1 (n + 1) (.slice x xn xc :: xs) :: L)) (hn : n ≤ 4294967296) :
    Calls Try.prog 19 #[.pointer (some ⟨b, 0, none⟩)] w (RetSt (.tuple #[.slice x xn xc, .bool true]) w0 (qObj b 38 33 1 n xs :: L)) := by
  obtain ⟨s, c, h⟩ := q_open h
  have hc := h.cell 0
  have hs := h.swap.sl
  have hle := hs.le
  obtain ⟨s', hsl, hs', hr'⟩ := hs.cut_l elL 1 (by omega)
  obtain ⟨g, off, rfl, hcell, _, _⟩ := hs.some_of (by omega)
  simp at hc hsl hs'
  have hx := hcell 0 (by omega)
  simp at hx
  have H := Lib.hid h
  have HS := Lib.hid hs'
  clear hs hcell hr' h hs'
  go_enter Try.func19, Try.ntmps19
  go_wp2_with fail
  refine (peek_someL _ _ _ _ _ _ _ _ _ hc hx).mono ?_
  rintro e w' ⟨rfl, rfl⟩
  go_wp2_with fail
  refine (cloneL HS.out H.out hn).mono ?_
  rintro e w1 ⟨s2, c2, rfl, h1⟩
  have h2 := h1.swap
  have hc1 := h2.cell 0
  have hf1 := h2.free 0
  simp at hc1
  have H2 := Lib.hid h2
  clear h1 h2 hc hx hsl
  go_wp2_with fail
  go_ret2
  have h3 := H2.out.set 0 (.slice s2 n c2)
  exact ⟨rfl, q_shut (s := s2) (c := c2) (by simpa using h3.front2.drop)⟩

set_option maxHeartbeats 400000 in
theorem pop0L {w0 w : World} {L : List As} {b : Nat} {xs : List Value} (h : St w0 w (qObj b 38 33 1 0 xs :: L)) :
    Calls Try.prog 19 #[.pointer (some ⟨b, 0, none⟩)] w (RetSt (.tuple #[.slice none 0 0, .bool false]) w0 (qObj b 38 33 1 0 xs :: L)) := by
  have H := Lib.hid h
  obtain ⟨s, c, h⟩ := q_open h
  have hc := h.cell 0
  simp at hc
  clear h
  go_enter Try.func19, Try.ntmps19
  go_wp2_with fail
  refine (peek_noneL _ _ _ _ hc).mono ?_
  rintro e w' ⟨rfl, rfl⟩
  go_wp2_with fail
  go_ret2
  exact ⟨rfl, H.out⟩

end Go.Proofs.Ytkddkbjgnndflaa
