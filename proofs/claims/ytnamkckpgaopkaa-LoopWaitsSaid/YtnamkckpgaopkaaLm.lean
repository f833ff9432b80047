/-
  ClearTimer and Cancel of a State.
-/
import Derived.Test.YtnamkckpgaopkaaLl
set_option linter.unusedVariables false
set_option linter.unusedSimpArgs false
namespace Go.Proofs.Ytnamkckpgaopkaa
open Go.RowKit Go.K

theorem flat_erase {α : Type} (f : α → List Value) (l : List α) (i : Nat) : flat f (l.eraseIdx i) = flat f (l.take i) ++ flat f (l.drop (i + 1)) := by
  rw [List.eraseIdx_eq_take_drop_succ, flat_append]
theorem flat_at3 {α : Type} (f : α → List Value) (l : List α) (i : Nat) (hi : i < l.length) : flat f l = flat f (l.take i) ++ f l[i] ++ flat f (l.drop (i + 1)) := by
  have e : l = l.take i ++ l[i] :: l.drop (i + 1) := by rw [← List.drop_eq_getElem_cons hi, List.take_append_drop]
  conv => lhs; rw [e]
  rw [flat_append, flat_cons, List.append_assoc]
/-- an element is struck out of a row -/
theorem del_c {w0 w : World} {L : List As} {s : Option Addr} {c n : Nat} {l : List Cl} (i : Nat) (hi : i < l.length) (a a' : Int) (ha : a = i) (ha' : a' = (i : Int) + 1) (hl : l.length = n) (hn : n ≤ 100000) (h : St w0 w (As.row 48 7 s n c (flat Cl.cells l) :: L)) :
    Calls Try.prog 36 #[.slice s n c, .int .i64 a, .int .i64 a'] w fun e w' => ∃ s' c', e = .returned (.slice s' (n - 1) c') ∧ St w0 w' (As.row 48 7 s' (n - 1) c' (flat Cl.cells (l.eraseIdx i)) :: L) := by
  rw [flat_at3 Cl.cells l i hi] at h
  refine (deleteC a a' i (n - (i + 1)) (n - 1) _ _ _ h (by rw [flat_len (sz := 7) lenC]; simp; omega) rfl (by rw [flat_len (sz := 7) lenC]; simp [hl]) (by omega) (by omega) ha ha' (by omega)).mono fun e w' hh => ?_
  obtain ⟨s', c', rfl, h3⟩ := hh
  exact ⟨s', c', rfl, by rw [flat_erase]; exact h3⟩
theorem del_h {w0 w : World} {L : List As} {s : Option Addr} {c n : Nat} {l : List Hs} (i : Nat) (hi : i < l.length) (a a' : Int) (ha : a = i) (ha' : a' = (i : Int) + 1) (hl : l.length = n) (hn : n ≤ 100000) (h : St w0 w (As.row 63 5 s n c (flat Hs.cells l) :: L)) :
    Calls Try.prog 40 #[.slice s n c, .int .i64 a, .int .i64 a'] w fun e w' => ∃ s' c', e = .returned (.slice s' (n - 1) c') ∧ St w0 w' (As.row 63 5 s' (n - 1) c' (flat Hs.cells (l.eraseIdx i)) :: L) := by
  rw [flat_at3 Hs.cells l i hi] at h
  refine (deleteH a a' i (n - (i + 1)) (n - 1) _ _ _ h (by rw [flat_len (sz := 5) lenH]; simp; omega) rfl (by rw [flat_len (sz := 5) lenH]; simp [hl]) (by omega) (by omega) ha ha' (by omega)).mono fun e w' hh => ?_
  obtain ⟨s', c', rfl, h3⟩ := hh
  exact ⟨s', c', rfl, by rw [flat_erase]; exact h3⟩
/-- a timer is struck out -/
def remT (ts : List Tm) (id : Int) : List Tm := match ts.findIdx? (fun t => t.id == id) with
  | none => ts
  | some k => ts.eraseIdx k
theorem trem_r {w0 w : World} {L : List As} {b : Nat} {v : Nat → Value} {ts : List Tm} {nx : Int} (id : Int) (h : St w0 w (tObj b v ts nx :: L)) (hn : ts.length ≤ 100000) :
    Calls Try.prog 37 #[.pointer (some ⟨b, 8, none⟩), .int .i64 id] w fun e w' => (∃ r, e = .returned (.bool r)) ∧ St w0 w' (tObj b v (remT ts id) nx :: L) := by
  refine (trem_st id h hn).mono ?_
  rintro e w' (⟨k, hk, h1, h2, rfl, h3⟩ | ⟨h1, rfl, h3⟩)
  · have hf : ts.findIdx? (fun t => t.id == id) = some k := by
      rw [List.findIdx?_eq_some_iff_getElem]
      exact ⟨hk, by simp [h1], fun j hj => by simpa using h2 j hj⟩
    rw [remT, hf]
    exact ⟨⟨_, rfl⟩, h3⟩
  · have hf : ts.findIdx? (fun t => t.id == id) = none := by
      rw [List.findIdx?_eq_none_iff]
      intro x hx
      simpa using h1 x hx
    rw [remT, hf]
    exact ⟨⟨_, rfl⟩, h3⟩
def clearB (S : LS) (id : Int) : Bool := (S.calls.findIdx? (fun c => c.id == id)).isSome
def clearS (S : LS) (id : Int) : LS := match S.calls.findIdx? (fun c => c.id == id) with
  | none => S
  | some i => { S with calls := S.calls.eraseIdx i, tm := remT S.tm id }
set_option maxRecDepth 100000 in
set_option maxHeartbeats 1000000 in
theorem clear_st {w0 w : World} {L : List As} {b : Nat} {S : LS} (id : Int) (h : St w0 w (stO b S :: L)) (hn : S.calls.length ≤ 100000) (hm : S.tm.length ≤ 100000) :
    Calls Try.prog 16 #[.pointer (some ⟨b, 0, none⟩), .int .i64 id] w (RetSt (.bool (clearB S id)) w0 (stO b (clearS S id) :: L)) := by
  unfold clearB clearS
  have H := Lib.hid h
  clear h
  cases hf : S.calls.findIdx? (fun c => c.id == id) with
  | none =>
    have hix : ixC S.calls id = -1 := by simp [ixC, hf]
    have HIX := Lib.hid hix
    clear hf hix
    go_enter Try.func16, Try.ntmps16
    go_wp2_with (go_at_call 35; refine (call_st id H.out hn).mono ?_; rintro e w1 ⟨rfl, hb⟩; have H1 := Lib.hid (H.out.of_below hb); clear hb; simp only [HIX.out])
    go_ret
    exact ⟨rfl, H1.out⟩
  | some i =>
    have hix : ixC S.calls id = i := by simp [ixC, hf]
    have hi : i < S.calls.length := (List.findIdx?_eq_some_iff_getElem.1 hf).1
    have HIX := Lib.hid hix
    have hi0 : (0 : Int) ≤ (i : Int) := by omega
    have hi1 : (i : Int) ≤ 100000 := by omega
    clear hf hix
    go_enter Try.func16, Try.ntmps16
    go_upto_region 4 with (go_at_call 35; refine (call_st id H.out hn).mono ?_; rintro e w1 ⟨rfl, hb⟩; have H1 := Lib.hid (H.out.of_below hb); clear hb; simp only [HIX.out])
    obtain ⟨p, G, hb, h1⟩ := st_open H1.out
    have HB := Lib.hid (show BagOk { S with calls := S.calls.eraseIdx i, tm := remT S.tm id } G from ⟨fun c hc => hb.calls c (List.mem_of_mem_eraseIdx hc), hb.jobs⟩)
    obtain ⟨-, -, c10, -⟩ := st_s h1
    have H2 := Lib.hid (foc_c h1).swap
    clear h1 hb
    have hp : S.calls.length - 1 = (S.calls.eraseIdx i).length := by rw [List.length_eraseIdx_of_lt hi]
    have HP := Lib.hid hp
    clear hp
    go_upto_region 5 with (go_at_call 36; refine (del_c i hi _ _ rfl rfl rfl hn H2.out).mono ?_; rintro e w2 ⟨s2, c2, rfl, h3⟩; have H3 := Lib.hid h3.swap; clear h3 c10; have c10 := H3.out.cell 10; have f10 := H3.out.free 10; simp [stc] at c10)
    have h4 := H3.out.set 10 (.slice s2 (S.calls.length - 1) c2)
    obtain ⟨W4, hW4⟩ : ∃ W4, w2.setCell ⟨b, 10, none⟩ (.slice s2 (S.calls.length - 1) c2) = W4 := ⟨_, rfl⟩
    rw [hW4] at h4
    rw [hW4]
    have H4 := Lib.hid (unf_c (S.calls.eraseIdx i) HP.out.symm h4)
    clear h4 hW4 c10 f10
    go_upto_region 6 with (go_at_call 37; refine (trem_r id (foc_t H4.out) hm).mono ?_; rintro e w5 ⟨⟨r, rfl⟩, h5⟩; have H5 := Lib.hid (unf_t h5); clear h5)
    go_wp2_with fail
    go_ret
    obtain ⟨p5, h5⟩ := H5.out
    exact ⟨rfl, st_shut HB.out h5⟩
def cancelS (S : LS) (id : Int) : LS := match S.shots.findIdx? (fun c => c.id == id) with
  | none => S
  | some i => { S with shots := S.shots.eraseIdx i }
def cancelB (S : LS) (id : Int) : Bool := (S.shots.findIdx? (fun c => c.id == id)).isSome
set_option maxRecDepth 100000 in
set_option maxHeartbeats 1000000 in
theorem cancel_st {w0 w : World} {L : List As} {b : Nat} {S : LS} (id : Int) (h : St w0 w (stO b S :: L)) (hn : S.shots.length ≤ 100000) :
    Calls Try.prog 19 #[.pointer (some ⟨b, 0, none⟩), .int .i64 id] w (RetSt (.bool (cancelB S id)) w0 (stO b (cancelS S id) :: L)) := by
  unfold cancelB cancelS
  obtain ⟨p, G, hb, h0⟩ := st_open h
  have HB := Lib.hid hb
  have h1 := st_in (h0.new #[.int .i64 id] 3)
  have H1 := Lib.hid h1
  have HS := Lib.hid (((foc_h h0).swap.sl).alloc (.cells #[.int .i64 id] 3)).rd
  obtain ⟨-, -, -, c11⟩ := st_s h0
  have hlt := h0.blk.1.lt
  clear h h0 h1 hb
  cases hf : S.shots.findIdx? (fun c => c.id == id) with
  | none =>
    have hix : ixH S.shots id = -1 := by simp [ixH, hf]
    have HIX := Lib.hid hix
    clear hf hix
    go_enter Try.func19, Try.ntmps19
    go_wp2_with (go_at_call 38; refine (idxH (p 8).1 S.shots.length (p 8).2 S.shots id w.heap.size _ HS.out rfl (by simp) (by omega)).mono ?_; rintro e w1 ⟨rfl, hb⟩; have H2 := Lib.hid (H1.out.of_below hb); clear hb; simp only [HIX.out])
    go_ret
    exact ⟨rfl, st_shut HB.out (st_drop1 H2.out)⟩
  | some i =>
    have hix : ixH S.shots id = i := by simp [ixH, hf]
    have hi : i < S.shots.length := (List.findIdx?_eq_some_iff_getElem.1 hf).1
    have HIX := Lib.hid hix
    have hi0 : (0 : Int) ≤ (i : Int) := by omega
    have hi1 : (i : Int) ≤ 100000 := by omega
    clear hf hix
    go_enter Try.func19, Try.ntmps19
    go_upto_region 3 with (go_at_call 38; refine (idxH (p 8).1 S.shots.length (p 8).2 S.shots id w.heap.size _ HS.out rfl (by simp) (by omega)).mono ?_; rintro e w1 ⟨rfl, hb⟩; have H2 := Lib.hid (H1.out.of_below hb); clear hb; simp only [HIX.out])
    obtain ⟨-, -, -, c11⟩ := st_s H2.out
    have H3 := Lib.hid (foc_h H2.out).swap
    have hp : S.shots.length - 1 = (S.shots.eraseIdx i).length := by rw [List.length_eraseIdx_of_lt hi]
    have HP := Lib.hid hp
    clear hp
    go_upto_region 4 with (go_at_call 40; refine (del_h i hi _ _ rfl rfl rfl hn H3.out).mono ?_; rintro e w2 ⟨s2, c2, rfl, h3⟩; have H4 := Lib.hid h3.swap; clear h3; have d11 := H4.out.cell 11; have f11 := H4.out.free 11; simp [stc] at d11)
    have h4 := H4.out.set 11 (.slice s2 (S.shots.length - 1) c2)
    obtain ⟨W4, hW4⟩ : ∃ W4, w2.setCell ⟨b, 11, none⟩ (.slice s2 (S.shots.length - 1) c2) = W4 := ⟨_, rfl⟩
    rw [hW4] at h4
    rw [hW4]
    have H5 := Lib.hid (unf_h (S.shots.eraseIdx i) HP.out.symm h4)
    clear h4 hW4 d11 f11
    go_wp2_with fail
    go_ret
    refine ⟨by simp, st_shut (G := G) ⟨HB.out.calls, HB.out.jobs⟩ (st_drop1 H5.out)⟩

end Go.Proofs.Ytnamkckpgaopkaa
