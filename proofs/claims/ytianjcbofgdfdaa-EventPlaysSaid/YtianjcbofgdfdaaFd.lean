/-
  Contract of act: what happens during a call.
-/
import Derived.Test.YtianjcbofgdfdaaEu
set_option linter.unusedVariables false
set_option linter.unusedSimpArgs false
namespace Go.Proofs.Ytianjcbofgdfdaa
open Go.RowKit Go.K Go.K.Ev

structure Ac where
  at' : Int
  kind : Int
  x : Li
def acells (a : Ac) : List Value := .int .u8 a.at' :: .int .u8 a.kind :: lcells a.x
def act1 (m : Int) (p : Dp × Ls) (a : Ac) : Dp × Ls :=
  if a.at' = m then
    (if a.kind % 6 = 1 then (p.1, p.2.add a.x) else if a.kind % 6 = 2 then (p.1, p.2.remove a.x) else if a.kind % 6 = 3 then ({ p.1 with stop := true }, p.2)
      else if a.kind % 6 = 4 then ({ p.1 with stop := true, halt := true }, p.2) else if a.kind % 6 = 5 then ({ p.1 with prev := prevB p.1 }, p.2) else p)
  else p
def actF (m : Int) (p : Dp × Ls) (acs : List Ac) : Dp × Ls := acs.foldl (act1 m) p
theorem actF_succ (m : Int) (p : Dp × Ls) (acs : List Ac) (k : Nat) (hk : k < acs.length) : actF m p (acs.take (k + 1)) = act1 m (actF m p (acs.take k)) acs[k] := by
  unfold actF
  rw [List.take_succ_eq_append_getElem hk, List.foldl_append]; rfl
theorem add_le (S : Ls) (x : Li) : (S.add x).l.length ≤ S.l.length + 1 ∧ S.nx ≤ (S.add x).nx ∧ (S.add x).nx ≤ S.nx + 1 := by
  unfold Ls.add
  split
  · simp; omega
  · simp; omega
theorem remove_le (S : Ls) (x : Li) : (S.remove x).l.length ≤ S.l.length ∧ (S.remove x).nx = S.nx := by
  unfold Ls.remove
  split
  · exact ⟨List.length_eraseIdx_le _ _, rfl⟩
  · exact ⟨Nat.le_refl _, rfl⟩
theorem act1_le (m : Int) (p : Dp × Ls) (a : Ac) : (act1 m p a).2.l.length ≤ p.2.l.length + 1 ∧ p.2.nx ≤ (act1 m p a).2.nx ∧ (act1 m p a).2.nx ≤ p.2.nx + 1 := by
  have h1 := add_le p.2 a.x
  have h2 := remove_le p.2 a.x
  unfold act1
  repeat' split
  all_goals first | exact h1 | (simp only; omega) | omega
theorem actF_le (m : Int) (p : Dp × Ls) (acs : List Ac) (k : Nat) : (actF m p (acs.take k)).2.l.length ≤ p.2.l.length + k ∧ p.2.nx ≤ (actF m p (acs.take k)).2.nx ∧ (actF m p (acs.take k)).2.nx ≤ p.2.nx + k := by
  induction k with
  | zero => simp [actF]
  | succ k ih =>
    by_cases hk : k < acs.length
    · rw [actF_succ m p acs k hk]
      have := act1_le m (actF m p (acs.take k)) acs[k]
      omega
    · rw [List.take_of_length_le (by omega)] at ih ⊢
      omega

theorem a_at {w : World} {g off n : Nat} {ls : List Ac} (hs : Rd w 10 (some ⟨g, off, none⟩) n (flat acells ls)) {k : Nat} (hk : k < ls.length) (x : Ac) (hx : ls[k] = x) :
    w.cell? ⟨g, off + k * 10, none⟩ = some (.int .u8 x.at') ∧ w.cell? ⟨g, off + k * 10 + 1, none⟩ = some (.int .u8 x.kind) ∧ w.cell? ⟨g, off + k * 10 + 2, none⟩ = some (.int .i64 x.x.id) ∧ w.cell? ⟨g, off + k * 10 + 2 + 1, none⟩ = some (.int .i64 x.x.tg.kind) ∧ w.cell? ⟨g, off + k * 10 + 2 + 1 + 1, none⟩ = some (.int .i64 x.x.tg.id) ∧
      w.cell? ⟨g, off + k * 10 + 2 + 3, none⟩ = some (.string x.x.ty) ∧ w.cell? ⟨g, off + k * 10 + 2 + 4, none⟩ = some (.int .i64 x.x.cb) ∧ w.cell? ⟨g, off + k * 10 + 2 + 5, none⟩ = some (.bool x.x.cap) ∧ w.cell? ⟨g, off + k * 10 + 2 + 6, none⟩ = some (.bool x.x.once) ∧ w.cell? ⟨g, off + k * 10 + 2 + 7, none⟩ = some (.bool x.x.pas) := by
  have e := fun j hj => flat_at (f := acells) (sz := 10) (fun _ => rfl) ls k j hk hj
  rw [hx] at e
  have c := fun j u h => hs.cells _ rfl j u h
  simp only [Addr.add_lit] at c
  have q := fun j hj => c _ _ ((e j hj).trans (List.getElem?_eq_getElem (by show j < 10; exact hj)))
  simp only [← Nat.add_assoc] at q
  exact ⟨by have := q 0 (by omega); rwa [Nat.add_zero] at this, q 1 (by omega), q 2 (by omega), q 3 (by omega), q 4 (by omega), q 5 (by omega), q 6 (by omega), q 7 (by omega), q 8 (by omega), q 9 (by omega)⟩

def ActRel (w0 : World) (L : List As) (b lb : Nat) (m : Int) (p : Dp × Ls) (acs : List Ac) (g : Nat) (v : Value) (wr : World) : Prop :=
  ∃ k : Nat, g = acs.length - k ∧ k ≤ acs.length ∧ v = .int .i64 k ∧ St w0 wr (dObj b (actF m p (acs.take k)).1 :: lObj lb (actF m p (acs.take k)).2 :: L)
def ActPost (b lb : Nat) (p : Dp × Ls) (w0 : World) (L : List As) (E : Ending) (w' : World) : Prop := E = .returned (.tuple #[]) ∧ St w0 w' (dObj b p.1 :: lObj lb p.2 :: L)

set_option maxRecDepth 100000 in
set_option maxHeartbeats 2000000 in
theorem act_st {w0 w : World} {L : List As} {b lb : Nat} {d : Dp} {S : Ls} (s : Option Addr) (c : Nat) (acs : List Ac) (m : Int) (h : St w0 w (dObj b d :: lObj lb S :: L)) (hr : Rd w0 10 s acs.length (flat acells acs))
    (hk : ∀ a ∈ acs, 0 ≤ a.kind ∧ 0 ≤ a.at' ∧ a.at' < 256) (hn : S.l.length + acs.length ≤ 10000) (hx : 0 ≤ S.nx) (hx2 : S.nx ≤ 100000) :
    Calls Try.prog 25 #[.pointer (some ⟨b, 0, none⟩), .pointer (some ⟨lb, 0, none⟩), .slice s acs.length c, .int .i64 m] w (ActPost b lb (actF m (d, S) acs) w0 L) := by
  have H := Lib.hid h
  have HR := Lib.hid hr
  have HK := Lib.hid hk
  clear h hr hk
  go_enter Try.func25, Try.ntmps25
  go_wp2_with fail
  go_loopg [11] acs.length (ActRel w0 L b lb m (d, S) acs)
  case atStart => exact ⟨0, rfl, Nat.zero_le _, rfl, H.out⟩
  case round =>
    obtain ⟨k, hg, hk, rfl, hp⟩ := hrel
    have Hg := Lib.hid hg
    have hle := actF_le m (d, S) acs k
    have HSu := fun hk => Lib.hid (actF_succ m (d, S) acs k hk)
    obtain ⟨P, hP⟩ : ∃ P, actF m (d, S) (acs.take k) = P := ⟨_, rfl⟩
    rw [hP] at hp hle
    have Hp := Lib.hid hp
    have HPP := Lib.hid hP
    simp only at hle
    clear hg hp hP H
    by_cases hkn : k < acs.length
    · have hr := HR.out.below Hp.out.bel
      obtain ⟨g1, o1, rfl, -⟩ := hr.addr (by omega)
      obtain ⟨x, hx⟩ : ∃ x, acs[k] = x := ⟨_, rfl⟩
      obtain ⟨d0, d1, d2, d3, d4, d5, d6, d7, d8, d9⟩ := a_at hr hkn x hx
      have hsu := (HSu hkn).out
      rw [HPP.out, hx] at hsu
      have hkk := HK.out x (by rw [← hx]; exact List.getElem_mem hkn)
      have HS1 := Lib.hid hsu
      have hkn' : (k : Int) < (acs.length : Int) := by omega
      have hk0 : (0 : Int) ≤ (k : Int) := by omega
      obtain ⟨xa, xk, ⟨x0, ⟨x1, x2⟩, x3, x4, x5, x6, x7⟩⟩ := x
      simp only at d0 d1 d2 d3 d4 d5 d6 d7 d8 d9 hkk
      obtain ⟨D, T⟩ := P
      simp only at hle Hp
      have hwa : IntKind.i64.wrap xa = xa := by rw [IntKind.wrap_i64]; omega
      have hcase : (xa == m) = false ∨ ((xa == m) = true ∧ (xk % 6 = 0 ∨ xk % 6 = 1 ∨ xk % 6 = 2 ∨ xk % 6 = 3 ∨ xk % 6 = 4 ∨ xk % 6 = 5)) := by
        by_cases e : xa = m
        · refine .inr ⟨by simpa using e, ?_⟩
          omega
        · exact .inl (by simpa using e)
      have hmod : xk.tmod 6 = xk % 6 := Int.tmod_eq_emod_of_nonneg hkk.1
      have hli := Lib.hid (fun w2 => listener_any ⟨x0, ⟨x1, x2⟩, x3, x4, x5, x6, x7⟩ w2)
      have hAdd := Lib.hid (fun w2 (hb : Below wr.heap.size wr w2) => ladd_st ⟨x0, ⟨x1, x2⟩, x3, x4, x5, x6, x7⟩ (Hp.out.of_below hb).swap (by omega) (by omega) (by omega))
      have hRem := Lib.hid (fun w2 (hb : Below wr.heap.size wr w2) => lrem_st ⟨x0, ⟨x1, x2⟩, x3, x4, x5, x6, x7⟩ (Hp.out.of_below hb).swap (by omega))
      have hStop := Lib.hid (stop_st Hp.out)
      have hHalt := Lib.hid (halt_st Hp.out)
      have hPrev := Lib.hid (prevent_st Hp.out)
      unfold lval at hli hAdd hRem
      clear hr hx hsu HSu hkk
      rcases hcase with e1 | ⟨e1, e2 | e2 | e2 | e2 | e2 | e2⟩
      · have hres := Lib.hid (show act1 m (D, T) ⟨xa, xk, ⟨x0, ⟨x1, x2⟩, x3, x4, x5, x6, x7⟩⟩ = (D, T) by unfold act1; rw [if_neg (by simpa using e1)])
        clear hmod
        go_wp2_with fail
        go_roundg (acs.length - (k + 1))
        case measure => have := Hg.out; omega
        case rel => exact ⟨k + 1, rfl, by omega, by simp, by rw [HS1.out, hres.out]; exact Hp.out⟩
      all_goals
        rw [e2] at hmod
        have hxm : xa = m := by simpa using e1
        subst hxm
        have hres := Lib.hid (show act1 xa (D, T) ⟨xa, xk, ⟨x0, ⟨x1, x2⟩, x3, x4, x5, x6, x7⟩⟩ = _ by unfold act1; simp only [if_true, e2]; rfl)
        clear e1 e2
        go_wp2_with fail
      · go_roundg (acs.length - (k + 1))
        case measure => have := Hg.out; omega
        case rel => exact ⟨k + 1, rfl, by omega, by simp, by rw [HS1.out, hres.out]; exact Hp.out⟩
      · (with_reducible refine (hli.out _).mono ?_)
        rintro e w3 ⟨rfl, hb3⟩
        clear d0 d1 d2 d3 d4 d5 d6 d7 d8 d9
        go_wp2_with fail
        (with_reducible refine (hAdd.out _ hb3).mono ?_)
        rintro e w4 ⟨rfl, h4⟩
        have H4 := Lib.hid h4.swap
        clear h4
        go_wp2_with fail
        go_roundg (acs.length - (k + 1))
        case measure => have := Hg.out; omega
        case rel => exact ⟨k + 1, rfl, by omega, by simp, by rw [HS1.out, hres.out]; exact H4.out⟩
      · (with_reducible refine (hli.out _).mono ?_)
        rintro e w3 ⟨rfl, hb3⟩
        clear d0 d1 d2 d3 d4 d5 d6 d7 d8 d9
        go_wp2_with fail
        (with_reducible refine (hRem.out _ hb3).mono ?_)
        rintro e w4 ⟨rfl, h4⟩
        have H4 := Lib.hid h4.swap
        clear h4
        go_wp2_with fail
        go_roundg (acs.length - (k + 1))
        case measure => have := Hg.out; omega
        case rel => exact ⟨k + 1, rfl, by omega, by simp, by rw [HS1.out, hres.out]; exact H4.out⟩
      · (with_reducible refine hStop.out.mono ?_)
        rintro e w4 ⟨rfl, h4⟩
        have H4 := Lib.hid h4
        clear h4 d0 d1 d2 d3 d4 d5 d6 d7 d8 d9
        go_wp2_with fail
        go_roundg (acs.length - (k + 1))
        case measure => have := Hg.out; omega
        case rel => exact ⟨k + 1, rfl, by omega, by simp, by rw [HS1.out, hres.out]; exact H4.out⟩
      · (with_reducible refine hHalt.out.mono ?_)
        rintro e w4 ⟨rfl, h4⟩
        have H4 := Lib.hid h4
        clear h4 d0 d1 d2 d3 d4 d5 d6 d7 d8 d9
        go_wp2_with fail
        go_roundg (acs.length - (k + 1))
        case measure => have := Hg.out; omega
        case rel => exact ⟨k + 1, rfl, by omega, by simp, by rw [HS1.out, hres.out]; exact H4.out⟩
      · (with_reducible refine hPrev.out.mono ?_)
        rintro e w4 ⟨rfl, h4⟩
        have H4 := Lib.hid h4
        clear h4 d0 d1 d2 d3 d4 d5 d6 d7 d8 d9
        go_wp2_with fail
        go_roundg (acs.length - (k + 1))
        case measure => have := Hg.out; omega
        case rel => exact ⟨k + 1, rfl, by omega, by simp, by rw [HS1.out, hres.out]; exact H4.out⟩
    · obtain rfl : k = acs.length := by omega
      rw [List.take_length] at HPP
      have hpp := HPP.out
      subst hpp
      go_wp2_with fail
      go_end0
      exact ⟨rfl, Hp.out⟩
end Go.Proofs.Ytianjcbofgdfdaa
