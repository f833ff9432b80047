/-
  PaintDraws: slices.Repeat of a list of one rune, any count up to 13.
-/
import Derived.Test.YtifgjccnhbbadaaNi
import Derived.Deep.RegionLaw
set_option linter.unusedVariables false
set_option linter.unusedSimpArgs false
namespace Go.Proofs.Ytifgjccnhbbadaa
open Go.RowKit Go.K Go.PlainAid Go.Lib

set_option maxHeartbeats 4000000 in
theorem mul64_n (n : Nat) (w : World) (hn : n ≤ 13) : Calls Try.prog 36 #[.int .u64 1, .int .u64 (n : Nat)] w fun e w' => e = .returned (.tuple #[.int .u64 0, .int .u64 (n : Nat)]) ∧ Below w.heap.size w w' := by
  have h : n = 0 ∨ n = 1 ∨ n = 2 ∨ n = 3 ∨ n = 4 ∨ n = 5 ∨ n = 6 ∨ n = 7 ∨ n = 8 ∨ n = 9 ∨ n = 10 ∨ n = 11 ∨ n = 12 ∨ n = 13 := by omega
  rcases h with rfl | rfl | rfl | rfl | rfl | rfl | rfl | rfl | rfl | rfl | rfl | rfl | rfl | rfl
  all_goals
    go_enter Try.func36, Try.ntmps36
    go_wp2_with fail
    refine bodyPost_ret (v := .tuple #[.int .u64 0, .int .u64 _]) (by simp [results, Try.results36, go_sem] <;> kernel_rfl) rfl ⟨rfl, Below.refl _ _⟩
theorem mul_n (n : Nat) (w : World) (hn : n ≤ 13) : Calls Try.prog 27 #[.int .u64 1, .int .u64 (n : Nat)] w fun e w' => e = .returned (.tuple #[.int .u64 0, .int .u64 (n : Nat)]) ∧ Below w.heap.size w w' := by
  go_enter Try.func27, Try.ntmps27
  go_wp2_with (go_at_call 36; refine (mul64_n n _ hn).mono ?_; rintro e w3 ⟨rfl, hb3⟩)
  refine bodyPost_ret (v := .tuple #[.int .u64 0, .int .u64 (n : Nat)]) (by simp [results, Try.results27, go_sem]) rfl ⟨rfl, hb3⟩

def rp (p n : Nat) : Array Value := (List.replicate p (Value.int .i32 32) ++ List.replicate (n - p) (Value.int .i32 0)).toArray
theorem rp_size (p n : Nat) (h : p ≤ n) : (rp p n).size = n := by simp [rp]; omega
theorem rp_set (p n : Nat) (h : p < n) : (rp p n).setIfInBounds p (.int .i32 32) = rp (p + 1) n := by
  obtain ⟨m, rfl⟩ : ∃ m, n = p + 1 + m := ⟨n - (p + 1), by omega⟩
  unfold rp
  rw [show p + 1 + m - p = m + 1 by omega, show p + 1 + m - (p + 1) = m by omega, List.replicate_succ, List.replicate_succ', List.append_assoc]
  apply Array.ext'
  rw [Array.toList_setIfInBounds]
  show List.set _ p _ = _
  rw [List.set_append_right _ _ (by simp)]
  simp
def putAt (cs : Array Value) : Nat → List Value → Array Value
  | _, [] => cs
  | o, v :: r => putAt (cs.setIfInBounds o v) (o + 1) r
theorem st_setAt {w0 : World} {L : List As} {b : Nat} {t : TypeId} : ∀ (vs : List Value) (off : Nat) (w : World) (cs : Array Value), St w0 w (As.cells b cs t :: L) → St w0 (w.setCells b off vs) (As.cells b (putAt cs off vs) t :: L)
  | [], _, _, _, h => h
  | v :: r, off, w, cs, h => st_setAt r (off + 1) _ _ (h.set off v)
theorem rp_put (n : Nat) : ∀ (q p : Nat), p + q ≤ n → putAt (rp p n) p (List.replicate q (.int .i32 32)) = rp (p + q) n
  | 0, p, _ => rfl
  | q + 1, p, h => by
    rw [List.replicate_succ]
    show putAt ((rp p n).setIfInBounds p _) (p + 1) _ = _
    rw [rp_set p n (by omega), rp_put n q (p + 1) (by omega), show p + 1 + q = p + (q + 1) by omega]
theorem rp_made (n : Nat) : madeCells (Value.int .i32 0).cells n = rp 0 n := by
  unfold rp
  apply Array.ext
  · rw [size_madeCells]; simp
  · intro i h1 h2
    simp [madeCells, Value.cells, Nat.mod_one]
theorem mk_n (n : Nat) (w : World) (hn : n ≤ 13) : (Instr.makeSlice 55 (.int .i64 (n : Nat)) (.int .i64 (n : Nat))).run Try.prog w = .ok (.slice (some ⟨w.heap.size, 0, none⟩) n n) (w.alloc (.cells (rp 0 n) 21)) := by
  obtain ⟨i, hi, h1, h2, h3⟩ := info_parts infoRune
  have := run_makeSlice (P := Try.prog) (w := w) 55 21 i (.int .i32 0) (by kernel_rfl) hi h1 .i64 .i64 n n (by omega) (by omega) (by rw [h2]; omega) (by rw [h3]; omega) (by omega)
  rw [h2, Int.toNat_natCast, Nat.mul_one, rp_made] at this
  exact this
section
variable {P : Program} {w : World} {ops : Array Oper} {o : Oper} {a : Act} {K : Act → World → Prop} {Q : Exit → Act → World → Prop} {E : Prop}
theorem step_copy_eq (hgd : o.guard = none) (so x : Operand) (t t' : TypeId) (ho : o.op = .call { callee := .builtin .copy, args := #[so, x], argTypes := #[t, t'] }) (vs vx v : Value) (w' : World) (hs : a.eval so = vs) (hx : a.eval x = vx)
    (hr : (Builtin.copy_ #[t, t'] o.type #[vs, vx]).run P w = .ok v w') (h : K (a.put o.dst v) w') :
    if Region.wanted o (yielded ops a.tmps) = true then Oper.wp P o a w K Q else E := by
  have hw : Region.wanted o (yielded ops a.tmps) = true := by simp [Region.wanted, hgd]
  rw [if_pos hw]
  unfold Oper.wp execOp
  simp only [ho, resolve, invoke, builtin, Sem.run_bind, Sem.run_pure, Result.andThen_ok, List.map_toArray, List.map_cons, List.map_nil, hs, hx, hr]
  exact h
end
set_option maxRecDepth 100000 in
set_option maxHeartbeats 20000000 in
theorem repeat_n (n : Nat) (hn : n ≤ 13) {w0 w : World} {L : List As} {s : Option Addr} {c : Nat} (h : St w0 w L) (hs : Rd w 1 s 1 [.int .i32 32]) : Calls Try.prog 16 #[.slice s 1 c, .int .i64 (n : Nat)] w fun e w' => ∃ s' c', e = .returned (.slice s' n c') ∧ St w0 w' (As.row 21 1 s' n c' (List.replicate n (.int .i32 32)) :: L) := by
  obtain ⟨g, off, rfl, hc⟩ := hs.addr (by decide)
  have c0 := hc 0 _ rfl
  simp only [Nat.add_zero] at c0
  have H := Lib.hid h
  clear h hc hs
  have hnn : ¬ (n : Int) < 0 := by omega
  have hn9 : ¬ (9223372036854775807 : Int) < (n : Int) := by omega
  go_enter Try.func16, Try.ntmps16
  go_upto_region 6 with (go_at_call 27; refine (mul_n n _ hn).mono ?_; rintro e w3 ⟨rfl, hb3⟩; have c0 := bel_cell hb3 c0; have H := Lib.hid (H.out.of_below hb3))
  have hmk := fun w => mk_n n w hn
  go_upto_region 7 with fail
  clear hmk
  have H1 := Lib.hid (H.out.new (rp 0 n) 21)
  obtain ⟨q, hq⟩ : ∃ q, Nat.min 1 n = q := ⟨_, rfl⟩
  have hq1 : q ≤ 1 := by rw [← hq]; exact Nat.min_le_left _ _
  have hqn : q ≤ n := by rw [← hq]; exact Nat.min_le_right _ _
  have hq0 : n = 0 ∨ 1 ≤ q := by rw [← hq]; rcases Nat.eq_zero_or_pos n with e | e; exact .inl e; exact .inr (Nat.le_min.2 ⟨Nat.le_refl _, e⟩)
  have hcp := Lib.hid (fun ty => run_copy_any (P := Try.prog) (w3.alloc (.cells (rp 0 n) 21)) elRune 55 ty w3.heap.size 0 n n ⟨g, off, none⟩ 1 c q hq (List.replicate q (.int .i32 32)) (by simp) (fun j v hj => by
    have hj1 := (List.getElem?_eq_some_iff.1 hj).1
    simp at hj1
    have : j = 0 := by omega
    subst this
    rw [List.getElem?_replicate, if_pos hj1] at hj
    cases hj
    exact bel_cell ((Below.refl _ _).alloc (Nat.le_refl _) _) c0) (fun j hj => by rw [(H1.out.cell (0 + j))]; simp at hj; rw [Array.getElem?_eq_getElem (by rw [rp_size _ _ (Nat.zero_le _)]; omega)]; rfl) (fun j hj => H1.out.free _) (by intro v hv; rw [List.eq_of_mem_replicate hv]; rfl))
  go_wp2_with (refine wpList_copy_eq rfl _ _ 55 55 rfl _ _ _ rfl rfl (hcp.out _) ?_)
  have H2 := Lib.hid (st_setAt (List.replicate q (.int .i32 32)) 0 _ _ H1.out)
  rw [rp_put n q 0 (by omega), Nat.zero_add] at H2
  obtain ⟨b, hb⟩ : ∃ b, w3.heap.size = b := ⟨_, rfl⟩
  rw [hb] at H2 ⊢
  go_loopg [8] (n - q) (fun g v wr => ∃ p : Nat, g = n - p ∧ p ≤ n ∧ (n = 0 ∨ 1 ≤ p) ∧ v = .int .i64 p ∧ St w0 wr (As.cells b (rp p n) 21 :: L))
  case atStart => exact ⟨q, rfl, hqn, hq0, rfl, H2.out⟩
  case round =>
    obtain ⟨p, hg, hp, hp0, rfl, h3⟩ := hrel
    have Hg := Lib.hid hg
    have H3 := Lib.hid h3
    clear hg h3
    by_cases hpn : p < n
    · have hpI : (p : Int) < (n : Int) := by omega
      have hp1 : 1 ≤ p := by omega
      have s1 := fun W => slice_l_some (P := Try.prog) elRune b 0 n n p hpn hp .i64 W
      have s2 := fun W => slice_h_some (P := Try.prog) elRune b 0 n n p (by omega) hp .i64 W
      rw [Nat.zero_add, Nat.mul_one] at s1
      obtain ⟨m, hm⟩ : ∃ m, Nat.min p (n - p) = m := ⟨_, rfl⟩
      have hm1 : 1 ≤ m := by rw [← hm]; exact Nat.le_min.2 ⟨hp1, by omega⟩
      have hm5 : m ≤ n - p := by rw [← hm]; exact Nat.min_le_right _ _
      have hm2 : p + m ≤ n := by omega
      have hm3 : m ≤ p := by rw [← hm]; exact Nat.min_le_left _ _
      have hadd := wrapS (a := (p : Int) + m) (by omega) (by omega)
      have hcp2 := run_copy_any (P := Try.prog) wr.drew elRune 55 3 b p (n - p) (n - p) ⟨b, 0, none⟩ p n m hm (List.replicate m (.int .i32 32)) (by simp) (fun j v hj => by
        have hj1 := (List.getElem?_eq_some_iff.1 hj).1
        simp at hj1
        rw [List.getElem?_replicate, if_pos hj1] at hj
        cases hj
        have hjp : j < p := by omega
        rw [Addr.add_lit, Nat.zero_add, H3.out.drew.cell j]
        unfold rp
        simp [List.getElem?_append, hjp]) (fun j hj => by rw [(H3.out.drew.cell (p + j))]; simp at hj; rw [Array.getElem?_eq_getElem (by rw [rp_size _ _ hp]; omega)]; rfl) (fun j hj => H3.out.drew.free _) (by intro v hv; rw [List.eq_of_mem_replicate hv]; rfl)
      have h4 := st_setAt (List.replicate m (.int .i32 32)) p _ _ H3.out.drew
      rw [rp_put n m p hm2] at h4
      have H4 := Lib.hid h4
      clear hm h4 hcp c0 H2 H1 H hm5
      go_upto_region 9 with fail
      clear hnn hn9
      go_region
      all_goals
        go_wp2_with fail
        go_roundg (n - (p + m))
        case measure => have := Hg.out; omega
        case rel => exact ⟨p + m, rfl, hm2, .inr (by omega), by rw [Int.natCast_add], H4.out⟩
    · have hpe : p = n := by omega
      subst hpe
      have hpI : ¬ (p : Int) < (p : Int) := by omega
      go_wp2_with fail
      go_ret
      have H4 := H3.out.to_row (sz := 1) (n := p) (c := p) (by intro u hu; simp [rp] at hu; rw [hu.2]; rfl) (Nat.le_refl _) (by unfold maxLen; omega) (by rw [rp_size _ _ (Nat.le_refl _)]; omega)
      refine ⟨_, _, rfl, ?_⟩
      have e : (rp p p).toList.take (p * 1) = List.replicate p (.int .i32 32) := by unfold rp; simp
      rw [e] at H4
      exact H4
end Go.Proofs.Ytifgjccnhbbadaa
