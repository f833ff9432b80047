/-
  Contracts of the chapter's without.
-/
import Derived.Test.YtianjcbofgdfdaaFe
import Derived.Test.YtianjcbofgdfdaaEv
set_option linter.unusedVariables false
set_option linter.unusedSimpArgs false
namespace Go.Proofs.Ytianjcbofgdfdaa
open Go.RowKit Go.K Go.K.Ev

def WoPost (S : Ls) (i : Nat) (w : World) (E : Ending) (w' : World) : Prop :=
  ∃ s' c', E = .returned (mVal s' (S.l.eraseIdx i).length c' S.nx) ∧ Rc w' 8 s' (S.l.eraseIdx i).length c' (flat lcells (S.l.eraseIdx i)) ∧ NewAt w s' ∧ Below w.heap.size w w'
theorem wo_fin {w V w3 : World} {s2 : Option Addr} {c2 r i m : Nat} {S : Ls} (hb : Below w.heap.size w w3) (hl : (S.l.eraseIdx i).length = i + m)
    (o : Own V w3 55 8 s2 (i + m) c2 (flat lcells (S.l.eraseIdx i))) (h1 : r < V.heap.size) (h2 : w.heap.size ≤ r) :
    WoPost S i w (.returned (mVal s2 (i + m) c2 S.nx)) ((w3.setCell ⟨r, 0, none⟩ (.slice s2 (i + m) c2)).setCell ⟨r, 1, none⟩ (.int .i64 S.nx)) := by
  unfold WoPost
  rw [hl]
  refine ⟨s2, c2, rfl, ?_, (fun k hk => by have := o.row k hk; omega), (hb.setCell (p := ⟨r, 0, none⟩) h2 _).setCell (p := ⟨r, 1, none⟩) h2 _⟩
  exact ((o.put (p := ⟨r, 0, none⟩) h1 (.slice s2 (i + m) c2)).put o.row (p := ⟨r, 1, none⟩) h1 (.int .i64 S.nx)).rc

set_option maxRecDepth 100000 in
set_option maxHeartbeats 4000000 in
theorem without_any (s : Option Addr) (c : Nat) (S : Ls) (i : Nat) (w : World) (hs : Rc w 8 s S.l.length c (flat lcells S.l)) (hi : i < S.l.length) (hn : S.l.length ≤ 10000) :
    Calls Try.prog 46 #[mVal s S.l.length c S.nx, .int .i64 i] w (WoPost S i w) := by
  obtain ⟨m, hm⟩ : ∃ m, S.l.length = i + m + 1 := ⟨S.l.length - (i + 1), by omega⟩
  have hw1 : IntKind.i64.wrap ((i : Int) + 1) = (i : Int) + 1 := by rw [IntKind.wrap_i64]; omega
  have hcc := hs.le
  obtain ⟨W, hW⟩ : ∃ W, W = (w.alloc (.cells #[.slice s S.l.length c, .int .i64 S.nx] 34)).alloc (.cells #[.slice none 0 0, .int .i64 0] 34) := ⟨_, rfl⟩
  have B0 : Below w.heap.size w W := by rw [hW]; exact ((Below.refl _ _).alloc (Nat.le_refl _) _).alloc (by simp) _
  have K0 : Blk W w.heap.size #[.slice s S.l.length c, .int .i64 S.nx] 34 := by rw [hW]; exact (Blk.new w _ 34).alloc _
  have K1 : Blk W (w.heap.size + 1) #[.slice none 0 0, .int .i64 0] 34 := by rw [hW]; exact blk_new _ _ _ _ (by simp)
  have hWs : W.heap.size = w.heap.size + 2 := by rw [hW]; simp
  have hR := hs.below B0
  obtain ⟨sh, hrunh, hsh⟩ := hR.cut_h elM i (by omega)
  obtain ⟨st, hrunl, hst⟩ := hR.cut_l elM (i + 1) (by omega)
  rw [hm] at hrunl hrunh
  have hm1 : i + m + 1 - (i + 1) = m := by omega
  have hm2 : S.l.length - (i + 1) = m := by omega
  rw [hm1] at hrunl
  rw [hm2] at hst
  obtain ⟨cr, hcr⟩ : ∃ cr, c - (i + 1) = cr := ⟨_, rfl⟩
  rw [hcr] at hrunl hst
  push_cast at hrunl
  have hlen : (S.l.eraseIdx i).length = i + m := by rw [List.length_eraseIdx, if_pos hi]; omega
  have hfl : (flat lcells S.l).take (i * 8) ++ (flat lcells S.l).drop ((i + 1) * 8) = flat lcells (S.l.eraseIdx i) := by
    rw [flat_take (sz := 8) (fun _ => rfl), flat_drop (sz := 8) (fun _ => rfl), lrow_erase]
  have HFL := Lib.hid hfl
  have HLen := Lib.hid hlen
  have oa := (Own.fresh (Below.refl W.heap.size W) 55 8).drew
  have ra := (hsh.below oa.bel).rd
  have HST := Lib.hid hst
  obtain ⟨a0, a1, -, -⟩ := K0.two
  have ha0 := K0.lt
  have hkeep : ∀ w', Below W.heap.size W w' → (w'.cell? ⟨w.heap.size, 0, none⟩ = some (.slice s (i + m + 1) c) ∧ w'.cell? ⟨w.heap.size, 1, none⟩ = some (.int .i64 S.nx)) := fun w' h => ⟨(h.cell ha0).trans (by rw [← hm]; exact a0), (h.cell (p := ⟨_, 1, none⟩) ha0).trans a1⟩
  have KP := Lib.hid hkeep
  have KV := Lib.hid K1
  have HB0 := Lib.hid B0
  have hmn : i + m ≤ 10000 := by omega
  have hi0 : (0 : Int) ≤ (i : Int) := by omega
  have hic : (i : Int) ≤ (c : Int) := by omega
  have hic1 : (i : Int) + 1 ≤ (i + m + 1 : Nat) := by omega
  have hr1 : w.heap.size + 1 < W.heap.size := by omega
  have hne1 : w.heap.size + 1 ≠ w.heap.size := by omega
  rw [hm] at a0 hW
  have HW := Lib.hid hW
  rw [hm]
  clear hs hR hsh hst hm hm1 hm2 hcr hlen hfl K0 K1 B0 hW hkeep hWs
  go_enter Try.func46, Try.ntmps46
  go_wp2_with fail
  rw [← HW.out]
  obtain ⟨b0, b1, bf0, bf1⟩ := KV.out.two
  go_region_held3 (fun w' => w'.cell? ⟨w.heap.size, 0, none⟩ = some (.slice s (i + m + 1) c) ∧ w'.cell? ⟨w.heap.size, 1, none⟩ = some (.int .i64 S.nx))
    (first | exact KP.out _ o3.bel | exact KP.out _ o1.bel | exact KP.out _ oa.bel | go_keep)
    (first
      | ((refine step_append_own (by rfl) _ _ 22 (by rfl) elM _ 0 0 [] (by rfl) oa sh i c _ (by rfl) ra (by omega) (by omega) ?_; intro s1 c1 w2 o1r f1 n1; have o1 := o1r; rw [Nat.zero_add, List.nil_append] at o1; have rX := (HST.out.below o1.bel).rd))
      | ((refine step_append_own (by rfl) _ _ 22 (by rfl) elM s1 i c1 _ (by rfl) o1 st m cr _ (by rfl) rX (by omega) (by omega) ?_; intro s2 c2 w3 o3 f2 n2; obtain ⟨p0, p1, pf0, pf1⟩ := (o3.blk KV.out).two))
      | ((refine step_append_own (by rfl) _ _ 22 (by rfl) elM s1 (0 + i) c1 _ (by rfl) o1r st m cr _ (by rfl) rX (by omega) (by omega) ?_; intro s2 c2 w3 o3 f2 n2; obtain ⟨p0, p1, pf0, pf1⟩ := (o3.blk KV.out).two)))
  all_goals
    go_wp2_with fail
    refine bodyPost_ret (v := mVal s2 (i + m) c2 S.nx) (by simp [results, Try.results46, go_sem, p0, p1]) rfl ?_
    try simp only [Nat.zero_add]
    exact wo_fin (HB0.out.trans (o3.bel.mono HB0.out.size)) HLen.out (by rw [← HFL.out]; simpa only [Nat.zero_add, List.nil_append] using o3) hr1 (by omega)
end Go.Proofs.Ytianjcbofgdfdaa
