/-
  StoreAtomic.
-/
import Derived.Test.YtcglnjklnlejmaaSs
import Derived.Test.YtcglnjklnlejmaaSw
import Derived.Test.YtcglnjklnlejmaaSx
set_option linter.unusedVariables false
set_option linter.unusedSimpArgs false
namespace Go.Proofs.Ytcglnjklnlejmaa
open Go.RowKit Go.K Go.K.Sr

/-- two slices that are read, perhaps in one row -/
def As.two (sz : Nat) (s1 : Option Addr) (n1 c1 : Nat) (xs1 : List Value) (s2 : Option Addr) (n2 c2 : Nat) (xs2 : List Value) : As where
  holds w F := (∀ k, F k ↔ rowOf s1 = some k ∨ rowOf s2 = some k) ∧ (∀ k, F k → k < w.heap.size) ∧ (Rc w sz s1 n1 c1 xs1 ∧ Rc w sz s2 n2 c2 xs2)
  keep {w w' F} h hk := by
    have f : Fr (fun k => ¬ F k) w { w' with heap := w'.heap } → True := fun _ => trivial
    have lift : ∀ {s : Option Addr} {n c : Nat} {xs : List Value}, Rc w sz s n c xs → (∀ k, rowOf s = some k → F k) → Rc w' sz s n c xs := by
      intro s n c xs h2 hF
      refine ⟨⟨h2.rd.len, h2.rd.one, h2.rd.nil, fun ad he j u hu => ?_⟩, h2.le, h2.cm, h2.nil⟩
      have hb : (ad.add j).block = ad.block := by unfold Addr.add; split <;> rfl
      exact (World.cell?_of_block (by rw [hb]; exact hk _ (hF _ (by rw [he]; rfl)))).trans (h2.rd.cells ad he j u hu)
    refine ⟨h.1, fun k q => ?_, lift h.2.2.1 (fun k q => (h.1 k).2 (.inl q)), lift h.2.2.2 (fun k q => (h.1 k).2 (.inr q))⟩
    have h1 := h.2.1 k q
    have h2 := hk k q
    rw [Array.getElem?_eq_getElem h1] at h2
    exact (Array.getElem?_eq_some_iff.1 h2).1
  lt h k hk := h.2.1 k hk
theorem sat_chg {w0 w w' : World} {L : List As} {b : Nat} {S : SS} {A B : As} (h : SAt b S w0 w (A :: L)) (hb : Below w.heap.size w w') (hB : ∀ F, A.holds w F → ∃ F', B.holds w' F' ∧ ∀ k, F' k → F k ∨ w.heap.size ≤ k) : SAt b S w0 w' (B :: L) := by
  obtain ⟨p, h⟩ := h
  have h1 := St.sh [_, _, _, _, _] [4, 0, 1, 2, 3] (by decide) h
  simp only [List.map_cons, List.map_nil, List.getD_cons_zero, List.getD_cons_succ, List.cons_append, List.nil_append] at h1
  obtain ⟨F, hA, _, hs⟩ := h1.head
  obtain ⟨F', hF', hn⟩ := hB F hA
  have h2 := hs w' F' B hF' ⟨(Fr.of_below hb).mono (fun _ _ q => q.elim), hn⟩
  have h3 := St.sh [_, _, _, _, _] [1, 2, 3, 4, 0] (by decide) h2
  simp only [List.map_cons, List.map_nil, List.getD_cons_zero, List.getD_cons_succ, List.cons_append, List.nil_append] at h3
  exact ⟨p, h3⟩
theorem sat_two {w0 w : World} {L : List As} {b : Nat} {S : SS} {e : TypeId} {sz : Nat} {s : Option Addr} {n c : Nat} {xs : List Value} (h : SAt b S w0 w (As.row e sz s n c xs :: L)) : SAt b S w0 w (As.two sz s n c xs s n c xs :: L) := by
  refine sat_chg h (Below.refl _ _) (fun F hF => ⟨F, ⟨fun k => by rw [hF.1]; simp, fun k hk => hF.2.lt k ((hF.1 k).1 hk), hF.2.rc, hF.2.rc⟩, fun k q => .inl q⟩)
theorem sat_next {w0 w w' : World} {L : List As} {b : Nat} {S : SS} {sz : Nat} {s s1 s2 : Option Addr} {n c n1 c1 n2 c2 : Nat} {xs xs1 xs2 : List Value} (h : SAt b S w0 w (As.two sz s n c xs s1 n1 c1 xs1 :: L))
    (hr : Rc w' sz s2 n2 c2 xs2) (hn : ∀ k, rowOf s2 = some k → rowOf s1 = some k ∨ (w.heap.size ≤ k ∧ k < w'.heap.size)) (hb : Below w.heap.size w w') : SAt b S w0 w' (As.two sz s n c xs s2 n2 c2 xs2 :: L) := by
  refine sat_chg h hb (fun F hF => ⟨fun k => rowOf s = some k ∨ rowOf s2 = some k, ⟨fun k => Iff.rfl, fun k hk => ?_, ?_, hr⟩, fun k hk => ?_⟩)
  · rcases hk with q | q
    · exact Nat.lt_of_lt_of_le (hF.2.1 k ((hF.1 k).2 (.inl q))) hb.size
    · rcases hn k q with r | r
      · exact Nat.lt_of_lt_of_le (hF.2.1 k ((hF.1 k).2 (.inr r))) hb.size
      · exact r.2
  · exact hF.2.2.1.kept (Fr.of_below hb) (fun _ _ q => q)
  · rcases hk with q | q
    · exact .inl ((hF.1 k).2 (.inl q))
    · rcases hn k q with r | r
      · exact .inl ((hF.1 k).2 (.inr r))
      · exact .inr r.1
theorem sat_rc2 {w0 w : World} {L : List As} {b : Nat} {S : SS} {sz : Nat} {s s1 : Option Addr} {n c n1 c1 : Nat} {xs xs1 : List Value} (h : SAt b S w0 w (As.two sz s n c xs s1 n1 c1 xs1 :: L)) : Rc w sz s1 n1 c1 xs1 := by
  obtain ⟨p, h⟩ := h
  obtain ⟨G, g⟩ := h.mem (.tail _ (.tail _ (.tail _ (.tail _ (.head _)))))
  exact g.2.2.2
theorem sat_new {w0 w : World} {L : List As} {b : Nat} {S : SS} (h : SAt b S w0 w L) (cs : Array Value) (t : TypeId) : SAt b S w0 (w.alloc (.cells cs t)) (As.cells w.heap.size cs t :: L) := by
  obtain ⟨p, h⟩ := h
  have h1 := St.sh [_, _, _, _, _] [1, 2, 3, 4, 0] (by decide) (h.new cs t)
  simp only [List.map_cons, List.map_nil, List.getD_cons_zero, List.getD_cons_succ, List.cons_append, List.nil_append] at h1
  exact ⟨p, h1⟩
theorem sat_drop {w0 w : World} {L : List As} {b : Nat} {S : SS} {A : As} (h : SAt b S w0 w (A :: L)) : SAt b S w0 w L := by
  obtain ⟨p, h⟩ := h
  have h1 := St.sh [_, _, _, _, _] [4, 0, 1, 2, 3] (by decide) h
  simp only [List.map_cons, List.map_nil, List.getD_cons_zero, List.getD_cons_succ, List.cons_append, List.nil_append] at h1
  exact ⟨p, h1.drop⟩
theorem sat_row {w0 w : World} {L : List As} {b : Nat} {S : SS} {e : TypeId} {sz : Nat} {s : Option Addr} {n c : Nat} {xs : List Value} (h : SAt b S w0 w (As.row e sz s n c xs :: L)) : Sl w e sz s n c xs := by
  obtain ⟨p, h⟩ := h
  exact h.slm (.tail _ (.tail _ (.tail _ (.tail _ (.head _)))))
theorem sat_blk {w0 w : World} {L : List As} {b b2 : Nat} {S : SS} {cs : Array Value} {t : TypeId} (h : SAt b S w0 w (As.cells b2 cs t :: L)) : Blk w b2 cs t := by
  obtain ⟨p, h⟩ := h
  exact h.blkm (.tail _ (.tail _ (.tail _ (.tail _ (.head _)))))
theorem sat_bel {w0 w : World} {L : List As} {b : Nat} {S : SS} (h : SAt b S w0 w L) : Below w0.heap.size w0 w := by
  obtain ⟨p, h⟩ := h
  exact h.bel
def AbRel (S : SS) (bs : Nat) (w0 : World) (L : List As) (g : Nat) (v57 : Value) (wr : World) : Prop :=
  ∃ k : Nat, g = S.txs.length - k ∧ k ≤ S.txs.length ∧ v57 = .int .i64 k ∧ SAt bs (SD S k) w0 wr L
def AtRel (cs : List Ch) (P : List Pr) (N : Int) (bs : Nat) (w0 : World) (L : List As) (g : Nat) (v : Value) (wr : World) : Prop :=
  ∃ k : Nat, g = cs.length - k ∧ k ≤ cs.length ∧ v = .int .i64 k ∧ SAt bs (SA P N (foldC (cs.take k))) w0 wr L ∧ ∀ c ∈ cs.take k, c.k.size ≤ 100 ∧ c.v.size ≤ 100
def CmRel (cs : List Ch) (P : List Pr) (N : Int) (bs : Nat) (w0 : World) (s : Option Addr) (c : Nat) (L : List As) (g : Nat) (v21 v130 : Value) (wr : World) : Prop :=
  ∃ (k : Nat) (s' : Option Addr) (c' : Nat), g = cs.length - k ∧ k ≤ cs.length ∧ v130 = .int .i64 k ∧ v21 = .slice s' (content P (cs.take k)).length c' ∧
    SAt bs (SA P N (foldC cs)) w0 wr (As.two 2 s P.length c (flat pcells P) s' (content P (cs.take k)).length c' (flat pcells (content P (cs.take k))) :: L)

theorem sat_pairs {w0 w : World} {L : List As} {b : Nat} {S : SS} (h : SAt b S w0 w L) : ∃ sp cp, w.cell? ⟨b, 0, none⟩ = some (.slice sp S.pairs.length cp) ∧ Rd w 2 sp S.pairs.length (flat pcells S.pairs) := by
  obtain ⟨p, h⟩ := h
  exact ⟨p.sp, p.cp, h.blk.1.three.1, h.front2.rc.rd⟩
theorem rem_at {w0 w : World} {L : List As} {b : Nat} {P : List Pr} {N : Int} {F : List Ch} (x : Ch) (h : SAt b (SA P N F) w0 w L) (hr : x.r = true) (hP : P.length ≤ 40) (hF : (withC (normC x) F).length ≤ 40) (hF2 : F.length ≤ 40) (bp : ∀ y ∈ P, y.k.size ≤ 100 ∧ y.v.size ≤ 100) (bf : ∀ y ∈ withC (normC x) F, y.k.size ≤ 100 ∧ y.v.size ≤ 100) (ha : Asc Pr.k P) (hac : Asc Ch.k F) :
    Calls Try.prog 17 #[.pointer (some ⟨b, 0, none⟩), .int .i64 (N + 1), .string x.k] w fun e w' => e = .returned (.int .i64 0) ∧ SAt b (SA P N (withC (normC x) F)) w0 w' L := by
  have e : normC x = ⟨x.k, .empty, true⟩ := by unfold normC; rw [hr]; rfl
  rw [e] at hF bf ⊢
  have hz := size_ok hP hF bp bf
  refine (remove_st (N + 1) x.k h (by simp [SA]) (by show P.length ≤ 10000; omega) (by show F.length ≤ 10000; omega) ha hac (by show sizeP (content P (withC _ F)) ≤ _; omega)).mono ?_
  rintro e w' ⟨rfl, h2⟩
  rw [alt_sa P N F _ hz] at h2 ⊢
  exact ⟨rfl, h2⟩
theorem put_at {w0 w : World} {L : List As} {b : Nat} {P : List Pr} {N : Int} {F : List Ch} (x : Ch) (h : SAt b (SA P N F) w0 w L) (hr : x.r = false) (hP : P.length ≤ 40) (hF : (withC (normC x) F).length ≤ 40) (hF2 : F.length ≤ 40) (bp : ∀ y ∈ P, y.k.size ≤ 100 ∧ y.v.size ≤ 100) (bf : ∀ y ∈ withC (normC x) F, y.k.size ≤ 100 ∧ y.v.size ≤ 100) (ha : Asc Pr.k P) (hac : Asc Ch.k F) :
    Calls Try.prog 13 #[.pointer (some ⟨b, 0, none⟩), .int .i64 (N + 1), .string x.k, .string x.v] w fun e w' => e = .returned (.int .i64 0) ∧ SAt b (SA P N (withC (normC x) F)) w0 w' L := by
  have e : normC x = ⟨x.k, x.v, false⟩ := by unfold normC; rw [hr]; rfl
  rw [e] at hF bf ⊢
  have hz := size_ok hP hF bp bf
  refine (put_st (N + 1) x.k x.v h (by simp [SA]) (by show P.length ≤ 10000; omega) (by show F.length ≤ 10000; omega) ha hac (by show sizeP (content P (withC _ F)) ≤ _; omega)).mono ?_
  rintro e w' ⟨rfl, h2⟩
  rw [alt_sa P N F _ hz] at h2 ⊢
  exact ⟨rfl, h2⟩
theorem get_at {w0 w : World} {L : List As} {b : Nat} {P : List Pr} {N : Int} {F : List Ch} (q : ByteArray) (h : SAt b (SA P N F) w0 w L) (hP : P.length ≤ 40) (hF2 : F.length ≤ 40) (ha : Asc Pr.k P) (hac : Asc Ch.k F) :
    Calls Try.prog 14 #[.pointer (some ⟨b, 0, none⟩), .int .i64 (N + 1 + 1), .string q] w fun e w' => e = .returned (.tuple #[.string .empty, .bool false, .int .i64 19]) ∧ Below w.heap.size w w' := by
  have h1 := get_st (N + 1 + 1) q h (by simp [SA]) (by show P.length ≤ 10000; omega) (by show F.length ≤ 10000; omega) ha hac
  rw [get_sa] at h1
  exact h1
theorem get_af {w0 w : World} {L : List As} {b : Nat} {P : List Pr} {N : Int} (h : SAt b (SO P N) w0 w L) (hP : P.length ≤ 100) (ha : Asc Pr.k P) {i : Nat} (hi : i < P.length) (x : Pr) (hx : P[i] = x) :
    Calls Try.prog 14 #[.pointer (some ⟨b, 0, none⟩), .int .i64 (N + 1 + 1), .string x.k] w fun e w' => e = .returned (.tuple #[.string x.v, .bool true, .int .i64 0]) ∧ Below w.heap.size w w' := by
  have h1 := get_st (N + 1 + 1) x.k h (by simp [SO]) (by show P.length ≤ 10000; omega) (by simp [SO]) ha List.Pairwise.nil
  rw [get_so N ha hi x hx] at h1
  exact h1
theorem abort_at {w0 w : World} {L : List As} {b : Nat} {P : List Pr} {N : Int} {F : List Ch} (h : SAt b (SA P N F) w0 w L) :
    Calls Try.prog 24 #[.pointer (some ⟨b, 0, none⟩), .int .i64 (N + 1)] w fun e w' => e = .returned (.int .i64 0) ∧ SAt b (SO P N) w0 w' L := by
  have h1 := abort_e (N + 1) h (by simp [SA])
  rw [fnd_sa, abort_sa] at h1
  exact h1
theorem commit_at {w0 w : World} {L : List As} {b : Nat} {P : List Pr} {N : Int} {cs : List Ch} (h : SAt b (SA P N (foldC cs)) w0 w L) (hP : P.length ≤ 40) (hF2 : (foldC cs).length ≤ 40) (ha : Asc Pr.k P) :
    Calls Try.prog 15 #[.pointer (some ⟨b, 0, none⟩), .int .i64 (N + 1)] w fun e w' => e = .returned (.int .i64 0) ∧ SAt b (SO (content P cs) N) w0 w' L := by
  have h1 := commit_st (N + 1) h (by simp [SA]) (by show P.length ≤ 10000; omega) (by show (foldC cs).length ≤ 10000; omega) ha
  rw [commit_sa, content_foldC ha] at h1
  exact h1

set_option maxRecDepth 100000 in
set_option maxHeartbeats 20000000 in
theorem atomic_go (s : Option Addr) (c : Nat) (ls : List Op') (sc : Option Addr) (cc : Nat) (cs : List Ch) (commit : Bool) (w0 : World) (h : Rd w0 5 s ls.length (flat opc ls)) (hn : (ls.length : Int) ≤ 9223372036854775807) (hall : ∀ o ∈ ls, o.ok) (hcs : Rd w0 3 sc cs.length (flat ccells cs)) (hcn : (cs.length : Int) ≤ 9223372036854775807) :
    Calls Try.prog 6 #[.slice s ls.length c, .slice sc cs.length cc, .bool commit] w0 fun e w' => e = .returned (.bool true) ∧ Below w0.heap.size w0 w' := by
  have HR := Lib.hid h
  clear h
  have HCS := Lib.hid hcs
  clear hcs
  obtain ⟨fb, hfb⟩ : ∃ fb, fewB ls = fb := ⟨_, rfl⟩
  have HF := Lib.hid hfb
  clear hfb
  cases fb with
  | false =>
    go_enter Try.func6, Try.ntmps6
    go_wp2_with (first
      | (go_at_call 11; refine (fit_any _).mono ?_; rintro e wa ⟨rfl, hba⟩; have HB1 := Lib.hid hba; clear hba)
      | (go_at_call 18; refine (few_any _ _ _ _ (HR.out.below HB1.out) hn).mono ?_; rintro e wb ⟨rfl, hbb⟩; rw [HF.out]; have HB2 := Lib.hid (HB1.out.trans (hbb.mono HB1.out.size)); clear hbb))
    go_ret
    exact ⟨rfl, HB2.out⟩
  | true =>
    have hlen : ls.length ≤ 40 ∧ ∀ o ∈ ls, okOp o := by
      have := HF.out
      unfold fewB at this
      simp only [Bool.and_eq_true, decide_eq_true_eq, List.all_eq_true] at this
      refine ⟨this.2, fun o ho => ⟨hall o ho, ?_⟩⟩
      have h1 := this.1 o ho
      unfold shortO at h1
      simpa using h1
    obtain ⟨hl40, hok⟩ := hlen
    by_cases hm20 : (20 : Int) < (cs.length : Int)
    · go_enter Try.func6, Try.ntmps6
      go_wp2_with (first
      | (go_at_call 11; refine (fit_any _).mono ?_; rintro e wa ⟨rfl, hba⟩; have HB1 := Lib.hid hba; clear hba)
      | (go_at_call 18; refine (few_any _ _ _ _ (HR.out.below HB1.out) hn).mono ?_; rintro e wb ⟨rfl, hbb⟩; rw [HF.out]; have HB2 := Lib.hid (HB1.out.trans (hbb.mono HB1.out.size)); clear hbb))
      go_ret
      exact ⟨rfl, HB2.out⟩
    have hcs20 : cs.length ≤ 20 := by omega
    go_enter Try.func6, Try.ntmps6
    go_upto_region 6 with (first
      | (go_at_call 11; refine (fit_any _).mono ?_; rintro e wa ⟨rfl, hba⟩; have HB1 := Lib.hid hba; clear hba)
      | (go_at_call 18; refine (few_any _ _ _ _ (HR.out.below HB1.out) hn).mono ?_; rintro e wb ⟨rfl, hbb⟩; rw [HF.out]; have HB2 := Lib.hid (HB1.out.trans (hbb.mono HB1.out.size)); clear hbb))
    have H0 := Lib.hid (s0_at (St.start w0 HB2.out))
    go_wp2_with fail
    obtain ⟨bs, hbs⟩ : ∃ bs, wb.heap.size = bs := ⟨_, rfl⟩
    rw [hbs] at H0 ⊢
    go_loopg [41] ls.length (TuRel w0 bs ls.length)
    case atStart => exact ⟨0, S0, rfl, Nat.zero_le _, rfl, H0.out, iv0, ids0⟩
    case round =>
      obtain ⟨q, S, hg, hq, rfl, hs, hi, hids⟩ := hrel
      have Hg := Lib.hid hg
      have HS := Lib.hid hs
      have HIV := Lib.hid hi
      have HIDS := Lib.hid hids
      clear hg hs hids H0
      by_cases hqn : q < ls.length
      · have hrd := HR.out.below (by obtain ⟨p, h⟩ := HS.out; exact h.bel)
        obtain ⟨g, off, rfl, -⟩ := hrd.addr (by omega)
        obtain ⟨x, hx⟩ : ∃ x, ls[q] = x := ⟨_, rfl⟩
        obtain ⟨d0, d1, d2, d3, d4⟩ := o_at hrd hqn x hx
        have hxm : x ∈ ls := by rw [← hx]; exact List.getElem_mem hqn
        have hqI : (q : Int) < (ls.length : Int) := by omega
        have HX := Lib.hid hx
        clear hx hrd
        · skip
          go_upto_region 9 with fail
          obtain ⟨b5, hb5⟩ : ∃ b5, wr.heap.size = b5 := ⟨_, rfl⟩
          obtain ⟨p0, hp0⟩ := HS.out
          have hp1 := St.sh [_, _, _, _, _] [1, 2, 3, 4, 0] (by decide) (hp0.new #[.int .u8 x.kd, .int .u8 x.tx, .string x.key, .string x.val, .bool x.wr] 45)
          simp only [List.map_cons, List.map_nil, List.getD_cons_zero, List.getD_cons_succ, List.cons_append, List.nil_append] at hp1
          obtain ⟨W, hW⟩ : ∃ W, wr.alloc (.cells #[.int .u8 x.kd, .int .u8 x.tx, .string x.key, .string x.val, .bool x.wr] 45) = W := ⟨_, rfl⟩
          rw [hW] at hp1
          rw [hb5] at hp1
          try rw [hW]
          try simp only [hb5]
          clear hW hb5
          have HP := Lib.hid (show SAt bs S w0 W _ from ⟨p0, hp1⟩)
          obtain ⟨y0, y1, y2, y3, y4, -⟩ := blk5 (hp1.blkm (b := b5) (.tail _ (.tail _ (.tail _ (.tail _ (.head _))))))
          have y5 := hp1.blk.1.three.2.2.1
          have hS : (fun w' : World => w'.cell? ⟨b5, 0, none⟩ = some (.int .u8 x.kd) ∧ w'.cell? ⟨b5, 1, none⟩ = some (.int .u8 x.tx) ∧ w'.cell? ⟨b5, 2, none⟩ = some (.string x.key) ∧ w'.cell? ⟨b5, 3, none⟩ = some (.string x.val) ∧ w'.cell? ⟨b5, 4, none⟩ = some (.bool x.wr) ∧ w'.cell? ⟨bs, 2, none⟩ = some (.int .i64 S.nx)) W.drew := ⟨y0, y1, y2, y3, y4, y5⟩
          have HPd := Lib.hid (show SAt bs S w0 W.drew _ from ⟨p0, hp1.drew⟩)
          clear hp0 hp1 y0 y1 y2 y3 y4 y5
          refine wpLast.region (S := (fun w' : World => w'.cell? ⟨b5, 0, none⟩ = some (.int .u8 x.kd) ∧ w'.cell? ⟨b5, 1, none⟩ = some (.int .u8 x.tx) ∧ w'.cell? ⟨b5, 2, none⟩ = some (.string x.key) ∧ w'.cell? ⟨b5, 3, none⟩ = some (.string x.val) ∧ w'.cell? ⟨b5, 4, none⟩ = some (.bool x.wr) ∧ w'.cell? ⟨bs, 2, none⟩ = some (.int .i64 S.nx))) (c := 5) (by kernel_rfl) ?_
          refine' wpLast.take_c (i := 0) (v := _) [] rfl (by kernel_rfl) (fun _ _ _ h => h) (by kernel_rfl) _ _ _ _ (by kernel_rfl) (by kernel_rfl) (by kernel_rfl) (Or.inl ⟨by rfl, ?hy0⟩) hS ?rest0
          case hy0 => (intro w' hSw; obtain ⟨k0, k1, k2, k3, k4, k5⟩ := hSw; go_simp; try with_reducible rfl)
          try simp only [Act.put, List.setIfInBounds_toArray, List.set_cons_zero, List.set_cons_succ]
          refine' wpLast.take_c (i := 1) (v := _) [4] rfl (by kernel_rfl) (fun _ _ _ h => h) (by kernel_rfl) _ _ _ _ (by kernel_rfl) (by kernel_rfl) (by kernel_rfl) (Or.inl ⟨by rfl, ?hy1⟩) hS ?rest1
          case hy1 => (intro w' hSw; obtain ⟨k0, k1, k2, k3, k4, k5⟩ := hSw; go_simp; try with_reducible rfl)
          try simp only [Act.put, List.setIfInBounds_toArray, List.set_cons_zero, List.set_cons_succ]
          refine' wpLast.take_c (i := 2) (v := _) [4, 3] rfl (by kernel_rfl) (fun _ _ _ h => h) (by kernel_rfl) _ _ _ _ (by kernel_rfl) (by kernel_rfl) (by kernel_rfl) (Or.inl ⟨by rfl, ?hy2⟩) hS ?rest2
          case hy2 => (intro w' hSw; obtain ⟨k0, k1, k2, k3, k4, k5⟩ := hSw; go_simp; try with_reducible rfl)
          try simp only [Act.put, List.setIfInBounds_toArray, List.set_cons_zero, List.set_cons_succ]
          refine' wpLast.take_c (i := 3) (v := _) [4] rfl (by kernel_rfl) (fun _ _ _ h => h) (by kernel_rfl) _ _ _ _ (by kernel_rfl) (by kernel_rfl) (by kernel_rfl) (Or.inl ⟨by rfl, ?hy3⟩) hS ?rest3
          case hy3 => (intro w' hSw; obtain ⟨k0, k1, k2, k3, k4, k5⟩ := hSw; go_simp; try with_reducible rfl)
          try simp only [Act.put, List.setIfInBounds_toArray, List.set_cons_zero, List.set_cons_succ]
          refine wpLast.one (i := 4) rfl (by kernel_rfl) ?_
          intro K' hK; have HK' := Lib.hid hK; clear hK
          go_simp
          refine (number_any x S.nx _ (hok x hxm).1 hi.nx0 (by have := hi.nx1; omega)).mono ?_
          rintro e w3 ⟨rfl, hb3⟩
          have hS3 : (fun w' : World => w'.cell? ⟨b5, 0, none⟩ = some (.int .u8 x.kd) ∧ w'.cell? ⟨b5, 1, none⟩ = some (.int .u8 x.tx) ∧ w'.cell? ⟨b5, 2, none⟩ = some (.string x.key) ∧ w'.cell? ⟨b5, 3, none⟩ = some (.string x.val) ∧ w'.cell? ⟨b5, 4, none⟩ = some (.bool x.wr) ∧ w'.cell? ⟨bs, 2, none⟩ = some (.int .i64 S.nx)) w3 := by
            obtain ⟨k0, k1, k2, k3, k4, k5⟩ := hS
            exact ⟨(hb3.cell (World.block_lt_of_cell? _ _ k0)).trans k0, (hb3.cell (World.block_lt_of_cell? _ _ k1)).trans k1, (hb3.cell (World.block_lt_of_cell? _ _ k2)).trans k2, (hb3.cell (World.block_lt_of_cell? _ _ k3)).trans k3, (hb3.cell (World.block_lt_of_cell? _ _ k4)).trans k4, (hb3.cell (World.block_lt_of_cell? _ _ k5)).trans k5⟩
          have HP3 := Lib.hid (HPd.out.of_below hb3)
          clear hb3
          refine HK'.out _ _ ⟨fun _ => hS3, ?_⟩
          clear HK' K' hS hS3
          try simp only [Act.put, List.setIfInBounds_toArray, List.set_cons_zero, List.set_cons_succ]
          refine wpLast.one (i := 5) rfl (by kernel_rfl) ?_
          intro K' hK; have HK' := Lib.hid hK; clear hK
          go_simp
          refine (do_st x (numF x S.nx) (hok x hxm).1 (hok x hxm).2 HP3.out hi (by omega)).mono ?_
          rintro e w4 ⟨rs, rc, rfl, h4⟩
          refine HK'.out _ _ ⟨fun h => absurd rfl h, ?_⟩
          clear HK' K'
          try simp only [Act.put, List.setIfInBounds_toArray, List.set_cons_zero, List.set_cons_succ]
          refine wpLast.done (by kernel_rfl) ?_
          have H4 := Lib.hid (sat_drop2 h4)
          clear h4
          obtain ⟨S2, hS2⟩ : ∃ S2, (doS S x (numF x S.nx)).1 = S2 := ⟨_, rfl⟩
          have hi2 := iv_do HIV.out x (numF x S.nx) (hok x hxm).2
          have hd2 := ids_do HIDS.out HIV.out.nx0 x (numF x S.nx)
          rw [hS2] at H4 hi2 hd2
          have HI2 := Lib.hid hi2
          have HD2 := Lib.hid hd2
          clear hi2 hd2 hi HP HPd HP3 HS hS2 d0 d1 d2 d3 d4
          try simp only [List.setIfInBounds_toArray, List.set_cons_zero, List.set_cons_succ]
          generalize (doS S x (numF x S.nx)).2 = RR
          generalize numF x S.nx = nf
          go_wp2_with fail
          go_roundg (ls.length - (q + 1))
          case measure => have := Hg.out; omega
          case rel => exact ⟨q + 1, S2, rfl, by omega, by simp, H4.out, HI2.out, HD2.out⟩
      · obtain rfl : q = ls.length := by omega
        have htl : S.txs.length ≤ 40 := by have := hi.tl; omega
        have hpl : S.pairs.length ≤ 40 := by have := hi.ln; omega
        have hcl : S.cs.length ≤ 40 := by have := hi.ln; omega
        clear hi hqn hq
        obtain ⟨wx, rfl⟩ : ∃ x, x = wr := ⟨_, rfl⟩
        obtain ⟨p, hp⟩ := HS.out
        have HP := Lib.hid hp
        obtain ⟨-, c1, -⟩ := hp.blk.1.three
        have hbl : bs < wx.heap.size := World.block_lt_of_cell? _ _ c1
        have HN := Lib.hid (K.Own.fresh (Below.refl _ wx) 36 4)
        have HRT := Lib.hid (hp.swap.sl.rd.alloc (.cells #[] 36))
        clear hp
        go_wp2_with (refine wpList_append_own' rfl (.tmp 52) (.tmp 54) 26 rfl elX _ 0 _ _ rfl HN.out _ S.txs.length _ _ rfl HRT.out (by omega) (by omega) ?_; intro sT cT w2 p1 p2 p3; have HQ := Lib.hid p1; clear p1 p2 p3; try simp only [Nat.zero_add, List.nil_append])
        rw [Nat.zero_add, List.nil_append] at HQ
        have H2 := Lib.hid (sat_own (show SAt bs S w0 wx [] from ⟨p, HP.out⟩) HQ.out)
        obtain ⟨LT, hLT⟩ : ∃ LT, As.row 36 4 sT S.txs.length cT (flat ycells (yz (.slice p.sc S.cs.length p.cc) S.txs)) = LT := ⟨_, rfl⟩
        clear c1 hbl HN HRT
        go_loopg [57] S.txs.length (AbRel S bs w0 [LT])
        case atStart => exact ⟨0, rfl, Nat.zero_le _, rfl, by rw [sd_zero, ← hLT]; exact H2.out⟩
        case round =>
          obtain ⟨k, hg2, hk, rfl, hp⟩ := hrel
          have Hg2 := Lib.hid hg2
          have HA := Lib.hid hp
          clear hg2 hp
          by_cases hkn : k < S.txs.length
          · obtain ⟨t, ht⟩ : ∃ t, S.txs[k] = t := ⟨_, rfl⟩
            obtain ⟨sda, sdf⟩ := sd_succ hkn
            rw [ht] at sda sdf
            have HSD := Lib.hid sda
            have HE := Lib.hid (show errN (fnd t.id (SD S k).txs) = 0 by rw [sdf]; rfl)
            have HLT := Lib.hid hLT
            have hrow := sat_row (hLT ▸ HA.out : SAt bs (SD S k) w0 wr [As.row 36 4 sT S.txs.length cT (flat ycells (yz (.slice p.sc S.cs.length p.cc) S.txs))])
            obtain ⟨g2, o2, hst, -⟩ := hrow.rd.addr (by omega)
            have hyl : k < (yz (.slice p.sc S.cs.length p.cc) S.txs).length := by rw [yz_len]; exact hkn
            have hyx := yz_get (.slice p.sc S.cs.length p.cc) S.txs k hkn
            obtain ⟨sq, cq, hvq, -⟩ := chs_rc HP.out k
            rw [hvq, ht] at hyx
            obtain ⟨d0, d1, d2, d3⟩ := y_at (hst ▸ hrow.rd) hyl _ hyx
            simp only at d0 d1 d2 d3
            have hkI : (k : Int) < (S.txs.length : Int) := by omega
            have hk0I : (0 : Int) ≤ (k : Int) := by omega
            have HST := Lib.hid hst
            clear ht hst hyx hvq hrow sda sdf hLT
            rw [HST.out]
            go_upto_region 14 with fail
            obtain ⟨W1, hW1⟩ : ∃ W1, wr.alloc (.cells #[.int .i64 t.id, .string t.ow, .bool t.wr, .slice sq (chs S k).length cq] 36) = W1 := ⟨_, rfl⟩
            obtain ⟨b11, hb11⟩ : ∃ b11, wr.heap.size = b11 := ⟨_, rfl⟩
            have hBX := blk_new wr #[.int .i64 t.id, .string t.ow, .bool t.wr, .slice sq (chs S k).length cq] 36 b11 hb11
            have hBW : Below wr.heap.size wr W1 := by rw [← hW1]; exact (Below.refl _ wr).alloc (Nat.le_refl _) _
            rw [hW1] at hBX
            try simp only [hW1, hb11]
            have x0 := hBX.cell 0
            simp at x0
            have KA := Lib.hid (abort_e t.id (HA.out.of_below hBW) (by show (S.txs.drop k).length ≤ 100000; rw [List.length_drop]; omega))
            clear hBX hBW hW1 hb11 d0 d1 d2 d3
            go_wp2_with (go_at_call 24; (with_reducible refine (KA.out).mono ?_); rintro e w5 ⟨rfl, h5⟩; rw [HE.out]; rw [HSD.out] at h5; have H5 := Lib.hid h5; clear h5)
            try rw [← HST.out]
            go_roundg (S.txs.length - (k + 1))
            case measure => have := Hg2.out; omega
            case rel => exact ⟨k + 1, rfl, by omega, by simp, H5.out⟩
          · obtain rfl : k = S.txs.length := by omega
            have hA2 := HA.out
            rw [sd_all HIV.out.nil] at hA2
            have HA2 := Lib.hid hA2
            clear HA hA2 hLT
            obtain ⟨wy, rfl⟩ : ∃ x, x = wr := ⟨_, rfl⟩
            obtain ⟨P, hP⟩ : ∃ P, S.pairs = P := ⟨_, rfl⟩
            obtain ⟨N, hN⟩ : ∃ N, S.nx = N := ⟨_, rfl⟩
            have hpa : Asc Pr.k P := hP ▸ HIV.out.pa
            have hbp : ∀ x ∈ P, x.k.size ≤ 100 ∧ x.v.size ≤ 100 := hP ▸ HIV.out.bp
            have hN0 : 0 ≤ N := hN ▸ HIV.out.nx0
            have hN1 : N ≤ 40 := by have := HIV.out.nx1; omega
            rw [hP] at hpl HA2
            rw [hN] at HA2
            clear hP hN
            obtain ⟨p5, hp5⟩ := HA2.out
            obtain ⟨c0, c1, -⟩ := hp5.blk.1.three
            have c0 : wy.cell? ⟨bs, 0, none⟩ = some (.slice p5.sp P.length p5.cp) := c0
            have c1 : wy.cell? ⟨bs, 1, none⟩ = some (.slice p5.st 0 p5.ct) := c1
            have hbl : bs < wy.heap.size := World.block_lt_of_cell? _ _ c1
            have HN2 := Lib.hid (K.Own.fresh (Below.refl _ wy) 62 2)
            have HRP := Lib.hid (show Rd (wy.alloc (.cells #[] 62)) 2 p5.sp P.length (flat pcells P) from (hp5.front2).rc.rd.alloc (.cells #[] 62))
            clear hp5
            go_upto_region 20 with (refine wpList_append_own' rfl (.tmp 70) (.tmp 72) 25 rfl elP _ 0 _ _ rfl HN2.out _ P.length _ _ rfl HRP.out (by omega) (by omega) ?_; intro sb cb w3 p1 p2 p3; have HQ2 := Lib.hid p1; clear p1 p2 p3; try simp only [Nat.zero_add, List.nil_append])
            rw [Nat.zero_add, List.nil_append] at HQ2
            have H6 := Lib.hid (sat_own HA2.out HQ2.out)
            have K1 := Lib.hid (show Calls Try.prog 12 #[.pointer (some ⟨bs, 0, none⟩), .string { data := #[109, 101] }, .bool true] w3 (fun e w' => e = .returned (.int .i64 (N + 1)) ∧ SAt bs (openS (SE P N) me true) w0 w' _) from open_st me true H6.out (by simp [SE]) hN0 (by show N ≤ 1000000; omega) (fun _ => rfl))
            clear c0 c1 hbl HN2 HRP
            go_upto_region 22 with (first
              | (go_at_call 12; (with_reducible refine (K2.out).mono ?_); rintro e w5 ⟨rfl, h5⟩; have H8 := Lib.hid h5; clear h5)
              | (go_at_call 12; (with_reducible refine (K1.out).mono ?_); rintro e w4 ⟨rfl, h4⟩; have K2 := Lib.hid (show Calls Try.prog 12 #[.pointer (some ⟨bs, 0, none⟩), .string { data := #[121, 111, 117] }, .bool false] w4 (fun e w' => e = .returned (.int .i64 (N + 1 + 1)) ∧ SAt bs (SA P N []) w0 w' _) from open_st you false h4 (by simp [SE, openS]) (by show 0 ≤ N + 1; omega) (by show N + 1 ≤ 1000000; omega) (fun h => by cases h)); clear h4))
            obtain ⟨LB, hLB⟩ : ∃ LB, As.row 62 2 sb P.length cb (flat pcells P) = LB := ⟨_, rfl⟩
            rw [hLB] at H8
            have HLBR := Lib.hid (fun (S' : SS) (w' : World) (L' : List As) (h : SAt bs S' w0 w' (LB :: L')) => sat_row (hLB ▸ h : SAt bs S' w0 w' (As.row 62 2 sb P.length cb (flat pcells P) :: L')))
            go_wp2_with fail
            go_loopg [78] cs.length (AtRel cs P N bs w0 [LB, LT])
            case atStart => exact ⟨0, rfl, Nat.zero_le _, rfl, H8.out, by simp⟩
            case round =>
              clear Hg2
              obtain ⟨q, hg3, hq3, rfl, hp, hbd⟩ := hrel
              have Hg3 := Lib.hid hg3
              have HA := Lib.hid hp
              have HBD := Lib.hid hbd
              clear hg3 hp hbd
              by_cases hqn : q < cs.length
              · obtain ⟨x, hx⟩ : ∃ x, cs[q] = x := ⟨_, rfl⟩
                have hrc := HCS.out.below (sat_bel HA.out)
                obtain ⟨g3, o3, hs3, -⟩ := hrc.addr (by omega)
                subst hs3
                obtain ⟨d0, d1, d2⟩ := c_at hrc hqn x hx
                have HSu := Lib.hid (foldC_succ cs q hqn x hx)
                have HX := Lib.hid hx
                have hfl := foldC_len (cs.take (q + 1))
                have hfl0 := foldC_len (cs.take q)
                have htk : (cs.take (q + 1)).length ≤ cs.length := by rw [List.length_take]; omega
                have htk0 : (cs.take q).length ≤ cs.length := by rw [List.length_take]; omega
                have hqI : (q : Int) < (cs.length : Int) := by omega
                have hq0I : (0 : Int) ≤ (q : Int) := by omega
                clear hrc hx
                go_upto_region 25 with fail
                obtain ⟨W1, hW1⟩ : ∃ W1, wr.alloc (.cells #[.string x.k, .string x.v, .bool x.r] 59) = W1 := ⟨_, rfl⟩
                obtain ⟨b25, hb25⟩ : ∃ b25, wr.heap.size = b25 := ⟨_, rfl⟩
                have hn3 := sat_new HA.out #[.string x.k, .string x.v, .bool x.r] 59
                rw [hW1, hb25] at hn3
                try simp only [hW1, hb25]
                have HN3 := Lib.hid hn3
                obtain ⟨z0, z1, z2, -⟩ := (sat_blk hn3).three
                clear hn3 hW1 hb25 d0 d1 d2
                by_cases h1 : x.k.size ≤ 100
                · have h1' : (x.k.size : Int) ≤ 100 := by omega
                  by_cases h2 : x.v.size ≤ 100
                  · have h2' : (x.v.size : Int) ≤ 100 := by omega
                    have hbt : ∀ c ∈ cs.take (q + 1), c.k.size ≤ 100 ∧ c.v.size ≤ 100 := by
                      intro c hc
                      rw [List.take_succ_eq_append_getElem hqn, HX.out] at hc
                      rcases List.mem_append.1 hc with hc | hc
                      · exact HBD.out c hc
                      · rw [List.mem_singleton.1 hc]; exact ⟨h1, h2⟩
                    have hbf := foldC_bd _ hbt
                    cases hxr : x.r with
                    | true =>
                      have HXR := Lib.hid hxr
                      rw [hxr] at z2
                      clear hxr
                      have KC := Lib.hid (rem_at x HN3.out HXR.out hpl (by rw [← HSu.out]; omega) (by omega) hbp (by rw [← HSu.out]; exact hbf) hpa (asc_foldC _))
                      go_wp2_with (first
                        | (go_at_call 23; (with_reducible refine (KS.out).mono ?_); rintro e w8 ⟨rfl, h8⟩; have H9 := Lib.hid (H5.out.of_below (H7.out.trans (h8.mono H7.out.size))); clear h8)
                        | (go_at_call 14; (with_reducible refine (KG.out).mono ?_); rintro e w7 ⟨rfl, h7⟩; have H7 := Lib.hid h7; have HS7 := H5.out.of_below h7; obtain ⟨sp7, cp7, c0x, hpr⟩ := sat_pairs HS7; have c0 : w7.cell? ⟨bs, 0, none⟩ = some (.slice sp7 P.length cp7) := c0x; clear c0x; have rb := HLBR.out _ _ _ (sat_drop HS7); have KS := Lib.hid (same_any ⟨P, [], [], 0⟩ _ _ w7 (re_pairs cp7 hpr) (re_pairs cb rb.rd) (by show P.length ≤ 100000; omega) (by simp) (by simp)); clear h7 HS7 hpr rb z0)
                        | (go_at_call 17; (with_reducible refine (KC.out).mono ?_); rintro e w5 ⟨rfl, h5⟩; have H5 := Lib.hid h5; obtain ⟨z0, -⟩ := (sat_blk h5).three; have KG := Lib.hid (get_at x.k h5 hpl (by rw [← HSu.out]; omega) hpa (by rw [← HSu.out]; exact asc_foldC _)); clear h5))
                      go_roundg (cs.length - (q + 1))
                      case measure => have := Hg3.out; omega
                      case rel => exact ⟨q + 1, rfl, by omega, by simp, by rw [HSu.out]; exact sat_drop H9.out, hbt⟩
                    | false =>
                      have HXR := Lib.hid hxr
                      rw [hxr] at z2
                      clear hxr
                      have KC := Lib.hid (put_at x HN3.out HXR.out hpl (by rw [← HSu.out]; omega) (by omega) hbp (by rw [← HSu.out]; exact hbf) hpa (asc_foldC _))
                      go_wp2_with (first
                        | (go_at_call 23; (with_reducible refine (KS.out).mono ?_); rintro e w8 ⟨rfl, h8⟩; have H9 := Lib.hid (H5.out.of_below (H7.out.trans (h8.mono H7.out.size))); clear h8)
                        | (go_at_call 14; (with_reducible refine (KG.out).mono ?_); rintro e w7 ⟨rfl, h7⟩; have H7 := Lib.hid h7; have HS7 := H5.out.of_below h7; obtain ⟨sp7, cp7, c0x, hpr⟩ := sat_pairs HS7; have c0 : w7.cell? ⟨bs, 0, none⟩ = some (.slice sp7 P.length cp7) := c0x; clear c0x; have rb := HLBR.out _ _ _ (sat_drop HS7); have KS := Lib.hid (same_any ⟨P, [], [], 0⟩ _ _ w7 (re_pairs cp7 hpr) (re_pairs cb rb.rd) (by show P.length ≤ 100000; omega) (by simp) (by simp)); clear h7 HS7 hpr rb z0)
                        | (go_at_call 13; (with_reducible refine (KC.out).mono ?_); rintro e w5 ⟨rfl, h5⟩; have H5 := Lib.hid h5; obtain ⟨z0, -⟩ := (sat_blk h5).three; have KG := Lib.hid (get_at x.k h5 hpl (by rw [← HSu.out]; omega) hpa (by rw [← HSu.out]; exact asc_foldC _)); clear h5))
                      go_roundg (cs.length - (q + 1))
                      case measure => have := Hg3.out; omega
                      case rel => exact ⟨q + 1, rfl, by omega, by simp, by rw [HSu.out]; exact sat_drop H9.out, hbt⟩
                  · have h2' : (100 : Int) < (x.v.size : Int) := by omega
                    go_wp2_with fail
                    go_ret
                    exact ⟨rfl, sat_bel HN3.out⟩
                · have h1' : (100 : Int) < (x.k.size : Int) := by omega
                  go_wp2_with fail
                  go_ret
                  exact ⟨rfl, sat_bel HN3.out⟩
              · obtain rfl : q = cs.length := by omega
                rw [List.take_length] at HA HBD
                have hfl := foldC_len cs
                cases commit with
                | false =>
                  have KA := Lib.hid (abort_at HA.out)
                  have HRB := Lib.hid (HLBR.out _ _ _ HA.out).rd
                  go_upto_region 48 with (go_at_call 24; (with_reducible refine (KA.out).mono ?_); rintro e w9 ⟨rfl, h9⟩; have H9 := Lib.hid h9; have HQ := Lib.hid (HLBR.out _ _ _ h9).rd; clear h9)
                  have HQA := Lib.hid hpa
                  have hQ : P.length ≤ 100 := by omega
                  go_wp2_with fail
                  go_loopg [147] P.length (CRel P.length w9)
                  case atStart => exact ⟨0, rfl, Nat.zero_le _, rfl, Below.refl _ _⟩
                  case round =>
                    obtain ⟨j, hg5, hj, rfl, hb⟩ := hrel
                    have Hg5 := Lib.hid hg5
                    have HB5 := Lib.hid hb
                    clear hg5 hb
                    by_cases hjn : j < P.length
                    · have hrd := HQ.out.below HB5.out
                      obtain ⟨g5, o5, hs5, -⟩ := hrd.addr (by omega)
                      subst hs5
                      obtain ⟨y, hy⟩ : ∃ y, P[j] = y := ⟨_, rfl⟩
                      obtain ⟨e0, e1⟩ := p_at hrd hjn y hy
                      have HY := Lib.hid hy
                      have hjI : (j : Int) < (P.length : Int) := by omega
                      have hj0I : (0 : Int) ≤ (j : Int) := by omega
                      clear hrd hy
                      go_upto_region 51 with fail
                      obtain ⟨W2, hW2⟩ : ∃ W2, wr.alloc (.cells #[.string y.k, .string y.v] 62) = W2 := ⟨_, rfl⟩
                      obtain ⟨b26, hb26⟩ : ∃ b26, wr.heap.size = b26 := ⟨_, rfl⟩
                      have hn4 := sat_new (H9.out.of_below HB5.out) #[.string y.k, .string y.v] 62
                      have HBW := Lib.hid (show Below wr.heap.size wr W2 by rw [← hW2]; exact (Below.refl _ wr).alloc (Nat.le_refl _) _)
                      rw [hW2, hb26] at hn4
                      try simp only [hW2, hb26]
                      have HN4 := Lib.hid hn4
                      obtain ⟨z0, z1, -⟩ := (sat_blk hn4).two
                      have KG := Lib.hid (get_af hn4 hQ HQA.out hjn y HY.out)
                      clear hn4 hW2 hb26 e0 e1
                      go_wp2_with (go_at_call 14; (with_reducible refine (KG.out).mono ?_); rintro e w10 ⟨rfl, h10⟩; have H10 := Lib.hid h10; clear z0 z1; obtain ⟨z0, z1, -⟩ := (sat_blk (HN4.out.of_below h10)).two; clear h10)
                      go_roundg (P.length - (j + 1))
                      case measure => have := Hg5.out; omega
                      case rel => exact ⟨j + 1, rfl, by omega, by simp, HB5.out.trans ((HBW.out.trans (H10.out.mono HBW.out.size)).mono HB5.out.size)⟩
                    · obtain rfl : j = P.length := by omega
                      obtain ⟨sp7, cp7, c0x, hpr⟩ := sat_pairs (H9.out.of_below HB5.out)
                      have c0 : wr.cell? ⟨bs, 0, none⟩ = some (.slice sp7 P.length cp7) := c0x
                      clear c0x
                      have KS := Lib.hid (same_any ⟨P, [], [], 0⟩ _ _ wr (re_pairs cp7 hpr) (re_pairs cb (HQ.out.below HB5.out)) (by show P.length ≤ 100000; omega) (by simp) (by simp))
                      clear hpr
                      go_wp2_with (go_at_call 23; (with_reducible refine (KS.out).mono ?_); rintro e w8 ⟨rfl, h8⟩; have H8 := Lib.hid (sat_bel ((H9.out.of_below HB5.out).of_below h8)); clear h8)
                      go_ret
                      exact ⟨rfl, H8.out⟩
                | true =>
                  have H10 := Lib.hid (sat_two (hLB ▸ HA.out : SAt bs (SA P N (foldC cs)) w0 wr (As.row 62 2 sb P.length cb (flat pcells P) :: [LT])))
                  go_wp2_with fail
                  go_loopg [21, 130] cs.length (CmRel cs P N bs w0 sb cb [LT])
                  case atStart => exact ⟨0, sb, cb, rfl, Nat.zero_le _, rfl, rfl, H10.out⟩
                  case round =>
                    clear Hg3 HA
                    obtain ⟨q, s', c', hg3, hq3, rfl, rfl, hp⟩ := hrel
                    have Hg3 := Lib.hid hg3
                    have HA := Lib.hid hp
                    have hcln := content_len (cs.take q) P
                    have htk0 : (cs.take q).length ≤ cs.length := by rw [List.length_take]; omega
                    have hax : Asc Pr.k (content P (cs.take q)) := asc_content hpa
                    clear hg3 hp
                    by_cases hqn : q < cs.length
                    · obtain ⟨x, hx⟩ : ∃ x, cs[q] = x := ⟨_, rfl⟩
                      have hrc := HCS.out.below (sat_bel HA.out)
                      obtain ⟨g3, o3, hs3, -⟩ := hrc.addr (by omega)
                      subst hs3
                      obtain ⟨d0, d1, d2⟩ := c_at hrc hqn x hx
                      have HSu := Lib.hid (show content P (cs.take (q + 1)) = content (content P (cs.take q)) [x] from content_succ P cs q hqn x hx)
                      obtain ⟨D, hD⟩ : ∃ D, content P (cs.take q) = D := ⟨_, rfl⟩
                      rw [hD] at HSu HA hcln hax
                      simp only [hD]
                      have hqI : (q : Int) < (cs.length : Int) := by omega
                      have hq0I : (0 : Int) ≤ (q : Int) := by omega
                      clear hrc hx hD
                      go_upto_region 42 with fail
                      obtain ⟨W1, hW1⟩ : ∃ W1, wr.alloc (.cells #[.string x.k, .string x.v, .bool x.r] 59) = W1 := ⟨_, rfl⟩
                      obtain ⟨b25, hb25⟩ : ∃ b25, wr.heap.size = b25 := ⟨_, rfl⟩
                      have hbx := blk_new wr #[.string x.k, .string x.v, .bool x.r] 59 b25 hb25
                      have hBW : Below wr.heap.size wr W1 := by rw [← hW1]; exact (Below.refl _ wr).alloc (Nat.le_refl _) _
                      rw [hW1] at hbx
                      try simp only [hW1, hb25]
                      obtain ⟨z0, z1, z2, -⟩ := hbx.three
                      have h1 := (HA.out.of_below hBW).of_below ((Below.refl _ W1).alloc (Nat.le_refl _) (.cells #[.string x.k, .string x.v, .bool x.r] 59))
                      have H1 := Lib.hid h1
                      have r2 := rd_built_at W1 #[.string x.k, .string x.v, .bool x.r] 59 3 1 W1.heap.size rfl rfl (by simp [Value.oneCell'])
                      have KC := Lib.hid (show Calls Try.prog 25 #[.slice s' D.length c', .slice (some ⟨W1.heap.size, 0, none⟩) 1 1] (W1.alloc (.cells #[.string x.k, .string x.v, .bool x.r] 59)) (CoPost (content D [x]) s' _) from content_ref s' c' D _ 1 [x] _ (sat_rc2 h1) (by simpa [flat, ccells] using r2) (by simp; omega) hax)
                      clear h1 hbx hBW hW1 hb25 d0 d1 d2 r2
                      go_wp2_with (go_at_call 25; (with_reducible refine (KC.out).mono ?_); rintro e w6 ⟨s2, c2, rfl, hr6, hn6, hb6⟩; have H6 := Lib.hid (sat_next H1.out hr6 hn6 hb6); clear hr6 hn6 hb6)
                      go_roundg (cs.length - (q + 1))
                      case measure => have := Hg3.out; omega
                      case rel => exact ⟨q + 1, s2, c2, rfl, by omega, by simp, by rw [HSu.out], by rw [HSu.out]; exact H6.out⟩
                    · obtain rfl : q = cs.length := by omega
                      rw [List.take_length] at HA hcln hax
                      simp only [List.take_length]
                      have KA := Lib.hid (commit_at HA.out hpl (by omega) hpa)
                      go_upto_region 48 with (go_at_call 15; (with_reducible refine (KA.out).mono ?_); rintro e w9 ⟨rfl, h9⟩; have H9 := Lib.hid h9; have HQ := Lib.hid (sat_rc2 h9).rd; clear h9)
                      obtain ⟨Q, hQQ⟩ : ∃ Q, content P cs = Q := ⟨_, rfl⟩
                      rw [hQQ] at H9 HQ hcln hax
                      simp only [hQQ]
                      have hQ : Q.length ≤ 100 := by omega
                      have HQA := Lib.hid hax
                      clear hQQ hax
                      go_wp2_with fail
                      go_loopg [147] Q.length (CRel Q.length w9)
                      case atStart => exact ⟨0, rfl, Nat.zero_le _, rfl, Below.refl _ _⟩
                      case round =>
                        obtain ⟨j, hg5, hj, rfl, hb⟩ := hrel
                        have Hg5 := Lib.hid hg5
                        have HB5 := Lib.hid hb
                        clear hg5 hb
                        by_cases hjn : j < Q.length
                        · have hrd := HQ.out.below HB5.out
                          obtain ⟨g5, o5, hs5, -⟩ := hrd.addr (by omega)
                          subst hs5
                          obtain ⟨y, hy⟩ : ∃ y, Q[j] = y := ⟨_, rfl⟩
                          obtain ⟨e0, e1⟩ := p_at hrd hjn y hy
                          have HY := Lib.hid hy
                          have hjI : (j : Int) < (Q.length : Int) := by omega
                          have hj0I : (0 : Int) ≤ (j : Int) := by omega
                          clear hrd hy
                          go_upto_region 51 with fail
                          obtain ⟨W2, hW2⟩ : ∃ W2, wr.alloc (.cells #[.string y.k, .string y.v] 62) = W2 := ⟨_, rfl⟩
                          obtain ⟨b26, hb26⟩ : ∃ b26, wr.heap.size = b26 := ⟨_, rfl⟩
                          have hn4 := sat_new (H9.out.of_below HB5.out) #[.string y.k, .string y.v] 62
                          have HBW := Lib.hid (show Below wr.heap.size wr W2 by rw [← hW2]; exact (Below.refl _ wr).alloc (Nat.le_refl _) _)
                          rw [hW2, hb26] at hn4
                          try simp only [hW2, hb26]
                          have HN4 := Lib.hid hn4
                          obtain ⟨z0, z1, -⟩ := (sat_blk hn4).two
                          have KG := Lib.hid (get_af hn4 hQ HQA.out hjn y HY.out)
                          clear hn4 hW2 hb26 e0 e1
                          go_wp2_with (go_at_call 14; (with_reducible refine (KG.out).mono ?_); rintro e w10 ⟨rfl, h10⟩; have H10 := Lib.hid h10; clear z0 z1; obtain ⟨z0, z1, -⟩ := (sat_blk (HN4.out.of_below h10)).two; clear h10)
                          go_roundg (Q.length - (j + 1))
                          case measure => have := Hg5.out; omega
                          case rel => exact ⟨j + 1, rfl, by omega, by simp, HB5.out.trans ((HBW.out.trans (H10.out.mono HBW.out.size)).mono HB5.out.size)⟩
                        · obtain rfl : j = Q.length := by omega
                          obtain ⟨sp7, cp7, c0x, hpr⟩ := sat_pairs (H9.out.of_below HB5.out)
                          have c0 : wr.cell? ⟨bs, 0, none⟩ = some (.slice sp7 Q.length cp7) := c0x
                          clear c0x
                          have KS := Lib.hid (same_any ⟨Q, [], [], 0⟩ _ _ wr (re_pairs cp7 hpr) (re_pairs c' (HQ.out.below HB5.out)) (by show Q.length ≤ 100000; omega) (by simp) (by simp))
                          clear hpr
                          go_wp2_with (go_at_call 23; (with_reducible refine (KS.out).mono ?_); rintro e w8 ⟨rfl, h8⟩; have H8 := Lib.hid (sat_bel ((H9.out.of_below HB5.out).of_below h8)); clear h8)
                          go_ret
                          exact ⟨rfl, H8.out⟩

end Go.Proofs.Ytcglnjklnlejmaa
