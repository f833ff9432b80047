/-
  hit.Scroll.
-/
import Derived.Test.YtfjjgebfeklnhaaIs
set_option linter.unusedVariables false
set_option linter.unusedSimpArgs false
namespace Go.Proofs.Ytfjjgebfeklnhaa
open Go.RowKit Go.K

def scStep (c : Sc) (st : List Sc × Bool) (x : Sc) : List Sc × Bool := if x.n = c.n then (if st.2 then (st.1 ++ [c], false) else st) else (st.1 ++ [x], st.2)
def scFold (c : Sc) (kb : Bool) (l : List Sc) : List Sc × Bool := l.foldl (scStep c) ([], kb)
def keptB (c : Sc) : Bool := c.x != 0 || c.y != 0
def scrollL (c : Sc) (l : List Sc) : List Sc := if (scFold c (keptB c) l).2 then (scFold c (keptB c) l).1 ++ [c] else (scFold c (keptB c) l).1
theorem scFold_snoc (c : Sc) (kb : Bool) (l : List Sc) (x : Sc) : scFold c kb (l ++ [x]) = scStep c (scFold c kb l) x := by simp [scFold]
theorem scFold_len (c : Sc) (kb : Bool) (l : List Sc) : (scFold c kb l).1.length ≤ l.length := by
  have : ∀ (l : List Sc) (st : List Sc × Bool), (l.foldl (scStep c) st).1.length ≤ st.1.length + l.length := by
    intro l
    induction l with
    | nil => intro st; simp
    | cons x l ih =>
      intro st
      have h1 := ih (scStep c st x)
      have h2 : (scStep c st x).1.length ≤ st.1.length + 1 := by
        unfold scStep
        split
        · split <;> simp
        · simp
      simp only [List.foldl_cons, List.length_cons]
      omega
  have h := this l ([], kb)
  simpa [scFold] using h
theorem scFold_inv (c : Sc) (kb : Bool) (l : List Sc) : ((scFold c kb l).2 = kb ∧ ∀ x ∈ (scFold c kb l).1, (x.n == c.n) = false) ∨ (kb = true ∧ (scFold c kb l).2 = false ∧ (scFold c kb l).1.find? (fun s => s.n == c.n) = some c) := by
  have : ∀ (l : List Sc) (st : List Sc × Bool), ((st.2 = kb ∧ ∀ x ∈ st.1, (x.n == c.n) = false) ∨ (kb = true ∧ st.2 = false ∧ st.1.find? (fun s => s.n == c.n) = some c)) →
      (((l.foldl (scStep c) st).2 = kb ∧ ∀ x ∈ (l.foldl (scStep c) st).1, (x.n == c.n) = false) ∨ (kb = true ∧ (l.foldl (scStep c) st).2 = false ∧ (l.foldl (scStep c) st).1.find? (fun s => s.n == c.n) = some c)) := by
    intro l
    induction l with
    | nil => intro st h; exact h
    | cons x l ih =>
      intro st h
      rw [List.foldl_cons]
      refine ih _ ?_
      obtain ⟨o, b⟩ := st
      simp only at h
      unfold scStep
      by_cases hx : x.n = c.n
      · rw [if_pos hx]
        cases b with
        | true =>
          simp only [if_true]
          rcases h with ⟨h1, h2⟩ | ⟨_, h2, _⟩
          · refine .inr ⟨h1.symm, trivial, ?_⟩
            rw [List.find?_append, List.find?_eq_none.2 (fun p hp => by simp only [h2 p hp]; simp)]
            simp
          · cases h2
        | false =>
          simp only [Bool.false_eq_true, if_false]
          rcases h with h | ⟨a1, a2, a3⟩
          · exact .inl h
          · exact .inr ⟨a1, trivial, a3⟩
      · rw [if_neg hx]
        simp only
        rcases h with ⟨h1, h2⟩ | ⟨h1, h2, h3⟩
        · refine .inl ⟨h1, fun y hy => ?_⟩
          rcases List.mem_append.1 hy with e | e
          · exact h2 y e
          · rw [List.mem_singleton.1 e]; simpa using hx
        · exact .inr ⟨h1, h2, by rw [List.find?_append, h3]; rfl⟩
  exact this l ([], kb) (.inl ⟨rfl, by simp⟩)
theorem get_scroll (c : Sc) (l : List Sc) : getS (scrollL c l) c.n = c := by
  unfold scrollL
  rcases scFold_inv c (keptB c) l with ⟨h1, h2⟩ | ⟨h1, h2, h3⟩
  · cases hk : keptB c with
    | true =>
      rw [hk] at h1 h2
      rw [if_pos h1, getS, List.find?_append, List.find?_eq_none.2 (fun p hp => by simp only [h2 p hp]; simp)]
      simp
    | false =>
      rw [hk] at h1 h2
      rw [if_neg (by rw [h1]; simp), getS, List.find?_eq_none.2 (fun p hp => by simp only [h2 p hp]; simp)]
      obtain ⟨cn, cx, cy⟩ := c
      simp only [keptB, Bool.or_eq_false_iff, bne_eq_false_iff_eq] at hk
      obtain ⟨rfl, rfl⟩ := hk
      rfl
  · rw [if_neg (by rw [h2]; simp), getS, h3]; rfl

abbrev SlL (m bn : Nat) (t : Ft) (c : Sc) (yx yy : Int) (s : Option Addr) (cc : Nat) (o : List Sc) : List As :=
  [As.row 61 3 s o.length cc (flat scc o), As.cells bn #[.int .i64 c.n, .int .i64 c.x, .int .i64 c.y] 61, As.cells (m + 1) #[.int .i64 c.n, .int .i64 yx, .int .i64 yy] 61, As.cells m (fc t).toArray 51]
def SlRel (w : World) (m bn : Nat) (t : Ft) (c : Sc) (yx yy : Int) (ls : List Sc) (g : Nat) (v12 v13 v31 : Value) (wr' : World) : Prop :=
  ∃ (k n : Nat) (s : Option Addr) (cc : Nat) (b : Bool), g = ls.length - k ∧ k ≤ ls.length ∧ v31 = .int .i64 k ∧ v12 = .bool b ∧ v13 = .slice s n cc ∧ b = (scFold c (keptB c) (ls.take k)).2 ∧ n = (scFold c (keptB c) (ls.take k)).1.length ∧
    St w wr' (SlL m bn t c yx yy s cc (scFold c (keptB c) (ls.take k)).1)
def SlPost (c : Sc) (ls : List Sc) (w : World) (e : Ending) (w' : World) : Prop :=
  ∃ s cc, e = .returned (.slice s (scrollL c ls).length cc) ∧ K.Own w w' 61 3 s (scrollL c ls).length cc (flat scc (scrollL c ls))
theorem clamp_m (t : Ft) (nd x y wd ht : Int) (w : World) (hT : FtAt w t) (hsz : t.sz ≤ 100000) (p q : Int) (hp : (clampT t nd x y wd ht).1 = p) (hq : (clampT t nd x y wd ht).2 = q) :
    Calls Try.prog 19 #[.agg (fc t).toArray, sc3 nd x y, .int .i64 wd, .int .i64 ht] w fun e w' => e = .returned (sc3 nd p q) ∧ Below w.heap.size w w' := by
  subst hp hq; exact clamp_c t nd x y wd ht w hT hsz
theorem zv61 (w : World) : (zeroValue 61).run Try.prog w = .ok (.agg #[.int .i64 0, .int .i64 0, .int .i64 0]) w := by kernel_rfl

set_option maxRecDepth 100000 in
set_option maxHeartbeats 2000000 in
theorem scroll_any (t : Ft) (s : Option Addr) (cap n : Nat) (ls : List Sc) (yx yy : Int) (wd ht : Int) (c : Sc) (w : World) (hT : FtAt w t) (hsz : t.sz ≤ 100000) (h : Rd w 3 s n (flat scc ls)) (hl : ls.length = n) (hn : n ≤ 100000) (hcx : (clampT t c.n yx yy wd ht).1 = c.x) (hcy : (clampT t c.n yx yy wd ht).2 = c.y) :
    Calls Try.prog 21 #[.agg (fc t).toArray, .slice s n cap, sc3 c.n yx yy, .int .i64 wd, .int .i64 ht] w (SlPost c ls w) := by
  subst hl
  have HR := Lib.hid h
  have HT := Lib.hid hT
  clear h hT
  have hnI : (ls.length : Int) ≤ 100000 := by omega
  have h1 := ((St.start w (Below.refl _ w)).new (fc t).toArray 51).new #[.int .i64 c.n, .int .i64 yx, .int .i64 yy] 61
  simp only [World.size_alloc] at h1
  have H1 := Lib.hid h1
  obtain ⟨y0, y1, y2, -⟩ := h1.blk.1.three
  clear h1
  obtain ⟨m, hm⟩ : ∃ m, w.heap.size = m := ⟨_, rfl⟩
  rw [hm] at H1 y0 y1 y2
  have HCX := Lib.hid hcx
  have HCY := Lib.hid hcy
  clear hcx hcy
  go_enter Try.func21, Try.ntmps21
  go_upto_region 2 with (first
    | (refine st_load rfl (.tmp 5) rfl (fc t) H1.out (.tail _ (.head _)) rfl rfl Try.underlying51 rfl size51 ?_)
    | (go_at_call 19; refine (clamp_m t c.n yx yy wd ht _ (HT.out.stay H1.out.bel) hsz c.x c.y HCX.out HCY.out).mono ?_; rintro e w3 ⟨rfl, hb3⟩; have H3 := Lib.hid ((H1.out.of_below hb3).new #[.int .i64 c.n, .int .i64 c.x, .int .i64 c.y] 61); clear hb3))
  clear y0 y1 y2
  obtain ⟨bn, hbn⟩ : ∃ bn, w3.heap.size = bn := ⟨_, rfl⟩
  obtain ⟨W3, hW3⟩ : ∃ W3, w3.alloc (.cells #[.int .i64 c.n, .int .i64 c.x, .int .i64 c.y] 61) = W3 := ⟨_, rfl⟩
  rw [hW3, hbn] at H3
  rw [hW3]
  simp only [hbn]
  clear hW3
  obtain ⟨n0, n1, n2, -⟩ := H3.out.blk.1.three
  go_cut [12] (fun v12 wx => v12 = .bool (keptB c) ∧ wx = W3)
  case first =>
    obtain ⟨q1, hq1⟩ : ∃ q, (c.x != 0) = q := ⟨_, rfl⟩
    obtain ⟨q2, hq2⟩ : ∃ q, (c.y != 0) = q := ⟨_, rfl⟩
    have hk : keptB c = (q1 || q2) := by rw [keptB, hq1, hq2]
    have HK := Lib.hid hk
    clear hk
    cases q1 with
    | true =>
      go_wp2_with fail
      go_meet
      exact ⟨by rw [HK.out]; rfl, rfl⟩
    | false =>
      cases q2 with
      | true =>
        go_wp2_with fail
        go_meet
        exact ⟨by rw [HK.out]; rfl, rfl⟩
      | false =>
        go_wp2_with fail
        go_meet
        exact ⟨by rw [HK.out]; rfl, rfl⟩
  case rest =>
    obtain ⟨rfl, rfl⟩ := hcut
    clear n0 n1 n2
    obtain ⟨kb, hkb⟩ : ∃ kb, keptB c = kb := ⟨_, rfl⟩
    rw [hkb]
    have HKB := Lib.hid hkb
    clear hkb
    go_wp2_with fail
    go_loopg [12, 13, 31] ls.length (SlRel w m bn t c yx yy ls)
    case atStart =>
      refine ⟨0, 0, none, 0, kb, rfl, Nat.zero_le _, rfl, rfl, rfl, by rw [← HKB.out]; rfl, rfl, ?_⟩
      have h4 := H3.out.row_nil 61 3
      exact h4
    case round =>
      obtain ⟨k, n, s', cc, b, hg, hk, rfl, rfl, rfl, hb, hn', hst⟩ := hrel
      have Hg := Lib.hid hg
      have HS := Lib.hid hst
      have HB := Lib.hid hb
      have HN := Lib.hid hn'
      have hfl := scFold_len c (keptB c) (ls.take k)
      have htl : (ls.take k).length ≤ k := by rw [List.length_take]; omega
      have hnl : n ≤ 100000 := by omega
      clear hg hst hb hn' hfl htl
      obtain ⟨n0, n1, n2, -⟩ := (HS.out.blkm (b := bn) (.tail _ (.head _))).three
      by_cases hkn : k < ls.length
      · have hkI : (k : Int) < (ls.length : Int) := by omega
        have hkI0 : (0 : Int) ≤ (k : Int) := by omega
        have hrd := HR.out.below HS.out.bel
        obtain ⟨g, off, rfl, -⟩ := hrd.addr (by omega)
        have hsn : scFold c (keptB c) (ls.take (k + 1)) = scStep c (scFold c (keptB c) (ls.take k)) ls[k] := by
          rw [List.take_succ_eq_append_getElem hkn, scFold_snoc]
        obtain ⟨x, hx⟩ : ∃ x, ls[k] = x := ⟨_, rfl⟩
        obtain ⟨d0, d1, d2⟩ := sc_at hrd hkn x hx
        rw [hx] at hsn
        obtain ⟨st, hst⟩ : ∃ st, scFold c (keptB c) (ls.take k) = st := ⟨_, rfl⟩
        rw [hst] at hsn HS HB HN
        obtain ⟨o, ob⟩ := st
        simp only at HS HB HN
        have hbo := HB.out
        subst hbo
        have hno := HN.out
        subst hno
        have HSN := Lib.hid hsn
        clear hrd hx hst hsn HB HN
        go_upto_region 7 with fail
        have h4 := HS.out.new #[.int .i64 x.n, .int .i64 x.x, .int .i64 x.y] 61
        obtain ⟨bxx, hbxx⟩ : ∃ bxx, wr.heap.size = bxx := ⟨_, rfl⟩
        obtain ⟨W4, hW4⟩ : ∃ W4, wr.alloc (.cells #[.int .i64 x.n, .int .i64 x.x, .int .i64 x.y] 61) = W4 := ⟨_, rfl⟩
        rw [hW4, hbxx] at h4
        rw [hW4]
        simp only [hbxx]
        have H4 := Lib.hid h4
        obtain ⟨c0, c1, c2, -⟩ := h4.blk.1.three
        clear n0 n1 n2
        obtain ⟨n0, n1, n2, -⟩ := (h4.blkm (b := bn) (.tail _ (.tail _ (.head _)))).three
        have e0 : W4.cell? ⟨m + 1, 0, none⟩ = some (.int .i64 c.n) := (h4.blkm (b := m + 1) (.tail _ (.tail _ (.tail _ (.head _))))).cell 0
        clear h4 hW4 d0 d1 d2
        by_cases hxn : x.n = c.n
        · have hxb : (x.n != c.n) = false := by simp [hxn]
          cases b with
          | true =>
            have H5 := Lib.hid (St.sh [_, _, _, _, _] [1, 0, 2, 3, 4] (by decide) H4.out)
            go_wp2_with (refine st_push rfl (.tmp 45) (.tmp 47) rfl el61 (H5.out.alloc (.cells #[.int .i64 c.n, .int .i64 c.x, .int .i64 c.y] 61)) rfl #[.int .i64 c.n, .int .i64 c.x, .int .i64 c.y] (H5.out.new #[.int .i64 c.n, .int .i64 c.x, .int .i64 c.y] 61).blk.1 rfl rfl (scc_one c) (by omega) (by decide) ?_; intro s7 c7 W7 HW7; have H7 := Lib.hid HW7; clear HW7)
            go_roundg (ls.length - (k + 1))
            case measure => have := Hg.out; omega
            case rel =>
              have h8 := (St.sh [_, _, _, _, _] [1, 0, 2, 3, 4] (by decide) H7.out).drop
              have e1 : scFold c (keptB c) (ls.take (k + 1)) = (o ++ [c], false) := by rw [HSN.out, scStep, if_pos hxn]; rfl
              refine ⟨k + 1, o.length + 1, s7, c7, false, rfl, hkn, by simp, rfl, rfl, by rw [e1], by rw [e1]; simp, ?_⟩
              rw [e1]
              have e2 : flat scc (o ++ [c]) = flat scc o ++ (#[Value.int .i64 c.n, .int .i64 c.x, .int .i64 c.y]).toList := by rw [flat_append]; simp [flat, scc]
              show St w _ [As.row 61 3 s7 (o ++ [c]).length c7 (flat scc (o ++ [c])), _, _, _]
              rw [e2, List.length_append]
              exact h8
          | false =>
            go_wp2_with fail
            go_roundg (ls.length - (k + 1))
            case measure => have := Hg.out; omega
            case rel =>
              have e1 : scFold c (keptB c) (ls.take (k + 1)) = (o, false) := by rw [HSN.out, scStep, if_pos hxn]; rfl
              refine ⟨k + 1, o.length, s', cc, false, rfl, hkn, by simp, rfl, rfl, by rw [e1], by rw [e1], ?_⟩
              rw [e1]
              exact H4.out.drop
        · have hxb : (x.n != c.n) = true := by simp [hxn]
          have H5 := Lib.hid (St.sh [_, _, _, _, _] [1, 0, 2, 3, 4] (by decide) H4.out)
          go_wp2_with (refine st_push rfl (.tmp 40) (.tmp 42) rfl el61 (H5.out.alloc (.cells #[.int .i64 x.n, .int .i64 x.x, .int .i64 x.y] 61)) rfl #[.int .i64 x.n, .int .i64 x.x, .int .i64 x.y] (H5.out.new #[.int .i64 x.n, .int .i64 x.x, .int .i64 x.y] 61).blk.1 rfl rfl (scc_one x) (by omega) (by decide) ?_; intro s7 c7 W7 HW7; have H7 := Lib.hid HW7; clear HW7)
          go_roundg (ls.length - (k + 1))
          case measure => have := Hg.out; omega
          case rel =>
            have h8 := (St.sh [_, _, _, _, _] [1, 0, 2, 3, 4] (by decide) H7.out).drop
            have e1 : scFold c (keptB c) (ls.take (k + 1)) = (o ++ [x], b) := by rw [HSN.out, scStep, if_neg hxn]
            refine ⟨k + 1, o.length + 1, s7, c7, b, rfl, hkn, by simp, rfl, rfl, by rw [e1], by rw [e1]; simp, ?_⟩
            rw [e1]
            have e2 : flat scc (o ++ [x]) = flat scc o ++ (#[Value.int .i64 x.n, .int .i64 x.x, .int .i64 x.y]).toList := by rw [flat_append]; simp [flat, scc]
            show St w _ [As.row 61 3 s7 (o ++ [x]).length c7 (flat scc (o ++ [x])), _, _, _]
            rw [e2, List.length_append]
            exact h8
      · have hkI : ¬ (k : Int) < (ls.length : Int) := by omega
        have hke : k = ls.length := by omega
        subst hke
        rw [List.take_length] at HS HB HN
        obtain ⟨st, hst⟩ : ∃ st, scFold c (keptB c) ls = st := ⟨_, rfl⟩
        rw [hst] at HS HB HN
        have hsl : scrollL c ls = if st.2 then st.1 ++ [c] else st.1 := by rw [scrollL, hst]
        obtain ⟨o, ob⟩ := st
        simp only at HS HB HN hsl
        have hbo := HB.out
        subst hbo
        have hno := HN.out
        subst hno
        have HSL := Lib.hid hsl
        clear hst hsl HB HN
        cases b with
        | true =>
          go_wp2_with (refine st_push rfl (.tmp 51) (.tmp 53) rfl el61 (HS.out.alloc (.cells #[.int .i64 c.n, .int .i64 c.x, .int .i64 c.y] 61)) rfl #[.int .i64 c.n, .int .i64 c.x, .int .i64 c.y] (HS.out.new #[.int .i64 c.n, .int .i64 c.x, .int .i64 c.y] 61).blk.1 rfl rfl (scc_one c) (by omega) (by decide) ?_; intro s7 c7 W7 HW7; have H7 := Lib.hid HW7; clear HW7)
          go_ret
          have e1 : scrollL c ls = o ++ [c] := by rw [HSL.out]; rfl
          have e2 : flat scc (o ++ [c]) = flat scc o ++ (#[Value.int .i64 c.n, .int .i64 c.x, .int .i64 c.y]).toList := by rw [flat_append]; simp [flat, scc]
          refine ⟨s7, c7, by rw [e1, List.length_append]; rfl, ?_⟩
          rw [e1, e2, List.length_append]
          exact ⟨H7.out.sl, H7.out.bel, fun k hk => (H7.out.row_blk k hk).2.1⟩
        | false =>
          go_wp2_with fail
          go_ret
          have e1 : scrollL c ls = o := by rw [HSL.out]; rfl
          refine ⟨s', cc, by rw [e1]; rfl, ?_⟩
          rw [e1]
          exact ⟨HS.out.sl, HS.out.bel, fun k hk => (HS.out.row_blk k hk).2.1⟩
end Go.Proofs.Ytfjjgebfeklnhaa
