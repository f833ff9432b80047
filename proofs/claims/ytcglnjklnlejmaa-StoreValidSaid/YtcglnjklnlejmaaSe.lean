/-
  store.size and store.content.
-/
import Derived.Test.YtcglnjklnlejmaaSd
import Derived.Deep.CutBlock
set_option linter.unusedVariables false
set_option linter.unusedSimpArgs false
namespace Go.Proofs.Ytcglnjklnlejmaa
open Go.RowKit Go.K Go.K.Sr

theorem sizeP_take (l : List Pr) (k : Nat) (hk : k < l.length) (x : Pr) (hx : l[k] = x) : sizeP (l.take (k + 1)) = sizeP (l.take k) + (x.k.size + x.v.size) := by
  unfold sizeP
  rw [List.take_succ_eq_append_getElem hk, hx]
  simp
theorem sizeP_le (l : List Pr) (k : Nat) : sizeP (l.take k) ≤ sizeP l := by
  conv => rhs; rw [← List.take_append_drop k l]
  unfold sizeP
  rw [List.map_append, List.sum_append]
  omega
def SzRel (l : List Pr) (w : World) (g : Nat) (v3 v8 : Value) (wr : World) : Prop :=
  ∃ k : Nat, g = l.length - k ∧ k ≤ l.length ∧ v8 = .int .i64 k ∧ v3 = .int .i64 (sizeP (l.take k)) ∧ Below w.heap.size w wr
set_option maxHeartbeats 600000 in
theorem size_any (s : Option Addr) (c : Nat) (l : List Pr) (w : World) (hs : Rd w 2 s l.length (flat pcells l)) (hn : l.length ≤ 1000000) (hz : sizeP l ≤ 4611686018427387904) :
    Calls Try.prog 37 #[.slice s l.length c] w fun e w' => e = .returned (.int .i64 (sizeP l)) ∧ Below w.heap.size w w' := by
  have HS := Lib.hid hs
  clear hs
  go_enter Try.func37, Try.ntmps37
  go_wp2_with fail
  go_loopg [3, 8] l.length (SzRel l w)
  case atStart => exact ⟨0, rfl, Nat.zero_le _, rfl, rfl, Below.refl _ _⟩
  case round =>
    obtain ⟨k, hg, hk, rfl, rfl, hb⟩ := hrel
    have Hg := Lib.hid hg
    have HB := Lib.hid hb
    clear hg hb
    by_cases hkn : k < l.length
    · have hr := HS.out.below HB.out
      obtain ⟨g, off, rfl, -⟩ := hr.addr (by omega)
      obtain ⟨x, hx⟩ : ∃ x, l[k] = x := ⟨_, rfl⟩
      obtain ⟨d0, d1⟩ := p_at hr hkn x hx
      have HE := Lib.hid (sizeP_take l k hkn x hx)
      have hle := sizeP_le l (k + 1)
      rw [HE.out] at hle
      obtain ⟨z, hzz⟩ : ∃ z, sizeP (l.take k) = z := ⟨_, rfl⟩
      rw [hzz] at HE hle
      simp only [hzz]
      have hkI : (k : Int) < (l.length : Int) := by omega
      have hw1 : IntKind.i64.wrap ((x.k.size : Int) + (x.v.size : Int)) = (x.k.size : Int) + (x.v.size : Int) := by rw [IntKind.wrap_i64]; omega
      have hw2 : IntKind.i64.wrap ((z : Int) + ((x.k.size : Int) + (x.v.size : Int))) = (z : Int) + ((x.k.size : Int) + (x.v.size : Int)) := by rw [IntKind.wrap_i64]; omega
      clear hx hr hzz
      go_wp2_with fail
      go_roundg (l.length - (k + 1))
      case measure => have := Hg.out; omega
      case rel => exact ⟨k + 1, rfl, by omega, by simp, by rw [HE.out]; simp, HB.out.trans ((Below.refl _ _).alloc HB.out.size _)⟩
    · obtain rfl : k = l.length := by omega
      rw [List.take_length]
      go_wp2_with fail
      go_ret
      exact ⟨rfl, HB.out⟩

theorem content_take (l : List Pr) (cs : List Ch) (k : Nat) (hk : k < cs.length) (x : Ch) (hx : cs[k] = x) : content l (cs.take (k + 1)) = appC (content l (cs.take k)) x := by
  unfold content
  rw [List.take_succ_eq_append_getElem hk, hx]
  simp
theorem putP_len (k v : ByteArray) (l : List Pr) : (putP k v l).length ≤ l.length + 1 := by
  induction l with
  | nil => simp [putP]
  | cons p l ih =>
    unfold putP
    split
    · simp; omega
    · split <;> simp
theorem appC_len (l : List Pr) (c : Ch) : (appC l c).length ≤ l.length + 1 := by
  unfold appC
  split
  · have := List.length_filter_le (fun p : Pr => decide (p.k ≠ c.k)) l
    unfold delP
    omega
  · exact putP_len _ _ _
theorem content_len (cs : List Ch) : ∀ l : List Pr, (content l cs).length ≤ l.length + cs.length := by
  induction cs with
  | nil => intro l; simp [content]
  | cons c cs ih =>
    intro l
    have h1 := ih (appC l c)
    have h2 := appC_len l c
    simp only [content, List.foldl_cons, List.length_cons] at h1 ⊢
    omega
theorem _root_.Go.K.Sl.some_free {w : World} {e : TypeId} {sz g off n c : Nat} {xs : List Value} (h : Sl w e sz (some ⟨g, off, none⟩) n c xs) (j : Nat) : w.frozen? ⟨g, j, none⟩ = false := by
  rcases h.row with ⟨q, _⟩ | ⟨g2, off2, cur, q, hb, _⟩
  · cases q
  · cases q
    exact Blk.free hb j
theorem join_row {w0 w w' : World} {L : List As} {e : TypeId} {sz : Nat} {s : Option Addr} {n c : Nat} {xs : List Value} (h : St w0 w L) (k : St w w' [As.row e sz s n c xs]) : St w0 w' (As.row e sz s n c xs :: L) := by
  obtain ⟨F, h1, h2, h3⟩ := k.head
  exact h.add (F' := F) h1 (Fr.of_below k.bel) (fun q hq => h2 q hq)

def CnRel (l : List Pr) (cs : List Ch) (w : World) (g : Nat) (v5 v14 : Value) (wr : World) : Prop :=
  ∃ (k : Nat) (s : Option Addr) (c : Nat), g = cs.length - k ∧ k ≤ cs.length ∧ v14 = .int .i64 k ∧ v5 = .slice s (content l (cs.take k)).length c ∧ St w wr [As.row 62 2 s (content l (cs.take k)).length c (flat pcells (content l (cs.take k)))]
def CnPost (l : List Pr) (cs : List Ch) (w : World) (e : Ending) (w' : World) : Prop :=
  ∃ s c, e = .returned (.slice s (content l cs).length c) ∧ St w w' [As.row 62 2 s (content l cs).length c (flat pcells (content l cs))]
def CnMid (l2 : List Pr) (x : Ch) (w : World) (v5 : Value) (wx : World) : Prop :=
  ∃ s c, v5 = .slice s (appC l2 x).length c ∧ St w wx [As.row 62 2 s (appC l2 x).length c (flat pcells (appC l2 x))]
theorem cn_next {l : List Pr} {cs : List Ch} {w wx : World} {k : Nat} {O : List Pr} {x : Ch} {v5 : Value} (hk : k < cs.length) (he : content l (cs.take (k + 1)) = appC O x) (h : CnMid O x w v5 wx) : CnRel l cs w (cs.length - (k + 1)) v5 (.int .i64 ((k : Int) + 1)) wx := by
  obtain ⟨s, c, rfl, h2⟩ := h
  exact ⟨k + 1, s, c, rfl, by omega, by simp, by rw [he], by rw [he]; exact h2⟩
theorem p_len (A : List Pr) : (flat pcells A).length = A.length * 2 := flat_len (f := pcells) (sz := 2) (fun _ => rfl) A
theorem pcells_one (p : Pr) : ∀ u ∈ pcells p, u.oneCell' = true := by
  intro u hu
  simp [pcells] at hu
  rcases hu with rfl | rfl <;> rfl

set_option maxRecDepth 100000 in
set_option maxHeartbeats 600000 in
theorem content_any (s : Option Addr) (c : Nat) (l : List Pr) (s2 : Option Addr) (c2 : Nat) (cs : List Ch) (w : World) (hp : Rd w 2 s l.length (flat pcells l)) (hc0 : s = none → c = 0) (hc : Rd w 3 s2 cs.length (flat ccells cs)) (hn : l.length ≤ 100000) (hm : cs.length ≤ 100000) (ha : Asc Pr.k l) :
    Calls Try.prog 35 #[.slice s l.length c, .slice s2 cs.length c2] w (CnPost l cs w) := by
  have HC := Lib.hid hc
  have HA := Lib.hid ha
  go_enter Try.func35, Try.ntmps35
  go_wp2_with (go_at_call 55; refine (cloneP _ _ _ _ _ hp hc0 (by omega)).mono ?_; rintro e w1 ⟨s1, c1, rfl, g1, g2, g3⟩; have H1 := Lib.hid ((St.start w (Below.refl _ w)).row_new g1 g2 g3))
  clear hp hc ha
  go_loopg [5, 14] cs.length (CnRel l cs w)
  case atStart => exact ⟨0, s1, c1, rfl, Nat.zero_le _, rfl, rfl, H1.out⟩
  case round =>
    clear H1 g1 g2 g3
    obtain ⟨k, so, co, hg, hk, rfl, rfl, hst⟩ := hrel
    have Hg := Lib.hid hg
    have HST := Lib.hid hst
    have hcl := content_len (cs.take k) l
    have htl : (cs.take k).length = k := by rw [List.length_take]; omega
    rw [htl] at hcl
    have HAk := Lib.hid (asc_content (cs := cs.take k) HA.out)
    clear hg hst
    by_cases hkn : k < cs.length
    · have hr := HC.out.below HST.out.bel
      obtain ⟨g, off, rfl, -⟩ := hr.addr (by omega)
      obtain ⟨x, hx⟩ : ∃ x, cs[k] = x := ⟨_, rfl⟩
      obtain ⟨d0, d1, d2⟩ := c_at hr hkn x hx
      have HE := Lib.hid (content_take l cs k hkn x hx)
      obtain ⟨O, hO⟩ : ∃ O, content l (cs.take k) = O := ⟨_, rfl⟩
      rw [hO] at HE HST HAk hcl
      simp only [hO]
      have hkI : (k : Int) < (cs.length : Int) := by omega
      clear hx hr hO
      go_upto_block 2 with (go_at_call 34; refine (pplace_any so co O x.k _ (HST.out.sl.rd.alloc _) (by omega) HAk.out).mono ?_; rintro e w3 ⟨A, B, hcut, rfl, hb3⟩; have HCut := Lib.hid hcut; clear hcut)
      have HST3 := Lib.hid ((HST.out.alloc (.cells #[.string x.k, .string x.v, .bool x.r] 59)).of_below hb3)
      have hbx := (Blk.new wr #[.string x.k, .string x.v, .bool x.r] 59).kept (S := fun _ => False) (Fr.of_below hb3) (fun q => q)
      obtain ⟨k0, k1, k2, -, -, -⟩ := hbx.three
      have HB3 := Lib.hid hb3
      clear hb3 d0 d1 d2 hbx
      obtain ⟨cx, hcx⟩ : ∃ cx, wr.heap.size = cx := ⟨_, rfl⟩
      rw [hcx] at k0 k1 k2 ⊢
      have hOl : O.length = A.length + B.length := by rw [HCut.out.eq]; simp
      have hw1 : IntKind.i64.wrap ((A.length : Int) + 1) = (A.length : Int) + 1 := by rw [IntKind.wrap_i64]; omega
      obtain ⟨hk, hhk⟩ : ∃ hk, hasKey Pr.k x.k B = hk := ⟨_, rfl⟩
      have HHK := Lib.hid hhk
      rw [hhk]
      clear hhk
      cases hxr : x.r with
      | true =>
        rw [hxr] at k2
        cases hk with
        | true =>
          obtain ⟨b, B', hBB⟩ : ∃ b B', B = b :: B' := by
            cases B with
            | nil => exact absurd HHK.out (by simp [hasKey])
            | cons b B' => exact ⟨b, B', rfl⟩
          subst hBB
          have hfl : flat pcells O = flat pcells A ++ pcells b ++ flat pcells B' := by rw [HCut.out.eq, flat_append, List.append_assoc]; rfl
          have hst := HST3.out
          rw [hfl] at hst
          have HD := Lib.hid hst
          have hAp : appC O x = A ++ B' := by
            unfold appC
            rw [hxr, if_pos rfl, delP_cut HAk.out HCut.out, HHK.out]
            rfl
          have HAp := Lib.hid hAp
          simp only [List.length_cons] at hOl
          have HOl := Lib.hid hOl
          clear hst hfl hAp hxr hOl
          go_wp2_with (go_at_call 56; refine (deleteP _ _ A.length B'.length (A.length + B'.length) (flat pcells A) (pcells b) (flat pcells B') HD.out (p_len A) rfl (p_len B') rfl (by have := HOl.out; omega) rfl rfl (by have := HOl.out; omega)).mono ?_; rintro e w4 ⟨s4, c4, rfl, h4⟩)
          go_roundg (cs.length - (k + 1))
          case measure => have := Hg.out; omega
          case rel =>
            refine cn_next hkn HE.out ?_
            have hOl := HOl.out
            exact ⟨s4, c4, by rw [HAp.out]; simp, by rw [HAp.out, flat_append]; simpa using h4⟩
        | false =>
          have hAp : appC O x = O := by
            unfold appC
            rw [hxr, if_pos rfl, delP_cut HAk.out HCut.out, HHK.out, HCut.out.eq]
            rfl
          have HAp := Lib.hid hAp
          have HOl := Lib.hid hOl
          clear hAp hxr hOl
          go_wp2_with fail
          go_roundg (cs.length - (k + 1))
          case measure => have := Hg.out; omega
          case rel =>
            refine cn_next hkn HE.out ?_
            have hOl := HOl.out
            exact ⟨so, co, by rw [HAp.out], by rw [HAp.out]; exact HST3.out⟩
      | false =>
        rw [hxr] at k2
        cases hk with
        | true =>
          obtain ⟨b, B', hBB⟩ : ∃ b B', B = b :: B' := by
            cases B with
            | nil => exact absurd HHK.out (by simp [hasKey])
            | cons b B' => exact ⟨b, B', rfl⟩
          subst hBB
          have hbk : b.k = x.k := by have := HHK.out; simpa [hasKey] using this
          simp only [List.length_cons] at hOl
          have hAO : A.length < O.length := by omega
          have hOA : O[A.length] = b := by
            have := HCut.out.eq
            subst this
            simp
          have hfl : flat pcells O = flat pcells A ++ pcells b ++ flat pcells B' := by rw [HCut.out.eq, flat_append, List.append_assoc]; rfl
          obtain ⟨g2, o2, rfl, -⟩ := HST3.out.sl.rd.addr (by omega)
          obtain ⟨e0, e1⟩ := p_at HST3.out.sl.rd hAO b hOA
          have hfz := HST3.out.sl.some_free (o2 + A.length * 2 + 1)
          have hAp : appC O x = A ++ ⟨x.k, x.v⟩ :: B' := by
            unfold appC
            rw [hxr, if_neg (by simp), putP_cut HAk.out HCut.out, HHK.out]
            rfl
          have HAp := Lib.hid hAp
          have hset := HST3.out.row_set (A.length * 2 + 1) (by omega) (.string x.v) rfl
          rw [hfl] at hset
          have hAfl : (flat pcells A).length = A.length * 2 := p_len A
          have hse : (flat pcells A ++ pcells b ++ flat pcells B').set (A.length * 2 + 1) (.string x.v) = flat pcells (A ++ ⟨x.k, x.v⟩ :: B') := by
            rw [List.append_assoc, ← hAfl, List.set_append_right _ _ (by omega), flat_append]
            rw [Nat.add_sub_cancel_left, ← hbk]
            rfl
          rw [hse, ← Nat.add_assoc] at hset
          have HSET := Lib.hid hset
          have hAI : (A.length : Int) < (O.length : Int) := by omega
          have HOl := Lib.hid hOl
          clear hset hse hAfl hfl hAp hxr hOA hbk e0 hOl hAO
          go_wp2_with fail
          go_roundg (cs.length - (k + 1))
          case measure => have := Hg.out; omega
          case rel =>
            refine cn_next hkn HE.out ?_
            have hOl := HOl.out
            exact ⟨some ⟨g2, o2, none⟩, co, by rw [HAp.out]; simp; omega, by rw [HAp.out]; simpa [hOl, Nat.add_assoc] using HSET.out⟩
        | false =>
          have hfl : flat pcells O = flat pcells A ++ flat pcells B := by rw [HCut.out.eq, flat_append]
          have hst := HST3.out.alloc (.cells #[.string x.k, .string x.v] 62)
          rw [hfl] at hst
          have HD := Lib.hid hst
          have hAp : appC O x = A ++ ⟨x.k, x.v⟩ :: B := by
            unfold appC
            rw [hxr, if_neg (by simp), putP_cut HAk.out HCut.out, HHK.out]
            rfl
          have HAp := Lib.hid hAp
          have hrow : rowOf so ≠ some w3.heap.size := by
            intro e
            have := HST3.out.sl.lt _ e
            omega
          have HOl := Lib.hid hOl
          clear hst hfl hAp hxr hOl
          go_wp2_with (go_at_call 57; refine (insertP _ #[.string x.k, .string x.v] _ A.length B.length (flat pcells A) (flat pcells B) HD.out (Blk.new w3 _ _) hrow rfl (by simp [Value.oneCell']) (p_len A) (p_len B) (by have := HOl.out; omega) rfl (by have := HOl.out; omega)).mono ?_; rintro e w4 ⟨s4, c4, rfl, h4⟩)
          go_roundg (cs.length - (k + 1))
          case measure => have := Hg.out; omega
          case rel =>
            refine cn_next hkn HE.out ?_
            have hOl := HOl.out
            refine ⟨s4, c4, by rw [HAp.out]; simp; omega, ?_⟩
            rw [HAp.out, flat_append]
            have e1 : (A ++ ({ k := x.k, v := x.v } : Pr) :: B).length = O.length + 1 := by simp; omega
            rw [e1]
            simpa [flat, pcells] using h4
    · obtain rfl : k = cs.length := by omega
      rw [List.take_length] at HST
      simp only [List.take_length]
      go_wp2_with fail
      go_ret
      exact ⟨so, co, rfl, HST.out⟩
end Go.Proofs.Ytcglnjklnlejmaa
