/-
  The reference: Without, Set, Content.
-/
import Derived.Test.YtcglnjklnlejmaaSr
set_option linter.unusedVariables false
set_option linter.unusedSimpArgs false
namespace Go.Proofs.Ytcglnjklnlejmaa
open Go.RowKit Go.K Go.K.Sr

def stepS (k v : ByteArray) (a : Bool × List Pr) (x : Pr) : Bool × List Pr := if !a.1 && klt k x.k then (true, a.2 ++ [⟨k, v⟩] ++ [x]) else (a.1, a.2 ++ [x])
theorem stepS_true (k v : ByteArray) (l : List Pr) : ∀ out, l.foldl (stepS k v) (true, out) = (true, out ++ l) := by
  induction l with
  | nil => simp
  | cons x l ih => intro out; rw [List.foldl_cons, show stepS k v (true, out) x = (true, out ++ [x]) from rfl, ih]; simp
def finS (k v : ByteArray) (a : Bool × List Pr) : List Pr := if a.1 then a.2 else a.2 ++ [⟨k, v⟩]
theorem del_id {k : ByteArray} {l : List Pr} (h : ∀ x ∈ l, klt k x.k = true) : delP k l = l :=
  List.filter_eq_self.2 (fun a ha => by have := klt_ne (h a ha); simp; exact fun e => this e.symm)
theorem finS_eq (k v : ByteArray) {l : List Pr} (h : Asc Pr.k l) : ∀ out, finS k v ((delP k l).foldl (stepS k v) (false, out)) = out ++ putP k v l := by
  induction l with
  | nil => intro out; rfl
  | cons p l ih =>
    intro out
    have h1 := List.pairwise_cons.1 h
    unfold putP
    by_cases hp : klt p.k k = true
    · have hne := klt_ne hp
      have e : delP k (p :: l) = p :: delP k l := by simp [delP, List.filter_cons, hne]
      rw [if_pos hp, e, List.foldl_cons, show stepS k v (false, out) p = (false, out ++ [p]) from by simp [stepS, klt_asymm hp], ih h1.2]
      simp
    · have hp' : klt p.k k = false := by simpa using hp
      rw [if_neg hp]
      by_cases he : p.k = k
      · rw [if_pos he]
        have hl : ∀ x ∈ l, klt k x.k = true := fun x hx => he ▸ h1.1 x hx
        have e : delP k (p :: l) = l := by
          have : delP k (p :: l) = delP k l := by simp [delP, List.filter_cons, he]
          rw [this, del_id hl]
        rw [e]
        cases l with
        | nil => rfl
        | cons x l =>
          rw [List.foldl_cons, show stepS k v (false, out) x = (true, out ++ [⟨k, v⟩] ++ [x]) from by simp [stepS, hl x (by simp)], stepS_true]
          simp [finS]
      · rw [if_neg he]
        have hkp := klt_of_not hp' he
        have hl : ∀ x ∈ l, klt k x.k = true := fun x hx => klt_trans hkp (h1.1 x hx)
        have e : delP k (p :: l) = p :: l := by
          have : delP k (p :: l) = p :: delP k l := by simp [delP, List.filter_cons, he]
          rw [this, del_id hl]
        rw [e, List.foldl_cons, show stepS k v (false, out) p = (true, out ++ [⟨k, v⟩] ++ [p]) from by simp [stepS, hkp], stepS_true]
        simp [finS]
theorem del_succ (k : ByteArray) (l : List Pr) (i : Nat) (hi : i < l.length) (x : Pr) (hx : l[i] = x) : delP k (l.take (i + 1)) = delP k (l.take i) ++ (if (x.k.toList == k.toList) then [] else [x]) := by
  unfold delP
  rw [List.take_succ_eq_append_getElem hi, hx, List.filter_append]
  congr 1
  by_cases h : x.k = k
  · subst h; simp
  · have : x.k.toList ≠ k.toList := fun e => h (toList_inj e)
    simp [List.filter_cons, h, this]
theorem del_len (k : ByteArray) (l : List Pr) : (delP k l).length ≤ l.length := List.length_filter_le _ _
def WoRel (l : List Pr) (k : ByteArray) (w : World) (g : Nat) (v5 v6 : Value) (wr : World) : Prop :=
  ∃ (i : Nat) (s : Option Addr) (c : Nat), g = l.length - i ∧ i ≤ l.length ∧ v6 = .int .i64 i ∧ v5 = .slice s (delP k (l.take i)).length c ∧ K.Own w wr 62 2 s (delP k (l.take i)).length c (flat pcells (delP k (l.take i)))
def PsPost (R : List Pr) (w : World) (e : Ending) (w' : World) : Prop :=
  ∃ s c, e = .returned (.slice s R.length c) ∧ K.Own w w' 62 2 s R.length c (flat pcells R)

set_option maxRecDepth 100000 in
set_option maxHeartbeats 2000000 in
theorem without_any (s : Option Addr) (c : Nat) (l : List Pr) (key : ByteArray) (w : World) (h : Rd w 2 s l.length (flat pcells l)) (hn : l.length ≤ 100000) :
    Calls Try.prog 45 #[.slice s l.length c, .string key] w (PsPost (delP key l) w) := by
  have HR := Lib.hid h
  clear h
  go_enter Try.func45, Try.ntmps45
  go_wp2_with fail
  go_loopg [5, 6] l.length (WoRel l key w)
  case atStart => exact ⟨0, none, 0, rfl, Nat.zero_le _, rfl, rfl, K.Own.nil (Below.refl _ _) _ _⟩
  case round =>
    obtain ⟨i, so, co, hg, hi, rfl, rfl, hp⟩ := hrel
    have Hg := Lib.hid hg
    have HO := Lib.hid hp
    have hdl := del_len key (l.take i)
    clear hg hp
    have htl : (l.take i).length ≤ l.length := by rw [List.length_take]; omega
    by_cases hin : i < l.length
    · have hrd := HR.out.below HO.out.bel
      obtain ⟨g, o, rfl, -⟩ := hrd.addr (by omega)
      obtain ⟨x, hx⟩ : ∃ x, l[i] = x := ⟨_, rfl⟩
      obtain ⟨e0, e1⟩ := p_at hrd hin x hx
      have HSu := Lib.hid (del_succ key l i hin x hx)
      have hiI : (i : Int) < (l.length : Int) := by omega
      have hi0I : (0 : Int) ≤ (i : Int) := by omega
      obtain ⟨O, hO⟩ : ∃ O, delP key (l.take i) = O := ⟨_, rfl⟩
      rw [hO] at HO HSu hdl
      simp only [hO]
      obtain ⟨v1, hv1⟩ : ∃ v, (x.k.toList == key.toList) = v := ⟨_, rfl⟩
      rw [hv1] at HSu
      have H3a := Lib.hid (HO.out.alloc (.cells #[.string x.k, .string x.v] 62))
      have r2 := rd_built_at wr #[.string x.k, .string x.v] 62 2 1 wr.heap.size rfl rfl (by simp [Value.oneCell'])
      clear hrd hx hO
      cases v1
      all_goals
        go_wp2_with (refine wpList_append_own' rfl (.tmp 20) (.tmp 25) 25 rfl elP so _ co _ rfl H3a.out _ 1 _ _ rfl r2 (by omega) (by omega) ?_; intro so' co' w4 p1 p2 p3; have H4 := Lib.hid p1; clear p1 p2 p3)
        go_roundg (l.length - (i + 1))
        case measure => have := Hg.out; omega
        case rel =>
          have he := HSu.out
          simp at he
          first
            | (refine ⟨i + 1, so', co', rfl, by omega, by simp, by rw [he]; simp, ?_⟩; rw [he, flat_append, flat_one]; simpa [pcells] using H4.out)
            | (refine ⟨i + 1, so, co, rfl, by omega, by simp, by rw [he], ?_⟩; rw [he]; exact HO.out)
    · obtain rfl : i = l.length := by omega
      rw [List.take_length] at HO
      simp only [List.take_length]
      go_wp2_with fail
      refine bodyPost_ret (v := .slice so (delP key l).length co) (by simp [results, Try.results45, go_sem]) rfl ⟨so, co, rfl, HO.out⟩

def SeRel (l : List Pr) (k v : ByteArray) (w : World) (g : Nat) (v7 v8 v9 : Value) (wr : World) : Prop :=
  ∃ (i : Nat) (s : Option Addr) (c : Nat) (d : Bool) (O : List Pr), (d = false → O.length ≤ i) ∧ (l.take i).foldl (stepS k v) (false, []) = (d, O) ∧ g = l.length - i ∧ i ≤ l.length ∧ O.length ≤ i + 1 ∧ v9 = .int .i64 i ∧ v8 = .bool d ∧ v7 = .slice s O.length c ∧ K.Own w wr 62 2 s O.length c (flat pcells O)
theorem ste_succ (k v : ByteArray) (l : List Pr) (i : Nat) (hi : i < l.length) (x : Pr) (hx : l[i] = x) (d : Bool) (O : List Pr) (h : (l.take i).foldl (stepS k v) (false, []) = (d, O)) : (l.take (i + 1)).foldl (stepS k v) (false, []) = stepS k v (d, O) x := by
  rw [List.take_succ_eq_append_getElem hi, List.foldl_append, h, hx]
  rfl
set_option maxRecDepth 100000 in
set_option maxHeartbeats 4000000 in
theorem set_any (s : Option Addr) (c : Nat) (l : List Pr) (key v : ByteArray) (w : World) (h : Rd w 2 s l.length (flat pcells l)) (hn : l.length ≤ 90000) (ha : Asc Pr.k l) :
    Calls Try.prog 42 #[.slice s l.length c, .string key, .string v] w (PsPost (putP key v l) w) := by
  have HR := Lib.hid h
  have hfe := finS_eq key v ha []
  have hdl := del_len key l
  obtain ⟨D, hD⟩ : ∃ D, delP key l = D := ⟨_, rfl⟩
  have HW := Lib.hid (without_any s c l key w h (by omega))
  rw [hD] at hfe hdl HW
  rw [List.nil_append] at hfe
  have HFE := Lib.hid hfe
  clear h hfe hD
  go_enter Try.func42, Try.ntmps42
  go_upto_region 2 with (go_at_call 45; refine HW.out.mono ?_; rintro e w2 ⟨s2, c2, rfl, hown⟩; have HD := Lib.hid hown; clear hown)
  have HRD := Lib.hid HD.out.rd
  go_wp2_with fail
  go_loopg [7, 8, 9] D.length (SeRel D key v w2)
  case atStart => exact ⟨0, none, 0, false, [], fun _ => by simp, rfl, rfl, Nat.zero_le _, by simp, rfl, rfl, rfl, K.Own.nil (Below.refl _ _) _ _⟩
  case round =>
    obtain ⟨i, so, co, d, O, hdf, hst, hg, hi, hol, rfl, rfl, rfl, hp⟩ := hrel
    have Hg := Lib.hid hg
    have HO := Lib.hid hp
    have HST := Lib.hid hst
    clear hg hp hst
    by_cases hin : i < D.length
    · have hrd := HRD.out.below HO.out.bel
      obtain ⟨g, o, rfl, -⟩ := hrd.addr (by omega)
      obtain ⟨x, hx⟩ : ∃ x, D[i] = x := ⟨_, rfl⟩
      obtain ⟨e0, e1⟩ := p_at hrd hin x hx
      have HSu := Lib.hid (ste_succ key v D i hin x hx d O HST.out)
      have hiI : (i : Int) < (D.length : Int) := by omega
      have hi0I : (0 : Int) ≤ (i : Int) := by omega
      obtain ⟨v1, hv1⟩ : ∃ u, Op.bytesLess key.toList x.k.toList = u := ⟨_, rfl⟩
      have hk1 : klt key x.k = v1 := hv1
      have HK1 := Lib.hid hk1
      have hx0 := p_at HRD.out hin x hx
      have HPX := Lib.hid (show ∀ w' : World, Below w2.heap.size w2 w' → g < w'.heap.size ∧ w'.cell? ⟨g, o + i * 2, none⟩ = some (.string x.k) ∧ w'.cell? ⟨g, o + i * 2 + 1, none⟩ = some (.string x.v) from fun w' h => ⟨Nat.lt_of_lt_of_le (World.block_lt_of_cell? _ _ hx0.1) h.size, (h.cell (World.block_lt_of_cell? _ _ hx0.1)).trans hx0.1, (h.cell (World.block_lt_of_cell? _ _ hx0.2)).trans hx0.2⟩)
      have hgl : g < wr.heap.size := World.block_lt_of_cell? _ _ e0
      clear hrd hx hk1 hx0
      rcases (show d = true ∨ (d = false ∧ v1 = false) ∨ (d = false ∧ v1 = true) by cases d <;> cases v1 <;> decide) with rfl | ⟨rfl, rfl⟩ | ⟨rfl, rfl⟩
      · have H3a := Lib.hid (HO.out.alloc (.cells #[.string x.k, .string x.v] 62))
        have r2 := rd_built_at wr #[.string x.k, .string x.v] 62 2 1 wr.heap.size rfl rfl (by simp [Value.oneCell'])
        go_wp2_with (refine wpList_append_own' rfl (.tmp 36) (.tmp 41) 25 rfl elP so _ co _ rfl H3a.out _ 1 _ _ rfl r2 (by omega) (by omega) ?_; intro so' co' w4 p1 p2 p3; have H4 := Lib.hid p1; clear p1 p2 p3)
        go_roundg (D.length - (i + 1))
        case measure => have := Hg.out; omega
        case rel =>
          refine ⟨i + 1, so', co', true, O ++ [x], (fun h => by cases h), by rw [HSu.out]; rfl, rfl, by omega, by simp; omega, by simp, rfl, by simp, ?_⟩
          rw [flat_append, flat_one]
          simpa [pcells] using H4.out
      · have H3a := Lib.hid (HO.out.alloc (.cells #[.string x.k, .string x.v] 62))
        have r2 := rd_built_at wr #[.string x.k, .string x.v] 62 2 1 wr.heap.size rfl rfl (by simp [Value.oneCell'])
        go_wp2_with (refine wpList_append_own' rfl (.tmp 36) (.tmp 41) 25 rfl elP so _ co _ rfl H3a.out _ 1 _ _ rfl r2 (by omega) (by omega) ?_; intro so' co' w4 p1 p2 p3; have H4 := Lib.hid p1; clear p1 p2 p3)
        go_roundg (D.length - (i + 1))
        case measure => have := Hg.out; omega
        case rel =>
          refine ⟨i + 1, so', co', false, O ++ [x], (fun _ => by have hd : O.length ≤ i := (by simpa using hdf); simp; omega), by rw [HSu.out]; simp [stepS, HK1.out], rfl, by omega, by simp; omega, by simp, rfl, by simp, ?_⟩
          rw [flat_append, flat_one]
          simpa [pcells] using H4.out
      · have H3a := Lib.hid (HO.out.alloc (.cells #[.string key, .string v] 62))
        have r2 := rd_built_at wr #[.string key, .string v] 62 2 1 wr.heap.size rfl rfl (by simp [Value.oneCell'])
        go_wp2_with (first
          | (refine wpList_append_own' rfl (.tmp 30) (.tmp 34) 25 rfl elP so _ co _ rfl H3a.out _ 1 _ _ rfl r2 (by omega) (by omega) ?_; intro so1 co1 w5 p1 p2 p3; clear e0 e1 hgl; obtain ⟨hgl, e0, e1⟩ := HPX.out _ p1.bel; have H5a := Lib.hid (p1.alloc (.cells #[.string x.k, .string x.v] 62)); have r3 := rd_built_at w5 #[.string x.k, .string x.v] 62 2 1 w5.heap.size rfl rfl (by simp [Value.oneCell']); clear p1 p2 p3)
          | (refine wpList_append_own' rfl (.tmp 36) (.tmp 41) 25 rfl elP so1 _ co1 _ rfl H5a.out _ 1 _ _ rfl r3 (by omega) (by omega) ?_; intro so' co' w4 p1 p2 p3; have H4 := Lib.hid p1; clear p1 p2 p3))
        go_roundg (D.length - (i + 1))
        case measure => have := Hg.out; omega
        case rel =>
          refine ⟨i + 1, so', co', true, O ++ [⟨key, v⟩] ++ [x], (fun h => by cases h), by rw [HSu.out]; simp [stepS, HK1.out], rfl, by omega, ?_, by simp, rfl, by simp, ?_⟩
          · have hd : O.length ≤ i := (by simpa using hdf); simp; omega
          rw [flat_append, flat_append, flat_one, flat_one]
          simpa [pcells] using H4.out
    · obtain rfl : i = D.length := by omega
      rw [List.take_length] at HST
      have hfe := HFE.out
      rw [HST.out] at hfe
      cases d with
      | true =>
        have he : O = putP key v l := hfe
        subst he
        go_wp2_with fail
        refine bodyPost_ret (v := .slice so (putP key v l).length co) (by simp [results, Try.results42, go_sem]) rfl ⟨so, co, rfl, own_from HD.out.bel HO.out⟩
      | false =>
        have he : O ++ [⟨key, v⟩] = putP key v l := hfe
        have HE := Lib.hid he
        have H3a := Lib.hid (HO.out.alloc (.cells #[.string key, .string v] 62))
        have r2 := rd_built_at wr #[.string key, .string v] 62 2 1 wr.heap.size rfl rfl (by simp [Value.oneCell'])
        clear he hfe
        go_wp2_with (refine wpList_append_own' rfl (.tmp 45) (.tmp 49) 25 rfl elP so _ co _ rfl H3a.out _ 1 _ _ rfl r2 (by omega) (by omega) ?_; intro so' co' w4 p1 p2 p3; have H4 := Lib.hid p1; clear p1 p2 p3)
        refine bodyPost_ret (v := .slice so' (O.length + 1) co') (by simp [results, Try.results42, go_sem]) rfl ⟨so', co', by rw [← HE.out]; simp, ?_⟩
        rw [← HE.out, flat_append, flat_one]
        simpa [pcells] using own_from HD.out.bel H4.out

/-- a slice that reads as R, in a row of s or in a new one -/
def CoPost (R : List Pr) (s : Option Addr) (w : World) (e : Ending) (w' : World) : Prop :=
  ∃ s' c, e = .returned (.slice s' R.length c) ∧ Rc w' 2 s' R.length c (flat pcells R) ∧ (∀ k, rowOf s' = some k → rowOf s = some k ∨ (w.heap.size ≤ k ∧ k < w'.heap.size)) ∧ Below w.heap.size w w'
def CoRel (l : List Pr) (cs : List Ch) (s : Option Addr) (w : World) (g : Nat) (v0 v5 : Value) (wr : World) : Prop :=
  ∃ (i : Nat) (s' : Option Addr) (c : Nat), g = cs.length - i ∧ i ≤ cs.length ∧ v5 = .int .i64 i ∧ v0 = .slice s' (content l (cs.take i)).length c ∧ Rc wr 2 s' (content l (cs.take i)).length c (flat pcells (content l (cs.take i))) ∧ (∀ k, rowOf s' = some k → rowOf s = some k ∨ (w.heap.size ≤ k ∧ k < wr.heap.size)) ∧ Below w.heap.size w wr
theorem content_succ (l : List Pr) (cs : List Ch) (i : Nat) (hi : i < cs.length) (x : Ch) (hx : cs[i] = x) : content l (cs.take (i + 1)) = appC (content l (cs.take i)) x := by
  unfold content
  rw [List.take_succ_eq_append_getElem hi, hx, List.foldl_append]
  rfl
set_option maxRecDepth 100000 in
set_option maxHeartbeats 4000000 in
theorem content_ref (s : Option Addr) (c : Nat) (l : List Pr) (sc : Option Addr) (cc : Nat) (cs : List Ch) (w : World) (h : Rc w 2 s l.length c (flat pcells l)) (hc : Rd w 3 sc cs.length (flat ccells cs)) (hn : l.length + cs.length ≤ 90000) (ha : Asc Pr.k l) :
    Calls Try.prog 25 #[.slice s l.length c, .slice sc cs.length cc] w (CoPost (content l cs) s w) := by
  have HR := Lib.hid h
  have HC := Lib.hid hc
  clear h hc
  go_enter Try.func25, Try.ntmps25
  go_wp2_with fail
  go_loopg [0, 5] cs.length (CoRel l cs s w)
  case atStart => exact ⟨0, s, c, rfl, Nat.zero_le _, rfl, rfl, HR.out, fun k hk => .inl hk, Below.refl _ _⟩
  case round =>
    obtain ⟨i, s', c', hg, hi, rfl, rfl, hr, hnew, hb⟩ := hrel
    have Hg := Lib.hid hg
    have HR1 := Lib.hid hr
    have HN := Lib.hid hnew
    have HB := Lib.hid hb
    have hcl := content_len (cs.take i) l
    have htl : (cs.take i).length ≤ cs.length := by rw [List.length_take]; omega
    have hax : Asc Pr.k (content l (cs.take i)) := asc_content ha
    clear hg hr hnew hb
    by_cases hin : i < cs.length
    · have hrd := HC.out.below HB.out
      obtain ⟨g, o, rfl, -⟩ := hrd.addr (by omega)
      obtain ⟨x, hx⟩ : ∃ x, cs[i] = x := ⟨_, rfl⟩
      obtain ⟨e0, e1, e2⟩ := c_at hrd hin x hx
      have HSu := Lib.hid (content_succ l cs i hin x hx)
      have hiI : (i : Int) < (cs.length : Int) := by omega
      have hi0I : (0 : Int) ≤ (i : Int) := by omega
      obtain ⟨D, hD⟩ : ∃ D, content l (cs.take i) = D := ⟨_, rfl⟩
      rw [hD] at HR1 HSu hcl hax
      simp only [hD]
      obtain ⟨v1, hv1⟩ : ∃ v, x.r = v := ⟨_, rfl⟩
      have HV := Lib.hid hv1
      rw [hv1] at e2
      have HW := Lib.hid (without_any s' c' D x.k wr HR1.out.rd (by omega))
      have HT := Lib.hid (set_any s' c' D x.k x.v wr.drew HR1.out.drew.rd (by omega) hax)
      clear hrd hx hD hv1
      cases v1 with
      | true =>
        have he : content l (cs.take (i + 1)) = delP x.k D := by rw [HSu.out]; unfold appC; rw [if_pos HV.out]
        have HE := Lib.hid he
        clear he
        go_wp2_with (go_at_call 45; (with_reducible refine HW.out.mono ?_); rintro e w2 ⟨s2, c2, rfl, hown⟩; have HD := Lib.hid hown; clear hown)
        go_roundg (cs.length - (i + 1))
        case measure => have := Hg.out; omega
        case rel =>
          refine ⟨i + 1, s2, c2, rfl, by omega, by simp, by rw [HE.out], by rw [HE.out]; exact HD.out.rc, fun k hk => .inr ⟨Nat.le_trans HB.out.size (HD.out.row k hk), HD.out.sl.lt k hk⟩, HB.out.trans (HD.out.bel.mono HB.out.size)⟩
      | false =>
        have he : content l (cs.take (i + 1)) = putP x.k x.v D := by rw [HSu.out]; unfold appC; rw [if_neg (by rw [HV.out]; simp)]
        have HE := Lib.hid he
        clear he
        go_upto_region 6 with fail
        go_still_tail 11, (by kernel_rfl)
        change wpList _ _ _ _ _ wr.drew
        go_wp2_with (go_at_call 42; (with_reducible refine HT.out.mono ?_); rintro e w2 ⟨s2, c2, rfl, hown⟩; have HD := Lib.hid hown; clear hown)
        go_roundg (cs.length - (i + 1))
        case measure => have := Hg.out; omega
        case rel =>
          refine ⟨i + 1, s2, c2, rfl, by omega, by simp, by rw [HE.out], by rw [HE.out]; exact HD.out.rc, fun k hk => .inr ⟨Nat.le_trans HB.out.size (HD.out.row k hk), HD.out.sl.lt k hk⟩, HB.out.trans ((show Below wr.heap.size wr w2 from ⟨HD.out.bel.os, HD.out.bel.tape, HD.out.bel.output, HD.out.bel.size, HD.out.bel.block⟩).mono HB.out.size)⟩
    · obtain rfl : i = cs.length := by omega
      rw [List.take_length] at HR1
      simp only [List.take_length]
      go_wp2_with fail
      refine bodyPost_ret (v := .slice s' (content l cs).length c') (by simp [results, Try.results25, go_sem]) rfl ⟨s', c', rfl, HR1.out, HN.out, HB.out⟩

end Go.Proofs.Ytcglnjklnlejmaa
