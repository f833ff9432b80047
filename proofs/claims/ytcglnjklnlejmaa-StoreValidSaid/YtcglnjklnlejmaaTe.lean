/-
  The reference: Change.
-/
import Derived.Test.YtcglnjklnlejmaaTd
set_option linter.unusedVariables false
set_option linter.unusedSimpArgs false
namespace Go.Proofs.Ytcglnjklnlejmaa
open Go.RowKit Go.K Go.K.Sr

/-- a step of the reference's Change -/
def g1 (c : Ch) (d : Bool) (O : List Ch) (x : Ch) : Bool × List Ch := if !d && !klt x.k c.k then (true, O ++ [c]) else (d, O)
def stepG (c : Ch) (a : Bool × List Ch) (x : Ch) : Bool × List Ch := if x.k.toList == c.k.toList then g1 c a.1 a.2 x else ((g1 c a.1 a.2 x).1, (g1 c a.1 a.2 x).2 ++ [x])
def finG (c : Ch) (a : Bool × List Ch) : List Ch := if a.1 then a.2 else a.2 ++ [c]
theorem keq (a b : ByteArray) : (a.toList == b.toList) = decide (a = b) := by
  by_cases h : a = b
  · subst h; simp
  · have : a.toList ≠ b.toList := fun e => h (toList_inj e)
    simp [h, this]
theorem stepG_true (c : Ch) (l : List Ch) (h : ∀ x ∈ l, x.k ≠ c.k) : ∀ out, l.foldl (stepG c) (true, out) = (true, out ++ l) := by
  induction l with
  | nil => simp
  | cons x l ih =>
    intro out
    have hx := h x (by simp)
    rw [List.foldl_cons, show stepG c (true, out) x = (true, out ++ [x]) from by unfold stepG; rw [keq, decide_eq_false hx]; rfl, ih (fun y hy => h y (by simp [hy]))]
    simp
theorem finG_eq (c : Ch) {l : List Ch} (h : Asc Ch.k l) : ∀ out, finG c (l.foldl (stepG c) (false, out)) = out ++ withC c l := by
  induction l with
  | nil => intro out; rfl
  | cons p l ih =>
    intro out
    have h1 := List.pairwise_cons.1 h
    unfold withC
    by_cases hp : klt p.k c.k = true
    · have hne := klt_ne hp
      rw [if_pos hp, List.foldl_cons, show stepG c (false, out) p = (false, out ++ [p]) from by unfold stepG; rw [keq, decide_eq_false hne]; simp [g1, hp], ih h1.2]
      simp
    · have hp' : klt p.k c.k = false := by simpa using hp
      rw [if_neg hp]
      by_cases he : p.k = c.k
      · have hl : ∀ x ∈ l, x.k ≠ c.k := fun x hx => fun e => by have := klt_ne (h1.1 x hx); exact this (he.trans e.symm)
        rw [if_pos he, List.foldl_cons, show stepG c (false, out) p = (true, out ++ [c]) from by unfold stepG; rw [keq, decide_eq_true he]; simp [g1, hp'], stepG_true c l hl]
        simp [finG]
      · have hkp := klt_of_not hp' he
        have hl : ∀ x ∈ l, x.k ≠ c.k := fun x hx => fun e => by have := klt_trans hkp (h1.1 x hx); rw [e, klt_irrefl] at this; cases this
        rw [if_neg he, List.foldl_cons, show stepG c (false, out) p = (true, out ++ [c] ++ [p]) from by unfold stepG; rw [keq, decide_eq_false he]; simp [g1, hp'], stepG_true c l hl]
        simp [finG]
theorem stg_succ (c : Ch) (l : List Ch) (i : Nat) (hi : i < l.length) (x : Ch) (hx : l[i] = x) (d : Bool) (O : List Ch) (h : (l.take i).foldl (stepG c) (false, []) = (d, O)) : (l.take (i + 1)).foldl (stepG c) (false, []) = stepG c (d, O) x := by
  rw [List.take_succ_eq_append_getElem hi, List.foldl_append, h, hx]
  rfl
def CgRel (l : List Ch) (c : Ch) (w : World) (g : Nat) (v5 v6 v7 : Value) (wr : World) : Prop :=
  ∃ (i : Nat) (s : Option Addr) (cc : Nat) (d : Bool) (O : List Ch), (l.take i).foldl (stepG c) (false, []) = (d, O) ∧ g = l.length - i ∧ i ≤ l.length ∧ O.length ≤ 2 * i ∧ v7 = .int .i64 i ∧ v6 = .bool d ∧ v5 = .slice s O.length cc ∧ K.Own w wr 59 3 s O.length cc (flat ccells O)
def CsPost (R : List Ch) (w : World) (e : Ending) (w' : World) : Prop :=
  ∃ s c, e = .returned (.slice s R.length c) ∧ K.Own w w' 59 3 s R.length c (flat ccells R)
theorem flat_c1 (x : Ch) : flat ccells [x] = ccells x := by simp [flat]

set_option maxRecDepth 100000 in
set_option maxHeartbeats 4000000 in
theorem change_ref (s : Option Addr) (cc : Nat) (l : List Ch) (c : Ch) (w : World) (h : Rd w 3 s l.length (flat ccells l)) (hn : l.length ≤ 40000) (ha : Asc Ch.k l) :
    Calls Try.prog 43 #[.slice s l.length cc, .agg #[.string c.k, .string c.v, .bool c.r]] w (CsPost (withC c l) w) := by
  have HR := Lib.hid h
  have HFE := Lib.hid (finG_eq c ha [])
  clear h
  go_enter Try.func43, Try.ntmps43
  go_upto_region 1 with fail
  obtain ⟨W, hW⟩ : ∃ W, w.alloc (.cells #[.string c.k, .string c.v, .bool c.r] 59) = W := ⟨_, rfl⟩
  obtain ⟨b, hbz⟩ : ∃ b, w.heap.size = b := ⟨_, rfl⟩
  have HW := Lib.hid (show Below w.heap.size w W by rw [← hW]; exact (Below.refl _ w).alloc (Nat.le_refl _) _)
  have KA := Blk.new w #[.string c.k, .string c.v, .bool c.r] 59
  rw [hW, hbz] at KA
  try simp only [hW, hbz]
  have HRW := Lib.hid (HR.out.below HW.out)
  have HKA := Lib.hid KA
  clear hW hbz KA
  go_wp2_with fail
  go_loopg [5, 6, 7] l.length (CgRel l c W)
  case atStart => exact ⟨0, none, 0, false, [], rfl, rfl, Nat.zero_le _, by simp, rfl, rfl, rfl, by simpa [flat] using K.Own.nil (Below.refl W.heap.size W) 59 3⟩
  case round =>
    obtain ⟨i, so, co, d, O, hst, hg, hi, hol, rfl, rfl, rfl, hp⟩ := hrel
    have Hg := Lib.hid hg
    have HO := Lib.hid hp
    have HST := Lib.hid hst
    clear hg hp hst
    have kb := HO.out.blk HKA.out
    obtain ⟨k0, k1, k2, -⟩ := kb.three
    by_cases hin : i < l.length
    · have hrd := HRW.out.below HO.out.bel
      obtain ⟨g, o, rfl, -⟩ := hrd.addr (by omega)
      obtain ⟨x, hx⟩ : ∃ x, l[i] = x := ⟨_, rfl⟩
      obtain ⟨e0, e1, e2⟩ := c_at hrd hin x hx
      have HSu := Lib.hid (stg_succ c l i hin x hx d O HST.out)
      have hiI : (i : Int) < (l.length : Int) := by omega
      have hi0I : (0 : Int) ≤ (i : Int) := by omega
      have hgl : g < wr.heap.size := World.block_lt_of_cell? _ _ e0
      obtain ⟨u1, hu1⟩ : ∃ v, Op.bytesLess c.k.toList x.k.toList = v := ⟨_, rfl⟩
      obtain ⟨u2, hu2⟩ : ∃ v, (c.k.toList == x.k.toList) = v := ⟨_, rfl⟩
      have hu2' : (x.k.toList == c.k.toList) = u2 := by rw [← hu2, keq, keq]; exact decide_eq_decide.2 ⟨Eq.symm, Eq.symm⟩
      have hk1 : klt c.k x.k = u1 := hu1
      have hcase : (u1 = true ∧ u2 = false ∧ klt x.k c.k = false) ∨ (u1 = false ∧ u2 = true ∧ klt x.k c.k = false) ∨ (u1 = false ∧ u2 = false ∧ klt x.k c.k = true) := by
        rw [keq] at hu2
        cases u2 with
        | true =>
          have e : c.k = x.k := by simpa using hu2
          rw [e, klt_irrefl] at hk1
          rw [e]
          exact .inr (.inl ⟨hk1.symm, rfl, klt_irrefl _⟩)
        | false =>
          have e : ¬ c.k = x.k := by simpa using hu2
          cases u1 with
          | true => exact .inl ⟨rfl, rfl, klt_asymm hk1⟩
          | false => exact .inr (.inr ⟨rfl, rfl, klt_of_not hk1 e⟩)
      have HPX := Lib.hid (show ∀ w' : World, Below W.heap.size W w' → (g < w'.heap.size ∧ b < w'.heap.size) ∧ (w'.cell? ⟨g, o + i * 3, none⟩ = some (.string x.k) ∧ w'.cell? ⟨g, o + i * 3 + 1, none⟩ = some (.string x.v) ∧ w'.cell? ⟨g, o + i * 3 + 2, none⟩ = some (.bool x.r)) ∧ w'.cell? ⟨b, 0, none⟩ = some (.string c.k) ∧ w'.cell? ⟨b, 1, none⟩ = some (.string c.v) ∧ w'.cell? ⟨b, 2, none⟩ = some (.bool c.r) from fun w' h => by
        have c1 := c_at (HRW.out.below h) hin x hx
        have c2 := (HKA.out.kept (Fr.of_below h) (fun q => q)).three
        exact ⟨⟨World.block_lt_of_cell? _ _ c1.1, World.block_lt_of_cell? _ _ c2.1⟩, c1, c2.1, c2.2.1, c2.2.2.1⟩)
      clear hrd hx kb hk1 e0 e1 e2 k0 k1 k2 hgl
      cases d
      all_goals rcases hcase with ⟨rfl, rfl, hkx⟩ | ⟨rfl, rfl, hkx⟩ | ⟨rfl, rfl, hkx⟩
      · obtain ⟨⟨hgl, hbl⟩, ⟨e0, e1, e2⟩, k0, k1, k2⟩ := HPX.out _ HO.out.bel
        go_upto_region 6 with fail
        go_quiet (fail)
        obtain ⟨wq, hwq⟩ : ∃ wq, wr.drewN nq = wq := ⟨_, rfl⟩
        have HQ := Lib.hid (own_dn HO.out nq)
        rw [hwq] at HQ ⊢
        clear hwq e0 e1 e2 k0 k1 k2 hgl hbl
        obtain ⟨⟨hgl, hbl⟩, ⟨e0, e1, e2⟩, k0, k1, k2⟩ := HPX.out _ HQ.out.bel
        have H3a := Lib.hid (HQ.out.alloc (.cells #[.string c.k, .string c.v, .bool c.r] 59))
        have r2 := rd_built_at wq #[.string c.k, .string c.v, .bool c.r] 59 3 1 wq.heap.size rfl rfl (by simp [Value.oneCell'])
        go_upto_region 9 with (refine wpList_append_own' rfl (.tmp 26) (.tmp 28) 34 rfl elC so _ co _ rfl H3a.out _ 1 _ _ rfl r2 (by omega) (by omega) ?_; intro s1 c1 wa p1 p2 p3; have HQ1 := Lib.hid p1; clear p1 p2 p3 e0 e1 e2 k0 k1 k2 hgl hbl; obtain ⟨⟨hgl, hbl⟩, ⟨e0, e1, e2⟩, k0, k1, k2⟩ := HPX.out _ HQ1.out.bel)
        go_quiet (fail)
        obtain ⟨wz, hwz⟩ : ∃ wz, wa.drewN nq = wz := ⟨_, rfl⟩
        have HZ := Lib.hid (own_dn HQ1.out nq)
        rw [hwz] at HZ ⊢
        clear hwz e0 e1 e2 k0 k1 k2 hgl hbl
        obtain ⟨⟨hgl, hbl⟩, ⟨e0, e1, e2⟩, k0, k1, k2⟩ := HPX.out _ HZ.out.bel
        have H3b := Lib.hid (HZ.out.alloc (.cells #[.string x.k, .string x.v, .bool x.r] 59))
        have r3 := rd_built_at wz #[.string x.k, .string x.v, .bool x.r] 59 3 1 wz.heap.size rfl rfl (by simp [Value.oneCell'])
        go_wp2_with (refine wpList_append_own' rfl (.tmp 38) (.tmp 43) 34 rfl elC s1 _ c1 _ rfl H3b.out _ 1 _ _ rfl r3 (by omega) (by omega) ?_; intro s2 c2 w2 p1 p2 p3; have HQ2 := Lib.hid p1; clear p1 p2 p3)
        go_roundg (l.length - (i + 1))
        case measure => have := Hg.out; omega
        case rel =>
          refine ⟨i + 1, s2, c2, true, O ++ [c] ++ [x], by rw [HSu.out]; simp [stepG, g1, hu2', hkx], rfl, by omega, by (try simp only [List.length_append, List.length_cons, List.length_nil]); omega, by simp, rfl, by simp, ?_⟩
          rw [flat_append, flat_append, flat_c1, flat_c1]
          simpa [ccells] using HQ2.out
      · obtain ⟨⟨hgl, hbl⟩, ⟨e0, e1, e2⟩, k0, k1, k2⟩ := HPX.out _ HO.out.bel
        go_upto_region 6 with fail
        go_quiet (fail)
        obtain ⟨wq, hwq⟩ : ∃ wq, wr.drewN nq = wq := ⟨_, rfl⟩
        have HQ := Lib.hid (own_dn HO.out nq)
        rw [hwq] at HQ ⊢
        clear hwq e0 e1 e2 k0 k1 k2 hgl hbl
        obtain ⟨⟨hgl, hbl⟩, ⟨e0, e1, e2⟩, k0, k1, k2⟩ := HPX.out _ HQ.out.bel
        have H3a := Lib.hid (HQ.out.alloc (.cells #[.string c.k, .string c.v, .bool c.r] 59))
        have r2 := rd_built_at wq #[.string c.k, .string c.v, .bool c.r] 59 3 1 wq.heap.size rfl rfl (by simp [Value.oneCell'])
        go_upto_region 9 with (refine wpList_append_own' rfl (.tmp 26) (.tmp 28) 34 rfl elC so _ co _ rfl H3a.out _ 1 _ _ rfl r2 (by omega) (by omega) ?_; intro s1 c1 wa p1 p2 p3; have HQ1 := Lib.hid p1; clear p1 p2 p3 e0 e1 e2 k0 k1 k2 hgl hbl; obtain ⟨⟨hgl, hbl⟩, ⟨e0, e1, e2⟩, k0, k1, k2⟩ := HPX.out _ HQ1.out.bel)
        go_quiet (fail)
        obtain ⟨wz, hwz⟩ : ∃ wz, wa.drewN nq = wz := ⟨_, rfl⟩
        have HZ := Lib.hid (own_dn HQ1.out nq)
        rw [hwz] at HZ ⊢
        clear hwz e0 e1 e2 k0 k1 k2 hgl hbl
        obtain ⟨⟨hgl, hbl⟩, ⟨e0, e1, e2⟩, k0, k1, k2⟩ := HPX.out _ HZ.out.bel
        go_wp2_with fail
        go_roundg (l.length - (i + 1))
        case measure => have := Hg.out; omega
        case rel =>
          refine ⟨i + 1, s1, c1, true, O ++ [c], by rw [HSu.out]; simp [stepG, g1, hu2', hkx], rfl, by omega, by (try simp only [List.length_append, List.length_cons, List.length_nil]); omega, by simp, rfl, by simp, ?_⟩
          rw [flat_append, flat_c1]
          simpa [ccells] using HZ.out
      · obtain ⟨⟨hgl, hbl⟩, ⟨e0, e1, e2⟩, k0, k1, k2⟩ := HPX.out _ HO.out.bel
        go_upto_region 6 with fail
        go_quiet (fail)
        obtain ⟨wq, hwq⟩ : ∃ wq, wr.drewN nq = wq := ⟨_, rfl⟩
        have HQ := Lib.hid (own_dn HO.out nq)
        rw [hwq] at HQ ⊢
        clear hwq e0 e1 e2 k0 k1 k2 hgl hbl
        obtain ⟨⟨hgl, hbl⟩, ⟨e0, e1, e2⟩, k0, k1, k2⟩ := HPX.out _ HQ.out.bel
        go_upto_region 9 with fail
        go_quiet (fail)
        obtain ⟨wz, hwz⟩ : ∃ wz, wq.drewN nq = wz := ⟨_, rfl⟩
        have HZ := Lib.hid (own_dn HQ.out nq)
        rw [hwz] at HZ ⊢
        clear hwz e0 e1 e2 k0 k1 k2 hgl hbl
        obtain ⟨⟨hgl, hbl⟩, ⟨e0, e1, e2⟩, k0, k1, k2⟩ := HPX.out _ HZ.out.bel
        have H3b := Lib.hid (HZ.out.alloc (.cells #[.string x.k, .string x.v, .bool x.r] 59))
        have r3 := rd_built_at wz #[.string x.k, .string x.v, .bool x.r] 59 3 1 wz.heap.size rfl rfl (by simp [Value.oneCell'])
        go_wp2_with (refine wpList_append_own' rfl (.tmp 38) (.tmp 43) 34 rfl elC so _ co _ rfl H3b.out _ 1 _ _ rfl r3 (by omega) (by omega) ?_; intro s2 c2 w2 p1 p2 p3; have HQ2 := Lib.hid p1; clear p1 p2 p3)
        go_roundg (l.length - (i + 1))
        case measure => have := Hg.out; omega
        case rel =>
          refine ⟨i + 1, s2, c2, false, O ++ [x], by rw [HSu.out]; simp [stepG, g1, hu2', hkx], rfl, by omega, by (try simp only [List.length_append, List.length_cons, List.length_nil]); omega, by simp, rfl, by simp, ?_⟩
          rw [flat_append, flat_c1]
          simpa [ccells] using HQ2.out
      · obtain ⟨⟨hgl, hbl⟩, ⟨e0, e1, e2⟩, k0, k1, k2⟩ := HPX.out _ HO.out.bel
        go_upto_region 6 with fail
        go_quiet (fail)
        obtain ⟨wq, hwq⟩ : ∃ wq, wr.drewN nq = wq := ⟨_, rfl⟩
        have HQ := Lib.hid (own_dn HO.out nq)
        rw [hwq] at HQ ⊢
        clear hwq e0 e1 e2 k0 k1 k2 hgl hbl
        obtain ⟨⟨hgl, hbl⟩, ⟨e0, e1, e2⟩, k0, k1, k2⟩ := HPX.out _ HQ.out.bel
        go_upto_region 9 with fail
        go_quiet (fail)
        obtain ⟨wz, hwz⟩ : ∃ wz, wq.drewN nq = wz := ⟨_, rfl⟩
        have HZ := Lib.hid (own_dn HQ.out nq)
        rw [hwz] at HZ ⊢
        clear hwz e0 e1 e2 k0 k1 k2 hgl hbl
        obtain ⟨⟨hgl, hbl⟩, ⟨e0, e1, e2⟩, k0, k1, k2⟩ := HPX.out _ HZ.out.bel
        have H3b := Lib.hid (HZ.out.alloc (.cells #[.string x.k, .string x.v, .bool x.r] 59))
        have r3 := rd_built_at wz #[.string x.k, .string x.v, .bool x.r] 59 3 1 wz.heap.size rfl rfl (by simp [Value.oneCell'])
        go_wp2_with (refine wpList_append_own' rfl (.tmp 38) (.tmp 43) 34 rfl elC so _ co _ rfl H3b.out _ 1 _ _ rfl r3 (by omega) (by omega) ?_; intro s2 c2 w2 p1 p2 p3; have HQ2 := Lib.hid p1; clear p1 p2 p3)
        go_roundg (l.length - (i + 1))
        case measure => have := Hg.out; omega
        case rel =>
          refine ⟨i + 1, s2, c2, true, O ++ [x], by rw [HSu.out]; simp [stepG, g1, hu2', hkx], rfl, by omega, by (try simp only [List.length_append, List.length_cons, List.length_nil]); omega, by simp, rfl, by simp, ?_⟩
          rw [flat_append, flat_c1]
          simpa [ccells] using HQ2.out
      · obtain ⟨⟨hgl, hbl⟩, ⟨e0, e1, e2⟩, k0, k1, k2⟩ := HPX.out _ HO.out.bel
        go_upto_region 6 with fail
        go_quiet (fail)
        obtain ⟨wq, hwq⟩ : ∃ wq, wr.drewN nq = wq := ⟨_, rfl⟩
        have HQ := Lib.hid (own_dn HO.out nq)
        rw [hwq] at HQ ⊢
        clear hwq e0 e1 e2 k0 k1 k2 hgl hbl
        obtain ⟨⟨hgl, hbl⟩, ⟨e0, e1, e2⟩, k0, k1, k2⟩ := HPX.out _ HQ.out.bel
        go_upto_region 9 with fail
        go_quiet (fail)
        obtain ⟨wz, hwz⟩ : ∃ wz, wq.drewN nq = wz := ⟨_, rfl⟩
        have HZ := Lib.hid (own_dn HQ.out nq)
        rw [hwz] at HZ ⊢
        clear hwz e0 e1 e2 k0 k1 k2 hgl hbl
        obtain ⟨⟨hgl, hbl⟩, ⟨e0, e1, e2⟩, k0, k1, k2⟩ := HPX.out _ HZ.out.bel
        go_wp2_with fail
        go_roundg (l.length - (i + 1))
        case measure => have := Hg.out; omega
        case rel =>
          refine ⟨i + 1, so, co, true, O, by rw [HSu.out]; simp [stepG, g1, hu2', hkx], rfl, by omega, by (try simp only [List.length_append, List.length_cons, List.length_nil]); omega, by simp, rfl, by simp, ?_⟩
          simpa [ccells] using HZ.out
      · obtain ⟨⟨hgl, hbl⟩, ⟨e0, e1, e2⟩, k0, k1, k2⟩ := HPX.out _ HO.out.bel
        go_upto_region 6 with fail
        go_quiet (fail)
        obtain ⟨wq, hwq⟩ : ∃ wq, wr.drewN nq = wq := ⟨_, rfl⟩
        have HQ := Lib.hid (own_dn HO.out nq)
        rw [hwq] at HQ ⊢
        clear hwq e0 e1 e2 k0 k1 k2 hgl hbl
        obtain ⟨⟨hgl, hbl⟩, ⟨e0, e1, e2⟩, k0, k1, k2⟩ := HPX.out _ HQ.out.bel
        go_upto_region 9 with fail
        go_quiet (fail)
        obtain ⟨wz, hwz⟩ : ∃ wz, wq.drewN nq = wz := ⟨_, rfl⟩
        have HZ := Lib.hid (own_dn HQ.out nq)
        rw [hwz] at HZ ⊢
        clear hwz e0 e1 e2 k0 k1 k2 hgl hbl
        obtain ⟨⟨hgl, hbl⟩, ⟨e0, e1, e2⟩, k0, k1, k2⟩ := HPX.out _ HZ.out.bel
        have H3b := Lib.hid (HZ.out.alloc (.cells #[.string x.k, .string x.v, .bool x.r] 59))
        have r3 := rd_built_at wz #[.string x.k, .string x.v, .bool x.r] 59 3 1 wz.heap.size rfl rfl (by simp [Value.oneCell'])
        go_wp2_with (refine wpList_append_own' rfl (.tmp 38) (.tmp 43) 34 rfl elC so _ co _ rfl H3b.out _ 1 _ _ rfl r3 (by omega) (by omega) ?_; intro s2 c2 w2 p1 p2 p3; have HQ2 := Lib.hid p1; clear p1 p2 p3)
        go_roundg (l.length - (i + 1))
        case measure => have := Hg.out; omega
        case rel =>
          refine ⟨i + 1, s2, c2, true, O ++ [x], by rw [HSu.out]; simp [stepG, g1, hu2', hkx], rfl, by omega, by (try simp only [List.length_append, List.length_cons, List.length_nil]); omega, by simp, rfl, by simp, ?_⟩
          rw [flat_append, flat_c1]
          simpa [ccells] using HQ2.out
    · obtain rfl : i = l.length := by omega
      rw [List.take_length] at HST
      have hfe := HFE.out
      rw [HST.out] at hfe
      cases d with
      | true =>
        have he : O = withC c l := hfe
        subst he
        go_wp2_with fail
        refine bodyPost_ret (v := .slice so (withC c l).length co) (by simp [results, Try.results43, go_sem]) rfl ⟨so, co, rfl, own_from HW.out HO.out⟩
      | false =>
        have he : O ++ [c] = withC c l := hfe
        have HE := Lib.hid he
        have H3a := Lib.hid (HO.out.alloc (.cells #[.string c.k, .string c.v, .bool c.r] 59))
        have r2 := rd_built_at wr #[.string c.k, .string c.v, .bool c.r] 59 3 1 wr.heap.size rfl rfl (by simp [Value.oneCell'])
        clear he hfe
        go_wp2_with (refine wpList_append_own' rfl (.tmp 47) (.tmp 49) 34 rfl elC so _ co _ rfl H3a.out _ 1 _ _ rfl r2 (by omega) (by omega) ?_; intro so' co' w4 p1 p2 p3; have H4 := Lib.hid p1; clear p1 p2 p3)
        refine bodyPost_ret (v := .slice so' (O.length + 1) co') (by simp [results, Try.results43, go_sem]) rfl ⟨so', co', by rw [← HE.out]; simp, ?_⟩
        rw [← HE.out, flat_append, flat_c1]
        simpa [ccells] using own_from HW.out H4.out

end Go.Proofs.Ytcglnjklnlejmaa
