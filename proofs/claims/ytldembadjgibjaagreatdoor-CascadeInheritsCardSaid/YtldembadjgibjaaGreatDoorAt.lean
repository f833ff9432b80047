/-
  Cascade: decls, Decls.
-/
import Derived.Test.YtldembadjgibjaaGreatDoorAs
set_option linter.unusedVariables false
set_option linter.unusedSimpArgs false
namespace Go.Proofs.YtldembadjgibjaaGreatDoor
open Go.RowKit Go.K Go.PlainAid Go.Lib

abbrev impL : List UInt8 := [105, 109, 112, 111, 114, 116, 97, 110, 116]
/-- a value without '! important' -/
def impM (v : List UInt8) : List UInt8 × Bool :=
  if Lib.hasSuffix v impL = true then
    (if Lib.hasSuffix (trimL (Lib.trimSuffix v impL)) [33] = true then (trimL (Lib.trimSuffix (trimL (Lib.trimSuffix v impL)) [33]), true) else (v, false))
  else (v, false)
def De.mark (im : Bool) (d : De) : De := ⟨d.n, d.v, im⟩
/-- one declaration's text -/
def partD (p : List UInt8) : List De :=
  (expandM (trimL (lowL (Lib.cut p [58]).1)) (impM (trimL (lowL (Lib.cut p [58]).2.1))).1).1.map (De.mark (impM (trimL (lowL (Lib.cut p [58]).2.1))).2)
def endJ (s : List UInt8) (i : Nat) : Nat := (untilM s [59] (s.length + 1) i 0).1
def declsM (s : List UInt8) : Nat → Nat → List De
  | 0, _ => []
  | f + 1, i => if i < s.length then partD ((s.drop i).take (endJ s i - i)) ++ declsM s f (endJ s i + 1) else []
theorem decls_step {s : List UInt8} {f i : Nat} (h : i < s.length) : declsM s (f + 1) i = partD ((s.drop i).take (endJ s i - i)) ++ declsM s f (endJ s i + 1) := by rw [declsM, if_pos h]
theorem decls_end {s : List UInt8} {f i : Nat} (h : ¬ i < s.length) : declsM s f i = [] := by
  cases f with
  | zero => rfl
  | succ f => rw [declsM, if_neg h]
def declsT (s : List UInt8) : List De := declsM s (s.length + 1) 0
theorem cut_le2 (a b : List UInt8) : (Lib.cut a b).2.1.length ≤ a.length := by
  unfold Lib.cut
  split
  · simp
  · simp
theorem suf_le (a b : List UInt8) : (Lib.trimSuffix a b).length ≤ a.length := by
  unfold Lib.trimSuffix
  split
  · simp
  · exact Nat.le_refl _
theorem low_len (a : List UInt8) : (lowL a).length = a.length := by unfold lowL; simp
theorem drop_last {w0 w : World} {A B C : As} {L : List As} (h : St w0 w (A :: B :: C :: L)) : St w0 w (A :: B :: L) := (h.perm ((List.Perm.cons A (List.Perm.swap C B L)).trans (List.Perm.swap C A (B :: L)))).drop
/-- the cells of an element of a row of declarations -/
theorem atD {w : World} {g off n : Nat} {l : List De} (h : Rd w 5 (some ⟨g, off, none⟩) n (flat De.cells l)) {k : Nat} {d : De} (hd : l[k]? = some d) :
    w.cell? ⟨g, off + k * 5, none⟩ = some (vS d.n) ∧ w.cell? ⟨g, off + k * 5 + 1, none⟩ = some (.int .i64 d.v.kd) ∧ w.cell? ⟨g, off + k * 5 + 2, none⟩ = some (.int .i64 d.v.nm) ∧ w.cell? ⟨g, off + k * 5 + 3, none⟩ = some (vS d.v.wd) ∧ w.cell? ⟨g, off + k * 5 + 4, none⟩ = some (.bool d.im) := by
  obtain ⟨hk, hd⟩ := List.getElem?_eq_some_iff.1 hd
  have key : ∀ i v, i < 5 → d.cells[i]? = some v → w.cell? ⟨g, off + k * 5 + i, none⟩ = some v := fun i v hi hv => by
    have h1 := flat_at (f := De.cells) (sz := 5) de_len l k i hk hi
    rw [hd, hv] at h1
    have h2 := h.cells _ rfl _ _ h1
    rw [Addr.add_lit] at h2
    rwa [← Nat.add_assoc] at h2
  exact ⟨key 0 _ (by omega) rfl, key 1 _ (by omega) rfl, key 2 _ (by omega) rfl, key 3 _ (by omega) rfl, key 4 _ (by omega) rfl⟩
theorem eachA_len : ∀ (ps : List (List UInt8 × List UInt8)) (acc d : List De), eachA acc ps = some d → d.length = acc.length + ps.length := by
  intro ps
  induction ps with
  | nil => intro acc d h; cases h; rfl
  | cons p ps ih =>
    intro acc d h
    unfold eachA at h
    split at h
    · have := ih _ _ h
      simp at this ⊢; omega
    · cases h
theorem eachM_len (ns vs : List (List UInt8)) : (eachM ns vs).1.length ≤ ns.length := by
  unfold eachM
  cases h : eachA [] (ns.zip vs) with
  | none => simp
  | some d =>
    have := eachA_len _ _ _ h
    simp [List.length_zip] at this ⊢; omega
theorem flexM_len (s : List UInt8) (l : List (List UInt8)) : (flexM s l).1.length ≤ 4 := by
  have h3 : ∀ vs, (eachM flexN vs).1.length ≤ 4 := fun vs => Nat.le_trans (eachM_len flexN vs) (by decide)
  have hr : ∀ vs l, (restM vs l).1.length ≤ 4 := by
    intro vs l
    cases l with
    | nil => exact h3 vs
    | cons _ _ => exact Nat.zero_le _
  unfold flexM
  repeat' split
  all_goals first
    | exact h3 _
    | skip
  unfold flexR
  repeat' split
  all_goals first
    | exact h3 _
    | exact hr _ _
    | exact Nat.zero_le _
theorem expandM_len (n s : List UInt8) : (expandM n s).1.length ≤ 4 := by
  unfold expandM
  split
  · exact flexM_len _ _
  · cases h : sidesM n with
    | none => exact Nat.le_trans (eachM_len _ _) (by simp)
    | some ns =>
      have h4 := (sides_len h).1
      simp only
      repeat' split
      all_goals first
        | exact Nat.zero_le _
        | exact Nat.le_trans (eachM_len _ _) (Nat.le_of_eq h4)
theorem partD_len (p : List UInt8) : (partD p).length ≤ 4 := by
  unfold partD
  rw [List.length_map]
  exact expandM_len _ _
set_option maxRecDepth 100000 in
set_option maxHeartbeats 8000000 in
theorem decls_any [Inhabited TbBox] (s : List UInt8) (hs : s.length ≤ 20000) (w : World) (E : Env w) : Calls Tryz.prog 15 #[.string (S s)] w fun e w' => ∃ sl c, e = .returned (.slice sl (declsT s).length c) ∧ K.Own w w' 70 5 sl (declsT s).length c (flat De.cells (declsT s)) := by
  obtain ⟨R, hR⟩ : ∃ R, declsT s = R := ⟨_, rfl⟩
  rw [hR]
  unfold declsT at hR
  obtain ⟨sv, hsv⟩ : ∃ sv, S s = sv := ⟨_, rfl⟩
  obtain ⟨n, hn⟩ : ∃ n, s.length = n := ⟨_, rfl⟩
  have hsz : sv.size = n := by rw [← hsv, S_size, hn]
  rw [hn] at hs hR
  have HU := Lib.hid (fun (b i : Nat) (hi : i ≤ n) (w' : World) (L : List As) (H : St w w' (As.cells b #[vS s, .int .i64 (i : Int)] 82 :: L)) => until_st s [59] (by omega) b i (by omega) w w' L H E)
  have HR := Lib.hid hR
  have HSV := Lib.hid hsv
  have HN := Lib.hid hn
  have HSZ := Lib.hid hsz
  have HE := Lib.hid E
  have hvs : vS s = .string sv := by rw [← hsv]
  rw [hvs] at HU
  rw [hsv]
  have H0 := Lib.hid (((St.start w (Below.refl _ w)).row_nil 70 5).new #[.string sv, .int .i64 0] 82)
  clear hR hsv hn hsz hvs E
  go_enter Tryz.func15, Tryz.ntmps15
  go_wp2_with fail
  obtain ⟨W0, hW0⟩ : ∃ W, w.alloc (.cells #[.string sv, .int .i64 0] 82) = W := ⟨_, rfl⟩
  rw [hW0] at H0
  rw [hW0]
  clear hW0
  go_loopg [3, 5, 6, 7, 8, 9, 10, 11, 12, 13, 15] (n + 1) (fun g v3 v5 v6 v7 v8 v9 v10 v11 v12 v13 v15 wr => ∃ (k f : Nat) (ds : List De) (so : Option Addr) (co : Nat), g = n + 1 - k ∧ k ≤ n + 1 ∧ n + 1 ≤ f + k ∧ v3 = .slice so ds.length co ∧ ds.length ≤ 4 * k ∧ declsM s (n + 1) 0 = ds ++ declsM s f k ∧ St w wr [As.cells w.heap.size #[.string sv, .int .i64 (k : Int)] 82, As.row 70 5 so ds.length co (flat De.cells ds)])
  case atStart => exact ⟨0, n + 1, [], none, 0, rfl, Nat.zero_le _, by omega, rfl, Nat.zero_le _, rfl, H0.out⟩
  case round =>
    obtain ⟨k, f, ds, so, co, hg, hkn, hfk, rfl, hdl, hcl, hS⟩ := hrel
    have HG := Lib.hid hg
    have HCL := Lib.hid hcl
    have HS := Lib.hid hS
    clear hg hcl hS
    have c0 := HS.out.cell 0
    have c1 := HS.out.cell 1
    have f1 := HS.out.free 1
    simp at c0 c1
    by_cases hlt : k < n
    · have hkI : (k : Int) < (sv.size : Int) := by have := HSZ.out; omega
      have hkI2 : (k : Int) < (n : Int) := by omega
      have hk0 : (0 : Int) ≤ (k : Int) := by omega
      obtain ⟨f, rfl⟩ : ∃ g, f = g + 1 := ⟨f - 1, by omega⟩
      have hcl := HCL.out
      rw [decls_step (f := f) (i := k) (by rw [HN.out]; exact hlt)] at hcl
      have hu := fun w' H => HU.out w.heap.size k (by omega) w' [As.row 70 5 so ds.length co (flat De.cells ds)] H
      have hej : (untilM s [59] (n + 1) k 0).1 = endJ s k := by unfold endJ; rw [HN.out]
      simp only [HN.out] at hu
      simp only [hej] at hu
      obtain ⟨j, hj⟩ : ∃ j, endJ s k = j := ⟨_, rfl⟩
      obtain ⟨ub, hub⟩ : ∃ j, (untilM s [59] (n + 1) k 0).2 = j := ⟨_, rfl⟩
      rw [hj] at hu hcl
      simp only [hub] at hu
      obtain ⟨p, hp⟩ : ∃ p, (s.drop k).take (j - k) = p := ⟨_, rfl⟩
      have hpl : p.length ≤ n := by rw [← hp, List.length_take, List.length_drop, HN.out]; omega
      have hpe : sv.extract k j = S p := by rw [← HSV.out, S_ext, hp]
      obtain ⟨sp, hsp⟩ : ∃ z, S p = z := ⟨_, rfl⟩
      rw [hsp] at hpe
      rw [hp] at hcl
      obtain ⟨PD, hPD⟩ : ∃ z, partD p = z := ⟨_, rfl⟩
      have hpd4 : PD.length ≤ 4 := by rw [← hPD]; exact partD_len p
      rw [hPD] at hcl
      have hcl1 := cut_le p [58]
      have hcl2 := cut_le2 p [58]
      have hct := fun w E => cut_any p [58] (by omega) w E
      unfold partD at hPD
      obtain ⟨⟨P1, P2, P3⟩, hP⟩ : ∃ z, Lib.cut p [58] = z := ⟨_, rfl⟩
      rw [hP] at hct hcl1 hcl2 hPD
      simp only at hct hcl1 hcl2 hPD
      have hl1 := fun w => lower_any P1 (by omega) w
      have ht1 := fun w => trim_any (lowL P1) w (by rw [low_len]; omega)
      have hl2 := fun w => lower_any P2 (by omega) w
      have ht2 := fun w => trim_any (lowL P2) w (by rw [low_len]; omega)
      have hnml := Nat.le_trans (trimL_le (lowL P1)) (Nat.le_of_eq (low_len P1))
      have hvll := Nat.le_trans (trimL_le (lowL P2)) (Nat.le_of_eq (low_len P2))
      obtain ⟨L1, hL1⟩ : ∃ z, lowL P1 = z := ⟨_, rfl⟩
      obtain ⟨L2, hL2⟩ : ∃ z, lowL P2 = z := ⟨_, rfl⟩
      rw [hL1] at hl1 ht1 hPD hnml
      rw [hL2] at hl2 ht2 hPD hvll
      obtain ⟨T1, hT1⟩ : ∃ z, trimL L1 = z := ⟨_, rfl⟩
      obtain ⟨T2, hT2⟩ : ∃ z, trimL L2 = z := ⟨_, rfl⟩
      rw [hT1] at ht1 hPD hnml
      rw [hT2] at ht2 hPD hvll
      rw [hsp] at hct
      have HCT := Lib.hid hct
      have HU1 := Lib.hid hu
      have HL1 := Lib.hid hl1
      have HL2 := Lib.hid hl2
      have HT1 := Lib.hid ht1
      have HT2 := Lib.hid ht2
      have HPD := Lib.hid hPD
      have HC := Lib.hid hcl
      clear hcl hu hej hub hp hsp hct hP hl1 ht1 hl2 ht2 hL1 hL2 hT1 hT2 hPD HCL hj
      go_upto_region 6 with (go_at_call 36; refine (HU1.out _ HS.out).mono ?_; rintro e w2 ⟨rfl, hjn, hkj, hS2⟩; have HS2 := Lib.hid hS2; clear hS2 c0 c1 f1)
      have hjI : (j : Int) ≤ (n : Int) := by omega
      have hkjI : (k : Int) ≤ (j : Int) := by omega
      have hsz := HSZ.out
      have c0 := HS2.out.cell 0
      have c1 := HS2.out.cell 1
      have f1 := HS2.out.free 1
      simp at c0 c1
      have g1 := wrapS (a := (j : Int) + 1) (by omega) (by omega)
      go_upto_region 7 with (go_at_call 37; refine (HCT.out _ (HE.out.below HS2.out.bel)).mono ?_; rintro e w3 ⟨rfl, hb3⟩; have HS3 := Lib.hid (HS2.out.of_below hb3); clear hb3 c0 c1 f1)
      have c0 := HS3.out.cell 0
      have c1 := HS3.out.cell 1
      have f1 := HS3.out.free 1
      simp at c0 c1
      go_upto_region 8 with fail
      have HS4 := Lib.hid (HS3.out.set 1 (.int .i64 ((j : Int) + 1)))
      simp only [List.setIfInBounds_toArray, List.set_cons_zero, List.set_cons_succ] at HS4
      obtain ⟨w4, hw4⟩ : ∃ z, w3.setCell ⟨w.heap.size, 1, none⟩ (.int .i64 ((j : Int) + 1)) = z := ⟨_, rfl⟩
      rw [hw4] at HS4
      rw [hw4]
      clear hw4 c0 c1 f1 HS2 HS3
      go_upto_region 10 with (first
        | (go_at_call 39; refine (HL1.out _).mono ?_; rintro e w5 ⟨rfl, hb5⟩; have HS5 := Lib.hid (HS4.out.of_below hb5); clear hb5)
        | (go_at_call 38; refine (HT1.out _).mono ?_; rintro e w6 ⟨rfl, hb6⟩; have HS6 := Lib.hid (HS5.out.of_below hb6); clear hb6)
        | (go_at_call 39; refine (HL2.out _).mono ?_; rintro e w7 ⟨rfl, hb7⟩; have HS7 := Lib.hid (HS6.out.of_below hb7); clear hb7)
        | (go_at_call 38; refine (HT2.out _).mono ?_; rintro e w8 ⟨rfl, hb8⟩; have HS8 := Lib.hid (HS7.out.of_below hb8); clear hb8))
      clear HS4 HS5 HS6 HS7 HL1 HL2 HT1 HT2 HCT HU1 hpe
      have hcs := fun w => Tryz.strings_CutSuffix (S T2) (S impL) w (by rw [S_size]; omega)
      rw [S_list, S_list] at hcs
      have hpd := HPD.out
      unfold impM at hpd
      cases hsx : Lib.hasSuffix T2 impL with
      | false =>
        rw [hsx] at hcs
        rw [if_neg (by rw [hsx]; decide)] at hpd
        have HCS := Lib.hid hcs
        have hex := expand_any T1 T2 (by omega) (by omega)
        obtain ⟨⟨XL, XB⟩, hX⟩ : ∃ z, expandM T1 T2 = z := ⟨_, rfl⟩
        rw [hX] at hex hpd
        have HPD0 := Lib.hid hpd
        have HPD2 := Lib.hid hpd
        have hxl : XL.length ≤ 4 := by have := expandM_len T1 T2; rw [hX] at this; exact this
        obtain ⟨M, hM⟩ : ∃ z, XL.length = z := ⟨_, rfl⟩
        have HM := Lib.hid hM
        have hM4 : M ≤ 4 := by rw [← hM]; exact hxl
        unfold DecsPost at hex
        simp only [hM] at hex
        have HEX := Lib.hid hex
        clear hM
        clear hex hpd hX hcs HPD
        go_upto_region 16 with (first
          | (go_at_call 40; refine (HCS.out _).mono ?_; rintro e w9 ⟨rfl, hw9⟩; rw [hw9]; clear hw9)
          | (go_at_call 41; refine (HEX.out _ (HE.out.below HS8.out.bel)).mono ?_; rintro e w12 ⟨sx, cx, rfl, ho⟩; have HX := Lib.hid (HS8.out.own_new ho); clear ho))
        go_wp2_with fail
        go_loopg [80, 3, 15] M (fun g v80 v3 v15 wz => ∃ (q : Nat) (so2 : Option Addr) (co2 : Nat), g = M - q ∧ q ≤ M ∧ v80 = .int .i64 (q : Int) ∧ v3 = .slice so2 (ds.length + q) co2 ∧ St w wz [As.row 70 5 so2 (ds.length + q) co2 (flat De.cells (ds ++ (XL.take q).map (De.mark false))), As.row 70 5 sx M cx (flat De.cells XL), As.cells w.heap.size #[.string sv, .int .i64 ((j : Int) + 1)] 82])
        case atStart => exact ⟨0, so, co, rfl, Nat.zero_le _, rfl, rfl, by simpa using St.sh [_, _, _] [2, 0, 1] (by decide) HX.out⟩
        case round =>
          obtain ⟨q, so2, co2, hgq, hqM, rfl, rfl, hSz⟩ := hrel
          have HGQ := Lib.hid hgq
          have HSZ2 := Lib.hid hSz
          clear hgq hSz
          by_cases hq : q < M
          · have hqI : (q : Int) < (M : Int) := by omega
            have hq0 : (0 : Int) ≤ (q : Int) := by omega
            have g3 := wrapS (a := (q : Int) + 1) (by omega) (by omega)
            obtain ⟨d, hd⟩ : ∃ d, XL[q]? = some d := ⟨_, List.getElem?_eq_getElem (by rw [HM.out]; exact hq)⟩
            obtain ⟨gx, ox, rfl, -⟩ := HSZ2.out.swap.sl.rd.addr (by omega)
            obtain ⟨e0, e1, e2, e3, e4⟩ := atD HSZ2.out.swap.sl.rd hd
            have HD := Lib.hid hd
            clear hd
            obtain ⟨dn, ⟨dk, dm, dw⟩, di⟩ := d
            simp only at e0 e1 e2 e3 e4
            go_wp2_with (refine st_push rfl (.tmp 86) (.tmp 88) rfl el70 ((HSZ2.out.alloc (.cells #[vS dn, .int .i64 dk, .int .i64 dm, vS dw, .bool false] 70)).alloc (.cells #[vS dn, .int .i64 dk, .int .i64 dm, vS dw, .bool false] 70)) rfl #[vS dn, .int .i64 dk, .int .i64 dm, vS dw, .bool false] (blk_new (wr.alloc (.cells #[vS dn, .int .i64 dk, .int .i64 dm, vS dw, .bool false] 70)) #[vS dn, .int .i64 dk, .int .i64 dm, vS dw, .bool false] 70 (wr.heap.size + 1) (by simp)) rfl rfl (de_one ⟨dn, ⟨dk, dm, dw⟩, false⟩) (by omega) (by decide) ?_; intro s9 c9 W9 HW9; have H9 := Lib.hid HW9; clear HW9)
            go_roundg (M - (q + 1))
            case measure => have := HGQ.out; omega
            case rel =>
              have e : ds ++ (XL.take (q + 1)).map (De.mark false) = (ds ++ (XL.take q).map (De.mark false)) ++ [⟨dn, ⟨dk, dm, dw⟩, false⟩] := by
                rw [List.take_add_one, HD.out, List.map_append, List.append_assoc]
                rfl
              exact ⟨q + 1, s9, c9, rfl, by omega, by rw [Int.natCast_add]; rfl, rfl, by rw [e, flat_append, flat_one]; exact H9.out⟩
          · have hqe : q = M := by omega
            subst hqe
            have htk : XL.take q = XL := List.take_of_length_le (Nat.le_of_eq HM.out)
            have hs2 := HSZ2.out
            rw [htk, HPD2.out] at hs2
            have HS9 := Lib.hid hs2
            have hplen : PD.length = q := by rw [← HPD2.out, List.length_map, HM.out]
            clear hs2
            go_wp2_with fail
            go_roundg (n + 1 - (j + 1))
            case measure => have := HG.out; omega
            case rel => exact ⟨j + 1, f, ds ++ PD, so2, co2, rfl, by omega, by omega, by rw [List.length_append, hplen], by rw [List.length_append]; omega, by rw [HC.out, List.append_assoc], by rw [Int.natCast_add, List.length_append, hplen]; exact drop_last (St.sh [_, _, _] [2, 0, 1] (by decide) HS9.out)⟩

      | true =>
        rw [hsx] at hcs
        rw [if_pos hsx] at hpd
        have hsl := suf_le T2 impL
        obtain ⟨U1, hU1⟩ : ∃ z, Lib.trimSuffix T2 impL = z := ⟨_, rfl⟩
        rw [hU1] at hcs hpd hsl
        have ht3 := fun w => trim_any U1 w (by omega)
        have htl3 := trimL_le U1
        obtain ⟨U2, hU2⟩ : ∃ z, trimL U1 = z := ⟨_, rfl⟩
        rw [hU2] at ht3 hpd htl3
        have hcs2 := fun w => Tryz.strings_CutSuffix (S U2) (S [33]) w (by rw [S_size]; omega)
        rw [S_list, S_list] at hcs2
        have HCS := Lib.hid hcs
        have HT3 := Lib.hid ht3
        clear hU1 hU2 ht3
        cases hsy : Lib.hasSuffix U2 [33] with
        | false =>
          rw [hsy] at hcs2
          rw [if_neg (by rw [hsy]; decide)] at hpd
          have HCS2 := Lib.hid hcs2
          clear hcs2 hsy hsx
          have hex := expand_any T1 T2 (by omega) (by omega)
          obtain ⟨⟨XL, XB⟩, hX⟩ : ∃ z, expandM T1 T2 = z := ⟨_, rfl⟩
          rw [hX] at hex hpd
          have HPD0 := Lib.hid hpd
          have HPD2 := Lib.hid hpd
          have hxl : XL.length ≤ 4 := by have := expandM_len T1 T2; rw [hX] at this; exact this
          obtain ⟨M, hM⟩ : ∃ z, XL.length = z := ⟨_, rfl⟩
          have HM := Lib.hid hM
          have hM4 : M ≤ 4 := by rw [← hM]; exact hxl
          unfold DecsPost at hex
          simp only [hM] at hex
          have HEX := Lib.hid hex
          clear hM
          clear hex hpd hX hcs HPD
          go_upto_region 16 with (first
            | (go_at_call 40; refine (HCS.out _).mono ?_; rintro e w9 ⟨rfl, hw9⟩; rw [hw9]; clear hw9)
            | (go_at_call 38; refine (HT3.out _).mono ?_; rintro e w10 ⟨rfl, hb10⟩; have HS10 := Lib.hid (HS8.out.of_below hb10); clear hb10)
            | (go_at_call 40; refine (HCS2.out _).mono ?_; rintro e w11 ⟨rfl, hw11⟩; rw [hw11]; clear hw11)
            | (go_at_call 41; refine (HEX.out _ (HE.out.below HS10.out.bel)).mono ?_; rintro e w12 ⟨sx, cx, rfl, ho⟩; have HX := Lib.hid (HS10.out.own_new ho); clear ho))
          go_wp2_with fail
          go_loopg [80, 3, 15] M (fun g v80 v3 v15 wz => ∃ (q : Nat) (so2 : Option Addr) (co2 : Nat), g = M - q ∧ q ≤ M ∧ v80 = .int .i64 (q : Int) ∧ v3 = .slice so2 (ds.length + q) co2 ∧ St w wz [As.row 70 5 so2 (ds.length + q) co2 (flat De.cells (ds ++ (XL.take q).map (De.mark false))), As.row 70 5 sx M cx (flat De.cells XL), As.cells w.heap.size #[.string sv, .int .i64 ((j : Int) + 1)] 82])
          case atStart => exact ⟨0, so, co, rfl, Nat.zero_le _, rfl, rfl, by simpa using St.sh [_, _, _] [2, 0, 1] (by decide) HX.out⟩
          case round =>
            obtain ⟨q, so2, co2, hgq, hqM, rfl, rfl, hSz⟩ := hrel
            have HGQ := Lib.hid hgq
            have HSZ2 := Lib.hid hSz
            clear hgq hSz
            by_cases hq : q < M
            · have hqI : (q : Int) < (M : Int) := by omega
              have hq0 : (0 : Int) ≤ (q : Int) := by omega
              have g3 := wrapS (a := (q : Int) + 1) (by omega) (by omega)
              obtain ⟨d, hd⟩ : ∃ d, XL[q]? = some d := ⟨_, List.getElem?_eq_getElem (by rw [HM.out]; exact hq)⟩
              obtain ⟨gx, ox, rfl, -⟩ := HSZ2.out.swap.sl.rd.addr (by omega)
              obtain ⟨e0, e1, e2, e3, e4⟩ := atD HSZ2.out.swap.sl.rd hd
              have HD := Lib.hid hd
              clear hd
              obtain ⟨dn, ⟨dk, dm, dw⟩, di⟩ := d
              simp only at e0 e1 e2 e3 e4
              go_wp2_with (refine st_push rfl (.tmp 86) (.tmp 88) rfl el70 ((HSZ2.out.alloc (.cells #[vS dn, .int .i64 dk, .int .i64 dm, vS dw, .bool false] 70)).alloc (.cells #[vS dn, .int .i64 dk, .int .i64 dm, vS dw, .bool false] 70)) rfl #[vS dn, .int .i64 dk, .int .i64 dm, vS dw, .bool false] (blk_new (wr.alloc (.cells #[vS dn, .int .i64 dk, .int .i64 dm, vS dw, .bool false] 70)) #[vS dn, .int .i64 dk, .int .i64 dm, vS dw, .bool false] 70 (wr.heap.size + 1) (by simp)) rfl rfl (de_one ⟨dn, ⟨dk, dm, dw⟩, false⟩) (by omega) (by decide) ?_; intro s9 c9 W9 HW9; have H9 := Lib.hid HW9; clear HW9)
              go_roundg (M - (q + 1))
              case measure => have := HGQ.out; omega
              case rel =>
                have e : ds ++ (XL.take (q + 1)).map (De.mark false) = (ds ++ (XL.take q).map (De.mark false)) ++ [⟨dn, ⟨dk, dm, dw⟩, false⟩] := by
                  rw [List.take_add_one, HD.out, List.map_append, List.append_assoc]
                  rfl
                exact ⟨q + 1, s9, c9, rfl, by omega, by rw [Int.natCast_add]; rfl, rfl, by rw [e, flat_append, flat_one]; exact H9.out⟩
            · have hqe : q = M := by omega
              subst hqe
              have htk : XL.take q = XL := List.take_of_length_le (Nat.le_of_eq HM.out)
              have hs2 := HSZ2.out
              rw [htk, HPD2.out] at hs2
              have HS9 := Lib.hid hs2
              have hplen : PD.length = q := by rw [← HPD2.out, List.length_map, HM.out]
              clear hs2
              go_wp2_with fail
              go_roundg (n + 1 - (j + 1))
              case measure => have := HG.out; omega
              case rel => exact ⟨j + 1, f, ds ++ PD, so2, co2, rfl, by omega, by omega, by rw [List.length_append, hplen], by rw [List.length_append]; omega, by rw [HC.out, List.append_assoc], by rw [Int.natCast_add, List.length_append, hplen]; exact drop_last (St.sh [_, _, _] [2, 0, 1] (by decide) HS9.out)⟩

        | true =>
          rw [hsy] at hcs2
          rw [if_pos hsy] at hpd
          have hsl2 := suf_le U2 [33]
          obtain ⟨U3, hU3⟩ : ∃ z, Lib.trimSuffix U2 [33] = z := ⟨_, rfl⟩
          rw [hU3] at hcs2 hpd hsl2
          have ht4 := fun w => trim_any U3 w (by omega)
          have htl4 := trimL_le U3
          obtain ⟨U4, hU4⟩ : ∃ z, trimL U3 = z := ⟨_, rfl⟩
          rw [hU4] at ht4 hpd htl4
          have HCS2 := Lib.hid hcs2
          have HT4 := Lib.hid ht4
          clear hcs2 hsy hsx hU3 hU4 ht4
          have hex := expand_any T1 U4 (by omega) (by omega)
          obtain ⟨⟨XL, XB⟩, hX⟩ : ∃ z, expandM T1 U4 = z := ⟨_, rfl⟩
          rw [hX] at hex hpd
          have HPD0 := Lib.hid hpd
          have HPD2 := Lib.hid hpd
          have hxl : XL.length ≤ 4 := by have := expandM_len T1 U4; rw [hX] at this; exact this
          obtain ⟨M, hM⟩ : ∃ z, XL.length = z := ⟨_, rfl⟩
          have HM := Lib.hid hM
          have hM4 : M ≤ 4 := by rw [← hM]; exact hxl
          unfold DecsPost at hex
          simp only [hM] at hex
          have HEX := Lib.hid hex
          clear hM
          clear hex hpd hX hcs HPD
          go_upto_region 16 with (first
            | (go_at_call 40; refine (HCS.out _).mono ?_; rintro e w9 ⟨rfl, hw9⟩; rw [hw9]; clear hw9)
            | (go_at_call 38; refine (HT3.out _).mono ?_; rintro e w10 ⟨rfl, hb10⟩; have HS10 := Lib.hid (HS8.out.of_below hb10); clear hb10)
            | (go_at_call 40; refine (HCS2.out _).mono ?_; rintro e w11 ⟨rfl, hw11⟩; rw [hw11]; clear hw11)
            | (go_at_call 38; refine (HT4.out _).mono ?_; rintro e w13 ⟨rfl, hb13⟩; have HS13 := Lib.hid (HS10.out.of_below hb13); clear hb13)
            | (go_at_call 41; refine (HEX.out _ (HE.out.below HS13.out.bel)).mono ?_; rintro e w12 ⟨sx, cx, rfl, ho⟩; have HX := Lib.hid (HS13.out.own_new ho); clear ho))
          go_wp2_with fail
          go_loopg [80, 3, 15] M (fun g v80 v3 v15 wz => ∃ (q : Nat) (so2 : Option Addr) (co2 : Nat), g = M - q ∧ q ≤ M ∧ v80 = .int .i64 (q : Int) ∧ v3 = .slice so2 (ds.length + q) co2 ∧ St w wz [As.row 70 5 so2 (ds.length + q) co2 (flat De.cells (ds ++ (XL.take q).map (De.mark true))), As.row 70 5 sx M cx (flat De.cells XL), As.cells w.heap.size #[.string sv, .int .i64 ((j : Int) + 1)] 82])
          case atStart => exact ⟨0, so, co, rfl, Nat.zero_le _, rfl, rfl, by simpa using St.sh [_, _, _] [2, 0, 1] (by decide) HX.out⟩
          case round =>
            obtain ⟨q, so2, co2, hgq, hqM, rfl, rfl, hSz⟩ := hrel
            have HGQ := Lib.hid hgq
            have HSZ2 := Lib.hid hSz
            clear hgq hSz
            by_cases hq : q < M
            · have hqI : (q : Int) < (M : Int) := by omega
              have hq0 : (0 : Int) ≤ (q : Int) := by omega
              have g3 := wrapS (a := (q : Int) + 1) (by omega) (by omega)
              obtain ⟨d, hd⟩ : ∃ d, XL[q]? = some d := ⟨_, List.getElem?_eq_getElem (by rw [HM.out]; exact hq)⟩
              obtain ⟨gx, ox, rfl, -⟩ := HSZ2.out.swap.sl.rd.addr (by omega)
              obtain ⟨e0, e1, e2, e3, e4⟩ := atD HSZ2.out.swap.sl.rd hd
              have HD := Lib.hid hd
              clear hd
              obtain ⟨dn, ⟨dk, dm, dw⟩, di⟩ := d
              simp only at e0 e1 e2 e3 e4
              go_wp2_with (refine st_push rfl (.tmp 86) (.tmp 88) rfl el70 ((HSZ2.out.alloc (.cells #[vS dn, .int .i64 dk, .int .i64 dm, vS dw, .bool true] 70)).alloc (.cells #[vS dn, .int .i64 dk, .int .i64 dm, vS dw, .bool true] 70)) rfl #[vS dn, .int .i64 dk, .int .i64 dm, vS dw, .bool true] (blk_new (wr.alloc (.cells #[vS dn, .int .i64 dk, .int .i64 dm, vS dw, .bool true] 70)) #[vS dn, .int .i64 dk, .int .i64 dm, vS dw, .bool true] 70 (wr.heap.size + 1) (by simp)) rfl rfl (de_one ⟨dn, ⟨dk, dm, dw⟩, true⟩) (by omega) (by decide) ?_; intro s9 c9 W9 HW9; have H9 := Lib.hid HW9; clear HW9)
              go_roundg (M - (q + 1))
              case measure => have := HGQ.out; omega
              case rel =>
                have e : ds ++ (XL.take (q + 1)).map (De.mark true) = (ds ++ (XL.take q).map (De.mark true)) ++ [⟨dn, ⟨dk, dm, dw⟩, true⟩] := by
                  rw [List.take_add_one, HD.out, List.map_append, List.append_assoc]
                  rfl
                exact ⟨q + 1, s9, c9, rfl, by omega, by rw [Int.natCast_add]; rfl, rfl, by rw [e, flat_append, flat_one]; exact H9.out⟩
            · have hqe : q = M := by omega
              subst hqe
              have htk : XL.take q = XL := List.take_of_length_le (Nat.le_of_eq HM.out)
              have hs2 := HSZ2.out
              rw [htk, HPD2.out] at hs2
              have HS9 := Lib.hid hs2
              have hplen : PD.length = q := by rw [← HPD2.out, List.length_map, HM.out]
              clear hs2
              go_wp2_with fail
              go_roundg (n + 1 - (j + 1))
              case measure => have := HG.out; omega
              case rel => exact ⟨j + 1, f, ds ++ PD, so2, co2, rfl, by omega, by omega, by rw [List.length_append, hplen], by rw [List.length_append]; omega, by rw [HC.out, List.append_assoc], by rw [Int.natCast_add, List.length_append, hplen]; exact drop_last (St.sh [_, _, _] [2, 0, 1] (by decide) HS9.out)⟩

    · have hkI : ¬ (k : Int) < (sv.size : Int) := by have := HSZ.out; omega
      have hcl := HCL.out
      rw [decls_end (s := s) (f := f) (i := k) (by rw [HN.out]; exact hlt), List.append_nil] at hcl
      have hr := HR.out.symm.trans hcl
      have HRR := Lib.hid hr
      clear hcl hr HR HCL
      go_wp2_with fail

      refine bodyPost_ret (results_tmp Tryz.results15 _ _ _) rfl ?_
      rw [HRR.out]
      exact ⟨so, co, rfl, row_own HS.out.swap⟩
end Go.Proofs.YtldembadjgibjaaGreatDoor
