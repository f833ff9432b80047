/-
  StoreValid.
-/
import Derived.Test.YtcglnjklnlejmaaVd
import Derived.Test.YtcglnjklnlejmaaVe
import Derived.Test.YtcglnjklnlejmaaUc
import Derived.Test.YtcglnjklnlejmaaTl
set_option linter.unusedVariables false
set_option linter.unusedSimpArgs false
namespace Go.Proofs.Ytcglnjklnlejmaa
open Go.RowKit Go.K Go.K.Sr

structure Good (q : Nat) (S : SS) : Prop where
  iv : Iv q S
  ids : Ids S
  fw : ∀ t B, S.txs = t :: B → t.wr = false → S.cs = []
  rv : Rv S.cs
theorem fin_take' (ls : List Op') (q : Nat) (hq : q < ls.length) (x : Op') (hx : ls[q] = x) : fin (ls.take (q + 1)) = (doS (fin (ls.take q)) x (numF x (fin (ls.take q)).nx)).1 := by
  rw [List.take_succ_eq_append_getElem hq, hx, fin_snoc]
  rfl
theorem iv_all' (ls : List Op') (h : ∀ y ∈ ls, y.key.size ≤ 100 ∧ y.val.size ≤ 100) : Iv ls.length (fin ls) := by
  induction ls using snoc_ind with
  | h0 => exact iv0
  | h1 l o ih =>
    rw [fin_snoc]
    have := iv_do (ih (fun y hy => h y (by simp [hy]))) o (numF o (fin l).nx) (h o (by simp))
    simpa [stp] using this
theorem good_take (ls : List Op') (h : ∀ y ∈ ls, 0 ≤ y.kd ∧ (y.key.size ≤ 100 ∧ y.val.size ≤ 100)) (q : Nat) (hq : q ≤ ls.length) : Good q (fin (ls.take q)) := by
  have hm : ∀ y ∈ ls.take q, 0 ≤ y.kd ∧ (y.key.size ≤ 100 ∧ y.val.size ≤ 100) := fun y hy => h y (List.mem_of_mem_take hy)
  have hi := iv_all' (ls.take q) (fun y hy => (hm y hy).2)
  have hs := si_all (ls.take q) (fun y hy => (hm y hy).1)
  have hl : (ls.take q).length = q := by rw [List.length_take]; omega
  rw [hl] at hi
  refine ⟨hi, hs.ids, hs.fw, ?_⟩
  clear hi hs hl hm
  generalize ls.take q = l
  induction l using snoc_ind with
  | h0 => intro c hc; cases hc
  | h1 l o ih =>
    rw [fin_snoc]
    exact rv_do ih o _
theorem gts_cs {S : SS} {p : Sp} {y : Gt} (hy : y ∈ gts S p) (hc : S.cs.length ≤ 100) : y.l.length ≤ 100 := by
  unfold gts at hy
  cases ht : S.txs with
  | nil => rw [ht] at hy; cases hy
  | cons t r =>
    rw [ht] at hy
    rcases List.mem_cons.1 hy with rfl | hy
    · exact hc
    · obtain ⟨z, -, rfl⟩ := List.mem_map.1 hy
      exact Nat.zero_le _
def VaRel (w0 : World) (bs : Nat) (ls : List Op') (g : Nat) (v46 : Value) (wr : World) : Prop :=
  ∃ q : Nat, g = ls.length - q ∧ q ≤ ls.length ∧ v46 = .int .i64 q ∧ SAt bs (fin (ls.take q)) w0 wr []
def TlRel (T : List Gt) (w : World) (g : Nat) (v30 : Value) (wr : World) : Prop := ∃ k : Nat, g = T.length - k ∧ k ≤ T.length ∧ v30 = .int .i64 k ∧ (∀ x ∈ T.take k, x.l.length ≤ 50) ∧ Below w.heap.size w wr

set_option maxRecDepth 100000 in
set_option maxHeartbeats 20000000 in
theorem valid_go (P : List Pr) (T : List Gt) (nx : Int) (sp : Option Addr) (cp : Nat) (st : Option Addr) (ct : Nat) (s : Option Addr) (c : Nat) (ls : List Op') (w0 : World) (hg : Gv w0 (.agg #[.slice sp P.length cp, .slice st T.length ct, .int .i64 nx]) P T nx sp cp st ct) (hgp : (P.length : Int) ≤ 9223372036854775807) (hgt : (T.length : Int) ≤ 9223372036854775807) (hgl : ∀ x ∈ T, (x.l.length : Int) ≤ 9223372036854775807) (h : Rd w0 5 s ls.length (flat opc ls)) (hn : (ls.length : Int) ≤ 9223372036854775807) (hall : ∀ o ∈ ls, o.ok) :
    Calls Try.prog 10 #[.agg #[.slice sp P.length cp, .slice st T.length ct, .int .i64 nx], .slice s ls.length c] w0 fun e w' => e = .returned (.bool true) ∧ Below w0.heap.size w0 w' := by
  have HR0 := Lib.hid h
  have HG0 := Lib.hid hg
  clear h hg
  go_enter Try.func10, Try.ntmps10
  go_upto_region 1 with fail
  obtain ⟨W, hW⟩ : ∃ W, w0.alloc (.cells #[.slice sp P.length cp, .slice st T.length ct, .int .i64 nx] 28) = W := ⟨_, rfl⟩
  obtain ⟨b2, hb2⟩ : ∃ b, w0.heap.size = b := ⟨_, rfl⟩
  have HW := Lib.hid (show Below w0.heap.size w0 W by rw [← hW]; exact (Below.refl _ w0).alloc (Nat.le_refl _) _)
  have KA := Blk.new w0 #[.slice sp P.length cp, .slice st T.length ct, .int .i64 nx] 28
  rw [hW, hb2] at KA
  try simp only [hW, hb2]
  have HKA := Lib.hid KA
  have HR := Lib.hid (HR0.out.below HW.out)
  have HG := Lib.hid (HG0.out.below HW.out)
  clear hW hb2 KA
  obtain ⟨fb, hfb⟩ : ∃ fb, fewB ls = fb := ⟨_, rfl⟩
  have HF := Lib.hid hfb
  clear hfb
  cases fb with
  | false =>
    go_wp2_with (first
      | (go_at_call 11; refine (fit_any _).mono ?_; rintro e wa ⟨rfl, hba⟩; have HB1 := Lib.hid hba; clear hba)
      | (go_at_call 18; refine (few_any _ _ _ _ (HR.out.below HB1.out) hn).mono ?_; rintro e wb ⟨rfl, hbb⟩; rw [HF.out]; have HB2 := Lib.hid (HB1.out.trans (hbb.mono HB1.out.size)); clear hbb))
    go_ret
    exact ⟨rfl, HW.out.trans (HB2.out.mono HW.out.size)⟩
  | true =>
    have hlen : ls.length ≤ 40 ∧ ∀ o ∈ ls, okOp o := by
      have := HF.out
      unfold fewB at this
      simp only [Bool.and_eq_true, decide_eq_true_eq, List.all_eq_true] at this
      refine ⟨this.2, fun o ho => ⟨hall o ho, ?_⟩⟩
      have h1 := this.1 o ho
      unfold shortO at h1
      simpa using h1
    obtain ⟨hl40, hok⟩ := hlen
    by_cases hp : P.length ≤ 50
    · have hpI : (P.length : Int) ≤ 50 := by omega
      by_cases ht : T.length ≤ 20
      · have htI : (T.length : Int) ≤ 20 := by omega
        go_upto_region 5 with (first
      | (go_at_call 11; refine (fit_any _).mono ?_; rintro e wa ⟨rfl, hba⟩; have HB1 := Lib.hid hba; clear hba)
      | (go_at_call 18; refine (few_any _ _ _ _ (HR.out.below HB1.out) hn).mono ?_; rintro e wb ⟨rfl, hbb⟩; rw [HF.out]; have HB2 := Lib.hid (HB1.out.trans (hbb.mono HB1.out.size)); clear hbb; obtain ⟨a0, a1, a2, -⟩ := (HKA.out.kept (Fr.of_below HB2.out) (fun q => q)).three))
        go_wp2_with fail
        go_loopg [30] T.length (TlRel T wb)
        case atStart => exact ⟨0, rfl, Nat.zero_le _, rfl, by simp, Below.refl _ _⟩
        case round =>
          clear a0 a1 a2
          obtain ⟨k, hg, hk, rfl, hle, hb⟩ := hrel
          have Hg := Lib.hid hg
          have HLE := Lib.hid hle
          have HB := Lib.hid hb
          have HB3 := Lib.hid (HB2.out.trans (hb.mono HB2.out.size))
          clear hg hle hb
          by_cases hkn : k < T.length
          · obtain ⟨x, hx⟩ : ∃ x, T[k] = x := ⟨_, rfl⟩
            have hxl := hgl x (by rw [← hx]; exact List.getElem_mem hkn)
            have r1 := (HG.out.below HB3.out).ts
            obtain ⟨g2, o2, hst, -⟩ := r1.addr (by omega)
            obtain ⟨d0, d1, d2, d3⟩ := y_at (hst ▸ r1) (by rw [List.length_map]; exact hkn) _ (gy_at hkn x hx)
            simp only at d0 d1 d2 d3
            have HST := Lib.hid hst
            have HX := Lib.hid hx
            have hkI : (k : Int) < (T.length : Int) := by omega
            have hk0 : (0 : Int) ≤ (k : Int) := by omega
            have HBX := Lib.hid (HB.out.alloc HB.out.size (.cells #[.int .i64 x.t.id, .string x.t.ow, .bool x.t.wr, .slice x.s x.l.length x.c] 36))
            clear r1 hst hx
            rw [HST.out]
            by_cases h50 : x.l.length ≤ 50
            · have h50I : (x.l.length : Int) ≤ 50 := by omega
              go_wp2_with fail
              try rw [← HST.out]
              go_roundg (T.length - (k + 1))
              case measure => have := Hg.out; omega
              case rel => exact ⟨k + 1, rfl, by omega, by simp, fun y hy => by
                rw [List.take_succ_eq_append_getElem hkn, HX.out] at hy
                rcases List.mem_append.1 hy with q | q
                · exact HLE.out y q
                · rw [List.mem_singleton.1 q]; exact h50, HBX.out⟩
            · have h50I : (50 : Int) < (x.l.length : Int) := by omega
              go_wp2_with fail
              go_ret
              exact ⟨rfl, HW.out.trans ((HB2.out.trans (HBX.out.mono HB2.out.size)).mono HW.out.size)⟩
          · obtain rfl : k = T.length := by omega
            rw [List.take_length] at HLE
            have HWR := Lib.hid (HW.out.trans (HB3.out.mono HW.out.size))
            go_upto_region 11 with fail
            obtain ⟨wd, hwd⟩ : ∃ wd, wr.drew = wd := ⟨_, rfl⟩
            have hbd : Below W.heap.size W wd := by rw [← hwd]; exact ⟨HB3.out.os, HB3.out.tape, HB3.out.output, HB3.out.size, HB3.out.block⟩
            have HBD := Lib.hid hbd
            obtain ⟨a0, a1, a2, -⟩ := (HKA.out.kept (Fr.of_below hbd) (fun q => q)).three
            have hS : (fun w' : World => w'.cell? ⟨b2, 0, none⟩ = some (.slice sp P.length cp) ∧ w'.cell? ⟨b2, 1, none⟩ = some (.slice st T.length ct) ∧ w'.cell? ⟨b2, 2, none⟩ = some (.int .i64 nx)) wd := ⟨a0, a1, a2⟩
            have K1 := Lib.hid (valid_st _ P T nx sp cp st ct wd (HG.out.below hbd) (by omega) (by omega) (fun x hx => by have := HLE.out x hx; omega))
            clear hbd a0 a1 a2
            refine wpLast.region (S := (fun w' : World => w'.cell? ⟨b2, 0, none⟩ = some (.slice sp P.length cp) ∧ w'.cell? ⟨b2, 1, none⟩ = some (.slice st T.length ct) ∧ w'.cell? ⟨b2, 2, none⟩ = some (.int .i64 nx))) (c := 4) (by kernel_rfl) ?_
            rw [hwd]
            clear hwd
            refine' wpLast.take_c (i := 0) (v := _) [1] rfl (by kernel_rfl) (fun _ _ _ h => h) (by kernel_rfl) _ _ _ _ (by kernel_rfl) (by kernel_rfl) (by kernel_rfl) (Or.inl ⟨by rfl, ?hy0⟩) hS ?rest0
            case hy0 => (intro w' hSw; obtain ⟨k0, k1, k2⟩ := hSw; go_simp; try with_reducible rfl)
            try simp only [Act.put, List.setIfInBounds_toArray, List.set_cons_zero, List.set_cons_succ]
            refine' wpLast.take_c (i := 2) (v := _) [3] rfl (by kernel_rfl) (fun _ _ _ h => h) (by kernel_rfl) _ _ _ _ (by kernel_rfl) (by kernel_rfl) (by kernel_rfl) (Or.inl ⟨by rfl, ?hy2⟩) hS ?rest2
            case hy2 => (intro w' hSw; obtain ⟨k0, k1, k2⟩ := hSw; go_simp; try with_reducible rfl)
            try simp only [Act.put, List.setIfInBounds_toArray, List.set_cons_zero, List.set_cons_succ]
            refine wpLast.one (i := 1) rfl (by kernel_rfl) ?_
            intro K' hK; have HK' := Lib.hid hK; clear hK
            go_simp
            refine (K1.out).mono ?_
            rintro e w5 ⟨u1, rfl, hu1, hb5⟩
            have HU1 := Lib.hid hu1
            have HB5 := Lib.hid (HBD.out.trans (hb5.mono HBD.out.size))
            have K2 := Lib.hid (valid_ref _ P T nx sp cp st ct w5 (HG.out.below HB5.out) (by omega) (by omega) (fun x hx => by have := HLE.out x hx; omega))
            have hS5 : (fun w' : World => w'.cell? ⟨b2, 0, none⟩ = some (.slice sp P.length cp) ∧ w'.cell? ⟨b2, 1, none⟩ = some (.slice st T.length ct) ∧ w'.cell? ⟨b2, 2, none⟩ = some (.int .i64 nx)) w5 := by
              obtain ⟨a0, a1, a2, -⟩ := (HKA.out.kept (Fr.of_below HB5.out) (fun q => q)).three
              exact ⟨a0, a1, a2⟩
            refine HK'.out _ _ ⟨fun _ => hS5, ?_⟩
            clear HK' K' hS hb5 hu1
            try simp only [Act.put, List.setIfInBounds_toArray, List.set_cons_zero, List.set_cons_succ]
            refine wpLast.one (i := 3) rfl (by kernel_rfl) ?_
            intro K' hK; have HK' := Lib.hid hK; clear hK
            go_simp
            refine (K2.out).mono ?_
            rintro e w6 ⟨u2, rfl, hu2, hb6⟩
            have HB6 := Lib.hid (HB5.out.trans (hb6.mono HB5.out.size))
            have hS6 : (fun w' : World => w'.cell? ⟨b2, 0, none⟩ = some (.slice sp P.length cp) ∧ w'.cell? ⟨b2, 1, none⟩ = some (.slice st T.length ct) ∧ w'.cell? ⟨b2, 2, none⟩ = some (.int .i64 nx)) w6 := by
              obtain ⟨a0, a1, a2, -⟩ := (HKA.out.kept (Fr.of_below HB6.out) (fun q => q)).three
              exact ⟨a0, a1, a2⟩
            have hue : u2 = u1 := by
              have h1 := (hu2.trans (vs_iff P T nx).symm).trans HU1.out.symm
              cases u1 <;> cases u2 <;> simp at h1 <;> rfl
            subst hue
            refine HK'.out _ _ ⟨fun _ => hS6, ?_⟩
            clear HK' K' hS5 hb6 hu2
            try simp only [Act.put, List.setIfInBounds_toArray, List.set_cons_zero, List.set_cons_succ]
            refine wpLast.one (i := 4) rfl (by kernel_rfl) ?_
            intro K' hK; have HK' := Lib.hid hK; clear hK
            go_simp
            refine HK'.out _ _ ⟨fun h => absurd rfl h, ?_⟩
            clear HK' K'
            try simp only [Act.put, List.setIfInBounds_toArray, List.set_cons_zero, List.set_cons_succ]
            refine wpLast.done (by kernel_rfl) ?_
            have HW6 := Lib.hid (HW.out.trans (HB6.out.mono HW.out.size))
            clear hS6
            cases u2 with
            | false =>
              go_upto_region 13 with fail
              have H0 := Lib.hid (s0_at (St.start w0 HW6.out))
              have HR6 := Lib.hid (HR.out.below HB6.out)
              obtain ⟨w6z, hw6z⟩ : ∃ x, w6 = x := ⟨_, rfl⟩
              rw [hw6z] at H0 HR6 ⊢
              go_wp2_with fail
              obtain ⟨bs, hbs⟩ : ∃ bs, w6z.heap.size = bs := ⟨_, rfl⟩
              rw [hbs] at H0 ⊢
              clear hbs
              go_loopg [46] ls.length (VaRel w0 bs ls)
              case atStart => exact ⟨0, rfl, Nat.zero_le _, rfl, H0.out⟩
              case round =>
                obtain ⟨q, hg2, hq, rfl, hs⟩ := hrel
                have Hg2 := Lib.hid hg2
                have hgood := good_take ls (fun y hy => ⟨(hall y hy).1, (hok y hy).2⟩) q hq
                by_cases hqn : q < ls.length
                · obtain ⟨x, hx⟩ : ∃ x, ls[q] = x := ⟨_, rfl⟩
                  have hft := fin_take' ls q hqn x hx
                  obtain ⟨S, hS0⟩ : ∃ S, fin (ls.take q) = S := ⟨_, rfl⟩
                  have hgood2 := good_take ls (fun y hy => ⟨(hall y hy).1, (hok y hy).2⟩) (q + 1) (by omega)
                  rw [hft] at hgood2
                  rw [hS0] at hs hgood hgood2 hft
                  have HFT := Lib.hid hft
                  have HS := Lib.hid hs
                  have hi := hgood.iv
                  have HIV := Lib.hid hi
                  have HG2 := Lib.hid hgood2
                  clear hg2 hs hft hS0 hgood hgood2 H0
                  have hrd := HR0.out.below (by obtain ⟨p, h⟩ := HS.out; exact h.bel)
                  obtain ⟨g, off, rfl, -⟩ := hrd.addr (by omega)
                  obtain ⟨d0, d1, d2, d3, d4⟩ := o_at hrd hqn x hx
                  have hxm : x ∈ ls := by rw [← hx]; exact List.getElem_mem hqn
                  have hqI : (q : Int) < (ls.length : Int) := by omega
                  have HX := Lib.hid hx
                  clear hx hrd
                  go_upto_region 17 with fail
                  obtain ⟨b5, hb5⟩ : ∃ b5, wr.heap.size = b5 := ⟨_, rfl⟩
                  obtain ⟨p0, hp0⟩ := HS.out
                  have hp1 := St.sh [_, _, _, _, _] [1, 2, 3, 4, 0] (by decide) (hp0.new #[.int .u8 x.kd, .int .u8 x.tx, .string x.key, .string x.val, .bool x.wr] 45)
                  simp only [List.map_cons, List.map_nil, List.getD_cons_zero, List.getD_cons_succ, List.cons_append, List.nil_append] at hp1
                  obtain ⟨W, hW⟩ : ∃ W, wr.alloc (.cells #[.int .u8 x.kd, .int .u8 x.tx, .string x.key, .string x.val, .bool x.wr] 45) = W := ⟨_, rfl⟩
                  rw [hW] at hp1
                  rw [hb5] at hp1
                  try rw [hW]
                  try simp only [hb5]
                  clear hW hb5
                  have HP := Lib.hid (show SAt bs S w0 W _ from ⟨p0, hp1⟩)
                  obtain ⟨y0, y1, y2, y3, y4, -⟩ := blk5 (hp1.blkm (b := b5) (.tail _ (.tail _ (.tail _ (.tail _ (.head _))))))
                  have y5 := hp1.blk.1.three.2.2.1
                  have hS : (fun w' : World => w'.cell? ⟨b5, 0, none⟩ = some (.int .u8 x.kd) ∧ w'.cell? ⟨b5, 1, none⟩ = some (.int .u8 x.tx) ∧ w'.cell? ⟨b5, 2, none⟩ = some (.string x.key) ∧ w'.cell? ⟨b5, 3, none⟩ = some (.string x.val) ∧ w'.cell? ⟨b5, 4, none⟩ = some (.bool x.wr) ∧ w'.cell? ⟨bs, 2, none⟩ = some (.int .i64 S.nx)) W.drew := ⟨y0, y1, y2, y3, y4, y5⟩
                  have HPd := Lib.hid (show SAt bs S w0 W.drew _ from ⟨p0, hp1.drew⟩)
                  clear hp0 hp1 y0 y1 y2 y3 y4 y5
                  refine wpLast.region (S := (fun w' : World => w'.cell? ⟨b5, 0, none⟩ = some (.int .u8 x.kd) ∧ w'.cell? ⟨b5, 1, none⟩ = some (.int .u8 x.tx) ∧ w'.cell? ⟨b5, 2, none⟩ = some (.string x.key) ∧ w'.cell? ⟨b5, 3, none⟩ = some (.string x.val) ∧ w'.cell? ⟨b5, 4, none⟩ = some (.bool x.wr) ∧ w'.cell? ⟨bs, 2, none⟩ = some (.int .i64 S.nx))) (c := 5) (by kernel_rfl) ?_
                  refine' wpLast.take_c (i := 0) (v := _) [] rfl (by kernel_rfl) (fun _ _ _ h => h) (by kernel_rfl) _ _ _ _ (by kernel_rfl) (by kernel_rfl) (by kernel_rfl) (Or.inl ⟨by rfl, ?hyA0⟩) hS ?restA0
                  case hyA0 => (intro w' hSw; obtain ⟨k0, k1, k2, k3, k4, k5⟩ := hSw; go_simp; try with_reducible rfl)
                  try simp only [Act.put, List.setIfInBounds_toArray, List.set_cons_zero, List.set_cons_succ]
                  refine' wpLast.take_c (i := 1) (v := _) [4] rfl (by kernel_rfl) (fun _ _ _ h => h) (by kernel_rfl) _ _ _ _ (by kernel_rfl) (by kernel_rfl) (by kernel_rfl) (Or.inl ⟨by rfl, ?hyA1⟩) hS ?restA1
                  case hyA1 => (intro w' hSw; obtain ⟨k0, k1, k2, k3, k4, k5⟩ := hSw; go_simp; try with_reducible rfl)
                  try simp only [Act.put, List.setIfInBounds_toArray, List.set_cons_zero, List.set_cons_succ]
                  refine' wpLast.take_c (i := 2) (v := _) [4, 3] rfl (by kernel_rfl) (fun _ _ _ h => h) (by kernel_rfl) _ _ _ _ (by kernel_rfl) (by kernel_rfl) (by kernel_rfl) (Or.inl ⟨by rfl, ?hyA2⟩) hS ?restA2
                  case hyA2 => (intro w' hSw; obtain ⟨k0, k1, k2, k3, k4, k5⟩ := hSw; go_simp; try with_reducible rfl)
                  try simp only [Act.put, List.setIfInBounds_toArray, List.set_cons_zero, List.set_cons_succ]
                  refine' wpLast.take_c (i := 3) (v := _) [4] rfl (by kernel_rfl) (fun _ _ _ h => h) (by kernel_rfl) _ _ _ _ (by kernel_rfl) (by kernel_rfl) (by kernel_rfl) (Or.inl ⟨by rfl, ?hyA3⟩) hS ?restA3
                  case hyA3 => (intro w' hSw; obtain ⟨k0, k1, k2, k3, k4, k5⟩ := hSw; go_simp; try with_reducible rfl)
                  try simp only [Act.put, List.setIfInBounds_toArray, List.set_cons_zero, List.set_cons_succ]
                  refine wpLast.one (i := 4) rfl (by kernel_rfl) ?_
                  intro K' hK; have HK' := Lib.hid hK; clear hK
                  go_simp
                  refine (number_any x S.nx _ (hok x hxm).1 hi.nx0 (by have := hi.nx1; omega)).mono ?_
                  rintro e w3 ⟨rfl, hb3⟩
                  have hS3 : (fun w' : World => w'.cell? ⟨b5, 0, none⟩ = some (.int .u8 x.kd) ∧ w'.cell? ⟨b5, 1, none⟩ = some (.int .u8 x.tx) ∧ w'.cell? ⟨b5, 2, none⟩ = some (.string x.key) ∧ w'.cell? ⟨b5, 3, none⟩ = some (.string x.val) ∧ w'.cell? ⟨b5, 4, none⟩ = some (.bool x.wr) ∧ w'.cell? ⟨bs, 2, none⟩ = some (.int .i64 S.nx)) w3 := by
                    obtain ⟨k0, k1, k2, k3, k4, k5⟩ := hS
                    exact ⟨(hb3.cell (World.block_lt_of_cell? _ _ k0)).trans k0, (hb3.cell (World.block_lt_of_cell? _ _ k1)).trans k1, (hb3.cell (World.block_lt_of_cell? _ _ k2)).trans k2, (hb3.cell (World.block_lt_of_cell? _ _ k3)).trans k3, (hb3.cell (World.block_lt_of_cell? _ _ k4)).trans k4, (hb3.cell (World.block_lt_of_cell? _ _ k5)).trans k5⟩
                  have HP3 := Lib.hid (HPd.out.of_below hb3)
                  clear hb3
                  refine HK'.out _ _ ⟨fun _ => hS3, ?_⟩
                  clear HK' K' hS hS3
                  try simp only [Act.put, List.setIfInBounds_toArray, List.set_cons_zero, List.set_cons_succ]
                  refine wpLast.one (i := 5) rfl (by kernel_rfl) ?_
                  intro K' hK; have HK' := Lib.hid hK; clear hK
                  go_simp
                  refine (do_st x (numF x S.nx) (hok x hxm).1 (hok x hxm).2 HP3.out hi (by omega)).mono ?_
                  rintro e w4 ⟨rs, rc, rfl, h4⟩
                  refine HK'.out _ _ ⟨fun h => absurd rfl h, ?_⟩
                  clear HK' K'
                  try simp only [Act.put, List.setIfInBounds_toArray, List.set_cons_zero, List.set_cons_succ]
                  refine wpLast.done (by kernel_rfl) ?_
                  have H4 := Lib.hid (sat_drop2 h4)
                  clear h4
                  obtain ⟨S2, hS2⟩ : ∃ S2, (doS S x (numF x S.nx)).1 = S2 := ⟨_, rfl⟩
                  rw [hS2] at H4 HG2 HFT
                  clear hS2 hi HP HPd HP3 HS d0 d1 d2 d3 d4
                  try simp only [List.setIfInBounds_toArray, List.set_cons_zero, List.set_cons_succ]
                  generalize (doS S x (numF x S.nx)).2 = RR
                  generalize numF x S.nx = nf
                  obtain ⟨pz, ⟨z0, z1, z2⟩, hgz⟩ := gv_sat H4.out
                  have hl2 := HG2.out.iv.ln
                  have ht2 := HG2.out.iv.tl
                  have KV := Lib.hid (valid_st _ S2.pairs (gts S2 pz) S2.nx pz.sp pz.cp pz.st pz.ct w4 hgz (by omega) (by rw [gts_len]; omega) (fun y hy => gts_cs hy (by omega)))
                  have HVS := Lib.hid (vs_of pz HG2.out.iv (by omega) HG2.out.ids HG2.out.fw HG2.out.rv)
                  clear hgz hl2 ht2
                  go_upto_region 18 with fail
                  go_wp2_with (go_at_call 29; refine (KV.out).mono ?_; rintro e w5 ⟨u5, rfl, hu5, hb5⟩; obtain rfl : u5 = true := hu5.2 HVS.out; have H5 := Lib.hid (H4.out.of_below hb5); clear hb5 hu5)
                  go_roundg (ls.length - (q + 1))
                  case measure => have := Hg2.out; omega
                  case rel => exact ⟨q + 1, rfl, by omega, by simp, by rw [HFT.out]; exact H5.out⟩
                · clear hgood H0
                  have HS := Lib.hid hs
                  clear hs
                  go_wp2_with fail
                  go_ret
                  exact ⟨rfl, by obtain ⟨p, h⟩ := HS.out; exact h.bel⟩
            | true =>
              go_upto_region 13 with fail
              have H0 := Lib.hid (s0_at (St.start w0 HW6.out))
              have HR6 := Lib.hid (HR.out.below HB6.out)
              obtain ⟨w6z, hw6z⟩ : ∃ x, w6 = x := ⟨_, rfl⟩
              rw [hw6z] at H0 HR6 ⊢
              go_wp2_with fail
              obtain ⟨bs, hbs⟩ : ∃ bs, w6z.heap.size = bs := ⟨_, rfl⟩
              rw [hbs] at H0 ⊢
              clear hbs
              go_loopg [46] ls.length (VaRel w0 bs ls)
              case atStart => exact ⟨0, rfl, Nat.zero_le _, rfl, H0.out⟩
              case round =>
                obtain ⟨q, hg2, hq, rfl, hs⟩ := hrel
                have Hg2 := Lib.hid hg2
                have hgood := good_take ls (fun y hy => ⟨(hall y hy).1, (hok y hy).2⟩) q hq
                by_cases hqn : q < ls.length
                · obtain ⟨x, hx⟩ : ∃ x, ls[q] = x := ⟨_, rfl⟩
                  have hft := fin_take' ls q hqn x hx
                  obtain ⟨S, hS0⟩ : ∃ S, fin (ls.take q) = S := ⟨_, rfl⟩
                  have hgood2 := good_take ls (fun y hy => ⟨(hall y hy).1, (hok y hy).2⟩) (q + 1) (by omega)
                  rw [hft] at hgood2
                  rw [hS0] at hs hgood hgood2 hft
                  have HFT := Lib.hid hft
                  have HS := Lib.hid hs
                  have hi := hgood.iv
                  have HIV := Lib.hid hi
                  have HG2 := Lib.hid hgood2
                  clear hg2 hs hft hS0 hgood hgood2 H0
                  have hrd := HR0.out.below (by obtain ⟨p, h⟩ := HS.out; exact h.bel)
                  obtain ⟨g, off, rfl, -⟩ := hrd.addr (by omega)
                  obtain ⟨d0, d1, d2, d3, d4⟩ := o_at hrd hqn x hx
                  have hxm : x ∈ ls := by rw [← hx]; exact List.getElem_mem hqn
                  have hqI : (q : Int) < (ls.length : Int) := by omega
                  have HX := Lib.hid hx
                  clear hx hrd
                  go_upto_region 17 with fail
                  obtain ⟨b5, hb5⟩ : ∃ b5, wr.heap.size = b5 := ⟨_, rfl⟩
                  obtain ⟨p0, hp0⟩ := HS.out
                  have hp1 := St.sh [_, _, _, _, _] [1, 2, 3, 4, 0] (by decide) (hp0.new #[.int .u8 x.kd, .int .u8 x.tx, .string x.key, .string x.val, .bool x.wr] 45)
                  simp only [List.map_cons, List.map_nil, List.getD_cons_zero, List.getD_cons_succ, List.cons_append, List.nil_append] at hp1
                  obtain ⟨W, hW⟩ : ∃ W, wr.alloc (.cells #[.int .u8 x.kd, .int .u8 x.tx, .string x.key, .string x.val, .bool x.wr] 45) = W := ⟨_, rfl⟩
                  rw [hW] at hp1
                  rw [hb5] at hp1
                  try rw [hW]
                  try simp only [hb5]
                  clear hW hb5
                  have HP := Lib.hid (show SAt bs S w0 W _ from ⟨p0, hp1⟩)
                  obtain ⟨y0, y1, y2, y3, y4, -⟩ := blk5 (hp1.blkm (b := b5) (.tail _ (.tail _ (.tail _ (.tail _ (.head _))))))
                  have y5 := hp1.blk.1.three.2.2.1
                  have hS : (fun w' : World => w'.cell? ⟨b5, 0, none⟩ = some (.int .u8 x.kd) ∧ w'.cell? ⟨b5, 1, none⟩ = some (.int .u8 x.tx) ∧ w'.cell? ⟨b5, 2, none⟩ = some (.string x.key) ∧ w'.cell? ⟨b5, 3, none⟩ = some (.string x.val) ∧ w'.cell? ⟨b5, 4, none⟩ = some (.bool x.wr) ∧ w'.cell? ⟨bs, 2, none⟩ = some (.int .i64 S.nx)) W.drew := ⟨y0, y1, y2, y3, y4, y5⟩
                  have HPd := Lib.hid (show SAt bs S w0 W.drew _ from ⟨p0, hp1.drew⟩)
                  clear hp0 hp1 y0 y1 y2 y3 y4 y5
                  refine wpLast.region (S := (fun w' : World => w'.cell? ⟨b5, 0, none⟩ = some (.int .u8 x.kd) ∧ w'.cell? ⟨b5, 1, none⟩ = some (.int .u8 x.tx) ∧ w'.cell? ⟨b5, 2, none⟩ = some (.string x.key) ∧ w'.cell? ⟨b5, 3, none⟩ = some (.string x.val) ∧ w'.cell? ⟨b5, 4, none⟩ = some (.bool x.wr) ∧ w'.cell? ⟨bs, 2, none⟩ = some (.int .i64 S.nx))) (c := 5) (by kernel_rfl) ?_
                  refine' wpLast.take_c (i := 0) (v := _) [] rfl (by kernel_rfl) (fun _ _ _ h => h) (by kernel_rfl) _ _ _ _ (by kernel_rfl) (by kernel_rfl) (by kernel_rfl) (Or.inl ⟨by rfl, ?hyB0⟩) hS ?restB0
                  case hyB0 => (intro w' hSw; obtain ⟨k0, k1, k2, k3, k4, k5⟩ := hSw; go_simp; try with_reducible rfl)
                  try simp only [Act.put, List.setIfInBounds_toArray, List.set_cons_zero, List.set_cons_succ]
                  refine' wpLast.take_c (i := 1) (v := _) [4] rfl (by kernel_rfl) (fun _ _ _ h => h) (by kernel_rfl) _ _ _ _ (by kernel_rfl) (by kernel_rfl) (by kernel_rfl) (Or.inl ⟨by rfl, ?hyB1⟩) hS ?restB1
                  case hyB1 => (intro w' hSw; obtain ⟨k0, k1, k2, k3, k4, k5⟩ := hSw; go_simp; try with_reducible rfl)
                  try simp only [Act.put, List.setIfInBounds_toArray, List.set_cons_zero, List.set_cons_succ]
                  refine' wpLast.take_c (i := 2) (v := _) [4, 3] rfl (by kernel_rfl) (fun _ _ _ h => h) (by kernel_rfl) _ _ _ _ (by kernel_rfl) (by kernel_rfl) (by kernel_rfl) (Or.inl ⟨by rfl, ?hyB2⟩) hS ?restB2
                  case hyB2 => (intro w' hSw; obtain ⟨k0, k1, k2, k3, k4, k5⟩ := hSw; go_simp; try with_reducible rfl)
                  try simp only [Act.put, List.setIfInBounds_toArray, List.set_cons_zero, List.set_cons_succ]
                  refine' wpLast.take_c (i := 3) (v := _) [4] rfl (by kernel_rfl) (fun _ _ _ h => h) (by kernel_rfl) _ _ _ _ (by kernel_rfl) (by kernel_rfl) (by kernel_rfl) (Or.inl ⟨by rfl, ?hyB3⟩) hS ?restB3
                  case hyB3 => (intro w' hSw; obtain ⟨k0, k1, k2, k3, k4, k5⟩ := hSw; go_simp; try with_reducible rfl)
                  try simp only [Act.put, List.setIfInBounds_toArray, List.set_cons_zero, List.set_cons_succ]
                  refine wpLast.one (i := 4) rfl (by kernel_rfl) ?_
                  intro K' hK; have HK' := Lib.hid hK; clear hK
                  go_simp
                  refine (number_any x S.nx _ (hok x hxm).1 hi.nx0 (by have := hi.nx1; omega)).mono ?_
                  rintro e w3 ⟨rfl, hb3⟩
                  have hS3 : (fun w' : World => w'.cell? ⟨b5, 0, none⟩ = some (.int .u8 x.kd) ∧ w'.cell? ⟨b5, 1, none⟩ = some (.int .u8 x.tx) ∧ w'.cell? ⟨b5, 2, none⟩ = some (.string x.key) ∧ w'.cell? ⟨b5, 3, none⟩ = some (.string x.val) ∧ w'.cell? ⟨b5, 4, none⟩ = some (.bool x.wr) ∧ w'.cell? ⟨bs, 2, none⟩ = some (.int .i64 S.nx)) w3 := by
                    obtain ⟨k0, k1, k2, k3, k4, k5⟩ := hS
                    exact ⟨(hb3.cell (World.block_lt_of_cell? _ _ k0)).trans k0, (hb3.cell (World.block_lt_of_cell? _ _ k1)).trans k1, (hb3.cell (World.block_lt_of_cell? _ _ k2)).trans k2, (hb3.cell (World.block_lt_of_cell? _ _ k3)).trans k3, (hb3.cell (World.block_lt_of_cell? _ _ k4)).trans k4, (hb3.cell (World.block_lt_of_cell? _ _ k5)).trans k5⟩
                  have HP3 := Lib.hid (HPd.out.of_below hb3)
                  clear hb3
                  refine HK'.out _ _ ⟨fun _ => hS3, ?_⟩
                  clear HK' K' hS hS3
                  try simp only [Act.put, List.setIfInBounds_toArray, List.set_cons_zero, List.set_cons_succ]
                  refine wpLast.one (i := 5) rfl (by kernel_rfl) ?_
                  intro K' hK; have HK' := Lib.hid hK; clear hK
                  go_simp
                  refine (do_st x (numF x S.nx) (hok x hxm).1 (hok x hxm).2 HP3.out hi (by omega)).mono ?_
                  rintro e w4 ⟨rs, rc, rfl, h4⟩
                  refine HK'.out _ _ ⟨fun h => absurd rfl h, ?_⟩
                  clear HK' K'
                  try simp only [Act.put, List.setIfInBounds_toArray, List.set_cons_zero, List.set_cons_succ]
                  refine wpLast.done (by kernel_rfl) ?_
                  have H4 := Lib.hid (sat_drop2 h4)
                  clear h4
                  obtain ⟨S2, hS2⟩ : ∃ S2, (doS S x (numF x S.nx)).1 = S2 := ⟨_, rfl⟩
                  rw [hS2] at H4 HG2 HFT
                  clear hS2 hi HP HPd HP3 HS d0 d1 d2 d3 d4
                  try simp only [List.setIfInBounds_toArray, List.set_cons_zero, List.set_cons_succ]
                  generalize (doS S x (numF x S.nx)).2 = RR
                  generalize numF x S.nx = nf
                  obtain ⟨pz, ⟨z0, z1, z2⟩, hgz⟩ := gv_sat H4.out
                  have hl2 := HG2.out.iv.ln
                  have ht2 := HG2.out.iv.tl
                  have KV := Lib.hid (valid_st _ S2.pairs (gts S2 pz) S2.nx pz.sp pz.cp pz.st pz.ct w4 hgz (by omega) (by rw [gts_len]; omega) (fun y hy => gts_cs hy (by omega)))
                  have HVS := Lib.hid (vs_of pz HG2.out.iv (by omega) HG2.out.ids HG2.out.fw HG2.out.rv)
                  clear hgz hl2 ht2
                  go_upto_region 18 with fail
                  go_wp2_with (go_at_call 29; refine (KV.out).mono ?_; rintro e w5 ⟨u5, rfl, hu5, hb5⟩; obtain rfl : u5 = true := hu5.2 HVS.out; have H5 := Lib.hid (H4.out.of_below hb5); clear hb5 hu5)
                  go_roundg (ls.length - (q + 1))
                  case measure => have := Hg2.out; omega
                  case rel => exact ⟨q + 1, rfl, by omega, by simp, by rw [HFT.out]; exact H5.out⟩
                · clear hgood H0
                  have HS := Lib.hid hs
                  clear hs
                  go_wp2_with fail
                  go_ret
                  exact ⟨rfl, by obtain ⟨p, h⟩ := HS.out; exact h.bel⟩
      · have htI : (20 : Int) < (T.length : Int) := by omega
        go_wp2_with (first
      | (go_at_call 11; refine (fit_any _).mono ?_; rintro e wa ⟨rfl, hba⟩; have HB1 := Lib.hid hba; clear hba)
      | (go_at_call 18; refine (few_any _ _ _ _ (HR.out.below HB1.out) hn).mono ?_; rintro e wb ⟨rfl, hbb⟩; rw [HF.out]; have HB2 := Lib.hid (HB1.out.trans (hbb.mono HB1.out.size)); clear hbb; obtain ⟨a0, a1, a2, -⟩ := (HKA.out.kept (Fr.of_below HB2.out) (fun q => q)).three))
        go_ret
        exact ⟨rfl, HW.out.trans (HB2.out.mono HW.out.size)⟩
    · have hpI : (50 : Int) < (P.length : Int) := by omega
      go_wp2_with (first
      | (go_at_call 11; refine (fit_any _).mono ?_; rintro e wa ⟨rfl, hba⟩; have HB1 := Lib.hid hba; clear hba)
      | (go_at_call 18; refine (few_any _ _ _ _ (HR.out.below HB1.out) hn).mono ?_; rintro e wb ⟨rfl, hbb⟩; rw [HF.out]; have HB2 := Lib.hid (HB1.out.trans (hbb.mono HB1.out.size)); clear hbb; obtain ⟨a0, a1, a2, -⟩ := (HKA.out.kept (Fr.of_below HB2.out) (fun q => q)).three))
      go_ret
      exact ⟨rfl, HW.out.trans (HB2.out.mono HW.out.size)⟩

end Go.Proofs.Ytcglnjklnlejmaa
