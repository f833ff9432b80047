/-
  StoreTurns.
-/
import Derived.Test.YtcglnjklnlejmaaSo
import Derived.Test.YtcglnjklnlejmaaKu
set_option linter.unusedVariables false
set_option linter.unusedSimpArgs false
namespace Go.Proofs.Ytcglnjklnlejmaa
open Go.RowKit Go.K Go.K.Sr

theorem sat_drop2 {w0 w : World} {L : List As} {b : Nat} {S : SS} {A B : As} (h : SAt b S w0 w (A :: B :: L)) : SAt b S w0 w L := by
  obtain ⟨p, h⟩ := h
  have h1 := St.sh [_, _, _, _, _, _] [4, 5, 0, 1, 2, 3] (by decide) h
  simp only [List.map_cons, List.map_nil, List.getD_cons_zero, List.getD_cons_succ, List.cons_append, List.nil_append] at h1
  exact ⟨p, h1.drop.drop⟩

/-- the identifiers ascend, and were given out -/
structure Ids (S : SS) : Prop where
  asc : S.txs.Pairwise (fun a b => a.id < b.id)
  bd : ∀ t ∈ S.txs, 0 < t.id ∧ t.id ≤ S.nx
theorem fnd_self {S : SS} (h : Ids S) (k : Nat) (hk : k < S.txs.length) : fnd S.txs[k].id S.txs = some k := by
  unfold fnd
  rw [List.findIdx?_eq_some_iff_getElem]
  refine ⟨hk, by simp, fun j hj => ?_⟩
  have := List.pairwise_iff_getElem.1 h.asc j k (by omega) hk hj
  simp
  omega
theorem ids_open {S : SS} (h : Ids S) (hx : 0 ≤ S.nx) (ow : ByteArray) (wr : Bool) : Ids (openS S ow wr) := by
  refine ⟨?_, ?_⟩
  · refine List.pairwise_append.2 ⟨h.asc, by simp, ?_⟩
    intro a ha b hb
    simp at hb
    subst hb
    have := (h.bd a ha).2
    show a.id < S.nx + 1
    omega
  · intro t ht
    have ht' : t ∈ S.txs ++ [⟨S.nx + 1, ow, wr⟩] := ht
    rcases List.mem_append.1 ht' with q | q
    · have := h.bd t q
      exact ⟨this.1, by show t.id ≤ S.nx + 1; omega⟩
    · simp at q
      subst q
      exact ⟨by show 0 < S.nx + 1; omega, Int.le_refl _⟩
theorem ids_sub {S S' : SS} (h : Ids S) (hs : S'.txs.Sublist S.txs) (hn : S'.nx = S.nx) : Ids S' :=
  ⟨h.asc.sublist hs, fun t ht => by rw [hn]; exact h.bd t (hs.subset ht)⟩
theorem ids_do {S : SS} (h : Ids S) (hx : 0 ≤ S.nx) (o : Op') (id : Int) : Ids (doS S o id).1 := by
  have halt : ∀ c, Ids (altS S id c).1 := by
    intro c
    unfold altS
    split
    · exact h
    · split
      · exact h
      · split
        · split
          · exact h
          · split
            · exact h
            · exact ⟨h.asc, h.bd⟩
        · exact h
  unfold doS
  split
  · exact ids_open h hx _ _
  · split
    · exact h
    · split
      · exact halt _
      · split
        · exact halt _
        · split
          · exact h
          · split
            · unfold commitS
              split
              · exact h
              · split
                · exact h
                · exact ids_sub h (List.eraseIdx_sublist _ _) rfl
            · split
              · unfold abortS
                split
                · exact ids_sub h (List.eraseIdx_sublist _ _) rfl
                · exact h
              · split
                · exact h
                · exact ids_sub h List.filter_sublist rfl
theorem ids0 : Ids S0 := ⟨List.Pairwise.nil, by simp [S0]⟩

theorem turnB_zero {txs : List Tx} (h : 0 < txs.length) : turnB txs 0 = true := by
  unfold turnB
  rw [List.getElem?_eq_getElem h]
  cases (txs[0]).wr <;> simp
def headW (txs : List Tx) : Bool := match txs with | [] => false | t :: _ => t.wr
theorem headW_get {txs : List Tx} (h : 0 < txs.length) : headW txs = (txs[0]).wr := by
  cases txs with
  | nil => simp at h
  | cons t r => rfl
theorem turnB_head {txs : List Tx} {k : Nat} (hh : headW txs = true) (hk0 : 0 < k) (hk : k < txs.length) : turnB txs k = false := by
  unfold turnB
  rw [List.getElem?_eq_getElem hk]
  simp only
  cases hw : (txs[k]).wr with
  | true => simp; omega
  | false =>
    simp only [Bool.false_eq_true, if_false, Bool.not_eq_false']
    rw [List.any_eq_true]
    refine ⟨txs[0], ?_, by rw [← headW_get (by omega)]; exact hh⟩
    rw [List.mem_take_iff_getElem]
    exact ⟨0, by omega, rfl⟩
theorem turnB_wr {txs : List Tx} {k : Nat} (hk : k < txs.length) (ho : turnB txs k = true) (hw : (txs[k]).wr = true) : k = 0 := by
  unfold turnB at ho
  rw [List.getElem?_eq_getElem hk] at ho
  simpa [hw] using ho
def TnRel (S : SS) (w : World) (g : Nat) (v6 v7 v32 : Value) (wr : World) : Prop :=
  ∃ k r wc : Nat, g = S.txs.length - k ∧ k ≤ S.txs.length ∧ v32 = .int .i64 k ∧ v6 = .int .i64 r ∧ v7 = .int .i64 wc ∧ r ≤ k ∧ wc ≤ 1 ∧ (headW S.txs = true → r = min k 1 ∧ wc = min k 1) ∧ (headW S.txs = false → wc = 0) ∧ Below w.heap.size w wr
def okOp (o : Op') : Prop := o.ok ∧ (o.key.size ≤ 100 ∧ o.val.size ≤ 100)
def TuRel (w : World) (bs n : Nat) (g : Nat) (v19 : Value) (wr : World) : Prop :=
  ∃ (q : Nat) (S : SS), g = n - q ∧ q ≤ n ∧ v19 = .int .i64 q ∧ SAt bs S w wr [] ∧ Iv q S ∧ Ids S

set_option maxRecDepth 100000 in
set_option maxHeartbeats 1000000 in
theorem turns_go (s : Option Addr) (c : Nat) (ls : List Op') (w0 : World) (h : Rd w0 5 s ls.length (flat opc ls)) (hn : (ls.length : Int) ≤ 9223372036854775807) (hall : ∀ o ∈ ls, o.ok) :
    Calls Try.prog 7 #[.slice s ls.length c] w0 fun e w' => e = .returned (.bool true) ∧ Below w0.heap.size w0 w' := by
  have HR := Lib.hid h
  clear h
  obtain ⟨fb, hfb⟩ : ∃ fb, fewB ls = fb := ⟨_, rfl⟩
  have HF := Lib.hid hfb
  clear hfb
  cases fb with
  | false =>
    go_enter Try.func7, Try.ntmps7
    go_wp2_with (first
      | (go_at_call 11; refine (fit_any _).mono ?_; rintro e wa ⟨rfl, hba⟩; have HB1 := Lib.hid hba; clear hba)
      | (go_at_call 18; refine (few_any _ _ _ _ (HR.out.below HB1.out) hn).mono ?_; rintro e wb ⟨rfl, hbb⟩; rw [HF.out]; have HB2 := Lib.hid (HB1.out.trans (hbb.mono HB1.out.size)); clear hbb))
    go_ret
    exact ⟨rfl, HB2.out⟩
  | true =>
    have hlen : ls.length ≤ 40 ∧ ∀ o ∈ ls, okOp o := by
      have := HF.out
      unfold fewB at this
      simp only [Bool.and_eq_true, decide_eq_true_eq, List.all_eq_true] at this
      refine ⟨this.2, fun o ho => ⟨hall o ho, ?_⟩⟩
      have h1 := this.1 o ho
      unfold shortO at h1
      simpa using h1
    obtain ⟨hl40, hok⟩ := hlen
    go_enter Try.func7, Try.ntmps7
    go_upto_region 6 with (first
      | (go_at_call 11; refine (fit_any _).mono ?_; rintro e wa ⟨rfl, hba⟩; have HB1 := Lib.hid hba; clear hba)
      | (go_at_call 18; refine (few_any _ _ _ _ (HR.out.below HB1.out) hn).mono ?_; rintro e wb ⟨rfl, hbb⟩; rw [HF.out]; have HB2 := Lib.hid (HB1.out.trans (hbb.mono HB1.out.size)); clear hbb))
    have H0 := Lib.hid (s0_at (St.start w0 HB2.out))
    go_wp2_with fail
    obtain ⟨bs, hbs⟩ : ∃ bs, wb.heap.size = bs := ⟨_, rfl⟩
    rw [hbs] at H0 ⊢
    go_loopg [19] ls.length (TuRel w0 bs ls.length)
    case atStart => exact ⟨0, S0, rfl, Nat.zero_le _, rfl, H0.out, iv0, ids0⟩
    case round =>
      obtain ⟨q, S, hg, hq, rfl, hs, hi, hids⟩ := hrel
      have Hg := Lib.hid hg
      have HS := Lib.hid hs
      have HIV := Lib.hid hi
      have HIDS := Lib.hid hids
      clear hg hs hids H0
      by_cases hqn : q < ls.length
      · have hrd := HR.out.below (by obtain ⟨p, h⟩ := HS.out; exact h.bel)
        obtain ⟨g, off, rfl, -⟩ := hrd.addr (by omega)
        obtain ⟨x, hx⟩ : ∃ x, ls[q] = x := ⟨_, rfl⟩
        obtain ⟨d0, d1, d2, d3, d4⟩ := o_at hrd hqn x hx
        have hxm : x ∈ ls := by rw [← hx]; exact List.getElem_mem hqn
        have hqI : (q : Int) < (ls.length : Int) := by omega
        have HX := Lib.hid hx
        clear hx hrd
        · skip
          go_upto_region 9 with fail
          obtain ⟨b5, hb5⟩ : ∃ b5, wr.heap.size = b5 := ⟨_, rfl⟩
          obtain ⟨p0, hp0⟩ := HS.out
          have hp1 := St.sh [_, _, _, _, _] [1, 2, 3, 4, 0] (by decide) (hp0.new #[.int .u8 x.kd, .int .u8 x.tx, .string x.key, .string x.val, .bool x.wr] 45)
          simp only [List.map_cons, List.map_nil, List.getD_cons_zero, List.getD_cons_succ, List.cons_append, List.nil_append] at hp1
          obtain ⟨W, hW⟩ : ∃ W, wr.alloc (.cells #[.int .u8 x.kd, .int .u8 x.tx, .string x.key, .string x.val, .bool x.wr] 45) = W := ⟨_, rfl⟩
          rw [hW] at hp1
          rw [hb5] at hp1
          try rw [hW]
          try simp only [hb5]
          clear hW hb5
          have HP := Lib.hid (show SAt bs S w0 W _ from ⟨p0, hp1⟩)
          obtain ⟨y0, y1, y2, y3, y4, -⟩ := blk5 (hp1.blkm (b := b5) (.tail _ (.tail _ (.tail _ (.tail _ (.head _))))))
          have y5 := hp1.blk.1.three.2.2.1
          have hS : (fun w' : World => w'.cell? ⟨b5, 0, none⟩ = some (.int .u8 x.kd) ∧ w'.cell? ⟨b5, 1, none⟩ = some (.int .u8 x.tx) ∧ w'.cell? ⟨b5, 2, none⟩ = some (.string x.key) ∧ w'.cell? ⟨b5, 3, none⟩ = some (.string x.val) ∧ w'.cell? ⟨b5, 4, none⟩ = some (.bool x.wr) ∧ w'.cell? ⟨bs, 2, none⟩ = some (.int .i64 S.nx)) W.drew := ⟨y0, y1, y2, y3, y4, y5⟩
          have HPd := Lib.hid (show SAt bs S w0 W.drew _ from ⟨p0, hp1.drew⟩)
          clear hp0 hp1 y0 y1 y2 y3 y4 y5
          refine wpLast.region (S := (fun w' : World => w'.cell? ⟨b5, 0, none⟩ = some (.int .u8 x.kd) ∧ w'.cell? ⟨b5, 1, none⟩ = some (.int .u8 x.tx) ∧ w'.cell? ⟨b5, 2, none⟩ = some (.string x.key) ∧ w'.cell? ⟨b5, 3, none⟩ = some (.string x.val) ∧ w'.cell? ⟨b5, 4, none⟩ = some (.bool x.wr) ∧ w'.cell? ⟨bs, 2, none⟩ = some (.int .i64 S.nx))) (c := 5) (by kernel_rfl) ?_
          refine' wpLast.take_c (i := 0) (v := _) [] rfl (by kernel_rfl) (fun _ _ _ h => h) (by kernel_rfl) _ _ _ _ (by kernel_rfl) (by kernel_rfl) (by kernel_rfl) (Or.inl ⟨by rfl, ?hy0⟩) hS ?rest0
          case hy0 => (intro w' hSw; obtain ⟨k0, k1, k2, k3, k4, k5⟩ := hSw; go_simp; try with_reducible rfl)
          try simp only [Act.put, List.setIfInBounds_toArray, List.set_cons_zero, List.set_cons_succ]
          refine' wpLast.take_c (i := 1) (v := _) [4] rfl (by kernel_rfl) (fun _ _ _ h => h) (by kernel_rfl) _ _ _ _ (by kernel_rfl) (by kernel_rfl) (by kernel_rfl) (Or.inl ⟨by rfl, ?hy1⟩) hS ?rest1
          case hy1 => (intro w' hSw; obtain ⟨k0, k1, k2, k3, k4, k5⟩ := hSw; go_simp; try with_reducible rfl)
          try simp only [Act.put, List.setIfInBounds_toArray, List.set_cons_zero, List.set_cons_succ]
          refine' wpLast.take_c (i := 2) (v := _) [4, 3] rfl (by kernel_rfl) (fun _ _ _ h => h) (by kernel_rfl) _ _ _ _ (by kernel_rfl) (by kernel_rfl) (by kernel_rfl) (Or.inl ⟨by rfl, ?hy2⟩) hS ?rest2
          case hy2 => (intro w' hSw; obtain ⟨k0, k1, k2, k3, k4, k5⟩ := hSw; go_simp; try with_reducible rfl)
          try simp only [Act.put, List.setIfInBounds_toArray, List.set_cons_zero, List.set_cons_succ]
          refine' wpLast.take_c (i := 3) (v := _) [4] rfl (by kernel_rfl) (fun _ _ _ h => h) (by kernel_rfl) _ _ _ _ (by kernel_rfl) (by kernel_rfl) (by kernel_rfl) (Or.inl ⟨by rfl, ?hy3⟩) hS ?rest3
          case hy3 => (intro w' hSw; obtain ⟨k0, k1, k2, k3, k4, k5⟩ := hSw; go_simp; try with_reducible rfl)
          try simp only [Act.put, List.setIfInBounds_toArray, List.set_cons_zero, List.set_cons_succ]
          refine wpLast.one (i := 4) rfl (by kernel_rfl) ?_
          intro K' hK; have HK' := Lib.hid hK; clear hK
          go_simp
          refine (number_any x S.nx _ (hok x hxm).1 hi.nx0 (by have := hi.nx1; omega)).mono ?_
          rintro e w3 ⟨rfl, hb3⟩
          have hS3 : (fun w' : World => w'.cell? ⟨b5, 0, none⟩ = some (.int .u8 x.kd) ∧ w'.cell? ⟨b5, 1, none⟩ = some (.int .u8 x.tx) ∧ w'.cell? ⟨b5, 2, none⟩ = some (.string x.key) ∧ w'.cell? ⟨b5, 3, none⟩ = some (.string x.val) ∧ w'.cell? ⟨b5, 4, none⟩ = some (.bool x.wr) ∧ w'.cell? ⟨bs, 2, none⟩ = some (.int .i64 S.nx)) w3 := by
            obtain ⟨k0, k1, k2, k3, k4, k5⟩ := hS
            exact ⟨(hb3.cell (World.block_lt_of_cell? _ _ k0)).trans k0, (hb3.cell (World.block_lt_of_cell? _ _ k1)).trans k1, (hb3.cell (World.block_lt_of_cell? _ _ k2)).trans k2, (hb3.cell (World.block_lt_of_cell? _ _ k3)).trans k3, (hb3.cell (World.block_lt_of_cell? _ _ k4)).trans k4, (hb3.cell (World.block_lt_of_cell? _ _ k5)).trans k5⟩
          have HP3 := Lib.hid (HPd.out.of_below hb3)
          clear hb3
          refine HK'.out _ _ ⟨fun _ => hS3, ?_⟩
          clear HK' K' hS hS3
          try simp only [Act.put, List.setIfInBounds_toArray, List.set_cons_zero, List.set_cons_succ]
          refine wpLast.one (i := 5) rfl (by kernel_rfl) ?_
          intro K' hK; have HK' := Lib.hid hK; clear hK
          go_simp
          refine (do_st x (numF x S.nx) (hok x hxm).1 (hok x hxm).2 HP3.out hi (by omega)).mono ?_
          rintro e w4 ⟨rs, rc, rfl, h4⟩
          refine HK'.out _ _ ⟨fun h => absurd rfl h, ?_⟩
          clear HK' K'
          try simp only [Act.put, List.setIfInBounds_toArray, List.set_cons_zero, List.set_cons_succ]
          refine wpLast.done (by kernel_rfl) ?_
          have H4 := Lib.hid (sat_drop2 h4)
          clear h4
          obtain ⟨S2, hS2⟩ : ∃ S2, (doS S x (numF x S.nx)).1 = S2 := ⟨_, rfl⟩
          have hi2 := iv_do HIV.out x (numF x S.nx) (hok x hxm).2
          have hd2 := ids_do HIDS.out HIV.out.nx0 x (numF x S.nx)
          rw [hS2] at H4 hi2 hd2
          have HI2 := Lib.hid hi2
          have HD2 := Lib.hid hd2
          obtain ⟨p, hp⟩ := H4.out
          obtain ⟨-, c1, -⟩ := hp.blk.1.three
          have HPT := Lib.hid hp
          have C1 := Lib.hid c1
          have htl : S2.txs.length ≤ 100 := by have := hi2.tl; omega
          clear hi2 hd2 hi hp HS hS2 d0 d1 d2 d3 d4
          generalize (doS S x (numF x S.nx)).2 = RR
          generalize numF x S.nx = nf
          go_wp2_with fail
          go_loopg [6, 7, 32] S2.txs.length (TnRel S2 w4)
          case atStart => exact ⟨0, 0, 0, rfl, Nat.zero_le _, rfl, rfl, rfl, Nat.le_refl _, by omega, fun _ => ⟨rfl, rfl⟩, fun _ => rfl, Below.refl _ _⟩
          case round =>
            obtain ⟨k, r, wc, hg2, hk, rfl, rfl, rfl, hr, hwc, hh1, hh2, hb5⟩ := hrel
            have Hg2 := Lib.hid hg2
            have HH1 := Lib.hid hh1
            have HH2 := Lib.hid hh2
            have HB5 := Lib.hid hb5
            clear hg2 hh1 hh2 hb5 c1
            by_cases hkn : k < S2.txs.length
            · have HP5 := Lib.hid (HPT.out.of_below HB5.out)
              obtain ⟨-, c1, -⟩ := HP5.out.blk.1.three
              have C5 := Lib.hid c1
              obtain ⟨t, ht⟩ : ∃ t, S2.txs[k] = t := ⟨_, rfl⟩
              obtain ⟨g2, o2, hst, -⟩ := HP5.out.swap.sl.rd.addr (by omega)
              have hyl : k < (yz (.slice p.sc S2.cs.length p.cc) S2.txs).length := by rw [yz_len]; exact hkn
              have hyx := yz_get (.slice p.sc S2.cs.length p.cc) S2.txs k hkn
              obtain ⟨sq, cq, hvq, -⟩ := chs_rc HP5.out k
              rw [hvq, ht] at hyx
              obtain ⟨d0, d1, d2, d3⟩ := y_at (hst ▸ HP5.out.swap.sl.rd) hyl _ hyx
              simp only at d0 d1 d2 d3
              have hfn : fnd t.id S2.txs = some k := by rw [← ht]; exact fnd_self HD2.out k hkn
              have hE : errN (fnd t.id S2.txs) = 0 := by rw [hfn]; rfl
              have hT : turnE t.id S2.txs = turnB S2.txs k := by unfold turnE; rw [hfn]
              have HE := Lib.hid hE
              have HT := Lib.hid hT
              have htw : S2.txs[k].wr = t.wr := by rw [ht]
              have hkI : (k : Int) < (S2.txs.length : Int) := by omega
              have hk0I : (0 : Int) ≤ (k : Int) := by omega
              have HST := Lib.hid hst
              obtain ⟨ok, hok2⟩ : ∃ ok, turnB S2.txs k = ok := ⟨_, rfl⟩
              rw [hok2] at HT
              have hz0 : k = 0 → ok = true := by intro e; subst e; rw [← hok2]; exact turnB_zero hkn
              have hhd : headW S2.txs = true → 0 < k → ok = false := fun a b => by rw [← hok2]; exact turnB_head a b hkn
              have hwr0 : ok = true → t.wr = true → k = 0 := fun a b => turnB_wr hkn (hok2.trans a) (htw.trans b)
              have hw0 : k = 0 → headW S2.txs = t.wr := by intro e; subst e; rw [headW_get hkn]; exact htw
              have HZ0 := Lib.hid hz0
              have HHD := Lib.hid hhd
              have HWR0 := Lib.hid hwr0
              have HW0 := Lib.hid hw0
              rw [HST.out] at c1 ⊢
              have hw1 : IntKind.i64.wrap ((r : Int) + 1) = (r : Int) + 1 := by rw [IntKind.wrap_i64]; omega
              have hw2 : IntKind.i64.wrap ((wc : Int) + 1) = (wc : Int) + 1 := by rw [IntKind.wrap_i64]; omega
              have HBA := Lib.hid (HB5.out.alloc HB5.out.size (.cells #[.int .i64 t.id, .string t.ow, .bool t.wr, .slice sq (chs S2 k).length cq] 36))
              have hra := Lib.hid (fun w3 (hb : Below wr.heap.size wr w3) => ready_e bs t.id (.slice p.sc S2.cs.length p.cc) S2.txs p.st p.ct w3 ((hb.cell (World.block_lt_of_cell? _ _ C5.out)).trans C5.out) (HP5.out.swap.sl.kept (Fr.of_below hb) (fun _ _ q => q)) (by omega))
              clear ht hst hyx hvq hfn hE hT htw hok2 hz0 hhd hwr0 hw0
              cases hwt : t.wr with
              | true =>
                rw [hwt] at d2 HBA HWR0 HW0
                clear hwt
                cases ok with
                | true =>
                  by_cases hk0 : (k : Int) = 0
                  · have hkb : ((k : Int) == 0) = true := by simp [hk0]
                    have HK0 := Lib.hid hk0
                    clear hk0
                    go_wp2_with (go_at_call 26; (with_reducible refine (hra.out _ ((Below.refl _ wr).alloc (Nat.le_refl _) _)).mono ?_); rintro e w6 ⟨rfl, hb6⟩; rw [HT.out, HE.out]; have hbx := (Blk.new wr #[.int .i64 t.id, .string t.ow, .bool true, .slice sq (chs S2 k).length cq] 36).kept (S := fun _ => False) (Fr.of_below hb6) (fun q => q); have b2 := hbx.cell 2; simp at b2; have HB6 := Lib.hid (HBA.out.trans (hb6.mono HBA.out.size)); clear hb6 hbx d0 d1 d2 d3)
                    try rw [← HST.out]
                    go_roundg (S2.txs.length - (k + 1))
                    case measure => have := Hg2.out; omega
                    case rel =>
                      have hk0 : k = 0 := by simpa using HWR0.out
                      subst hk0
                      have hh := HW0.out rfl
                      have h1 := HH1.out hh
                      refine ⟨1, r + 1, wc + 1, rfl, by omega, by simp, by simp, by simp, by omega, by omega, fun _ => ⟨by omega, by omega⟩, fun h => (by rw [hh] at h; cases h), HB6.out⟩
                  · have hkb : ((k : Int) == 0) = false := by simp; omega
                    have HK0 := Lib.hid hk0
                    clear hk0
                    go_wp2_with (go_at_call 26; (with_reducible refine (hra.out _ ((Below.refl _ wr).alloc (Nat.le_refl _) _)).mono ?_); rintro e w6 ⟨rfl, hb6⟩; rw [HT.out, HE.out]; have hbx := (Blk.new wr #[.int .i64 t.id, .string t.ow, .bool true, .slice sq (chs S2 k).length cq] 36).kept (S := fun _ => False) (Fr.of_below hb6) (fun q => q); have b2 := hbx.cell 2; simp at b2; have HB6 := Lib.hid (HBA.out.trans (hb6.mono HBA.out.size)); clear hb6 hbx d0 d1 d2 d3)
                    try rw [← HST.out]
                    go_roundg (S2.txs.length - (k + 1))
                    case measure => have := Hg2.out; omega
                    case rel =>
                      have hk0 : k = 0 := by simpa using HWR0.out
                      subst hk0
                      have hh := HW0.out rfl
                      have h1 := HH1.out hh
                      refine ⟨1, r + 1, wc + 1, rfl, by omega, by simp, by simp, by simp, by omega, by omega, fun _ => ⟨by omega, by omega⟩, fun h => (by rw [hh] at h; cases h), HB6.out⟩
                | false =>
                  have hk0 : (k : Int) ≠ 0 := by
                    intro e
                    have := HZ0.out (by omega)
                    cases this
                  have hkb : ((k : Int) == 0) = false := by simp; omega
                  have HK0 := Lib.hid hk0
                  clear hk0
                  · go_wp2_with (go_at_call 26; (with_reducible refine (hra.out _ ((Below.refl _ wr).alloc (Nat.le_refl _) _)).mono ?_); rintro e w6 ⟨rfl, hb6⟩; rw [HT.out, HE.out]; have hbx := (Blk.new wr #[.int .i64 t.id, .string t.ow, .bool true, .slice sq (chs S2 k).length cq] 36).kept (S := fun _ => False) (Fr.of_below hb6) (fun q => q); have b2 := hbx.cell 2; simp at b2; have HB6 := Lib.hid (HBA.out.trans (hb6.mono HBA.out.size)); clear hb6 hbx d0 d1 d2 d3)
                    try rw [← HST.out]
                    go_roundg (S2.txs.length - (k + 1))
                    case measure => have := Hg2.out; omega
                    case rel =>
                      have hk0 : k ≠ 0 := fun e => by have := HZ0.out e; cases this
                      refine ⟨k + 1, r, wc, rfl, by omega, by simp, rfl, rfl, by omega, by omega, fun h => ?_, HH2.out, HB6.out⟩
                      have := HH1.out h
                      omega
              | false =>
                rw [hwt] at d2 HBA HWR0 HW0
                clear hwt
                cases ok with
                | true =>
                  by_cases hk0 : (k : Int) = 0
                  · have hkb : ((k : Int) == 0) = true := by simp [hk0]
                    have HK0 := Lib.hid hk0
                    clear hk0
                    go_wp2_with (go_at_call 26; (with_reducible refine (hra.out _ ((Below.refl _ wr).alloc (Nat.le_refl _) _)).mono ?_); rintro e w6 ⟨rfl, hb6⟩; rw [HT.out, HE.out]; have hbx := (Blk.new wr #[.int .i64 t.id, .string t.ow, .bool false, .slice sq (chs S2 k).length cq] 36).kept (S := fun _ => False) (Fr.of_below hb6) (fun q => q); have b2 := hbx.cell 2; simp at b2; have HB6 := Lib.hid (HBA.out.trans (hb6.mono HBA.out.size)); clear hb6 hbx d0 d1 d2 d3)
                    try rw [← HST.out]
                    go_roundg (S2.txs.length - (k + 1))
                    case measure => have := Hg2.out; omega
                    case rel =>
                      refine ⟨k + 1, r + 1, wc, rfl, by omega, by simp, by simp, rfl, by omega, by omega, fun h => ?_, HH2.out, HB6.out⟩
                      exfalso
                      by_cases hk0 : k = 0
                      · have := HW0.out hk0
                        rw [h] at this
                        cases this
                      · have := HHD.out h (by omega)
                        cases this
                  · have hkb : ((k : Int) == 0) = false := by simp; omega
                    have HK0 := Lib.hid hk0
                    clear hk0
                    go_wp2_with (go_at_call 26; (with_reducible refine (hra.out _ ((Below.refl _ wr).alloc (Nat.le_refl _) _)).mono ?_); rintro e w6 ⟨rfl, hb6⟩; rw [HT.out, HE.out]; have hbx := (Blk.new wr #[.int .i64 t.id, .string t.ow, .bool false, .slice sq (chs S2 k).length cq] 36).kept (S := fun _ => False) (Fr.of_below hb6) (fun q => q); have b2 := hbx.cell 2; simp at b2; have HB6 := Lib.hid (HBA.out.trans (hb6.mono HBA.out.size)); clear hb6 hbx d0 d1 d2 d3)
                    try rw [← HST.out]
                    go_roundg (S2.txs.length - (k + 1))
                    case measure => have := Hg2.out; omega
                    case rel =>
                      refine ⟨k + 1, r + 1, wc, rfl, by omega, by simp, by simp, rfl, by omega, by omega, fun h => ?_, HH2.out, HB6.out⟩
                      exfalso
                      by_cases hk0 : k = 0
                      · have := HW0.out hk0
                        rw [h] at this
                        cases this
                      · have := HHD.out h (by omega)
                        cases this
                | false =>
                  have hk0 : (k : Int) ≠ 0 := by
                    intro e
                    have := HZ0.out (by omega)
                    cases this
                  have hkb : ((k : Int) == 0) = false := by simp; omega
                  have HK0 := Lib.hid hk0
                  clear hk0
                  · go_wp2_with (go_at_call 26; (with_reducible refine (hra.out _ ((Below.refl _ wr).alloc (Nat.le_refl _) _)).mono ?_); rintro e w6 ⟨rfl, hb6⟩; rw [HT.out, HE.out]; have hbx := (Blk.new wr #[.int .i64 t.id, .string t.ow, .bool false, .slice sq (chs S2 k).length cq] 36).kept (S := fun _ => False) (Fr.of_below hb6) (fun q => q); have b2 := hbx.cell 2; simp at b2; have HB6 := Lib.hid (HBA.out.trans (hb6.mono HBA.out.size)); clear hb6 hbx d0 d1 d2 d3)
                    try rw [← HST.out]
                    go_roundg (S2.txs.length - (k + 1))
                    case measure => have := Hg2.out; omega
                    case rel =>
                      have hk0 : k ≠ 0 := fun e => by have := HZ0.out e; cases this
                      refine ⟨k + 1, r, wc, rfl, by omega, by simp, rfl, rfl, by omega, by omega, fun h => ?_, HH2.out, HB6.out⟩
                      have := HH1.out h
                      omega
            · obtain rfl : k = S2.txs.length := by omega
              have hb6 : Below w0.heap.size w0 wr := HPT.out.bel.trans (HB5.out.mono HPT.out.bel.size)
              have HS6 := Lib.hid (show SAt bs S2 w0 wr [] from ⟨p, HPT.out.of_below HB5.out⟩)
              clear hb6
              have hfin : wc ≤ 1 ∧ (wc = 1 → r ≤ 1) := by
                refine ⟨hwc, fun e => ?_⟩
                cases hh : headW S2.txs with
                | true => have := HH1.out hh; omega
                | false => have := HH2.out hh; omega
              obtain ⟨hf1, hf2⟩ := hfin
              have hfI : (wc : Int) ≤ 1 := by omega
              by_cases hw1 : (wc : Int) = 1
              · have hr1 : (r : Int) ≤ 1 := by have := hf2 (by omega); omega
                have hwb : ((wc : Int) == 1) = true := by simp [hw1]
                clear hw1 hf2
                go_wp2_with fail
                go_roundg (ls.length - (q + 1))
                case measure => have := Hg.out; omega
                case rel => exact ⟨q + 1, S2, rfl, by omega, by simp, HS6.out, HI2.out, HD2.out⟩
              · have hwb : ((wc : Int) == 1) = false := by simp; omega
                clear hw1 hf2
                go_wp2_with fail
                go_roundg (ls.length - (q + 1))
                case measure => have := Hg.out; omega
                case rel => exact ⟨q + 1, S2, rfl, by omega, by simp, HS6.out, HI2.out, HD2.out⟩
      · go_wp2_with fail
        go_ret
        obtain ⟨p, h⟩ := HS.out
        exact ⟨rfl, h.bel⟩
end Go.Proofs.Ytcglnjklnlejmaa
