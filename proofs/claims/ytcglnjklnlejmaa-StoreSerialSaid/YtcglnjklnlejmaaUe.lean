/-
  StoreSerial.
-/
import Derived.Test.YtcglnjklnlejmaaUd
set_option linter.unusedVariables false
set_option linter.unusedSimpArgs false
namespace Go.Proofs.Ytcglnjklnlejmaa
open Go.RowKit Go.K Go.K.Sr

theorem sat_mem {w0 w : World} {L : List As} {b : Nat} {S : SS} {A : As} (h : SAt b S w0 w L) (hm : A ∈ L) : ∃ G, A.holds w G := by
  obtain ⟨p, h⟩ := h
  exact h.mem (.tail _ (.tail _ (.tail _ (.tail _ hm))))
theorem sat_bk {w0 w : World} {L : List As} {b : Nat} {S : SS} {b2 : Nat} {cs : Array Value} {t : TypeId} (h : SAt b S w0 w L) (hm : As.cells b2 cs t ∈ L) : Blk w b2 cs t := by
  obtain ⟨p, h⟩ := h
  exact h.blkm (.tail _ (.tail _ (.tail _ (.tail _ hm))))
theorem sat_swap {w0 w : World} {L : List As} {b : Nat} {S : SS} {A B : As} (h : SAt b S w0 w (A :: B :: L)) : SAt b S w0 w (B :: A :: L) := by
  obtain ⟨p, h⟩ := h
  have h1 := St.sh [_, _, _, _, _, _] [0, 1, 2, 3, 5, 4] (by decide) h
  simp only [List.map_cons, List.map_nil, List.getD_cons_zero, List.getD_cons_succ, List.cons_append, List.nil_append] at h1
  exact ⟨p, h1⟩
theorem sat_store {w0 w : World} {L : List As} {b : Nat} {S : SS} (h : SAt b S w0 w L) : ∃ p : Sp, w.cell? ⟨b, 0, none⟩ = some (.slice p.sp S.pairs.length p.cp) ∧ w.cell? ⟨b, 1, none⟩ = some (.slice p.st S.txs.length p.ct) ∧ w.cell? ⟨b, 2, none⟩ = some (.int .i64 S.nx) := by
  obtain ⟨p, h⟩ := h
  have c := h.blk.1.three
  exact ⟨p, c.1, c.2.1, c.2.2.1⟩
theorem sat_mid {w0 w : World} {b : Nat} {S : SS} {P L : List As} {A : As} (h : SAt b S w0 w (P ++ A :: L)) : SAt b S w0 w (A :: (P ++ L)) := by
  obtain ⟨p, h⟩ := h
  exact ⟨p, h.perm (((((List.perm_middle).cons _).cons _).cons _).cons _)⟩
theorem sat_back {w0 w : World} {b : Nat} {S : SS} {P L : List As} {A : As} (h : SAt b S w0 w (A :: (P ++ L))) : SAt b S w0 w (P ++ A :: L) := by
  obtain ⟨p, h⟩ := h
  exact ⟨p, h.perm (((((List.perm_middle).symm.cons _).cons _).cons _).cons _)⟩
theorem sat_step {w0 w w' : World} {L : List As} {b : Nat} {S : SS} {e : TypeId} {sz : Nat} {s s' : Option Addr} {n c n' c' : Nat} {xs xs' : List Value} (h : SAt b S w0 w (As.row e sz s n c xs :: L)) (h2 : Sl w' e sz s' n' c' xs') (f : Fr (fun k => rowOf s = some k) w w') (hn : NewOr w (rowOf s) (rowOf s')) : SAt b S w0 w' (As.row e sz s' n' c' xs' :: L) := by
  obtain ⟨p, h⟩ := h
  have h1 := St.sh [_, _, _, _, _] [4, 0, 1, 2, 3] (by decide) h
  simp only [List.map_cons, List.map_nil, List.getD_cons_zero, List.getD_cons_succ, List.cons_append, List.nil_append] at h1
  have h3 := St.sh [_, _, _, _, _] [1, 2, 3, 4, 0] (by decide) (h1.row_step h2 f hn)
  simp only [List.map_cons, List.map_nil, List.getD_cons_zero, List.getD_cons_succ, List.cons_append, List.nil_append] at h3
  exact ⟨p, h3⟩
theorem sat_bag1 {w0 w : World} {L : List As} {b : Nat} {S : SS} {bg : List Rx} {R : Rs} {s : Option Addr} {c : Nat} (h : SAt b S w0 w (As.row 9 1 s R.l.length c (strs R.l) :: As.bag bg :: L)) : SAt b S w0 w (As.bag (bg ++ [(R, s, c)]) :: L) := by
  obtain ⟨p, h⟩ := h
  have h1 := St.sh [_, _, _, _, _, _] [4, 5, 0, 1, 2, 3] (by decide) h
  simp only [List.map_cons, List.map_nil, List.getD_cons_zero, List.getD_cons_succ, List.cons_append, List.nil_append] at h1
  have h3 := St.sh [_, _, _, _, _] [1, 2, 3, 4, 0] (by decide) h1.bag1
  simp only [List.map_cons, List.map_nil, List.getD_cons_zero, List.getD_cons_succ, List.cons_append, List.nil_append] at h3
  exact ⟨p, h3⟩
theorem sat_al {w0 w : World} {L : List As} {b : Nat} {S : SS} (h : SAt b S w0 w L) (o : Obj) : SAt b S w0 (w.alloc o) L := h.of_below ((Below.refl _ w).alloc (Nat.le_refl _) o)
theorem sat_sl {w0 w : World} {L : List As} {b : Nat} {S : SS} {e : TypeId} {sz : Nat} {s : Option Addr} {n c : Nat} {xs : List Value} (h : SAt b S w0 w L) (hm : As.row e sz s n c xs ∈ L) : Sl w e sz s n c xs := by
  obtain ⟨p, h⟩ := h
  exact h.slm (.tail _ (.tail _ (.tail _ (.tail _ hm))))
theorem sat_bg {w0 w : World} {L : List As} {b : Nat} {S : SS} {bg : List Rx} (h : SAt b S w0 w L) (hm : As.bag bg ∈ L) : ∀ e ∈ bg, Rd w 1 e.2.1 e.1.l.length (strs e.1.l) := by
  obtain ⟨G, g⟩ := sat_mem h hm
  exact g.2.2
def SerRel (w0 : World) (bs : Nat) (ls : List Op') (g : Nat) (v4 v5 v21 : Value) (wr : World) : Prop :=
  ∃ (q : Nat) (sR : Option Addr) (cR : Nat) (sI : Option Addr) (cI : Nat) (rcs : List Rx), g = ls.length - q ∧ q ≤ ls.length ∧ v21 = .int .i64 q ∧ v4 = .slice sR q cR ∧ v5 = .slice sI q cI ∧ rcs.map (·.1) = rL ls q ∧
    SAt bs (fin (ls.take q)) w0 wr [As.row 49 5 sR q cR (flat rcells rcs), As.row 3 1 sI q cI (idV (idL ls q)), As.bag rcs] ∧ Iv q (fin (ls.take q))
def OuRel (w0 : World) (b2 N : Nat) (ls : List Op') (L : List As) (g : Nat) (v10 : Value) (wr : World) : Prop :=
  ∃ t : Nat, g = N - t ∧ t ≤ N ∧ v10 = .int .i64 ((t : Int) + 1) ∧ SAt b2 (AZ (G ls t) t) w0 wr L ∧ Iv (t * 50) (AZ (G ls t) t)
def InRel (w0 : World) (b2 t : Nat) (ls : List Op') (L : List As) (g : Nat) (v51 : Value) (wr : World) : Prop :=
  ∃ i : Nat, g = ls.length - i ∧ i ≤ ls.length ∧ v51 = .int .i64 i ∧ SAt b2 (X ((t : Int) + 1) (G ls t) (ls.take i)) w0 wr L ∧ Iv (t * 50 + 1 + i) (X ((t : Int) + 1) (G ls t) (ls.take i))
theorem idV_app (a b : List Int) : idV (a ++ b) = idV a ++ idV b := by simp [idV]
theorem rx_at {w : World} {g off n : Nat} {xs : List Rx} (hs : Rd w 5 (some ⟨g, off, none⟩) n (flat rcells xs)) {k : Nat} (hk : k < xs.length) (x : Rx) (hx : xs[k] = x) :
    w.cell? ⟨g, off + k * 5, none⟩ = some (.int .i64 x.1.id) ∧ w.cell? ⟨g, off + k * 5 + 1, none⟩ = some (.string x.1.v) ∧ w.cell? ⟨g, off + k * 5 + 2, none⟩ = some (.bool x.1.ok) ∧ w.cell? ⟨g, off + k * 5 + 3, none⟩ = some (.slice x.2.1 x.1.l.length x.2.2) ∧ w.cell? ⟨g, off + k * 5 + 4, none⟩ = some (.int .i64 x.1.err) := by
  have e := fun j hj => flat_at (f := rcells) (sz := 5) (fun _ => rfl) xs k j hk hj
  rw [hx] at e
  have c := fun j u h => hs.cells _ rfl j u h
  simp only [Addr.add_lit] at c
  have q := fun j hj => c _ _ ((e j hj).trans (List.getElem?_eq_getElem (by show j < 5; exact hj)))
  simp only [← Nat.add_assoc] at q
  exact ⟨by have := q 0 (by omega); rwa [Nat.add_zero] at this, q 1 (by omega), q 2 (by omega), q 3 (by omega), q 4 (by omega)⟩

theorem sat_init {w0 w : World} {L : List As} {b : Nat} {S : SS} {p : Sp} (h : St w0 w (sL b S p L)) : SAt w.heap.size (AZ [] 0) w0 (w.alloc (.cells #[.slice none 0 0, .slice none 0 0, .int .i64 0] 28)) (sL b S p L) := s0_at h
theorem iv_bd {t i n : Nat} (ht : t ≤ 40) (hi : i ≤ n) (hn : n ≤ 40) : t * 50 + 1 + i ≤ 9000 := by omega
theorem k_openz {w0 w : World} {L : List As} {b : Nat} {P : List Pr} {t : Int} (h : SAt b (AZ P t) w0 w L) (h0 : 0 ≤ t) (h1 : t ≤ 1000) :
    Calls Try.prog 12 #[.pointer (some ⟨b, 0, none⟩), .string { data := #[] }, .bool true] w fun e w' => e = .returned (.int .i64 (t + 1)) ∧ SAt b (AO P (t + 1) []) w0 w' L :=
  open_st { data := #[] } true h (by simp [AZ]) h0 (by show t ≤ 1000000; omega) (fun _ => rfl)
theorem k_abortx {w0 w : World} {L : List As} {b : Nat} {t : Int} {P : List Pr} {ls : List Op'} (h : SAt b (X t P ls) w0 w L) (hn : (X t P ls).txs.length ≤ 100000) :
    Calls Try.prog 24 #[.pointer (some ⟨b, 0, none⟩), .int .i64 t] w fun e w' => (∃ v, e = .returned (.int .i64 v)) ∧ SAt b (AZ (X t P ls).pairs t) w0 w' L := by
  refine (abort_e t h hn).mono ?_
  rintro e w' ⟨rfl, h2⟩
  rw [X_abort] at h2
  exact ⟨⟨_, rfl⟩, h2⟩

theorem iv_all (ls : List Op') (h : ∀ y ∈ ls, y.key.size ≤ 100 ∧ y.val.size ≤ 100) : Iv ls.length (fin ls) := by
  induction ls using snoc_ind with
  | h0 => exact iv0
  | h1 l o ih =>
    rw [fin_snoc]
    have := iv_do (ih (fun y hy => h y (by simp [hy]))) o (numF o (fin l).nx) (h o (by simp))
    simpa [stp] using this
theorem do_len (S : SS) (o : Op') (id : Int) : (doS S o id).2.l.length ≤ S.pairs.length + S.cs.length := by
  unfold doS
  split
  · simp
  · split
    · simp
    · split
      · simp
      · split
        · simp
        · split
          · show (keysS S id o.key o.val).1.length ≤ _
            unfold keysS
            split
            · simp
            · rename_i k _
              split
              · simp
              · have h1 := keysL_len (content S.pairs (chs S k)) o.key o.val
                have h2 := content_len (chs S k) S.pairs
                have h3 : (chs S k).length ≤ S.cs.length := by unfold chs; split <;> simp
                show (keysL _ _ _).length ≤ _
                omega
          · split
            · simp
            · split
              · simp
              · split <;> simp

set_option maxRecDepth 100000 in
set_option maxHeartbeats 20000000 in
theorem serial_go (s : Option Addr) (c : Nat) (ls : List Op') (w0 : World) (h : Rd w0 5 s ls.length (flat opc ls)) (hn : (ls.length : Int) ≤ 9223372036854775807) (hall : ∀ o ∈ ls, o.ok) :
    Calls Try.prog 5 #[.slice s ls.length c] w0 fun e w' => e = .returned (.bool true) ∧ Below w0.heap.size w0 w' := by
  have HR := Lib.hid h
  clear h
  obtain ⟨fb, hfb⟩ : ∃ fb, fewB ls = fb := ⟨_, rfl⟩
  have HF := Lib.hid hfb
  clear hfb
  cases fb with
  | false =>
    go_enter Try.func5, Try.ntmps5
    go_wp2_with (first
      | (go_at_call 11; refine (fit_any _).mono ?_; rintro e wa ⟨rfl, hba⟩; have HB1 := Lib.hid hba; clear hba)
      | (go_at_call 18; refine (few_any _ _ _ _ (HR.out.below HB1.out) hn).mono ?_; rintro e wb ⟨rfl, hbb⟩; rw [HF.out]; have HB2 := Lib.hid (HB1.out.trans (hbb.mono HB1.out.size)); clear hbb))
    go_ret
    exact ⟨rfl, HB2.out⟩
  | true =>
    have hlen : ls.length ≤ 40 ∧ ∀ o ∈ ls, okOp o := by
      have := HF.out
      unfold fewB at this
      simp only [Bool.and_eq_true, decide_eq_true_eq, List.all_eq_true] at this
      refine ⟨this.2, fun o ho => ⟨hall o ho, ?_⟩⟩
      have h1 := this.1 o ho
      unfold shortO at h1
      simpa using h1
    obtain ⟨hl40, hok⟩ := hlen
    go_enter Try.func5, Try.ntmps5
    go_upto_region 5 with (first
      | (go_at_call 11; refine (fit_any _).mono ?_; rintro e wa ⟨rfl, hba⟩; have HB1 := Lib.hid hba; clear hba)
      | (go_at_call 18; refine (few_any _ _ _ _ (HR.out.below HB1.out) hn).mono ?_; rintro e wb ⟨rfl, hbb⟩; rw [HF.out]; have HB2 := Lib.hid (HB1.out.trans (hbb.mono HB1.out.size)); clear hbb))
    have H0 := Lib.hid (s0_at (((St.start w0 HB2.out).bag0.row_nil 3 1).row_nil 49 5))
    go_wp2_with fail
    obtain ⟨bs, hbs⟩ : ∃ bs, wb.heap.size = bs := ⟨_, rfl⟩
    rw [hbs] at H0 ⊢
    clear hbs
    go_loopg [4, 5, 21] ls.length (SerRel w0 bs ls)
    case atStart => exact ⟨0, none, 0, none, 0, [], rfl, Nat.zero_le _, rfl, rfl, rfl, rfl, H0.out, iv0⟩
    case round =>
      obtain ⟨q, sR, cR, sI, cI, rcs, hg, hq, rfl, rfl, rfl, hrl, hs, hi⟩ := hrel
      have Hg := Lib.hid hg
      have HS := Lib.hid hs
      have HIV := Lib.hid hi
      have HRL := Lib.hid hrl
      clear hg hs hrl H0
      by_cases hqn : q < ls.length
      · have hrd := HR.out.below (sat_bel HS.out)
        obtain ⟨g, off, rfl, -⟩ := hrd.addr (by omega)
        obtain ⟨x, hx⟩ : ∃ x, ls[q] = x := ⟨_, rfl⟩
        obtain ⟨d0, d1, d2, d3, d4⟩ := o_at hrd hqn x hx
        have hxm : x ∈ ls := by rw [← hx]; exact List.getElem_mem hqn
        have hqI : (q : Int) < (ls.length : Int) := by omega
        have hq0I : (0 : Int) ≤ (q : Int) := by omega
        have HIS := Lib.hid (idL_succ ls q hqn x hx)
        have HRS := Lib.hid (rL_succ ls q hqn x hx)
        have HFT := Lib.hid (fin_take ls q hqn x hx)
        obtain ⟨S, hS⟩ : ∃ S, fin (ls.take q) = S := ⟨_, rfl⟩
        rw [hS] at HIS HRS HFT HS hi HIV
        obtain ⟨id, hid⟩ : ∃ id, numF x S.nx = id := ⟨_, rfl⟩
        obtain ⟨R, hR⟩ : ∃ R, (doS S x id).2 = R := ⟨_, rfl⟩
        have hrsl : rsl S x = R := by unfold rsl; rw [hid]; exact hR
        rw [hid] at HIS HFT
        rw [hrsl] at HRS
        have hi2 := iv_do hi x id (hok x hxm).2
        obtain ⟨S2, hS2⟩ : ∃ S2, (doS S x id).1 = S2 := ⟨_, rfl⟩
        rw [hS2] at HFT hi2
        have HI2 := Lib.hid hi2
        have HID := Lib.hid hid
        have HSR := Lib.hid (show (doS S x id).1 = S2 ∧ (doS S x id).2 = R from ⟨hS2, hR⟩)
        have hrl : rcs.length = q := by have := congrArg List.length HRL.out; simpa [rL] using this
        obtain ⟨il, hil⟩ : ∃ il, idL ls q = il := ⟨_, rfl⟩
        rw [hil] at HIS HS
        clear hx hrd hS hR hrsl hi2 hS2 hil
        go_upto_region 11 with fail
        obtain ⟨W, hW⟩ : ∃ W, wr.alloc (.cells #[.int .u8 x.kd, .int .u8 x.tx, .string x.key, .string x.val, .bool x.wr] 45) = W := ⟨_, rfl⟩
        obtain ⟨b7, hb7⟩ : ∃ b7, wr.heap.size = b7 := ⟨_, rfl⟩
        have h1 := sat_new HS.out #[.int .u8 x.kd, .int .u8 x.tx, .string x.key, .string x.val, .bool x.wr] 45
        rw [hW, hb7] at h1
        try simp only [hW, hb7]
        have H1 := Lib.hid h1
        clear hW hb7 h1 d0 d1 d2 d3 d4
        obtain ⟨o0, o1, o2, o3, o4, -⟩ := blk5 (sat_bk (b2 := b7) H1.out (.head _))
        obtain ⟨pz, z0, z1, z2⟩ := sat_store H1.out
        go_upto_region 12 with (go_at_call 19; refine (number_any x S.nx _ (hok x hxm).1 hi.nx0 (by have := hi.nx1; omega)).mono ?_; rintro e w3 ⟨rfl, hb3⟩; rw [HID.out]; have H3 := Lib.hid (H1.out.of_below hb3); clear hb3 z0 z1 z2; clear o0 o1 o2 o3 o4)
        have H3a := Lib.hid (show SAt bs S w0 _ [As.row 3 1 sI q cI (idV il), As.cells b7 #[.int .u8 x.kd, .int .u8 x.tx, .string x.key, .string x.val, .bool x.wr] 45, As.row 49 5 sR q cR (flat rcells rcs), As.bag rcs] from sat_mid (P := [_, _]) (sat_al H3.out (.cells #[.int .i64 id] 3)))
        have r2i := rd_built_at w3 #[.int .i64 id] 3 1 1 w3.heap.size rfl rfl (by simp [Value.oneCell'])
        clear hid
        go_upto_region 13 with (refine wpList_append_any rfl (.tmp 29) (.tmp 31) 57 rfl elI sI q cI _ rfl (sat_row H3a.out) _ 1 _ _ rfl r2i (by omega) (by omega) ?_; intro s4 c4 w4 p1 p2 p3; have H4 := Lib.hid (sat_step H3a.out p1 p2 p3); clear p1 p2 p3; obtain ⟨o0, o1, o2, o3, o4, -⟩ := blk5 (sat_bk (b2 := b7) H4.out (.tail _ (.head _))))
        have KO := Lib.hid (do_st x id (hok x hxm).1 (hok x hxm).2 H4.out HIV.out (by omega))
        rw [HSR.out.1, HSR.out.2] at KO
        go_wp2_with (first
          | (go_at_call 22; refine (KO.out).mono ?_; rintro e w5 ⟨rs, rc, rfl, h5⟩; clear o0 o1 o2 o3 o4; have H5a := Lib.hid (show SAt bs S2 w0 _ [As.row 49 5 sR q cR (flat rcells rcs), As.row 9 1 rs R.l.length rc (strs R.l), As.row 3 1 s4 (q + 1) c4 (idV il ++ [.int .i64 id]), As.cells b7 #[.int .u8 x.kd, .int .u8 x.tx, .string x.key, .string x.val, .bool x.wr] 45, As.bag rcs] from sat_mid (P := [_, _, _]) (sat_al h5 (.cells #[.int .i64 R.id, .string R.v, .bool R.ok, .slice rs R.l.length rc, .int .i64 R.err] 49))); have r2r := rd_built_at w5 #[.int .i64 R.id, .string R.v, .bool R.ok, .slice rs R.l.length rc, .int .i64 R.err] 49 5 1 w5.heap.size rfl rfl (by simp [Value.oneCell']); clear h5)
          | (refine wpList_append_any rfl (.tmp 33) (.tmp 37) 56 rfl elR sR q cR _ rfl (sat_row H5a.out) _ 1 _ _ rfl r2r (by omega) (by omega) ?_; intro s6 c6 w6 p1 p2 p3; have H6 := Lib.hid (sat_step H5a.out p1 p2 p3); clear p1 p2 p3))
        have h7 := sat_bag1 (sat_swap (show SAt bs S2 w0 w6 [As.bag rcs, As.row 9 1 rs R.l.length rc (strs R.l), As.row 49 5 s6 (q + 1) c6 (flat rcells rcs ++ #[.int .i64 R.id, .string R.v, .bool R.ok, .slice rs R.l.length rc, .int .i64 R.err].toList), As.row 3 1 s4 (q + 1) c4 (idV il ++ [.int .i64 id]), As.cells b7 #[.int .u8 x.kd, .int .u8 x.tx, .string x.key, .string x.val, .bool x.wr] 45] from sat_mid (P := [_, _, _, _]) (sat_mid (P := [_]) H6.out)))
        have h8 := sat_drop (show SAt bs S2 w0 w6 [As.cells b7 #[.int .u8 x.kd, .int .u8 x.tx, .string x.key, .string x.val, .bool x.wr] 45, As.bag (rcs ++ [(R, rs, rc)]), As.row 49 5 s6 (q + 1) c6 (flat rcells rcs ++ #[.int .i64 R.id, .string R.v, .bool R.ok, .slice rs R.l.length rc, .int .i64 R.err].toList), As.row 3 1 s4 (q + 1) c4 (idV il ++ [.int .i64 id])] from sat_mid (P := [_, _, _]) h7)
        have H9 := Lib.hid (show SAt bs S2 w0 w6 [As.row 49 5 s6 (q + 1) c6 (flat rcells rcs ++ #[.int .i64 R.id, .string R.v, .bool R.ok, .slice rs R.l.length rc, .int .i64 R.err].toList), As.row 3 1 s4 (q + 1) c4 (idV il ++ [.int .i64 id]), As.bag (rcs ++ [(R, rs, rc)])] from sat_back (P := [_, _]) h8)
        clear h7 h8
        go_roundg (ls.length - (q + 1))
        case measure => have := Hg.out; omega
        case rel =>
          refine ⟨q + 1, s6, c6, s4, c4, rcs ++ [(R, rs, rc)], rfl, by omega, by simp, rfl, rfl, by rw [HRS.out, ← HRL.out]; simp, ?_, by rw [HFT.out]; exact HI2.out⟩
          rw [HFT.out, HIS.out, idV_app, flat_append]
          have e : flat rcells [(R, rs, rc)] = #[.int .i64 R.id, .string R.v, .bool R.ok, .slice rs R.l.length rc, .int .i64 R.err].toList := by simp [flat, rcells]
          rw [e]
          exact H9.out
      · obtain rfl : q = ls.length := by omega
        rw [List.take_length] at HS HIV
        obtain ⟨S, hS⟩ : ∃ S, fin ls = S := ⟨_, rfl⟩
        have HSF := Lib.hid hS
        rw [hS] at HS HIV
        clear hS hi
        obtain ⟨p, hp⟩ := HS.out
        have H1 := Lib.hid (sat_init hp)
        have hrl : rcs.length = ls.length := by have := congrArg List.length HRL.out; simpa [rL] using this
        obtain ⟨N, hN⟩ : ∃ N : Nat, (N : Int) = S.nx := ⟨S.nx.toNat, by have := HIV.out.nx0; omega⟩
        have hN40 : N ≤ 40 := by have := HIV.out.nx1; omega
        have HN := Lib.hid hN
        clear hp hN
        go_wp2_with fail
        obtain ⟨b2, hb2⟩ : ∃ b2, wr.heap.size = b2 := ⟨_, rfl⟩
        rw [hb2] at H1 ⊢
        clear hb2
        go_loopg [10] N (OuRel w0 b2 N ls (sL bs S p [As.row 49 5 sR ls.length cR (flat rcells rcs), As.row 3 1 sI ls.length cI (idV (idL ls ls.length)), As.bag rcs]))
        case atStart => exact ⟨0, rfl, Nat.zero_le _, rfl, H1.out, iv0⟩
        case round =>
          obtain ⟨t, hg2, ht, rfl, ha, hia⟩ := hrel
          have Hg2 := Lib.hid hg2
          have HA := Lib.hid ha
          have HIA := Lib.hid hia
          clear hg2 ha hia H1
          obtain ⟨pz, z0, z1, z2⟩ := sat_store (sat_flip HA.out).1
          rw [← HN.out] at z2
          by_cases htn : t < N
          · have htI : (t : Int) + 1 ≤ (N : Int) := by omega
            have ht40 : t ≤ 40 := by omega
            have hwt : IntKind.i64.wrap ((t : Int) + 1 + 1) = (t : Int) + 1 + 1 := by rw [IntKind.wrap_i64]; omega
            have KZ := Lib.hid (k_openz HA.out (by omega) (by omega))
            have hio := iv_open HIA.out { data := #[] } true
            rw [az_open] at hio
            have HIO := Lib.hid hio
            clear hio
            go_upto_region 21 with (go_at_call 12; refine (KZ.out).mono ?_; rintro e w3 ⟨rfl, h3⟩; have H3 := Lib.hid h3; clear h3 z0 z1 z2)
            go_wp2_with fail
            go_loopg [51] ls.length (InRel w0 b2 t ls (sL bs S p [As.row 49 5 sR ls.length cR (flat rcells rcs), As.row 3 1 sI ls.length cI (idV (idL ls ls.length)), As.bag rcs]))
            case atStart => exact ⟨0, rfl, Nat.zero_le _, rfl, H3.out, HIO.out⟩
            case round =>
              obtain ⟨i, hg3, hi2, rfl, hx3, hix⟩ := hrel
              have Hg3 := Lib.hid hg3
              have HX3 := Lib.hid hx3
              have HIX := Lib.hid hix
              clear hg3 hx3 hix H3
              by_cases hin : i < ls.length
              · obtain ⟨x, hx⟩ : ∃ x, ls[i] = x := ⟨_, rfl⟩
                have hrd := HR.out.below (sat_bel HX3.out)
                obtain ⟨g, off, rfl, -⟩ := hrd.addr (by omega)
                obtain ⟨d0, d1, d2, d3, d4⟩ := o_at hrd hin x hx
                have hxm : x ∈ ls := by rw [← hx]; exact List.getElem_mem hin
                have hiI : (i : Int) < (ls.length : Int) := by omega
                have hi0I : (0 : Int) ≤ (i : Int) := by omega
                have HX := Lib.hid hx
                have HXT := Lib.hid (X_take (t := (t : Int) + 1) (P := G ls t) hin x hx)
                have hig := idL_get ls ls.length i hin (Nat.le_refl _) x hx
                have hrg := rL_get ls ls.length i hin (Nat.le_refl _) x hx
                obtain ⟨S3, hS3⟩ : ∃ S3, fin (ls.take i) = S3 := ⟨_, rfl⟩
                have HSF3 := Lib.hid hS3
                rw [hS3] at hig hrg HXT
                obtain ⟨id, hid⟩ : ∃ id, numF x S3.nx = id := ⟨_, rfl⟩
                have HIDN := Lib.hid hid
                have hir : i < rcs.length := by omega
                obtain ⟨⟨R, rs, rc⟩, hrx⟩ : ∃ y, rcs[i] = y := ⟨_, rfl⟩
                have hrm : (R, rs, rc) ∈ rcs := by rw [← hrx]; exact List.getElem_mem hir
                have hRe : rsl S3 x = R := by
                  have h1 : (rcs.map (·.1))[i]? = some R := by rw [List.getElem?_map, List.getElem?_eq_getElem hir, hrx]; rfl
                  rw [HRL.out, hrg] at h1
                  exact Option.some.inj h1
                have HRS := Lib.hid hRe
                rw [hid, hRe] at HXT
                rw [hid] at hig
                have hRl : R.l.length ≤ 100000 := by
                  have h1 := do_len S3 x (numF x S3.nx)
                  have h2 : (doS S3 x (numF x S3.nx)).2 = R := hRe
                  rw [h2] at h1
                  have h3 := iv_all (ls.take i) (fun y hy => (hok y (List.mem_of_mem_take hy)).2)
                  rw [hS3] at h3
                  have h4 := h3.ln
                  have h5 : (ls.take i).length ≤ ls.length := by rw [List.length_take]; omega
                  omega
                obtain ⟨K, hK⟩ : ∃ K, x.kd.tmod 9 = K := ⟨_, rfl⟩
                have hK2 : x.kd % 9 = K := by rw [← hK, Int.tmod_eq_emod_of_nonneg (hall x hxm).1]
                have hw1 : IntKind.i64.wrap x.kd = x.kd := by have := hall x hxm; rw [IntKind.wrap_i64]; obtain ⟨y1, y2, -⟩ := this; omega
                clear hx hrd hS3 hid hRe hrg
                go_upto_region 24 with fail
                obtain ⟨W, hW⟩ : ∃ W, wr.alloc (.cells #[.int .u8 x.kd, .int .u8 x.tx, .string x.key, .string x.val, .bool x.wr] 45) = W := ⟨_, rfl⟩
                obtain ⟨b12, hb12⟩ : ∃ b12, wr.heap.size = b12 := ⟨_, rfl⟩
                have h1 := sat_new HX3.out #[.int .u8 x.kd, .int .u8 x.tx, .string x.key, .string x.val, .bool x.wr] 45
                rw [hW, hb12] at h1
                try simp only [hW, hb12]
                have H1 := Lib.hid h1
                clear hW hb12 h1 d0 d1 d2 d3 d4
                have hslR := sat_sl (e := 49) (sz := 5) (s := sR) (n := ls.length) (c := cR) (xs := flat rcells rcs) H1.out (.tail _ (sL_mem (.head _)))
                have hslI := sat_sl (e := 3) (sz := 1) (s := sI) (n := ls.length) (c := cI) (xs := idV (idL ls ls.length)) H1.out (.tail _ (sL_mem (.tail _ (.head _))))
                obtain ⟨gR, oR, hsR, -⟩ := hslR.rd.addr (by omega)
                obtain ⟨gI, oI, hsI, hwI⟩ := hslI.rd.addr (by omega)
                subst hsR hsI
                have e0 := hwI i _ hig
                obtain ⟨r0, r1, r2, r3, r4⟩ := rx_at hslR.rd hir (R, rs, rc) hrx
                simp only at r0 r1 r2 r3 r4
                obtain ⟨o0, o1, o2, o3, o4, -⟩ := blk5 (sat_bk (b2 := b12) H1.out (.head _))
                obtain ⟨u1, hu1⟩ : ∃ u, (id == (t : Int) + 1) = u := ⟨_, rfl⟩
                obtain ⟨u2, hu2⟩ : ∃ u, (R.err == 0) = u := ⟨_, rfl⟩
                obtain ⟨u3, hu3⟩ : ∃ u, (K == 0) = u := ⟨_, rfl⟩
                obtain ⟨u4, hu4⟩ : ∃ u, (K == 8) = u := ⟨_, rfl⟩
                obtain ⟨u5, hu5⟩ : ∃ u, (K == 7) = u := ⟨_, rfl⟩
                have hkk : cnd x R = (u2 && (!u3 && !u4 && !u5)) := by
                  unfold cnd
                  rw [hK2, ← hu2, ← hu3, ← hu4, ← hu5]
                  rfl
                have HU1 := Lib.hid (show decide (id = (t : Int) + 1) = u1 by rw [← hu1]; rfl)
                have HKK := Lib.hid hkk
                clear hslR hslI hwI hig hkk
                rcases (show u1 = false ∨ (u1 = true ∧ u2 = false) ∨ (u1 = true ∧ u2 = true ∧ u3 = true) ∨ (u1 = true ∧ u2 = true ∧ u3 = false ∧ u4 = true) ∨ (u1 = true ∧ u2 = true ∧ u3 = false ∧ u4 = false ∧ u5 = true) ∨ (u1 = true ∧ u2 = true ∧ u3 = false ∧ u4 = false ∧ u5 = false) by cases u1 <;> cases u2 <;> cases u3 <;> cases u4 <;> cases u5 <;> decide) with rfl | ⟨rfl, rfl⟩ | ⟨rfl, rfl, rfl⟩ | ⟨rfl, rfl, rfl, rfl⟩ | ⟨rfl, rfl, rfl, rfl, rfl⟩ | ⟨rfl, rfl, rfl, rfl, rfl⟩
                · have HNC := Lib.hid (show ¬ (decide (id = (t : Int) + 1) && cnd x R) = true by rw [HU1.out, HKK.out]; simp)
                  have hp1 : ¬ id = (t : Int) + 1 := by simpa using hu1
                  go_wp2_with fail
                  go_roundg (ls.length - (i + 1))
                  case measure => have := Hg3.out; omega
                  case rel =>
                    refine ⟨i + 1, rfl, by omega, by simp, ?_, ?_⟩
                    · rw [HXT.out, if_neg (HNC.out)]
                      exact sat_drop H1.out
                    · rw [HXT.out, if_neg (HNC.out)]
                      exact (HIX.out).mono (by omega)
                · have HNC := Lib.hid (show ¬ (decide (id = (t : Int) + 1) && cnd x R) = true by rw [HU1.out, HKK.out]; simp)
                  have hp1 : id = (t : Int) + 1 := by simpa using hu1
                  have hp2 : ¬ R.err = 0 := by simpa using hu2
                  go_wp2_with fail
                  go_roundg (ls.length - (i + 1))
                  case measure => have := Hg3.out; omega
                  case rel =>
                    refine ⟨i + 1, rfl, by omega, by simp, ?_, ?_⟩
                    · rw [HXT.out, if_neg (HNC.out)]
                      exact sat_drop H1.out
                    · rw [HXT.out, if_neg (HNC.out)]
                      exact (HIX.out).mono (by omega)
                · have HNC := Lib.hid (show ¬ (decide (id = (t : Int) + 1) && cnd x R) = true by rw [HU1.out, HKK.out]; simp)
                  have hp1 : id = (t : Int) + 1 := by simpa using hu1
                  have hp2 : R.err = 0 := by simpa using hu2
                  have hp3 : K = 0 := by simpa using hu3
                  go_wp2_with fail
                  go_roundg (ls.length - (i + 1))
                  case measure => have := Hg3.out; omega
                  case rel =>
                    refine ⟨i + 1, rfl, by omega, by simp, ?_, ?_⟩
                    · rw [HXT.out, if_neg (HNC.out)]
                      exact sat_drop H1.out
                    · rw [HXT.out, if_neg (HNC.out)]
                      exact (HIX.out).mono (by omega)
                · have HNC := Lib.hid (show ¬ (decide (id = (t : Int) + 1) && cnd x R) = true by rw [HU1.out, HKK.out]; simp)
                  have hp1 : id = (t : Int) + 1 := by simpa using hu1
                  have hp2 : R.err = 0 := by simpa using hu2
                  have hp3 : ¬ K = 0 := by simpa using hu3
                  have hp4 : K = 8 := by simpa using hu4
                  go_wp2_with fail
                  go_roundg (ls.length - (i + 1))
                  case measure => have := Hg3.out; omega
                  case rel =>
                    refine ⟨i + 1, rfl, by omega, by simp, ?_, ?_⟩
                    · rw [HXT.out, if_neg (HNC.out)]
                      exact sat_drop H1.out
                    · rw [HXT.out, if_neg (HNC.out)]
                      exact (HIX.out).mono (by omega)
                · have HNC := Lib.hid (show ¬ (decide (id = (t : Int) + 1) && cnd x R) = true by rw [HU1.out, HKK.out]; simp)
                  have hp1 : id = (t : Int) + 1 := by simpa using hu1
                  have hp2 : R.err = 0 := by simpa using hu2
                  have hp3 : ¬ K = 0 := by simpa using hu3
                  have hp4 : ¬ K = 8 := by simpa using hu4
                  have hp5 : K = 7 := by simpa using hu5
                  go_wp2_with fail
                  go_roundg (ls.length - (i + 1))
                  case measure => have := Hg3.out; omega
                  case rel =>
                    refine ⟨i + 1, rfl, by omega, by simp, ?_, ?_⟩
                    · rw [HXT.out, if_neg (HNC.out)]
                      exact sat_drop H1.out
                    · rw [HXT.out, if_neg (HNC.out)]
                      exact (HIX.out).mono (by omega)
                · skip
                  have hp1 : id = (t : Int) + 1 := by simpa using hu1
                  have hp2 : R.err = 0 := by simpa using hu2
                  have hp3 : ¬ K = 0 := by simpa using hu3
                  have hp4 : ¬ K = 8 := by simpa using hu4
                  have hp5 : ¬ K = 7 := by simpa using hu5
                  have hcn : cnd x R = true := cnd_iff.2 ⟨hp2, by rw [hK2]; exact hp3, by rw [hK2]; exact hp4, by rw [hK2]; exact hp5⟩
                  have hid' : id = (t : Int) + 1 := hp1
                  have hser := ser_at ls (fun y hy => (hall y hy).1) hin x HX.out (by rw [HSF3.out, HRS.out]; exact hcn) t (by rw [HSF3.out, HIDN.out]; exact hid')
                  rw [HSF3.out, HRS.out] at hser
                  have HSER := Lib.hid hser
                  have HEX := Lib.hid (show (decide (id = (t : Int) + 1) && cnd x R) = true by rw [hcn]; simp [hid'])
                  clear hcn hser hid'
                  go_upto_region 26 with fail
                  clear hp1 hp2 hp3 hp4 hp5 hu1 hu2 hu3 hu4 hu5
                  obtain ⟨wd, hwd⟩ : ∃ wd, W.drew = wd := ⟨_, rfl⟩
                  have hd : SAt b2 (X ((t : Int) + 1) (G ls t) (ls.take i)) w0 wd (As.cells b12 #[.int .u8 x.kd, .int .u8 x.tx, .string x.key, .string x.val, .bool x.wr] 45 :: (sL bs S p [As.row 49 5 (some ⟨gR, oR, none⟩) ls.length cR (flat rcells rcs), As.row 3 1 (some ⟨gI, oI, none⟩) ls.length cI (idV (idL ls ls.length)), As.bag rcs])) := by
                    rw [← hwd]
                    obtain ⟨pp, hh⟩ := H1.out
                    exact ⟨pp, hh.drew⟩
                  have HD := Lib.hid hd
                  have KO := Lib.hid (do_st x ((t : Int) + 1) (hok x hxm).1 (hok x hxm).2 hd HIX.out (iv_bd ht40 hi2 hl40))
                  rw [HSER.out] at KO
                  have hS : (fun w' : World => (w'.cell? ⟨b12, 0, none⟩ = some (.int .u8 x.kd) ∧ w'.cell? ⟨b12, 1, none⟩ = some (.int .u8 x.tx) ∧ w'.cell? ⟨b12, 2, none⟩ = some (.string x.key) ∧ w'.cell? ⟨b12, 3, none⟩ = some (.string x.val) ∧ w'.cell? ⟨b12, 4, none⟩ = some (.bool x.wr)) ∧ (w'.cell? ⟨gR, oR + i * 5, none⟩ = some (.int .i64 R.id) ∧ w'.cell? ⟨gR, oR + i * 5 + 1, none⟩ = some (.string R.v) ∧ w'.cell? ⟨gR, oR + i * 5 + 2, none⟩ = some (.bool R.ok) ∧ w'.cell? ⟨gR, oR + i * 5 + 3, none⟩ = some (.slice rs R.l.length rc) ∧ w'.cell? ⟨gR, oR + i * 5 + 4, none⟩ = some (.int .i64 R.err))) wd := by
                    obtain ⟨o0, o1, o2, o3, o4, -⟩ := blk5 (sat_bk (b2 := b12) HD.out (.head _))
                    obtain ⟨r0, r1, r2, r3, r4⟩ := rx_at (sat_sl (e := 49) (sz := 5) (s := some ⟨gR, oR, none⟩) (n := ls.length) (c := cR) (xs := flat rcells rcs) HD.out (.tail _ (sL_mem (.head _)))).rd hir (R, rs, rc) hrx
                    exact ⟨⟨o0, o1, o2, o3, o4⟩, ⟨r0, r1, r2, r3, r4⟩⟩
                  clear hd o0 o1 o2 o3 o4 r0 r1 r2 r3 r4 e0
                  refine wpLast.region (S := (fun w' : World => (w'.cell? ⟨b12, 0, none⟩ = some (.int .u8 x.kd) ∧ w'.cell? ⟨b12, 1, none⟩ = some (.int .u8 x.tx) ∧ w'.cell? ⟨b12, 2, none⟩ = some (.string x.key) ∧ w'.cell? ⟨b12, 3, none⟩ = some (.string x.val) ∧ w'.cell? ⟨b12, 4, none⟩ = some (.bool x.wr)) ∧ (w'.cell? ⟨gR, oR + i * 5, none⟩ = some (.int .i64 R.id) ∧ w'.cell? ⟨gR, oR + i * 5 + 1, none⟩ = some (.string R.v) ∧ w'.cell? ⟨gR, oR + i * 5 + 2, none⟩ = some (.bool R.ok) ∧ w'.cell? ⟨gR, oR + i * 5 + 3, none⟩ = some (.slice rs R.l.length rc) ∧ w'.cell? ⟨gR, oR + i * 5 + 4, none⟩ = some (.int .i64 R.err)))) (c := 8) (by kernel_rfl) ?_
                  rw [hwd]
                  clear hwd
                  refine' wpLast.take_c (i := 0) (v := _) [7, 2] rfl (by kernel_rfl) (fun _ _ _ h => h) (by kernel_rfl) _ _ _ _ (by kernel_rfl) (by kernel_rfl) (by kernel_rfl) (Or.inl ⟨by rfl, ?hy0⟩) hS ?rest0
                  case hy0 => (intro w' hSw; obtain ⟨⟨k0, k1, k2, k3, k4⟩, ⟨k5, k6, k7, k8, k9⟩⟩ := hSw; go_simp; try with_reducible rfl)
                  try simp only [Act.put, List.setIfInBounds_toArray, List.set_cons_zero, List.set_cons_succ]
                  refine' wpLast.take_c (i := 1) (v := _) [7, 2] rfl (by kernel_rfl) (fun _ _ _ h => h) (by kernel_rfl) _ _ _ _ (by kernel_rfl) (by kernel_rfl) (by kernel_rfl) (Or.inl ⟨by rfl, ?hy1⟩) hS ?rest1
                  case hy1 => (intro w' hSw; obtain ⟨⟨k0, k1, k2, k3, k4⟩, ⟨k5, k6, k7, k8, k9⟩⟩ := hSw; go_simp; try with_reducible rfl)
                  try simp only [Act.put, List.setIfInBounds_toArray, List.set_cons_zero, List.set_cons_succ]
                  refine' wpLast.take_c (i := 3) (v := _) [7, 6, 5] rfl (by kernel_rfl) (fun _ _ _ h => h) (by kernel_rfl) _ _ _ _ (by kernel_rfl) (by kernel_rfl) (by kernel_rfl) (Or.inl ⟨by rfl, ?hy3⟩) hS ?rest3
                  case hy3 => (intro w' hSw; obtain ⟨⟨k0, k1, k2, k3, k4⟩, ⟨k5, k6, k7, k8, k9⟩⟩ := hSw; go_simp; try with_reducible rfl)
                  try simp only [Act.put, List.setIfInBounds_toArray, List.set_cons_zero, List.set_cons_succ]
                  refine' wpLast.take_c (i := 4) (v := _) [7, 6, 5] rfl (by kernel_rfl) (fun _ _ _ h => h) (by kernel_rfl) _ _ _ _ (by kernel_rfl) (by kernel_rfl) (by kernel_rfl) (Or.inl ⟨by rfl, ?hy4⟩) hS ?rest4
                  case hy4 => (intro w' hSw; obtain ⟨⟨k0, k1, k2, k3, k4⟩, ⟨k5, k6, k7, k8, k9⟩⟩ := hSw; go_simp; try with_reducible rfl)
                  try simp only [Act.put, List.setIfInBounds_toArray, List.set_cons_zero, List.set_cons_succ]
                  refine' wpLast.take_c (i := 5) (v := _) [7, 6] rfl (by kernel_rfl) (fun _ _ _ h => h) (by kernel_rfl) _ _ _ _ (by kernel_rfl) (by kernel_rfl) (by kernel_rfl) (Or.inl ⟨by rfl, ?hy5⟩) hS ?rest5
                  case hy5 => (intro w' hSw; obtain ⟨⟨k0, k1, k2, k3, k4⟩, ⟨k5, k6, k7, k8, k9⟩⟩ := hSw; go_simp; try with_reducible rfl)
                  try simp only [Act.put, List.setIfInBounds_toArray, List.set_cons_zero, List.set_cons_succ]
                  refine' wpLast.take_c (i := 6) (v := _) [7] rfl (by kernel_rfl) (fun _ _ _ h => h) (by kernel_rfl) _ _ _ _ (by kernel_rfl) (by kernel_rfl) (by kernel_rfl) (Or.inl ⟨by rfl, ?hy6⟩) hS ?rest6
                  case hy6 => (intro w' hSw; obtain ⟨⟨k0, k1, k2, k3, k4⟩, ⟨k5, k6, k7, k8, k9⟩⟩ := hSw; go_simp; try with_reducible rfl)
                  try simp only [Act.put, List.setIfInBounds_toArray, List.set_cons_zero, List.set_cons_succ]
                  refine wpLast.one (i := 2) rfl (by kernel_rfl) ?_
                  intro K' hK; have HK' := Lib.hid hK; clear hK
                  go_simp
                  refine (KO.out).mono ?_
                  rintro e w6 ⟨s9, c9, rfl, h6⟩
                  have H6 := Lib.hid h6
                  clear h6 hS
                  have hS : (fun w' : World => (w'.cell? ⟨b12, 0, none⟩ = some (.int .u8 x.kd) ∧ w'.cell? ⟨b12, 1, none⟩ = some (.int .u8 x.tx) ∧ w'.cell? ⟨b12, 2, none⟩ = some (.string x.key) ∧ w'.cell? ⟨b12, 3, none⟩ = some (.string x.val) ∧ w'.cell? ⟨b12, 4, none⟩ = some (.bool x.wr)) ∧ (w'.cell? ⟨gR, oR + i * 5, none⟩ = some (.int .i64 R.id) ∧ w'.cell? ⟨gR, oR + i * 5 + 1, none⟩ = some (.string R.v) ∧ w'.cell? ⟨gR, oR + i * 5 + 2, none⟩ = some (.bool R.ok) ∧ w'.cell? ⟨gR, oR + i * 5 + 3, none⟩ = some (.slice rs R.l.length rc) ∧ w'.cell? ⟨gR, oR + i * 5 + 4, none⟩ = some (.int .i64 R.err))) w6 := by
                    obtain ⟨o0, o1, o2, o3, o4, -⟩ := blk5 (sat_bk (b2 := b12) H6.out (.tail _ (.head _)))
                    obtain ⟨r0, r1, r2, r3, r4⟩ := rx_at (sat_sl (e := 49) (sz := 5) (s := some ⟨gR, oR, none⟩) (n := ls.length) (c := cR) (xs := flat rcells rcs) H6.out (.tail _ (.tail _ (sL_mem (.head _))))).rd hir (R, rs, rc) hrx
                    exact ⟨⟨o0, o1, o2, o3, o4⟩, ⟨r0, r1, r2, r3, r4⟩⟩
                  refine HK'.out _ _ ⟨fun _ => hS, ?_⟩
                  clear HK' K'
                  try simp only [Act.put, List.setIfInBounds_toArray, List.set_cons_zero, List.set_cons_succ]
                  have KM := Lib.hid (sameR_any R.id R.err R.v R.ok R.l w6 (c1 := c9) (c2 := rc) (sat_row H6.out).rd (sat_bg H6.out (bg := rcs) (.tail _ (.tail _ (sL_mem (.tail _ (.tail _ (.head _)))))) (R, rs, rc) hrm) hRl)
                  refine wpLast.one (i := 7) rfl (by kernel_rfl) ?_
                  intro K' hK; have HK' := Lib.hid hK; clear hK
                  go_simp
                  refine (KM.out).mono ?_
                  rintro e w7 ⟨rfl, h7⟩
                  have H7 := Lib.hid (sat_drop (sat_drop (H6.out.of_below h7)))
                  have H7b := Lib.hid (sat_drop (H6.out.of_below h7))
                  clear h7 hS
                  have hS : (fun w' : World => (w'.cell? ⟨b12, 0, none⟩ = some (.int .u8 x.kd) ∧ w'.cell? ⟨b12, 1, none⟩ = some (.int .u8 x.tx) ∧ w'.cell? ⟨b12, 2, none⟩ = some (.string x.key) ∧ w'.cell? ⟨b12, 3, none⟩ = some (.string x.val) ∧ w'.cell? ⟨b12, 4, none⟩ = some (.bool x.wr)) ∧ (w'.cell? ⟨gR, oR + i * 5, none⟩ = some (.int .i64 R.id) ∧ w'.cell? ⟨gR, oR + i * 5 + 1, none⟩ = some (.string R.v) ∧ w'.cell? ⟨gR, oR + i * 5 + 2, none⟩ = some (.bool R.ok) ∧ w'.cell? ⟨gR, oR + i * 5 + 3, none⟩ = some (.slice rs R.l.length rc) ∧ w'.cell? ⟨gR, oR + i * 5 + 4, none⟩ = some (.int .i64 R.err))) w7 := by
                    obtain ⟨o0, o1, o2, o3, o4, -⟩ := blk5 (sat_bk (b2 := b12) H7b.out (.head _))
                    obtain ⟨r0, r1, r2, r3, r4⟩ := rx_at (sat_sl (e := 49) (sz := 5) (s := some ⟨gR, oR, none⟩) (n := ls.length) (c := cR) (xs := flat rcells rcs) H7b.out (.tail _ (sL_mem (.head _)))).rd hir (R, rs, rc) hrx
                    exact ⟨⟨o0, o1, o2, o3, o4⟩, ⟨r0, r1, r2, r3, r4⟩⟩
                  refine HK'.out _ _ ⟨fun _ => hS, ?_⟩
                  clear HK' K'
                  try simp only [Act.put, List.setIfInBounds_toArray, List.set_cons_zero, List.set_cons_succ]
                  refine wpLast.one (i := 8) rfl (by kernel_rfl) ?_
                  intro K' hK; have HK' := Lib.hid hK; clear hK
                  go_simp
                  refine HK'.out _ _ ⟨fun h => absurd rfl h, ?_⟩
                  clear HK' K' hS
                  try simp only [Act.put, List.setIfInBounds_toArray, List.set_cons_zero, List.set_cons_succ]
                  refine wpLast.done (by kernel_rfl) ?_
                  go_wp2_with fail
                  go_roundg (ls.length - (i + 1))
                  case measure => have := Hg3.out; omega
                  case rel =>
                    refine ⟨i + 1, rfl, by omega, by simp, ?_, ?_⟩
                    · rw [HXT.out, if_pos (HEX.out)]
                      exact H7.out
                    · rw [HXT.out, if_pos (HEX.out)]
                      exact (iv_do HIX.out x _ (hok x hxm).2).mono (by omega)
              · obtain rfl : i = ls.length := by omega
                rw [List.take_length] at HX3 HIX
                have KA := Lib.hid (k_abortx HX3.out (by have := HIX.out.tl; omega))
                have hiz := iv_az HIX.out (X_nx ((t : Int) + 1) (G ls t) ls).symm
                have HIZ := Lib.hid hiz
                clear hiz
                go_wp2_with (go_at_call 24; refine (KA.out).mono ?_; rintro e w5 ⟨⟨v5, rfl⟩, h5⟩; have H5 := Lib.hid h5; clear h5)
                go_roundg (N - (t + 1))
                case measure => have := Hg2.out; omega
                case rel =>
                  have e : ((t + 1 : Nat) : Int) = (t : Int) + 1 := by omega
                  refine ⟨t + 1, rfl, by omega, by rw [e], ?_, ?_⟩
                  · rw [e]; exact H5.out
                  · rw [e]; exact HIZ.out.mono (by omega)
          · obtain rfl : t = N := by omega
            have htI : ¬ ((t : Int) + 1 ≤ (t : Int)) := by omega
            have hsp := ser_pairs ls (fun y hy => (hall y hy).1)
            rw [HSF.out, ← HN.out, Int.toNat_natCast] at hsp
            obtain ⟨sp1, cp1, c1, hr1⟩ := sat_pairs HA.out
            obtain ⟨sp2, cp2, c2, hr2⟩ := sat_pairs (sat_flip HA.out).1
            have e1 : (AZ (G ls t) (t : Int)).pairs = S.pairs := hsp
            rw [e1] at c1 hr1
            have hpl : S.pairs.length ≤ 100 := by have := HIV.out.ln; omega
            have KS := Lib.hid (same_any ⟨S.pairs, [], [], 0⟩ _ _ wr (re_pairs cp1 hr1) (re_pairs cp2 hr2) (by show S.pairs.length ≤ 100000; omega) (by simp) (by simp))
            clear hr1 hr2 z0 z1 hsp e1
            go_wp2_with (go_at_call 23; refine (KS.out).mono ?_; rintro e w8 ⟨rfl, h8⟩; have H8 := Lib.hid (sat_bel (HA.out.of_below h8)); clear h8)
            go_ret
            exact ⟨rfl, H8.out⟩

end Go.Proofs.Ytcglnjklnlejmaa
