/-
  StoreRuns.
-/
import Derived.Test.YtcglnjklnlejmaaTl
import Derived.Test.YtcglnjklnlejmaaSy
import Derived.Test.YtcglnjklnlejmaaSu
import Derived.Test.YtcglnjklnlejmaaKu
set_option linter.unusedVariables false
set_option linter.unusedSimpArgs false
namespace Go.Proofs.Ytcglnjklnlejmaa
open Go.RowKit Go.K Go.K.Sr

theorem rd_keep {w w' : World} {sz : Nat} {s : Option Addr} {n : Nat} {xs : List Value} (h : Rd w sz s n xs) (hk : ∀ k, rowOf s = some k → w'.heap[k]? = w.heap[k]?) : Rd w' sz s n xs := by
  refine ⟨h.len, h.one, h.nil, fun ad he j u hu => ?_⟩
  have hb : (ad.add j).block = ad.block := by unfold Addr.add; split <;> rfl
  exact (World.cell?_of_block (by rw [hb]; exact hk _ (by rw [he]; rfl))).trans (h.cells ad he j u hu)
/-- the reference's store and a list, in rows that may be one -/
def As.re (S : SS) (p : Sp) (s : Option Addr) (l : List ByteArray) : As where
  holds w F := (∀ k, F k ↔ (rowOf p.sp = some k ∨ rowOf p.st = some k ∨ rowOf p.sc = some k) ∨ rowOf s = some k) ∧ (∀ k, F k → k < w.heap.size) ∧ (Rw w S p ∧ Rd w 1 s l.length (strs l))
  keep {w w' F} h hk := by
    obtain ⟨h1, h2, h3, h4⟩ := h
    have hlt : ∀ k, F k → k < w'.heap.size := by
      intro k q
      have e := hk k q
      rw [Array.getElem?_eq_getElem (h2 k q)] at e
      exact (Array.getElem?_eq_some_iff.1 e).1
    refine ⟨h1, hlt, ⟨⟨h3.rf.eq, rd_keep h3.rf.ps (fun k q => hk k ((h1 k).2 (.inl (.inl q)))), rd_keep h3.rf.ts (fun k q => hk k ((h1 k).2 (.inl (.inr (.inl q))))), rd_keep h3.rf.cs (fun k q => hk k ((h1 k).2 (.inl (.inr (.inr q)))))⟩,
      ⟨rd_keep h3.pc.rd (fun k q => hk k ((h1 k).2 (.inl (.inl q)))), h3.pc.le, h3.pc.cm, h3.pc.nil⟩, fun r hr => hlt r ((h1 r).2 (.inl hr))⟩, rd_keep h4 (fun k q => hk k ((h1 k).2 (.inr q)))⟩
  lt h k hk := h.2.1 k hk
theorem sat_mem {w0 w : World} {L : List As} {b : Nat} {S : SS} {A : As} (h : SAt b S w0 w L) (hm : A ∈ L) : ∃ G, A.holds w G := by
  obtain ⟨p, h⟩ := h
  exact h.mem (.tail _ (.tail _ (.tail _ (.tail _ hm))))
theorem sat_bk {w0 w : World} {L : List As} {b : Nat} {S : SS} {b2 : Nat} {cs : Array Value} {t : TypeId} (h : SAt b S w0 w L) (hm : As.cells b2 cs t ∈ L) : Blk w b2 cs t := by
  obtain ⟨p, h⟩ := h
  exact h.blkm (.tail _ (.tail _ (.tail _ (.tail _ hm))))
theorem sat_swap {w0 w : World} {L : List As} {b : Nat} {S : SS} {A B : As} (h : SAt b S w0 w (A :: B :: L)) : SAt b S w0 w (B :: A :: L) := by
  obtain ⟨p, h⟩ := h
  have h1 := St.sh [_, _, _, _, _, _] [0, 1, 2, 3, 5, 4] (by decide) h
  simp only [List.map_cons, List.map_nil, List.getD_cons_zero, List.getD_cons_succ, List.cons_append, List.nil_append] at h1
  exact ⟨p, h1⟩
theorem sat_re {w0 w : World} {L : List As} {b : Nat} {S S' : SS} {p : Sp} {s : Option Addr} {l : List ByteArray} (h : SAt b S w0 w L) (hm : As.re S' p s l ∈ L) : Rw w S' p ∧ Rd w 1 s l.length (strs l) := by
  obtain ⟨G, g⟩ := sat_mem h hm
  exact g.2.2
theorem sat_rw {w0 w w' : World} {L : List As} {b : Nat} {S S1 S2 : SS} {p p' : Sp} {s s' : Option Addr} {l l' : List ByteArray} (h : SAt b S w0 w (As.re S1 p s l :: L)) (hb : Below w.heap.size w w') (h1 : Rw w' S2 p') (h2 : Rd w' 1 s' l'.length (strs l')) (h3 : ∀ r, rowOf s' = some r → w.heap.size ≤ r ∧ r < w'.heap.size) (h4 : NewS w w' p p') : SAt b S w0 w' (As.re S2 p' s' l' :: L) := by
  refine sat_chg h hb (fun F hF => ⟨fun k => (rowOf p'.sp = some k ∨ rowOf p'.st = some k ∨ rowOf p'.sc = some k) ∨ rowOf s' = some k, ⟨fun k => Iff.rfl, fun k hk => ?_, h1, h2⟩, fun k hk => ?_⟩)
  · rcases hk with q | q
    · exact h1.rows k q
    · exact (h3 k q).2
  · rcases hk with q | q
    · rcases h4 k q with q | q
      · exact .inl ((hF.1 k).2 (.inl q))
      · exact .inr q.1
    · exact .inr (h3 k q).1
theorem sat_none {w0 w : World} {L : List As} {b : Nat} {S S1 : SS} {p : Sp} {s : Option Addr} {l : List ByteArray} (h : SAt b S w0 w (As.re S1 p s l :: L)) : SAt b S w0 w (As.re S1 p none [] :: L) :=
  sat_rw h (Below.refl _ _) (sat_re h (.head _)).1 (rd_nil _ _) (by intro r hr; cases hr) (NewS.refl _ _ _)
theorem sat_set3 {w0 w : World} {L : List As} {b : Nat} {S : SS} {b2 : Nat} {a0 a1 a2 : Value} {t : TypeId} (h : SAt b S w0 w (As.cells b2 #[a0, a1, a2] t :: L)) (u0 u1 u2 : Value) :
    SAt b S w0 (((w.setCell ⟨b2, 0, none⟩ u0).setCell ⟨b2, 1, none⟩ u1).setCell ⟨b2, 2, none⟩ u2) (As.cells b2 #[u0, u1, u2] t :: L) := by
  obtain ⟨p, h⟩ := h
  have h1 := St.sh [_, _, _, _, _] [4, 0, 1, 2, 3] (by decide) h
  simp only [List.map_cons, List.map_nil, List.getD_cons_zero, List.getD_cons_succ, List.cons_append, List.nil_append] at h1
  have h2 := St.sh [_, _, _, _, _] [1, 2, 3, 4, 0] (by decide) (h1.set3 u0 u1 u2)
  simp only [List.map_cons, List.map_nil, List.getD_cons_zero, List.getD_cons_succ, List.cons_append, List.nil_append] at h2
  exact ⟨p, h2⟩
theorem sat_store {w0 w : World} {L : List As} {b : Nat} {S : SS} (h : SAt b S w0 w L) : ∃ p : Sp, (w.cell? ⟨b, 0, none⟩ = some (.slice p.sp S.pairs.length p.cp) ∧ w.cell? ⟨b, 1, none⟩ = some (.slice p.st S.txs.length p.ct) ∧ w.cell? ⟨b, 2, none⟩ = some (.int .i64 S.nx)) ∧ Rf w S p := by
  obtain ⟨p, h⟩ := h
  have c := h.blk.1.three
  exact ⟨p, ⟨c.1, c.2.1, c.2.2.1⟩, ⟨rfl, h.front2.rc.rd, h.swap.sl.rd, (St.sh [_, _, _, _] [3, 0, 1, 2] (by decide) h).rc.rd⟩⟩
theorem sat_drop2s {w0 w : World} {b : Nat} {S : SS} {B9 B8 RE B6 BW : As} (h : SAt b S w0 w [B9, B8, RE, B6, BW]) : SAt b S w0 w [B6, RE, BW] := by
  have h1 := sat_drop (sat_drop h)
  exact sat_swap h1
def RuRel (w0 : World) (bs bw n : Nat) (g : Nat) (v17 : Value) (wr : World) : Prop :=
  ∃ (q : Nat) (S : SS) (p : Sp), g = n - q ∧ q ≤ n ∧ v17 = .int .i64 q ∧ SAt bs S w0 wr [As.re S p none [], As.cells bw #[.slice p.sp S.pairs.length p.cp, .slice p.st S.txs.length p.ct, .int .i64 S.nx] 43] ∧ Iv q S ∧ Rv S.cs
theorem ru_start {w0 w : World} {b : Nat} {L : List As} (h : SAt b S0 w0 w L) : SAt b S0 w0 w (As.re S0 ⟨none, 0, none, 0, none, 0⟩ none [] :: L) := by
  obtain ⟨p, h⟩ := h
  have h1 := h.row_nil 9 1
  have h2 := h1.to (B := As.re S0 ⟨none, 0, none, 0, none, 0⟩ none []) (fun F hF => by
    have hr : ∀ k, ¬ F k := fun k q => by have := (hF.1 k).1 q; cases this
    refine ⟨fun k => ⟨fun q => absurd q (hr k), fun q => ?_⟩, fun k q => absurd q (hr k), ⟨⟨rfl, ?_, ?_, ?_⟩, ?_, ?_⟩, rd_nil _ _⟩
    · rcases q with (q | q | q) | q <;> cases q
    · exact rd_nil _ _
    · exact rd_nil _ _
    · exact rd_nil _ _
    · exact rc_nil _ _
    · intro r q
      rcases q with q | q | q <;> cases q)
  have h3 := St.sh [_, _, _, _, _] [1, 2, 3, 4, 0] (by decide) h2
  simp only [List.map_cons, List.map_nil, List.getD_cons_zero, List.getD_cons_succ, List.cons_append, List.nil_append] at h3
  exact ⟨p, h3⟩

theorem sat_drew {w0 w : World} {L : List As} {b : Nat} {S : SS} (h : SAt b S w0 w L) : SAt b S w0 w.drew L := by
  obtain ⟨p, h⟩ := h
  exact ⟨p, h.drew⟩
theorem do_len (S : SS) (o : Op') (id : Int) : (doS S o id).2.l.length ≤ S.pairs.length + S.cs.length := by
  unfold doS
  split
  · simp
  · split
    · simp
    · split
      · simp
      · split
        · simp
        · split
          · show (keysS S id o.key o.val).1.length ≤ _
            unfold keysS
            split
            · simp
            · rename_i k _
              split
              · simp
              · have h1 := keysL_len (content S.pairs (chs S k)) o.key o.val
                have h2 := content_len (chs S k) S.pairs
                have h3 : (chs S k).length ≤ S.cs.length := by unfold chs; split <;> simp
                show (keysL _ _ _).length ≤ _
                omega
          · split
            · simp
            · split
              · simp
              · split <;> simp

set_option maxRecDepth 100000 in
set_option maxHeartbeats 20000000 in
theorem runs_go (s : Option Addr) (c : Nat) (ls : List Op') (w0 : World) (h : Rd w0 5 s ls.length (flat opc ls)) (hn : (ls.length : Int) ≤ 9223372036854775807) (hall : ∀ o ∈ ls, o.ok) :
    Calls Try.prog 4 #[.slice s ls.length c] w0 fun e w' => e = .returned (.bool true) ∧ Below w0.heap.size w0 w' := by
  have HR := Lib.hid h
  clear h
  obtain ⟨fb, hfb⟩ : ∃ fb, fewB ls = fb := ⟨_, rfl⟩
  have HF := Lib.hid hfb
  clear hfb
  cases fb with
  | false =>
    go_enter Try.func4, Try.ntmps4
    go_wp2_with (first
      | (go_at_call 11; refine (fit_any _).mono ?_; rintro e wa ⟨rfl, hba⟩; have HB1 := Lib.hid hba; clear hba)
      | (go_at_call 18; refine (few_any _ _ _ _ (HR.out.below HB1.out) hn).mono ?_; rintro e wb ⟨rfl, hbb⟩; rw [HF.out]; have HB2 := Lib.hid (HB1.out.trans (hbb.mono HB1.out.size)); clear hbb))
    go_ret
    exact ⟨rfl, HB2.out⟩
  | true =>
    have hlen : ls.length ≤ 40 ∧ ∀ o ∈ ls, okOp o := by
      have := HF.out
      unfold fewB at this
      simp only [Bool.and_eq_true, decide_eq_true_eq, List.all_eq_true] at this
      refine ⟨this.2, fun o ho => ⟨hall o ho, ?_⟩⟩
      have h1 := this.1 o ho
      unfold shortO at h1
      simpa using h1
    obtain ⟨hl40, hok⟩ := hlen
    go_enter Try.func4, Try.ntmps4
    go_upto_region 5 with (first
      | (go_at_call 11; refine (fit_any _).mono ?_; rintro e wa ⟨rfl, hba⟩; have HB1 := Lib.hid hba; clear hba)
      | (go_at_call 18; refine (few_any _ _ _ _ (HR.out.below HB1.out) hn).mono ?_; rintro e wb ⟨rfl, hbb⟩; rw [HF.out]; have HB2 := Lib.hid (HB1.out.trans (hbb.mono HB1.out.size)); clear hbb))
    have h0 := sat_swap (ru_start (sat_new (s0_at (St.start w0 HB2.out)) #[.slice none 0 0, .slice none 0 0, .int .i64 0] 43))
    have h0 := sat_swap h0
    go_wp2_with fail
    obtain ⟨bs, hbs⟩ : ∃ bs, wb.heap.size = bs := ⟨_, rfl⟩
    obtain ⟨W0, hW0⟩ : ∃ W0, (wb.alloc (.cells #[.slice none 0 0, .slice none 0 0, .int .i64 0] 28)).alloc (.cells #[.slice none 0 0, .slice none 0 0, .int .i64 0] 43) = W0 := ⟨_, rfl⟩
    simp only [World.size_alloc] at h0
    rw [hW0, hbs] at h0
    try simp only [World.size_alloc]
    try simp only [hW0, hbs]
    obtain ⟨bw, hbw⟩ : ∃ bw, bs + 1 = bw := ⟨_, rfl⟩
    have H0 := Lib.hid h0
    clear hW0 hbs h0
    rw [hbw] at H0 ⊢
    clear hbw
    go_loopg [17] ls.length (RuRel w0 bs bw ls.length)
    case atStart => exact ⟨0, S0, ⟨none, 0, none, 0, none, 0⟩, rfl, Nat.zero_le _, rfl, H0.out, iv0, by intro c hc; cases hc⟩
    case round =>
      obtain ⟨q, S, p, hg, hq, rfl, hs, hi, hrv⟩ := hrel
      have Hg := Lib.hid hg
      have HS := Lib.hid hs
      have HIV := Lib.hid hi
      have HRV := Lib.hid hrv
      clear hg hs hrv H0
      by_cases hqn : q < ls.length
      · have hrd := HR.out.below (sat_bel HS.out)
        obtain ⟨g, off, rfl, -⟩ := hrd.addr (by omega)
        obtain ⟨x, hx⟩ : ∃ x, ls[q] = x := ⟨_, rfl⟩
        obtain ⟨d0, d1, d2, d3, d4⟩ := o_at hrd hqn x hx
        have hxm : x ∈ ls := by rw [← hx]; exact List.getElem_mem hqn
        have hqI : (q : Int) < (ls.length : Int) := by omega
        have hq0I : (0 : Int) ≤ (q : Int) := by omega
        clear hx hrd
        go_upto_region 10 with fail
        obtain ⟨W, hW⟩ : ∃ W, wr.alloc (.cells #[.int .u8 x.kd, .int .u8 x.tx, .string x.key, .string x.val, .bool x.wr] 45) = W := ⟨_, rfl⟩
        obtain ⟨b6, hb6⟩ : ∃ b6, wr.heap.size = b6 := ⟨_, rfl⟩
        have h1 := sat_swap (sat_new HS.out #[.int .u8 x.kd, .int .u8 x.tx, .string x.key, .string x.val, .bool x.wr] 45)
        rw [hW, hb6] at h1
        try simp only [hW, hb6]
        have H1 := Lib.hid h1
        clear hW hb6 h1 d0 d1 d2 d3 d4
        obtain ⟨o0, o1, o2, o3, o4, -⟩ := blk5 (sat_bk (b2 := b6) H1.out (.tail _ (.head _)))
        obtain ⟨a0, a1, a2, -⟩ := (sat_bk (b2 := bw) H1.out (.tail _ (.tail _ (.head _)))).three
        obtain ⟨id, hid⟩ : ∃ id, numF x S.nx = id := ⟨_, rfl⟩
        have HID := Lib.hid hid
        go_upto_region 11 with (go_at_call 19; refine (number_any x S.nx _ (hok x hxm).1 hi.nx0 (by have := hi.nx1; omega)).mono ?_; rintro e w3 ⟨rfl, hb3⟩; rw [HID.out]; have H3 := Lib.hid (H1.out.of_below hb3); clear hb3 o0 o1 o2 o3 o4 a0 a1 a2; obtain ⟨o0, o1, o2, o3, o4, -⟩ := blk5 (sat_bk (b2 := b6) H3.out (.tail _ (.head _))); obtain ⟨a0, a1, a2, -⟩ := (sat_bk (b2 := bw) H3.out (.tail _ (.tail _ (.head _)))).three)
        clear hid
        have KD := Lib.hid (do_ref S p x id w3 q (sat_re H3.out (.head _)).1 (hok x hxm).1 (hok x hxm).2 HIV.out (by omega) HRV.out)
        obtain ⟨S2, hS2⟩ : ∃ S2, (doS S x id).1 = S2 := ⟨_, rfl⟩
        obtain ⟨R, hR⟩ : ∃ R, (doS S x id).2 = R := ⟨_, rfl⟩
        rw [hS2, hR] at KD
        have hi2 := iv_do HIV.out x id (hok x hxm).2
        have hrv2 := rv_do HRV.out x id
        rw [hS2] at hi2 hrv2
        have HI2 := Lib.hid hi2
        have HRV2 := Lib.hid hrv2
        have HS2 := Lib.hid hS2
        have HRR := Lib.hid hR
        clear hi2 hrv2 hS2 hR hi
        go_upto_region 12 with (go_at_call 20; refine (KD.out).mono ?_; rintro e w4 ⟨p2, sl, cl, rfl, hr4, hl4, hn4, hs4, hb4⟩; have H4 := Lib.hid (sat_rw H3.out hb4 hr4 hl4 hn4 hs4); clear hr4 hl4 hn4 hs4 hb4 o0 o1 o2 o3 o4 a0 a1 a2)
        have h5 := sat_new (sat_new H4.out #[.slice p2.sp S2.pairs.length p2.cp, .slice p2.st S2.txs.length p2.ct, .int .i64 S2.nx] 43) #[.int .i64 R.id, .string R.v, .bool R.ok, .slice sl R.l.length cl, .int .i64 R.err] 49
        obtain ⟨W5, hW5⟩ : ∃ W5, (w4.alloc (.cells #[.slice p2.sp S2.pairs.length p2.cp, .slice p2.st S2.txs.length p2.ct, .int .i64 S2.nx] 43)).alloc (.cells #[.int .i64 R.id, .string R.v, .bool R.ok, .slice sl R.l.length cl, .int .i64 R.err] 49) = W5 := ⟨_, rfl⟩
        obtain ⟨b8, hb8⟩ : ∃ b8, w4.heap.size = b8 := ⟨_, rfl⟩
        simp only [World.size_alloc] at h5
        rw [hW5, hb8] at h5
        try simp only [World.size_alloc]
        try simp only [hW5, hb8]
        obtain ⟨b9, hb9⟩ : ∃ b9, b8 + 1 = b9 := ⟨_, rfl⟩
        rw [hb9] at h5
        try simp only [hb9]
        obtain ⟨wd, hwd⟩ : ∃ wd, W5.drew = wd := ⟨_, rfl⟩
        have hd := sat_drew h5
        rw [hwd] at hd
        have HD := Lib.hid hd
        have hRl : R.l.length ≤ 100 := by
          have h1 := do_len S x id
          rw [HRR.out] at h1
          have h2 := HIV.out.ln
          omega
        have hb2 : S2.txs.length ≤ 100 ∧ S2.pairs.length ≤ 100 ∧ S2.cs.length ≤ 100 := by
          have h1 := HI2.out.ln
          have h2 := HI2.out.tl
          omega
        obtain ⟨hb2t, hb2p, hb2c⟩ := hb2
        have KO := Lib.hid (do_st x id (hok x hxm).1 (hok x hxm).2 hd HIV.out (by omega))
        rw [HS2.out, HRR.out] at KO
        have hS : (fun w' : World => (w'.cell? ⟨b6, 0, none⟩ = some (.int .u8 x.kd) ∧ w'.cell? ⟨b6, 1, none⟩ = some (.int .u8 x.tx) ∧ w'.cell? ⟨b6, 2, none⟩ = some (.string x.key) ∧ w'.cell? ⟨b6, 3, none⟩ = some (.string x.val) ∧ w'.cell? ⟨b6, 4, none⟩ = some (.bool x.wr)) ∧ (w'.cell? ⟨b9, 0, none⟩ = some (.int .i64 R.id) ∧ w'.cell? ⟨b9, 1, none⟩ = some (.string R.v) ∧ w'.cell? ⟨b9, 2, none⟩ = some (.bool R.ok) ∧ w'.cell? ⟨b9, 3, none⟩ = some (.slice sl R.l.length cl) ∧ w'.cell? ⟨b9, 4, none⟩ = some (.int .i64 R.err)) ∧ (w'.cell? ⟨b8, 0, none⟩ = some (.slice p2.sp S2.pairs.length p2.cp) ∧ w'.cell? ⟨b8, 1, none⟩ = some (.slice p2.st S2.txs.length p2.ct) ∧ w'.cell? ⟨b8, 2, none⟩ = some (.int .i64 S2.nx))) wd := by
          obtain ⟨o0, o1, o2, o3, o4, -⟩ := blk5 (sat_bk (b2 := b6) HD.out (.tail _ (.tail _ (.tail _ (.head _)))))
          obtain ⟨r0, r1, r2, r3, r4, -⟩ := blk5 (sat_bk (b2 := b9) HD.out (.head _))
          obtain ⟨e0, e1, e2, -⟩ := (sat_bk (b2 := b8) HD.out (.tail _ (.head _))).three
          exact ⟨⟨o0, o1, o2, o3, o4⟩, ⟨r0, r1, r2, r3, r4⟩, ⟨e0, e1, e2⟩⟩
        clear hd h5 hW5 hb8 hb9
        refine wpLast.region (S := (fun w' : World => (w'.cell? ⟨b6, 0, none⟩ = some (.int .u8 x.kd) ∧ w'.cell? ⟨b6, 1, none⟩ = some (.int .u8 x.tx) ∧ w'.cell? ⟨b6, 2, none⟩ = some (.string x.key) ∧ w'.cell? ⟨b6, 3, none⟩ = some (.string x.val) ∧ w'.cell? ⟨b6, 4, none⟩ = some (.bool x.wr)) ∧ (w'.cell? ⟨b9, 0, none⟩ = some (.int .i64 R.id) ∧ w'.cell? ⟨b9, 1, none⟩ = some (.string R.v) ∧ w'.cell? ⟨b9, 2, none⟩ = some (.bool R.ok) ∧ w'.cell? ⟨b9, 3, none⟩ = some (.slice sl R.l.length cl) ∧ w'.cell? ⟨b9, 4, none⟩ = some (.int .i64 R.err)) ∧ (w'.cell? ⟨b8, 0, none⟩ = some (.slice p2.sp S2.pairs.length p2.cp) ∧ w'.cell? ⟨b8, 1, none⟩ = some (.slice p2.st S2.txs.length p2.ct) ∧ w'.cell? ⟨b8, 2, none⟩ = some (.int .i64 S2.nx)))) (c := 11) (by kernel_rfl) ?_
        rw [hwd]
        clear hwd
        refine' wpLast.take_c (i := 0) (v := _) [10, 9, 7, 6, 5, 4, 2] rfl (by kernel_rfl) (fun _ _ _ h => h) (by kernel_rfl) _ _ _ _ (by kernel_rfl) (by kernel_rfl) (by kernel_rfl) (Or.inl ⟨by rfl, ?hy0⟩) hS ?rest0
        case hy0 => (intro w' hSw; obtain ⟨⟨k0, k1, k2, k3, k4⟩, ⟨k5, k6, k7, k8, k9⟩, ⟨l0, l1, l2⟩⟩ := hSw; go_simp; try with_reducible rfl)
        try simp only [Act.put, List.setIfInBounds_toArray, List.set_cons_zero, List.set_cons_succ]
        refine' wpLast.take_c (i := 1) (v := _) [10, 9, 7, 6, 5, 4, 2] rfl (by kernel_rfl) (fun _ _ _ h => h) (by kernel_rfl) _ _ _ _ (by kernel_rfl) (by kernel_rfl) (by kernel_rfl) (Or.inl ⟨by rfl, ?hy1⟩) hS ?rest1
        case hy1 => (intro w' hSw; obtain ⟨⟨k0, k1, k2, k3, k4⟩, ⟨k5, k6, k7, k8, k9⟩, ⟨l0, l1, l2⟩⟩ := hSw; go_simp; try with_reducible rfl)
        try simp only [Act.put, List.setIfInBounds_toArray, List.set_cons_zero, List.set_cons_succ]
        refine' wpLast.take_c (i := 3) (v := _) [10, 9, 7, 6, 5, 4] rfl (by kernel_rfl) (fun _ _ _ h => h) (by kernel_rfl) _ _ _ _ (by kernel_rfl) (by kernel_rfl) (by kernel_rfl) (Or.inl ⟨by rfl, ?hy3⟩) hS ?rest3
        case hy3 => (intro w' hSw; obtain ⟨⟨k0, k1, k2, k3, k4⟩, ⟨k5, k6, k7, k8, k9⟩, ⟨l0, l1, l2⟩⟩ := hSw; go_simp; try with_reducible rfl)
        try simp only [Act.put, List.setIfInBounds_toArray, List.set_cons_zero, List.set_cons_succ]
        refine wpLast.one (i := 2) rfl (by kernel_rfl) ?_
        intro K' hK; have HK' := Lib.hid hK; clear hK
        go_simp
        refine (KO.out).mono ?_
        rintro e w6 ⟨rs, rc, rfl, h6⟩
        have H6 := Lib.hid h6
        clear h6 hS
        have hS : (fun w' : World => (w'.cell? ⟨b6, 0, none⟩ = some (.int .u8 x.kd) ∧ w'.cell? ⟨b6, 1, none⟩ = some (.int .u8 x.tx) ∧ w'.cell? ⟨b6, 2, none⟩ = some (.string x.key) ∧ w'.cell? ⟨b6, 3, none⟩ = some (.string x.val) ∧ w'.cell? ⟨b6, 4, none⟩ = some (.bool x.wr)) ∧ (w'.cell? ⟨b9, 0, none⟩ = some (.int .i64 R.id) ∧ w'.cell? ⟨b9, 1, none⟩ = some (.string R.v) ∧ w'.cell? ⟨b9, 2, none⟩ = some (.bool R.ok) ∧ w'.cell? ⟨b9, 3, none⟩ = some (.slice sl R.l.length cl) ∧ w'.cell? ⟨b9, 4, none⟩ = some (.int .i64 R.err)) ∧ (w'.cell? ⟨b8, 0, none⟩ = some (.slice p2.sp S2.pairs.length p2.cp) ∧ w'.cell? ⟨b8, 1, none⟩ = some (.slice p2.st S2.txs.length p2.ct) ∧ w'.cell? ⟨b8, 2, none⟩ = some (.int .i64 S2.nx))) w6 := by
          obtain ⟨o0, o1, o2, o3, o4, -⟩ := blk5 (sat_bk (b2 := b6) H6.out (.tail _ (.tail _ (.tail _ (.tail _ (.head _))))))
          obtain ⟨r0, r1, r2, r3, r4, -⟩ := blk5 (sat_bk (b2 := b9) H6.out (.tail _ (.head _)))
          obtain ⟨e0, e1, e2, -⟩ := (sat_bk (b2 := b8) H6.out (.tail _ (.tail _ (.head _)))).three
          exact ⟨⟨o0, o1, o2, o3, o4⟩, ⟨r0, r1, r2, r3, r4⟩, ⟨e0, e1, e2⟩⟩
        refine HK'.out _ _ ⟨fun _ => hS, ?_⟩
        clear HK' K'
        try simp only [Act.put, List.setIfInBounds_toArray, List.set_cons_zero, List.set_cons_succ]
        have KM := Lib.hid (sameR_any R.id R.err R.v R.ok R.l w6 (c1 := rc) (c2 := cl) (sat_row H6.out).rd (sat_re (p := p2) (S' := S2) (s := sl) (l := R.l) H6.out (.tail _ (.tail _ (.tail _ (.head _))))).2 (by omega))
        refine wpLast.one (i := 4) rfl (by kernel_rfl) ?_
        intro K' hK; have HK' := Lib.hid hK; clear hK
        go_simp
        refine (KM.out).mono ?_
        rintro e w7 ⟨rfl, h7⟩
        have H7 := Lib.hid (sat_drop (H6.out.of_below h7))
        clear h7 hS
        have hS : (fun w' : World => (w'.cell? ⟨b6, 0, none⟩ = some (.int .u8 x.kd) ∧ w'.cell? ⟨b6, 1, none⟩ = some (.int .u8 x.tx) ∧ w'.cell? ⟨b6, 2, none⟩ = some (.string x.key) ∧ w'.cell? ⟨b6, 3, none⟩ = some (.string x.val) ∧ w'.cell? ⟨b6, 4, none⟩ = some (.bool x.wr)) ∧ (w'.cell? ⟨b9, 0, none⟩ = some (.int .i64 R.id) ∧ w'.cell? ⟨b9, 1, none⟩ = some (.string R.v) ∧ w'.cell? ⟨b9, 2, none⟩ = some (.bool R.ok) ∧ w'.cell? ⟨b9, 3, none⟩ = some (.slice sl R.l.length cl) ∧ w'.cell? ⟨b9, 4, none⟩ = some (.int .i64 R.err)) ∧ (w'.cell? ⟨b8, 0, none⟩ = some (.slice p2.sp S2.pairs.length p2.cp) ∧ w'.cell? ⟨b8, 1, none⟩ = some (.slice p2.st S2.txs.length p2.ct) ∧ w'.cell? ⟨b8, 2, none⟩ = some (.int .i64 S2.nx))) w7 := by
          obtain ⟨o0, o1, o2, o3, o4, -⟩ := blk5 (sat_bk (b2 := b6) H7.out (.tail _ (.tail _ (.tail _ (.head _)))))
          obtain ⟨r0, r1, r2, r3, r4, -⟩ := blk5 (sat_bk (b2 := b9) H7.out (.head _))
          obtain ⟨e0, e1, e2, -⟩ := (sat_bk (b2 := b8) H7.out (.tail _ (.head _))).three
          exact ⟨⟨o0, o1, o2, o3, o4⟩, ⟨r0, r1, r2, r3, r4⟩, ⟨e0, e1, e2⟩⟩
        refine HK'.out _ _ ⟨fun _ => hS, ?_⟩
        clear HK' K'
        try simp only [Act.put, List.setIfInBounds_toArray, List.set_cons_zero, List.set_cons_succ]
        refine wpLast.one (i := 5) rfl (by kernel_rfl) ?_
        intro K' hK; have HK' := Lib.hid hK; clear hK
        go_simp
        refine HK'.out _ _ ⟨fun _ => hS, ?_⟩
        clear HK' K'
        try simp only [Act.put, List.setIfInBounds_toArray, List.set_cons_zero, List.set_cons_succ]
        refine wpLast.one (i := 6) rfl (by kernel_rfl) ?_
        intro K' hK; have HK' := Lib.hid hK; clear hK
        go_simp
        refine HK'.out _ _ ⟨fun _ => hS, ?_⟩
        clear HK' K'
        try simp only [Act.put, List.setIfInBounds_toArray, List.set_cons_zero, List.set_cons_succ]
        refine' wpLast.take_c (i := 8) (v := _) [10, 9] rfl (by kernel_rfl) (fun _ _ _ h => h) (by kernel_rfl) _ _ _ _ (by kernel_rfl) (by kernel_rfl) (by kernel_rfl) (Or.inl ⟨by rfl, ?hy8⟩) hS ?rest8
        case hy8 => (intro w' hSw; obtain ⟨⟨k0, k1, k2, k3, k4⟩, ⟨k5, k6, k7, k8, k9⟩, ⟨l0, l1, l2⟩⟩ := hSw; go_simp; try with_reducible rfl)
        try simp only [Act.put, List.setIfInBounds_toArray, List.set_cons_zero, List.set_cons_succ]
        obtain ⟨pz, ⟨z0, z1, z2⟩, hz⟩ := sat_store H7.out
        have HZ := Lib.hid hz
        have KS := Lib.hid (same_any S2 (rv pz S2) (rv p2 S2) w7 hz (sat_re (p := p2) (S' := S2) (s := sl) (l := R.l) H7.out (.tail _ (.tail _ (.head _)))).1.rf (by omega) (by omega) (by omega))
        clear hz
        refine wpLast.one (i := 7) rfl (by kernel_rfl) ?_
        intro K' hK; have HK' := Lib.hid hK; clear hK
        go_simp
        refine HK'.out _ _ ⟨fun _ => hS, ?_⟩
        clear HK' K'
        try simp only [Act.put, List.setIfInBounds_toArray, List.set_cons_zero, List.set_cons_succ]
        refine wpLast.one (i := 9) rfl (by kernel_rfl) ?_
        intro K' hK; have HK' := Lib.hid hK; clear hK
        go_simp
        refine (KS.out).mono ?_
        rintro e w8 ⟨rfl, h8⟩
        have H8 := Lib.hid (H7.out.of_below h8)
        clear h8 hS z0 z1 z2
        have hS : (fun w' : World => (w'.cell? ⟨b6, 0, none⟩ = some (.int .u8 x.kd) ∧ w'.cell? ⟨b6, 1, none⟩ = some (.int .u8 x.tx) ∧ w'.cell? ⟨b6, 2, none⟩ = some (.string x.key) ∧ w'.cell? ⟨b6, 3, none⟩ = some (.string x.val) ∧ w'.cell? ⟨b6, 4, none⟩ = some (.bool x.wr)) ∧ (w'.cell? ⟨b9, 0, none⟩ = some (.int .i64 R.id) ∧ w'.cell? ⟨b9, 1, none⟩ = some (.string R.v) ∧ w'.cell? ⟨b9, 2, none⟩ = some (.bool R.ok) ∧ w'.cell? ⟨b9, 3, none⟩ = some (.slice sl R.l.length cl) ∧ w'.cell? ⟨b9, 4, none⟩ = some (.int .i64 R.err)) ∧ (w'.cell? ⟨b8, 0, none⟩ = some (.slice p2.sp S2.pairs.length p2.cp) ∧ w'.cell? ⟨b8, 1, none⟩ = some (.slice p2.st S2.txs.length p2.ct) ∧ w'.cell? ⟨b8, 2, none⟩ = some (.int .i64 S2.nx))) w8 := by
          obtain ⟨o0, o1, o2, o3, o4, -⟩ := blk5 (sat_bk (b2 := b6) H8.out (.tail _ (.tail _ (.tail _ (.head _)))))
          obtain ⟨r0, r1, r2, r3, r4, -⟩ := blk5 (sat_bk (b2 := b9) H8.out (.head _))
          obtain ⟨e0, e1, e2, -⟩ := (sat_bk (b2 := b8) H8.out (.tail _ (.head _))).three
          exact ⟨⟨o0, o1, o2, o3, o4⟩, ⟨r0, r1, r2, r3, r4⟩, ⟨e0, e1, e2⟩⟩
        refine HK'.out _ _ ⟨fun _ => hS, ?_⟩
        clear HK' K'
        try simp only [Act.put, List.setIfInBounds_toArray, List.set_cons_zero, List.set_cons_succ]
        refine wpLast.one (i := 10) rfl (by kernel_rfl) ?_
        intro K' hK; have HK' := Lib.hid hK; clear hK
        go_simp
        refine HK'.out _ _ ⟨fun _ => hS, ?_⟩
        clear HK' K'
        try simp only [Act.put, List.setIfInBounds_toArray, List.set_cons_zero, List.set_cons_succ]
        refine wpLast.one (i := 11) rfl (by kernel_rfl) ?_
        intro K' hK; have HK' := Lib.hid hK; clear hK
        go_simp
        refine HK'.out _ _ ⟨fun h => absurd rfl h, ?_⟩
        clear HK' K' hS
        try simp only [Act.put, List.setIfInBounds_toArray, List.set_cons_zero, List.set_cons_succ]
        refine wpLast.done (by kernel_rfl) ?_
        obtain ⟨e0, e1, e2, -⟩ := (sat_bk (b2 := b8) H8.out (.tail _ (.head _))).three
        obtain ⟨a0, a1, a2, f0, f1, f2⟩ := (sat_bk (b2 := bw) H8.out (.tail _ (.tail _ (.tail _ (.tail _ (.head _)))))).three
        have h9 := sat_set3 (sat_swap (sat_drop (sat_drop2s H8.out))) (.slice p2.sp S2.pairs.length p2.cp) (.slice p2.st S2.txs.length p2.ct) (.int .i64 S2.nx)
        have h9 := sat_none (sat_swap h9)
        obtain ⟨w9, hw9⟩ : ∃ w9, (((w8.setCell ⟨bw, 0, none⟩ (.slice p2.sp S2.pairs.length p2.cp)).setCell ⟨bw, 1, none⟩ (.slice p2.st S2.txs.length p2.ct)).setCell ⟨bw, 2, none⟩ (.int .i64 S2.nx)) = w9 := ⟨_, rfl⟩
        rw [hw9] at h9
        have H9 := Lib.hid h9
        have HW9 := Lib.hid hw9
        clear h9 hw9
        go_wp2_with fail
        rw [HW9.out]
        go_roundg (ls.length - (q + 1))
        case measure => have := Hg.out; omega
        case rel => exact ⟨q + 1, S2, p2, rfl, by omega, by simp, H9.out, HI2.out, HRV2.out⟩
      · obtain rfl : q = ls.length := by omega
        go_wp2_with fail
        go_ret
        exact ⟨rfl, sat_bel HS.out⟩

end Go.Proofs.Ytcglnjklnlejmaa
