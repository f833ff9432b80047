/-
  The walk of PaintDraws.
-/
import Derived.Test.YtifgjccnhbbadaaNt
import Derived.Test.YtifgjccnhbbadaaNk
set_option linter.unusedVariables false
set_option linter.unusedSimpArgs false
namespace Go.Proofs.Ytifgjccnhbbadaa
open Go.RowKit Go.K Go.PlainAid Go.Lib

theorem enc_eq (x : Int) (hx : okRune x) : Utf8.encode x = enc1 x := by
  unfold okRune at hx
  obtain ⟨n, rfl⟩ : ∃ n : Nat, x = (n : Int) := ⟨x.toNat, by omega⟩
  have hv : Utf8.valid (n : Int) = true := by simp [Utf8.valid]; omega
  unfold Utf8.encode enc1 encodeRune
  simp only [hv, if_true, Int.toNat_natCast]
  by_cases h1 : n < 0x80
  · rw [if_pos h1, encodeRuneZ_one (by omega) (by omega)]
    rfl
  · rw [if_neg h1]
    by_cases h2 : n < 0x800
    · rw [if_pos h2, encodeRuneZ_two (by omega) (by omega)]
      have e1 : ((192 : Int) + (n : Int) / 64).toNat = 192 + n / 64 := by omega
      have e2 : ((128 : Int) + (n : Int) % 64).toNat = 128 + n % 64 := by omega
      simp only [List.map_cons, List.map_nil, e1, e2]
    · rw [if_neg h2]
      by_cases h3 : n < 0x10000
      · rw [if_pos h3, encodeRuneZ_three (by omega)]
        have e1 : ((224 : Int) + (n : Int) / 4096).toNat = 224 + n / 4096 := by omega
        have e2 : ((128 : Int) + (n : Int) / 64 % 64).toNat = 128 + n / 64 % 64 := by omega
        have e3 : ((128 : Int) + (n : Int) % 64).toNat = 128 + n % 64 := by omega
        simp only [List.map_cons, List.map_nil, e1, e2, e3]
      · rw [if_neg h3, encodeRuneZ_four (by omega) (by omega)]
        have e1 : ((240 : Int) + (n : Int) / 262144).toNat = 240 + n / 262144 := by omega
        have e2 : ((128 : Int) + (n : Int) / 4096 % 64).toNat = 128 + n / 4096 % 64 := by omega
        have e3 : ((128 : Int) + (n : Int) / 64 % 64).toNat = 128 + n / 64 % 64 := by omega
        have e4 : ((128 : Int) + (n : Int) % 64).toNat = 128 + n % 64 := by omega
        simp only [List.map_cons, List.map_nil, e1, e2, e3, e4]
theorem runes_snoc (l : List Int) (x : Int) (hx : okRune x) : runesBytes (l ++ [x]) = runesBytes l ++ enc1 x := by
  unfold runesBytes
  rw [List.foldl_append]
  simp only [List.foldl_cons, List.foldl_nil]
  rw [enc_eq x hx]
theorem okR32 : okRune 32 := by unfold okRune; omega
theorem im_ok (b : Bx) (hb : b.ok) (ht : b.tx.size ≤ 30) : b.im.ok := by
  obtain ⟨h1, h2, h3, h4, h5, h6⟩ := hb
  unfold Bx.im Im.ok
  unfold Bd8 at h5 h6
  refine ⟨by unfold Bd; simp only; omega, by unfold Bd; simp only; omega, ?_, ?_, ?_, ?_, ?_⟩
  · simp only
    split
    · exact ht
    · exact Nat.zero_le _
  · simp only; split <;> omega
  · simp only; split <;> omega
  · simp only; omega
  · simp only; omega
theorem infoIm : (Try.prog.info? 33).map (fun i => (i.zero, i.size, i.bytes)) = some (some (.agg #[.int .i64 0, .int .i64 0, .int .i64 0, .int .i64 0, .int .i64 0, .int .i64 0, .int .i64 0, .int .i64 0, .int .i64 0, .string ByteArray.empty, .string ByteArray.empty, .int .i64 0, .int .i64 0]), 13, 120) := by kernel_rfl
theorem elIm : El Try.prog 26 33 13 120 := by
  obtain ⟨i, hi, h1, h2, h3⟩ := info_parts infoIm
  exact ⟨by kernel_rfl, ⟨i, _, hi, h1, h2, h3, rfl⟩, by decide⟩
theorem zeroIm (w : World) : (zeroValue 33).run Try.prog w = .ok (.agg #[.int .i64 0, .int .i64 0, .int .i64 0, .int .i64 0, .int .i64 0, .int .i64 0, .int .i64 0, .int .i64 0, .int .i64 0, .string ByteArray.empty, .string ByteArray.empty, .int .i64 0, .int .i64 0]) w := by kernel_rfl
theorem sizeIm (w : World) : (sizeOf 33).run Try.prog w = .ok 13 w := by kernel_rfl
theorem im_one (i : Im) : ∀ u ∈ i.cells, u.oneCell' = true := by
  intro u hu
  simp [Im.cells] at hu
  rcases hu with h | h | h | h | h | h | h | h | h | h | h | h | h <;> subst h <;> rfl
theorem bx_range {w : World} {g off n : Nat} {ls : List Bx} (hs : Rd w 11 (some ⟨g, off, none⟩) n (flat Bx.cells ls)) {k : Nat} (hk : k < ls.length) : w.rangeAt g (off + k * 11) ls[k].cells := fun j u hu => by
  have hj := (List.getElem?_eq_some_iff.1 hu).1
  have e := flat_at (f := Bx.cells) (sz := 11) (fun _ => rfl) ls k j hk hj
  have := hs.cells _ rfl _ _ (e.trans hu)
  rw [Addr.add_lit] at this
  rw [Nat.add_assoc]
  exact this
abbrev LlL (b7 W H : Nat) (sR : Option Addr) (cR : Nat) (F : Nat → Nat → Int) (s5 : Option Addr) (n c5 : Nat) (L : List Im) (b3 : Nat) (p q : Int) : List As :=
  [As.cells b7 (scr W H sR H cR) 37, As.row 9 1 sR H cR (strs W F H), As.row 33 13 s5 n c5 (flat Im.cells L), As.cells b3 #[.int .i8 p, .int .i8 q] 24]
def wantS (L : List Im) (r c : Nat) : ByteArray := runesBytes ((List.range c).map (fun c => cellR L c r))
theorem wantS_succ (L : List Im) (r c : Nat) : wantS L r (c + 1) = wantS L r c ++ enc1 (cellR L c r) := by
  unfold wantS
  rw [List.range_succ, List.map_append, List.map_singleton]
  exact runes_snoc _ _ (cellR_ok c r L 32 okR32)
theorem wantS_size (L : List Im) (r : Nat) : ∀ c, (wantS L r c).size ≤ 4 * c
  | 0 => by show (ByteArray.empty).size ≤ 0; decide
  | c + 1 => by
    rw [wantS_succ, ByteArray.size_append]
    have := wantS_size L r c
    have h2 := (encodeRune_len (cellR L c r)).2
    have h3 : (enc1 (cellR L c r)).size = (encodeRune (cellR L c r)).length := List.size_toArray
    omega
theorem wantS_str {L : List Im} {F : Nat → Nat → Int} {r W : Nat} (h : ∀ c, c < W → F r c = cellR L c r) : strR W F r = wantS L r W := by
  unfold strR wantS
  congr 1
  apply List.map_congr_left
  intro c hc
  exact h c (List.mem_range.1 hc)
def LbR (n : Nat) (ls : List Bx) (b : Nat) (p q : Int) (w : World) (g : Nat) (v5 v6 : Value) (wr : World) : Prop :=
  ∃ (k : Nat) (s : Option Addr) (c : Nat), g = n - k ∧ k ≤ n ∧ v5 = .slice s k c ∧ v6 = .int .i64 k ∧ (∀ i, (h : i < ls.length) → i < k → ls[i].tx.size ≤ 30) ∧
    St w wr [As.row 33 13 s k c (flat Im.cells ((ls.take k).map Bx.im)), As.cells b #[.int .i8 p, .int .i8 q] 24]

set_option maxRecDepth 100000 in
set_option maxHeartbeats 4000000 in
theorem draws_go (ls : List Bx) (hok : ∀ b ∈ ls, b.ok) (p q : Int) (hp1 : -128 ≤ p) (hp2 : p ≤ 127) (hq1 : -128 ≤ q) (hq2 : q ≤ 127) (w : World) {s : Option Addr} {cp : Nat} (hs : Rd w 11 s ls.length (flat Bx.cells ls)) (hn : ls.length ≤ maxLen) :
    Calls Try.prog 3 #[.slice s ls.length cp, .agg #[.int .i8 p, .int .i8 q]] w fun e w' => e = .returned (.bool true) ∧ Below w.heap.size w w' := by
  have hnI : (ls.length : Int) ≤ 9223372036854775807 := by simp only [maxLen] at hn; omega
  have HS := Lib.hid hs
  have H0 := Lib.hid ((St.start w (Below.refl _ w)).new #[.int .i8 p, .int .i8 q] 24)
  clear hs
  by_cases hbad : 12 < ls.length ∨ 100 < p ∨ 100 < q
  · have h3 : 12 < ls.length ∨ (¬ 12 < ls.length ∧ 100 < p) ∨ (¬ 12 < ls.length ∧ ¬ 100 < p ∧ 100 < q) := by omega
    clear hbad
    rcases h3 with h3 | ⟨h3, h4⟩ | ⟨h3, h4, h5⟩
    · have g1 : (12 : Int) < (ls.length : Int) := by omega
      have g1' : decide ((12 : Int) < (ls.length : Int)) = true := decide_eq_true g1
      go_enter Try.func3, Try.ntmps3
      go_wp2_with (first
        | (go_at_call 5; refine (awake_any _).mono ?_; rintro e w1 ⟨rfl, hb1⟩; have H1 := Lib.hid (H0.out.of_below hb1); have t0 := H1.out.cell 0; have t1 := H1.out.cell 1; simp at t0 t1; clear H0)
        | (go_at_call 5; refine (awake_any _).mono ?_; rintro e w2 ⟨rfl, hb2⟩; have H2 := Lib.hid (H1.out.of_below hb2)))
      exact bodyPost_ret (results_tmp Try.results3 _ _ _) rfl ⟨rfl, H2.out.bel⟩
    · have g1 : ¬ (12 : Int) < (ls.length : Int) := by omega
      have g1' : decide ((12 : Int) < (ls.length : Int)) = false := decide_eq_false g1
      have g2' : decide ((100 : Int) < p) = true := decide_eq_true h4
      go_enter Try.func3, Try.ntmps3
      go_wp2_with (first
        | (go_at_call 5; refine (awake_any _).mono ?_; rintro e w1 ⟨rfl, hb1⟩; have H1 := Lib.hid (H0.out.of_below hb1); have t0 := H1.out.cell 0; have t1 := H1.out.cell 1; simp at t0 t1; clear H0)
        | (go_at_call 5; refine (awake_any _).mono ?_; rintro e w2 ⟨rfl, hb2⟩; have H2 := Lib.hid (H1.out.of_below hb2)))
      exact bodyPost_ret (results_tmp Try.results3 _ _ _) rfl ⟨rfl, H2.out.bel⟩
    · have g1 : ¬ (12 : Int) < (ls.length : Int) := by omega
      have g1' : decide ((12 : Int) < (ls.length : Int)) = false := decide_eq_false g1
      have g2' : decide ((100 : Int) < p) = false := decide_eq_false h4
      have g3' : decide ((100 : Int) < q) = true := decide_eq_true h5
      go_enter Try.func3, Try.ntmps3
      go_wp2_with (first
        | (go_at_call 5; refine (awake_any _).mono ?_; rintro e w1 ⟨rfl, hb1⟩; have H1 := Lib.hid (H0.out.of_below hb1); have t0 := H1.out.cell 0; have t1 := H1.out.cell 1; simp at t0 t1; clear H0)
        | (go_at_call 5; refine (awake_any _).mono ?_; rintro e w2 ⟨rfl, hb2⟩; have H2 := Lib.hid (H1.out.of_below hb2)))
      exact bodyPost_ret (results_tmp Try.results3 _ _ _) rfl ⟨rfl, H2.out.bel⟩
  · have hl12 : ls.length ≤ 12 := by omega
    have hp : p ≤ 100 := by omega
    have hq : q ≤ 100 := by omega
    have g1 : ¬ (12 : Int) < (ls.length : Int) := by omega
    have g1' : decide ((12 : Int) < (ls.length : Int)) = false := decide_eq_false g1
    have g2 : ¬ (100 : Int) < p := by omega
    have g2' : decide ((100 : Int) < p) = false := decide_eq_false g2
    have g3 : ¬ (100 : Int) < q := by omega
    have g3' : decide ((100 : Int) < q) = false := decide_eq_false g3
    clear hbad
    go_enter Try.func3, Try.ntmps3
    go_upto_region 3 with (go_at_call 5; refine (awake_any _).mono ?_; rintro e w1 ⟨rfl, hb1⟩; have H1 := Lib.hid (H0.out.of_below hb1); have t0 := H1.out.cell 0; have t1 := H1.out.cell 1; simp at t0 t1)
    clear g1 g1' g2 g2' g3 g3' t0 t1 H0
    obtain ⟨b3, hb3⟩ : ∃ b, w.heap.size = b := ⟨_, rfl⟩
    rw [hb3] at H1
    simp only [hb3]
    clear hb3
    go_wp2_with fail
    go_loopg [5, 6] ls.length (LbR ls.length ls b3 p q w)
    case atStart => exact ⟨0, none, 0, rfl, Nat.zero_le _, rfl, rfl, fun i _ h => absurd h (Nat.not_lt_zero _), H1.out.row_nil 33 13⟩
    case round =>
      obtain ⟨k, s5, c5, hg, hk, rfl, rfl, htx, h2⟩ := hrel
      have Hg := Lib.hid hg
      have HT := Lib.hid htx
      have H2 := Lib.hid h2
      clear hg htx h2
      by_cases hkn : k < ls.length
      · have hkI : (k : Int) < (ls.length : Int) := by omega
        obtain ⟨g, off, rfl, -⟩ := HS.out.addr (by omega)
        obtain ⟨x, hx⟩ : ∃ x, ls[k] = x := ⟨_, rfl⟩
        have hxo := hok x (hx ▸ List.getElem_mem hkn)
        have hrg := bx_range (rd_st H2.out HS.out) hkn
        rw [hx] at hrg
        have htx := hrg 9 _ rfl
        have hk1 := wrapS (a := (k : Int) + 1) (by omega) (by omega)
        by_cases hlen : 30 < x.tx.size
        · have hlI : (30 : Int) < (x.tx.size : Int) := by omega
          go_wp2_with fail
          exact bodyPost_ret (results_tmp Try.results3 _ _ _) rfl ⟨rfl, H2.out.bel⟩
        · have hlI : ¬ (30 : Int) < (x.tx.size : Int) := by omega
          have HIT := Lib.hid (fun w => item_any x hxo w)
          have HRG := Lib.hid hrg
          have HX := Lib.hid hx
          clear hrg hx
          go_upto_region 9 with fail
          clear htx
          go_wp2_with (first
            | (refine rg_load rfl (.tmp 47) rfl x.cells HRG.out rfl rfl Try.underlying29 rfl (by kernel_rfl) ?_)
            | (go_at_call 6; refine (HIT.out _).mono ?_; rintro e w3 ⟨rfl, hb3⟩; have H3 := Lib.hid (H2.out.of_below hb3))
            | (refine st_build_row rfl (.tmp 49) rfl H3.out Try.underlying26 zeroIm sizeIm (by omega) (by omega) x.im.cells.toArray rfl (im_one _) rfl ?_; intro W4 g4 h4; have H4 := Lib.hid h4; clear h4)
            | (refine wpList_append_any rfl (.tmp 44) (.tmp 50) 26 rfl elIm s5 _ c5 _ rfl H4.out.swap.sl _ 1 _ _ rfl H4.out.sl.rd (by omega) (by omega) ?_; intro so co w5 p1 p2 p3; have H5 := Lib.hid ((H4.out.swap.row_step p1 p2 p3).swap.drop); clear p1 p2 p3))
          go_roundg (ls.length - (k + 1))
          case measure => have := Hg.out; omega
          case rel =>
            refine ⟨k + 1, so, co, rfl, by omega, rfl, by rw [Int.natCast_add]; rfl, fun i hi hi2 => ?_, ?_⟩
            · by_cases hik : i < k
              · exact HT.out i hi hik
              · have : i = k := by omega
                subst this
                rw [HX.out]
                omega
            · have e : flat Im.cells ((ls.take (k + 1)).map Bx.im) = flat Im.cells ((ls.take k).map Bx.im) ++ x.im.cells := by
                rw [List.take_add_one, List.getElem?_eq_getElem hkn, HX.out]
                simp [flat]
              rw [e]
              exact H5.out
      · have hke : k = ls.length := by omega
        have hkI : ¬ (k : Int) < (ls.length : Int) := by omega
        subst hke
        rw [List.take_length] at H2
        obtain ⟨L, hL⟩ : ∃ L, ls.map Bx.im = L := ⟨_, rfl⟩
        have hLn : L.length = ls.length := by rw [← hL, List.length_map]
        have hLok : ∀ i ∈ L, i.ok := by
          rw [← hL]
          intro i hi
          obtain ⟨b, hb, rfl⟩ := List.mem_map.1 hi
          obtain ⟨j, hj, rfl⟩ := List.getElem_of_mem hb
          exact im_ok _ (hok _ hb) (HT.out j hj hj)
        rw [hL] at H2
        obtain ⟨W, hW⟩ : ∃ W : Nat, (max p 0 + 8 - 1) / 8 = (W : Int) := ⟨((max p 0 + 8 - 1) / 8).toNat, by omega⟩
        obtain ⟨H, hH⟩ : ∃ H : Nat, (max q 0 + 16 - 1) / 16 = (H : Int) := ⟨((max q 0 + 16 - 1) / 16).toNat, by omega⟩
        have hW13 : W ≤ 13 := by omega
        have hH7 : H ≤ 7 := by omega
        have HDR := Lib.hid (fun (w' : World) (hs : Rd w' 13 s5 ls.length (flat Im.cells L)) => show Calls Try.prog 7 #[.slice s5 ls.length c5, .int .i64 p, .int .i64 q] w' (DrP W H L w') by
          have := draw_any L hLok p q W H hp hq hW hH w' (cp := c5) (by rw [hLn]; exact hs) (by omega)
          rwa [hLn] at this)
        have hu1 := fun w => up_any (max p 0) 8 w (by omega) (.inl rfl)
        have hu2 := fun w => up_any (max q 0) 16 w (by omega) (.inr rfl)
        rw [hW] at hu1
        rw [hH] at hu2
        have HU1 := Lib.hid hu1
        have HU2 := Lib.hid hu2
        have HLOK := Lib.hid hLok
        have HLN := Lib.hid hLn
        have m1 : ∀ a b : Int, (if a < b then b else a) = max a b := by intro a b; split <;> omega
        have e1 := wrapS (a := p) (by omega) (by omega)
        have e2 := wrapS (a := q) (by omega) (by omega)
        have e3 := wrapS (a := max p 0) (by omega) (by omega)
        have e4 := wrapS (a := max q 0) (by omega) (by omega)
        have t0 : wr.cell? ⟨b3, 0, none⟩ = some (.int .i8 p) := H2.out.swap.cell 0
        have t1 : wr.cell? ⟨b3, 1, none⟩ = some (.int .i8 q) := H2.out.swap.cell 1
        clear hL hW hH hu1 hu2 hLok hLn HT Hg
        go_upto_region 11 with (go_at_call 7; refine (HDR.out _ H2.out.sl.rd).mono ?_; rintro e w4 ⟨sR, cR, F, rfl, hF, own⟩; have H4 := Lib.hid ((H2.out.own_new own).new (scr W H sR H cR) 37); have HF := Lib.hid hF; clear own hF)
        obtain ⟨W5, hW5⟩ : ∃ V, w4.alloc (.cells (scr W H sR H cR) 37) = V := ⟨_, rfl⟩
        obtain ⟨b7, hb7⟩ : ∃ b, w4.heap.size = b := ⟨_, rfl⟩
        rw [hW5, hb7] at H4
        rw [hW5]
        simp only [hb7]
        clear hW5 hb7 t0 t1
        have t3 := H4.out.blkm (b := b3) (.tail _ (.tail _ (.tail _ (.head _))))
        have t0 : W5.cell? ⟨b3, 0, none⟩ = some (.int .i8 p) := t3.cell 0
        have t1 : W5.cell? ⟨b3, 1, none⟩ = some (.int .i8 q) := t3.cell 1
        clear t3
        go_quiet ((first
          | (go_at_call 8; with_reducible refine Calls.quiet_of_same (HU1.out _))
          | (go_at_call 8; with_reducible refine Calls.quiet_of_same (HU2.out _))))
        have h6 := H4.out.drewN nq
        obtain ⟨W6, hW6⟩ : ∃ V, W5.drewN nq = V := ⟨_, rfl⟩
        rw [hW6] at h6 ⊢
        have H6 : Hid (St w W6 (LlL b7 W H sR cR F s5 ls.length c5 L b3 p q)) := Lib.hid h6
        have k0 : W6.cell? ⟨b7, 0, none⟩ = some (.int .i64 W) := h6.cell 0
        have k1 : W6.cell? ⟨b7, 1, none⟩ = some (.int .i64 H) := h6.cell 1
        have k2 : W6.cell? ⟨b7, 2, none⟩ = some (.slice sR H cR) := h6.cell 2
        clear hW6 h6 t0 t1 e1 e2 e3 e4 m1
        go_wp2_with fail
        go_loopg [10] H (fun g v wr => ∃ r : Nat, g = H - r ∧ r ≤ H ∧ v = .int .i64 r ∧ St w wr (LlL b7 W H sR cR F s5 ls.length c5 L b3 p q))
        case atStart => exact ⟨0, rfl, Nat.zero_le _, rfl, H6.out⟩
        case round =>
          obtain ⟨r, hg, hr, rfl, h7⟩ := hrel
          have Hg := Lib.hid hg
          have H7 := Lib.hid h7
          clear hg h7 k0 k1 k2
          by_cases hrn : r < H
          · have hrI : (r : Int) < (H : Int) := by omega
            have hr1 := wrapS (a := (r : Int) + 1) (by omega) (by omega)
            go_wp2_with fail
            go_loopg [11, 12] W (fun g v11 v12 wr => ∃ c : Nat, g = W - c ∧ c ≤ W ∧ v12 = .int .i64 c ∧ v11 = .string (wantS L r c) ∧ St w wr (LlL b7 W H sR cR F s5 ls.length c5 L b3 p q))
            case atStart => exact ⟨0, rfl, Nat.zero_le _, rfl, rfl, H7.out⟩
            case round =>
              obtain ⟨c, hg2, hc, rfl, rfl, h8⟩ := hrel
              have Hg2 := Lib.hid hg2
              have H8 := Lib.hid h8
              clear hg2 h8
              by_cases hcn : c < W
              · have hcI : (c : Int) < (W : Int) := by omega
                have hc1 := wrapS (a := (c : Int) + 1) (by omega) (by omega)
                have hz1 := wantS_size L r (c + 1)
                rw [wantS_succ, ByteArray.size_append] at hz1
                have hz2 : ¬ (wantS L r c).size + (enc1 (cellR L c r)).size > 9223372036854775807 := by omega
                clear hz1
                have HCE := Lib.hid (fun (w' : World) (hs : Rd w' 13 s5 ls.length (flat Im.cells L)) => show Calls Try.prog 9 #[.slice s5 ls.length c5, .int .i64 (c : Nat), .int .i64 (r : Nat)] w' fun e w'' => e = .returned (.string (enc1 (cellR L c r))) ∧ Below w'.heap.size w' w'' by
                  have := cell_any L HLOK.out c r (by omega) (by omega) w' (cp := c5) (by rw [HLN.out]; exact hs) (by have := HLN.out; omega)
                  rwa [HLN.out] at this)
                go_wp2_with (go_at_call 9; refine (HCE.out _ (H8.out.slm (.tail _ (.tail _ (.head _)))).rd).mono ?_; rintro e w9 ⟨rfl, hb9⟩; have H9 := Lib.hid (H8.out.of_below hb9))
                go_roundg (W - (c + 1))
                case measure => have := Hg2.out; omega
                case rel => exact ⟨c + 1, rfl, by omega, by rw [Int.natCast_add]; rfl, by rw [wantS_succ], H9.out⟩
              · have hce : c = W := by omega
                subst hce
                have hcI : ¬ (c : Int) < (c : Int) := by omega
                obtain ⟨g9, o9, rfl, u9⟩ := (H8.out.slm (.tail _ (.head _))).rd.addr (by omega)
                have u9 := u9 r (.string (strR c F r)) (by simp [strs, List.getElem?_range, hrn])
                obtain ⟨str, hstr⟩ : ∃ v, wantS L r c = v := ⟨_, rfl⟩
                rw [wantS_str (fun c' h => HF.out r c' hrn h)] at u9
                simp only [hstr] at u9 ⊢
                have k2 : wr.cell? ⟨b7, 2, none⟩ = some (.slice (some ⟨g9, o9, none⟩) H cR) := H8.out.cell 2
                clear hstr
                go_wp2_with fail
                go_roundg (H - (r + 1))
                case measure => have := Hg.out; omega
                case rel => exact ⟨r + 1, rfl, by omega, by rw [Int.natCast_add]; rfl, H8.out⟩
          · have hrI : ¬ (r : Int) < (H : Int) := by omega
            go_wp2_with fail
            exact bodyPost_ret (results_tmp Try.results3 _ _ _) rfl ⟨rfl, H7.out.bel⟩
end Go.Proofs.Ytifgjccnhbbadaa
