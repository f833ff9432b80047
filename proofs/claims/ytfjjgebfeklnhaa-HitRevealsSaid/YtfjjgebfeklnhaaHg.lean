/-
  hit.Nodes.
-/
import Derived.Test.YtfjjgebfeklnhaaHe
set_option linter.unusedVariables false
set_option linter.unusedSimpArgs false
namespace Go.Proofs.Ytfjjgebfeklnhaa
open Go.RowKit Go.Shelf Go.K

attribute [local go_sem] Oper.semAt_some

def ndStep (x y : Int) (out : List Int) (g : GI) : List Int := if g.1.nd ≠ 0 ∧ cov g.1.r g.1.c x y = true ∧ out.contains g.1.nd = false then out ++ [g.1.nd] else out
def nds (x y : Int) (pre : List (Int × GI)) : List Int := (pre.map (·.2)).foldl (ndStep x y) []
theorem nds_snoc (x y : Int) (pre : List (Int × GI)) (p : Int × GI) : nds x y (pre ++ [p]) = ndStep x y (nds x y pre) p.2 := by simp [nds]
theorem nds_len (x y : Int) (pre : List (Int × GI)) : (nds x y pre).length ≤ pre.length := by
  have : ∀ (l : List GI) (o : List Int), (l.foldl (ndStep x y) o).length ≤ o.length + l.length := by
    intro l
    induction l with
    | nil => intro o; simp
    | cons g l ih =>
      intro o
      have := ih (ndStep x y o g)
      have h1 : (ndStep x y o g).length ≤ o.length + 1 := by unfold ndStep; split <;> simp
      simp only [List.foldl_cons, List.length_cons]
      omega
  have := this (pre.map (·.2)) []
  simpa [nds] using this
def nodesOf (x y : Int) (ls : List GI) : List Int := ls.reverse.foldl (ndStep x y) []

abbrev NdL (m : Nat) (x y : Int) (s : Option Addr) (n c : Nat) (so : Option Addr) (co : Nat) (O : List Int) : List As :=
  [As.row 3 1 so O.length co (ints O), As.cells (m + 1 + 1) #[.slice so O.length co] 27, As.cells m #[.int .i64 x] 3, As.cells (m + 1) #[.int .i64 y] 3, As.cells (m + 1 + 1 + 1) #[.slice s n c] 25]
theorem ndL_co (m : Nat) (x y : Int) (s : Option Addr) (n c : Nat) (so : Option Addr) (co : Nat) (O : List Int) : ∀ A ∈ NdL m x y s n c so co O, A.co := by
  intro A hA
  simp only [List.mem_cons, List.not_mem_nil, or_false] at hA
  rcases hA with rfl | rfl | rfl | rfl | rfl <;> first | exact As.cells_co _ _ _ | exact As.row_co _ _ _ _ _ _
def NdPost (x y : Int) (ls : List GI) (w : World) (e : Ending) (w' : World) : Prop :=
  ∃ s c, e = .returned (.slice s (nodesOf x y ls).length c) ∧ Below w.heap.size w w' ∧ Rd w' 1 s (nodesOf x y ls).length (ints (nodesOf x y ls)) ∧ ∀ k, rowOf s = some k → w.heap.size ≤ k

set_option maxRecDepth 100000 in
set_option maxHeartbeats 1000000 in
theorem nodes_any (s : Option Addr) (c : Nat) (ls : List GI) (x y : Int) (w : World) (hrd : Rd w 13 s ls.length (flat icells ls)) (hlen : ls.length ≤ 1000000) :
    Calls Try.prog 13 #[.slice s ls.length c, .int .i64 x, .int .i64 y] w (NdPost x y ls w) := by
  have HRD := Lib.hid hrd
  clear hrd
  refine (callsIn_wide (n := 6)).1 ?_
  refine callsIn_of_wp_marks Try.func13 rfl trivial ?_ rfl
  simp only [Try.ntmps13, List.size_toArray, List.length_cons, List.length_nil, Nat.reduceAdd, Nat.reduceSub, Array.replicate_succ, Array.replicate_zero, List.push_toArray, List.append_toArray, List.nil_append, List.cons_append]
  have h0 := (((((St.start w (Below.refl _ w)).new #[.int .i64 x] 3).new #[.int .i64 y] 3).new #[.slice none 0 0] 27).new #[.slice s ls.length c] 25).row_nil 3 1
  have h1 := St.sh [_, _, _, _, _] [0, 2, 4, 3, 1] (by decide) h0
  simp only [List.map_cons, List.map_nil, List.getD_cons_zero, List.getD_cons_succ, List.cons_append, List.nil_append, World.size_alloc] at h1
  gi_wp2_with (refine ⟨trivial, ?_⟩; gi_at_call 29; refine (callsIn_wide.2 (back_any _ _ _ _)).mono ?_; rintro e w' ⟨rfl, rfl⟩)
  obtain ⟨W0, hW0⟩ : ∃ W0, (((w.alloc (.cells #[.int .i64 x] 3)).alloc (.cells #[.int .i64 y] 3)).alloc (.cells #[.slice none 0 0] 27)).alloc (.cells #[.slice s ls.length c] 25) = W0 := ⟨_, rfl⟩
  have hsz : W0.heap.size = w.heap.size + 4 := by rw [← hW0]; simp
  have h2 : St w W0 (NdL w.heap.size x y s ls.length c none 0 []) := by rw [← hW0]; exact h1
  rw [hW0]
  clear h0 h1 hW0
  obtain ⟨m, hm⟩ : ∃ m, w.heap.size = m := ⟨_, rfl⟩
  have hbel := h2.bel
  simp only [World.size_alloc, hm] at h2 hsz ⊢
  refine wpIn_rangeFunc_ownH rfl (by omega) (gf := 41) (lb := #[.pointer (some ⟨m + 1 + 1 + 1, 0, none⟩)]) rfl trivial (enters_of Try.func41 (by kernel_rfl) rfl)
    (bw_stops Fence.wide _ trivial rfl (by omega) (m + 1 + 1 + 1) w.heap.size s c ls hlen W0 w (by omega) (by omega) ((St.sh [_, _, _, _, _] [4, 0, 1, 2, 3] (by decide) h2).cell 0) HRD.out hbel (Nat.le_refl _)) BK.trans (bk_b (by omega) (by omega)) (Below.refl _ _) (fun _ => rfl)
    (fun pre W => ∃ so co, St w W (NdL m x y s ls.length c so co (nds x y pre)))
    (fun _ _ _ => False)
    (fun pre X Y row hs hg hr => by
      obtain ⟨so, co, h3⟩ := hs
      exact ⟨so, co, st_own (β := Unit) (L := fun _ => NdL m x y s ls.length c so co (nds x y pre)) (fun _ => ndL_co _ _ _ _ _ _ _ _ _) (B := W0.heap.size) (by omega) () X Y row h3 hg hr⟩)
    (fun _ _ _ _ _ hs _ _ => hs)
    ⟨none, 0, h2⟩
    (fun x' a' W => ∃ Bx, m + 3 < Bx ∧ Blk W Bx #[.int .i64 x'.2.1.kd, .int .i64 x'.2.1.r.x, .int .i64 x'.2.1.r.y, .int .i64 x'.2.1.r.w, .int .i64 x'.2.1.r.h, .int .i64 x'.2.1.c.x, .int .i64 x'.2.1.c.y, .int .i64 x'.2.1.c.w, .int .i64 x'.2.1.c.h, .string x'.2.1.col, .string x'.2.1.tx, .int .i64 x'.2.1.sz, .int .i64 x'.2.1.nd] 32 ∧ a' = { tmps := #[.slice s ls.length c, .int .i64 x, .int .i64 y, undef, .pointer (some ⟨m, 0, none⟩), .pointer (some ⟨m + 1, 0, none⟩), .slice none 0 0, .pointer (some ⟨m + 1 + 1, 0, none⟩), undef, .pointer (some ⟨Bx, 0, none⟩), .slice s ls.length c, .func (.func 41) #[] #[.pointer (some ⟨m + 1 + 1 + 1, 0, none⟩)], .int .i64 x'.1, iv x'.2.1, undef, undef, undef, undef, undef, undef, undef, undef, undef, undef, undef, undef, undef, undef, undef, undef, undef, undef, undef, undef, undef, undef], defers := [] })
    (fun x' a' => by
      intro _ X Y row hs hg hr
      obtain ⟨Bx, h3, h4, h5⟩ := hs
      exact ⟨Bx, h3, blk_own (β := Unit) Bx (fun _ => #[.int .i64 x'.2.1.kd, .int .i64 x'.2.1.r.x, .int .i64 x'.2.1.r.y, .int .i64 x'.2.1.r.w, .int .i64 x'.2.1.r.h, .int .i64 x'.2.1.c.x, .int .i64 x'.2.1.c.y, .int .i64 x'.2.1.c.w, .int .i64 x'.2.1.c.h, .string x'.2.1.col, .string x'.2.1.tx, .int .i64 x'.2.1.sz, .int .i64 x'.2.1.nd]) 32 W0.heap.size () X Y row h4 hg hr, h5⟩)
    ?assign ?body ?done ?stop
  case assign =>
    rintro l pre x' W K ⟨so, co, hst⟩ hK
    gi_wp2
    have hs1 := hst.bel.size
    have hlt := (St.sh [_, _, _, _, _] [4, 0, 1, 2, 3] (by decide) hst).blk.1.lt
    exact hK _ _ ((KeepsOthers.alloc _ _).from _) (BK.below ((Below.refl _ W).alloc (Nat.le_refl _) _) hlt hs1) ⟨so, co, hst.alloc _⟩ ⟨W.heap.size, by omega, Blk.new W _ _, rfl⟩
  case body =>
    rintro l pre x' a' W hl ⟨r, hr⟩ ⟨so, co, hst⟩ ⟨Bx, hBx, bX, rfl⟩ hlt
    obtain ⟨xi, xg⟩ := x'
    simp only at bX ⊢
    have hol := nds_len x y pre
    have HSN := Lib.hid (nds_snoc x y pre (xi, xg))
    obtain ⟨O, hO⟩ : ∃ O, nds x y pre = O := ⟨_, rfl⟩
    rw [hO] at hst hol HSN
    obtain ⟨cv, hcv⟩ : ∃ cv, cov xg.1.r xg.1.c x y = cv := ⟨_, rfl⟩
    obtain ⟨cn, hcn⟩ : ∃ cn, O.contains xg.1.nd = cn := ⟨_, rfl⟩
    have HCV := Lib.hid hcv
    have HC := Lib.hid hcn
    have HST := Lib.hid hst
    have HBX := Lib.hid bX
    have HOO := Lib.hid hO
    obtain ⟨k0, k1, k2, k3, k4, k5, k6, k7, k8, k9, k10, k11, k12, -⟩ := blk13 bX
    obtain ⟨cX, -⟩ := (hst.blkm (b := m) (.tail _ (.tail _ (.head _)))).one
    obtain ⟨cY, -⟩ := (hst.blkm (b := m + 1) (.tail _ (.tail _ (.tail _ (.head _))))).one
    obtain ⟨cO, -⟩ := (hst.blkm (b := m + 1 + 1) (.tail _ (.head _))).one
    have hltB := (St.sh [_, _, _, _, _] [4, 0, 1, 2, 3] (by decide) hst).blk.1.lt
    clear hst hcv hcn bX hO
    by_cases hnd : xg.1.nd = 0
    · have hnd' : (xg.1.nd == 0) = true := by simp [hnd]
      gi_wp2
      refine ⟨trivial, ?_⟩
      gi_wp2
      refine ⟨trivial, ?_⟩
      gi_wp2
      have he := HSN.out
      unfold ndStep at he
      rw [if_neg (by simp [hnd])] at he
      exact ⟨KeepsFrom.refl _ _, BK.refl _ _ _, so, co, by rw [he]; exact HST.out⟩
    · have hnd' : (xg.1.nd == 0) = false := by simp [hnd]
      have HND := Lib.hid hnd
      clear hnd
      cases cv with
      | false =>
        gi_wp2_with (refine ⟨trivial, ?_⟩; gi_at_call 30; refine (CallsIn.inRound l (callsIn_wide.2 (covers_c (r := false) _ xg.2.1 xg.2.2 HCV.out))).mono ?_; rintro e w2 ⟨rfl, hb2⟩; have HST2 := Lib.hid (HST.out.of_below hb2); have HBX2 := Lib.hid (HBX.out.kept (S := fun _ => False) (Fr.of_below hb2) (fun q => q)); have hkf := Lib.hid (keepsFrom_below hb2 W0.heap.size); have hbk := Lib.hid (BK.below hb2 hltB HST.out.bel.size); have HB2 := Lib.hid hb2; clear k0 k1 k2 k3 k4 k5 k6 k7 k8 k9 k10 k11 k12 cX cY cO hb2; obtain ⟨k0, k1, k2, k3, k4, k5, k6, k7, k8, k9, k10, k11, k12, -⟩ := blk13 HBX2.out; obtain ⟨cO, fO⟩ := (HST2.out.blkm (b := m + 1 + 1) (.tail _ (.head _))).one)
        refine ⟨trivial, ?_⟩
        gi_wp2
        have he := HSN.out
        unfold ndStep at he
        rw [if_neg (by simp [HCV.out])] at he
        exact ⟨hkf.out, hbk.out, so, co, by rw [he]; exact HST2.out⟩
      | true =>
        cases cn with
        | true =>
          gi_wp2_with (first | (refine ⟨trivial, ?_⟩; gi_at_call 30; refine (CallsIn.inRound l (callsIn_wide.2 (covers_c (r := true) _ xg.2.1 xg.2.2 HCV.out))).mono ?_; rintro e w2 ⟨rfl, hb2⟩; have HST2 := Lib.hid (HST.out.of_below hb2); have HBX2 := Lib.hid (HBX.out.kept (S := fun _ => False) (Fr.of_below hb2) (fun q => q)); have hkf := Lib.hid (keepsFrom_below hb2 W0.heap.size); have hbk := Lib.hid (BK.below hb2 hltB HST.out.bel.size); have HB2 := Lib.hid hb2; clear k0 k1 k2 k3 k4 k5 k6 k7 k8 k9 k10 k11 k12 cX cY cO hb2; obtain ⟨k0, k1, k2, k3, k4, k5, k6, k7, k8, k9, k10, k11, k12, -⟩ := blk13 HBX2.out; obtain ⟨cO, fO⟩ := (HST2.out.blkm (b := m + 1 + 1) (.tail _ (.head _))).one) | (refine ⟨trivial, ?_⟩; gi_at_call 31; refine (CallsIn.inRound l (callsIn_wide.2 (contains_any so co O xg.1.nd _ HST2.out.sl.rd (by omega)))).mono ?_; rintro e w3 ⟨rfl, rfl⟩; rw [HC.out]))
          have he := HSN.out
          unfold ndStep at he
          rw [if_neg (by rw [HC.out]; simp)] at he
          exact ⟨hkf.out, hbk.out, so, co, by rw [he]; exact HST2.out⟩
        | false =>
          gi_wp2_with (first | (refine ⟨trivial, ?_⟩; gi_at_call 30; refine (CallsIn.inRound l (callsIn_wide.2 (covers_c (r := true) _ xg.2.1 xg.2.2 HCV.out))).mono ?_; rintro e w2 ⟨rfl, hb2⟩; have HST2 := Lib.hid (HST.out.of_below hb2); have HBX2 := Lib.hid (HBX.out.kept (S := fun _ => False) (Fr.of_below hb2) (fun q => q)); have hkf := Lib.hid (keepsFrom_below hb2 W0.heap.size); have hbk := Lib.hid (BK.below hb2 hltB HST.out.bel.size); have HB2 := Lib.hid hb2; clear k0 k1 k2 k3 k4 k5 k6 k7 k8 k9 k10 k11 k12 cX cY cO hb2; obtain ⟨k0, k1, k2, k3, k4, k5, k6, k7, k8, k9, k10, k11, k12, -⟩ := blk13 HBX2.out; obtain ⟨cO, fO⟩ := (HST2.out.blkm (b := m + 1 + 1) (.tail _ (.head _))).one) | (refine ⟨trivial, ?_⟩; gi_at_call 31; refine (CallsIn.inRound l (callsIn_wide.2 (contains_any so co O xg.1.nd _ HST2.out.sl.rd (by omega)))).mono ?_; rintro e w3 ⟨rfl, rfl⟩; rw [HC.out]) | (gi_at_builtin; refine wpListIn_append_any rfl (.tmp 30) (.tmp 33) 27 rfl elI so _ co _ rfl (HST2.out.sl.alloc _) _ 1 _ _ rfl (rd_built_at _ #[.int .i64 xg.1.nd] 3 1 1 _ rfl rfl (by simp [Value.oneCell'])) (by omega) (by omega) ?_; intro so' co' w4 p1 p2 p3; have H4 := Lib.hid ((HST2.out.alloc _).row_step p1 p2 p3); have P2 := Lib.hid p2; clear p1 p2 p3 cO fO; obtain ⟨cO, fO⟩ := (H4.out.blkm (b := m + 1 + 1) (.tail _ (.head _))).one))
          have H5 := H4.out.swap.set 0 (.slice so' (O.length + 1) co')
          have he := HSN.out
          unfold ndStep at he
          rw [if_pos ⟨HND.out, HCV.out, HC.out⟩] at he
          have hrb := HST2.out.row_blk
          have hfr : Fr (fun k => rowOf so = some k ∨ k = m + 1 + 1) w3 (w4.setCell ⟨m + 1 + 1, 0, none⟩ (.slice so' (O.length + 1) co')) := by
            refine Fr.setCell (Fr.trans (((Fr.refl (fun k => rowOf so = some k ∨ k = m + 1 + 1) w3).alloc (.cells #[.int .i64 xg.1.nd] 3))) P2.out (fun k _ q => .inl q)) (fun _ => .inr rfl) _
          have hcell : ∀ k, k < w3.heap.size → (rowOf so = some k ∨ k = m + 1 + 1) → ∃ o : Obj, w3.heap[k]? = some o ∧ o.isCells = true := by
            rintro k _ (q | rfl)
            · exact (hrb k q).1
            · exact ⟨_, HST2.out.blkm (b := m + 1 + 1) (.tail _ (.head _)), rfl⟩
          have hlt2 := (St.sh [_, _, _, _, _] [4, 0, 1, 2, 3] (by decide) HST2.out).blk.1.lt
          have hkf' := hkf.out
          have hbk' := hbk.out
          rw [hsz] at hkf'
          rw [hm] at hbk'
          refine ⟨hkf'.trans (keepsFrom_fr hfr hcell _), hbk'.trans ⟨hfr.below (by have := HST2.out.bel.size; omega) ?_, hfr.block _ hlt2 ?_⟩, so', co', ?_⟩
          · rintro k _ (q | rfl)
            · have := (hrb k q).2.1; omega
            · omega
          · rintro (q | q)
            · exact (hrb _ q).2.2 (m + 1 + 1 + 1) _ _ (.tail _ (.tail _ (.tail _ (.head _)))) rfl
            · omega
          · rw [he]
            have h6 := H5.swap
            simpa [NdL, ints] using h6
  case done =>
    rintro D ys W hD rfl ⟨so, co, hst⟩ hK
    obtain ⟨cO, -⟩ := (hst.blkm (b := m + 1 + 1) (.tail _ (.head _))).one
    have HST := Lib.hid hst
    have HK := Lib.hid hK
    clear hst hK
    gi_wp2
    refine ⟨by simp, .inl ⟨_, _, rfl, run_takeDeferred HK.out, ?_⟩⟩
    have h6 := st_put (ndL_co m x y s ls.length c so co _) HST.out (D := D) (by omega) HK.out rfl (.deferred none)
    have hno : nds x y (upto (bk ls) ls.length) = nodesOf x y ls := by
      unfold nds nodesOf; rw [bk_upto]
    rw [hno] at h6 ⊢
    exact ⟨_, results_tmp rfl _ _ _, so, co, rfl, h6.bel, h6.sl.rd, fun k hk => (h6.row_blk k hk).2.1⟩
  case stop =>
    rintro D c' pre W hD _ h
    exact h.elim
end Go.Proofs.Ytfjjgebfeklnhaa
