/-
  Take of the chapter's loop: the loop over the tasks.
-/
import Derived.Test.YtnamkckpgaopkaaYh
set_option linter.unusedVariables false
set_option linter.unusedSimpArgs false
namespace Go.Proofs.Ytnamkckpgaopkaa
open Go.RowKit Go.K
set_option maxRecDepth 100000 in
set_option maxHeartbeats 4000000 in
theorem take_loop2 {w0 W4 : World} {L : List As} {b m : Nat} {R0 : RL} {u1 u3 u4 u5 u6 u7 u8 u9 u10 u11 u12 u13 u14 u15 u16 u17 u18 u19 u20 u21 u22 u23 u24 u25 u26 u27 u28 u29 u30 u31 u32 u33 u34 u35 u36 u37 u38 u39 u40 u41 u42 u43 u44 u45 u46 u47 u48 u49 u50 u51 u52 u53 u54 u55 u56 u57 u58 u59 u60 u61 u62 u63 u64 u65 u66 u67 u68 u69 u70 u71 u72 u73 u74 u75 u76 u77 u78 u79 u80 u81 u82 u83 u84 u85 u86 u87 u88 u89 u90 u91 u92 u93 u94 u95 u96 u97 u98 u99 u100 u101 u102 u103 u104 u105 u106 u107 u108 u109 u110 u111 u112 u113 u114 u115 u116 u117 u118 u119 u120 u121 u122 u123 u124 u125 u126 u127 u128 u129 u130 u131 u132 u133 u134 u135 u136 u137 u138 u139 u140 u141 u142 u143 u144 u145 u146 u147 u148 u149 u150 u151 u152 u153 u154 u155 u156 u157 u158 u159 u160 u161 u162 u163 u164 u165 u166 u167 u168 u169 u170 u171 u172 u173 u174 u175 u176 u177 u178 u179 u180 u181 u182 u183 u184 u185 u186 u187 u188 u189 u190 u191 u192 u193 u194 u195 u196 u197 u198 u199 u200 u201 u202 u203 u204 u205 u206 u207 u208 u209 u210 u211 u212 u213 u214 u215 u216 u217 u218 u219 u220 u221 u222 u223 u224 u225 u226 u227 u228 u229 u230 u231 u232 u233 u234 u235 u236 u237 u238 u239 u240 u241 u242 u243 u244 u245 u246 u247 u248 u249 u250 u251 u252 u253 : Value} (hB : RBn R0) (h : St w0 W4 (As.cells m (tk 0 0 0 0 none 0 0).toArray 77 :: rlO b R0 :: L)) :
    Code.wp Try.prog takeLoop2 (bodyPost Try.prog Try.f22 (RTkP R0 b w0 L)) { tmps := #[.pointer (some ⟨b, 0, none⟩), u1, .pointer (some ⟨m, 0, none⟩), u3, u4, u5, u6, u7, u8, u9, u10, u11, u12, u13, u14, u15, u16, u17, u18, u19, u20, u21, u22, u23, u24, u25, u26, u27, u28, u29, u30, u31, u32, u33, u34, u35, u36, u37, u38, u39, u40, u41, u42, u43, u44, u45, u46, u47, u48, u49, u50, u51, u52, u53, u54, u55, u56, u57, u58, u59, u60, u61, u62, u63, u64, u65, u66, u67, u68, u69, u70, u71, u72, u73, u74, u75, u76, u77, u78, u79, u80, u81, u82, u83, u84, u85, u86, u87, u88, u89, u90, u91, u92, u93, u94, u95, u96, u97, u98, u99, u100, u101, u102, u103, u104, u105, u106, u107, u108, u109, u110, u111, u112, u113, u114, u115, u116, u117, u118, u119, u120, u121, u122, u123, u124, u125, u126, u127, u128, u129, u130, u131, u132, u133, u134, u135, u136, u137, u138, u139, u140, u141, u142, u143, u144, u145, u146, u147, u148, u149, u150, u151, u152, u153, u154, u155, u156, u157, u158, u159, u160, u161, u162, u163, u164, u165, u166, u167, u168, u169, u170, u171, u172, u173, u174, u175, u176, u177, u178, u179, u180, u181, u182, u183, u184, u185, u186, u187, u188, u189, u190, u191, u192, u193, u194, u195, u196, u197, u198, u199, u200, u201, u202, u203, u204, u205, u206, u207, u208, u209, u210, u211, u212, u213, u214, u215, u216, u217, u218, u219, u220, u221, u222, u223, u224, u225, u226, u227, u228, u229, u230, u231, u232, u233, u234, u235, u236, u237, u238, u239, u240, u241, u242, u243, u244, u245, u246, u247, u248, u249, u250, u251, u252, u253], defers := [] } W4 := by
  have H6 := Lib.hid h
  have HB2 := Lib.hid hB
  clear h hB
  obtain ⟨Q, hQ⟩ : ∃ Q, bodyPost Try.prog Try.f22 (RTkP R0 b w0 L) = Q := ⟨_, rfl⟩
  rw [hQ]
  simp only [takeLoop2, Try.f22, Option.getD_some, cSnd]
  rw [← hQ]
  clear hQ
  go_wp2_with fail
  go_loopg [] R0.tasks.length (LR2 R0 b m w0 L)
  case atStart => exact ⟨R0, rfl, fun R' d h => h, HB2.out, H6.out⟩
  case round =>
    obtain ⟨R2, hg, hr2, hB2, h1⟩ := hrel
    have Hg := Lib.hid hg
    have HR2 := Lib.hid hr2
    have HB := Lib.hid hB2
    have H1 := Lib.hid h1
    clear hg hr2 hB2 h1 H6 HB2
    go_upto_region 16 with (go_at_call 49; refine (rchoose_st H1.out.swap (by have := HB.out.t; omega)).mono ?_; rintro e w2 ⟨rfl, rfl⟩)
    obtain ⟨C, hC⟩ : ∃ C, chooseR R2 = C := ⟨_, rfl⟩
    rw [hC]
    have HC := Lib.hid hC
    by_cases hC0 : C < 0
    · have b0 : decide (C < 0) = true := by simpa using hC0
      have HN := Lib.hid (show chooseR R2 < 0 from by rw [hC]; exact hC0)
      clear hC0 hC
      go_wp2_with (first
        | (refine st_store rfl (.tmp 2) (.tmp 117) rfl H1.out (tk 0 0 0 0 none 0 0) rfl rfl rfl rfl size77 (tk_one _ _ _ _ _ _ _) ?_; intro W31 HW31; have H31 := Lib.hid HW31; clear HW31)
        | fail)
      refine bodyPost_ret (results_cell_row (P := Try.prog) Try.results22 _ _ m 77 (tk 0 0 0 0 none 0 0).toArray _ _ rfl H31.out.blk.1 Try.underlying77 rfl size77) rfl ?_
      exact ⟨_, ⟨0, 0, 0, 0⟩, rfl, HR2.out _ _ (.none HN.out), H31.out.drop⟩
    · obtain ⟨k, hk, hkl⟩ := choose_lt (R := R2) (by rw [hC]; exact hC0)
      rw [hk] at hC
      subst hC
      clear HC hC0
      have HK := Lib.hid hk
      obtain ⟨p, h2⟩ := rl_open H1.out.swap
      have H3 := Lib.hid h2
      obtain ⟨c7, -⟩ := rl_s h2
      obtain ⟨g, off, hga, hrd⟩ := rt_at2 h2 k hkl
      rw [hga] at c7
      obtain ⟨d0, d1, d2, d3⟩ := rt_cells hrd hkl
      obtain ⟨t, ht⟩ : ∃ t, R2.tasks[k] = t := ⟨_, rfl⟩
      have HT := Lib.hid ht
      have HT2 := Lib.hid (show R2.tasks[k]? = some t from by rw [List.getElem?_eq_getElem hkl, ht])
      rw [ht] at d0 d1 d2 d3
      have hkn : (k : Int) < (R2.tasks.length : Int) := by omega
      have hgl := World.block_lt_of_cell? _ _ d0
      clear hrd h2 ht hk
      go_upto_region 19 with fail
      have h4 := rl_in (H3.out.new t.cells.toArray 109)
      obtain ⟨m7, hm7⟩ : ∃ m7, wr.heap.size = m7 := ⟨_, rfl⟩
      obtain ⟨W8, hW8⟩ : ∃ W8, wr.alloc (.cells #[.int .i64 t.src, .int .i64 t.ord, .int .i64 t.k, .int .i64 t.n] 109) = W8 := ⟨_, rfl⟩
      have H4x := Lib.hid (show St w0 W8 (rlL b R2 p ++ (As.cells m7 t.cells.toArray 109 :: As.cells m (tk 0 0 0 0 none 0 0).toArray 77 :: L)) from by rw [← hW8, ← hm7]; exact h4)
      rw [hW8]
      try simp only [hm7]
      clear h4 hm7 hW8 c7 d0 d1 d2 d3 hga hgl hkn H3 H1
      have H2 := Lib.hid (foc_rrt (show St w0 W8.drew _ from H4x.out.drew))
      unfold rrt at H2
      obtain ⟨n, hl⟩ : ∃ n, R2.tasks.length = n := ⟨_, rfl⟩
      obtain ⟨M, hM⟩ : ∃ M, R2.tasks = M := ⟨_, rfl⟩
      have H2 := Lib.hid (show St w0 W8.drew (As.cells b (rlc R2 p) 69 :: As.row 109 4 (p 0).1 n (p 0).2 (flat RT.cells M) :: (rst_rrt R2 p ++ (As.cells m7 t.cells.toArray 109 :: As.cells m (tk 0 0 0 0 none 0 0).toArray 77 :: L))) from by rw [← hl, ← hM]; exact H2.out)
      rw [hl] at hkl
      have hkn := hkl
      have hn : n ≤ 100000 := by rw [← hl]; have := HB.out.t; omega
      have HMR := Lib.hid hM
      have HL := Lib.hid (show M.length = n by rw [← hM]; exact hl)
      have HLR := Lib.hid hl
      clear hl hM
      have hlt := H2.out.blk.1.lt
      have hSl := H2.out.swap.sl
      obtain ⟨sa, hra, hA⟩ := hSl.cut_h elRT k (by omega)
      obtain ⟨sb, hrb, hB⟩ := hSl.cut_l elRT (k + 1) (by omega)
      rw [rt_take] at hA
      rw [rt_drop] at hB
      push_cast at hrb
      have RA := Lib.hid hA
      have RB := Lib.hid hB
      have c9 : W8.drew.cell? ⟨b, 7, none⟩ = some (.slice (p 0).1 n (p 0).2) := by rw [H2.out.blk.1.cell, ← HLR.out]; rfl
      have KP := Lib.hid (show ∀ w', Below W8.drew.heap.size W8.drew w' → (fun w' : World => w'.cell? ⟨b, 7, none⟩ = some (.slice (p 0).1 n (p 0).2)) w' from fun w' h => (h.cell hlt).trans c9)
      have hS : (fun w' : World => w'.cell? ⟨b, 7, none⟩ = some (.slice (p 0).1 n (p 0).2)) W8.drew := c9
      have hw1 : IntKind.i64.wrap ((k : Int) + 1) = (k : Int) + 1 := by rw [IntKind.wrap_i64]; omega
      have hk1 : (((k + 1 : Nat) : Int)) = (k : Int) + 1 := by omega
      clear hA hB c9 hSl
      refine wpLast.region (S := (fun w' : World => w'.cell? ⟨b, 7, none⟩ = some (.slice (p 0).1 n (p 0).2))) (c := 19) (by kernel_rfl) ?_
      refine' wpLast.take (i := 0) (v := _) rfl (by kernel_rfl) (fun _ _ _ h => h) (by kernel_rfl) _ _ _ _ (by kernel_rfl) (by kernel_rfl) (Or.inl ⟨by rfl, ?hy0⟩) hS ?rest0
      case hy0 => (intro w' hSw; obtain k9 := hSw; go_simp; try with_reducible rfl)
      try (first | rw [Go.put_some] | rw [Go.put_none])
      try dsimp only [List.set_cons_zero, List.set_cons_succ]
      refine' wpLast.take (i := 2) (v := _) rfl (by kernel_rfl) (fun _ _ _ h => h) (by kernel_rfl) _ _ _ _ (by kernel_rfl) (by kernel_rfl) (Or.inl ⟨by rfl, ?hy2⟩) hS ?rest2
      case hy2 => (intro w' hSw; obtain k9 := hSw; go_simp; try with_reducible rfl)
      try (first | rw [Go.put_some] | rw [Go.put_none])
      try dsimp only [List.set_cons_zero, List.set_cons_succ]
      refine' wpLast.take (i := 3) (v := _) rfl (by kernel_rfl) (fun _ _ _ h => h) (by kernel_rfl) _ _ _ _ (by kernel_rfl) (by kernel_rfl) (Or.inl ⟨by rfl, ?hy3⟩) hS ?rest3
      case hy3 => (intro w' hSw; obtain k9 := hSw; go_simp; try with_reducible rfl)
      try (first | rw [Go.put_some] | rw [Go.put_none])
      try dsimp only [List.set_cons_zero, List.set_cons_succ]
      refine' wpLast.take (i := 4) (v := _) rfl (by kernel_rfl) (fun _ _ _ h => h) (by kernel_rfl) _ _ _ _ (by kernel_rfl) (by kernel_rfl) (Or.inl ⟨by rfl, ?hy4⟩) hS ?rest4
      case hy4 => (intro w' hSw; obtain k9 := hSw; go_simp; try with_reducible rfl)
      try (first | rw [Go.put_some] | rw [Go.put_none])
      try dsimp only [List.set_cons_zero, List.set_cons_succ]
      refine' wpLast.take (i := 5) (v := _) rfl (by kernel_rfl) (fun _ _ _ h => h) (by kernel_rfl) _ _ _ _ (by kernel_rfl) (by kernel_rfl) (Or.inl ⟨by rfl, ?hy5⟩) hS ?rest5
      case hy5 => (intro w' hSw; obtain k9 := hSw; go_simp; try with_reducible rfl)
      try (first | rw [Go.put_some] | rw [Go.put_none])
      try dsimp only [List.set_cons_zero, List.set_cons_succ]
      refine' wpLast.take (i := 6) (v := _) rfl (by kernel_rfl) (fun _ _ _ h => h) (by kernel_rfl) _ _ _ _ (by kernel_rfl) (by kernel_rfl) (Or.inl ⟨by rfl, ?hy6⟩) hS ?rest6
      case hy6 => (intro w' hSw; obtain k9 := hSw; go_simp; try with_reducible rfl)
      try (first | rw [Go.put_some] | rw [Go.put_none])
      try dsimp only [List.set_cons_zero, List.set_cons_succ]
      refine' wpLast.take (i := 7) (v := _) rfl (by kernel_rfl) (fun _ _ _ h => h) (by kernel_rfl) _ _ _ _ (by kernel_rfl) (by kernel_rfl) (Or.inl ⟨by rfl, ?hy7⟩) hS ?rest7
      case hy7 => (intro w' hSw; obtain k9 := hSw; go_simp; try with_reducible rfl)
      try (first | rw [Go.put_some] | rw [Go.put_none])
      try dsimp only [List.set_cons_zero, List.set_cons_succ]
      refine' wpLast.take (i := 9) (v := _) rfl (by kernel_rfl) (fun _ _ _ h => h) (by kernel_rfl) _ _ _ _ (by kernel_rfl) (by kernel_rfl) (Or.inl ⟨by rfl, ?hy9⟩) hS ?rest9
      case hy9 => (intro w' hSw; obtain k9 := hSw; go_simp; try with_reducible rfl)
      try (first | rw [Go.put_some] | rw [Go.put_none])
      try dsimp only [List.set_cons_zero, List.set_cons_succ]
      refine' wpLast.take (i := 10) (v := _) rfl (by kernel_rfl) (fun _ _ _ h => h) (by kernel_rfl) _ _ _ _ (by kernel_rfl) (by kernel_rfl) (Or.inl ⟨by rfl, ?hy10⟩) hS ?rest10
      case hy10 => (intro w' hSw; obtain k9 := hSw; go_simp; try with_reducible rfl)
      try (first | rw [Go.put_some] | rw [Go.put_none])
      try dsimp only [List.set_cons_zero, List.set_cons_succ]
      refine' wpLast.take (i := 11) (v := _) rfl (by kernel_rfl) (fun _ _ _ h => h) (by kernel_rfl) _ _ _ _ (by kernel_rfl) (by kernel_rfl) (Or.inl ⟨by rfl, ?hy11⟩) hS ?rest11
      case hy11 => (intro w' hSw; obtain k9 := hSw; go_simp; try with_reducible rfl)
      try (first | rw [Go.put_some] | rw [Go.put_none])
      try dsimp only [List.set_cons_zero, List.set_cons_succ]
      refine' wpLast.take (i := 12) (v := _) rfl (by kernel_rfl) (fun _ _ _ h => h) (by kernel_rfl) _ _ _ _ (by kernel_rfl) (by kernel_rfl) (Or.inl ⟨by rfl, ?hy12⟩) hS ?rest12
      case hy12 => (intro w' hSw; obtain k9 := hSw; go_simp; try with_reducible rfl)
      try (first | rw [Go.put_some] | rw [Go.put_none])
      try dsimp only [List.set_cons_zero, List.set_cons_succ]
      refine' wpLast.take (i := 13) (v := _) rfl (by kernel_rfl) (fun _ _ _ h => h) (by kernel_rfl) _ _ _ _ (by kernel_rfl) (by kernel_rfl) (Or.inl ⟨by rfl, ?hy13⟩) hS ?rest13
      case hy13 => (intro w' hSw; obtain k9 := hSw; go_simp; try with_reducible rfl)
      try (first | rw [Go.put_some] | rw [Go.put_none])
      try dsimp only [List.set_cons_zero, List.set_cons_succ]
      refine' wpLast.take (i := 14) (v := _) rfl (by kernel_rfl) (fun _ _ _ h => h) (by kernel_rfl) _ _ _ _ (by kernel_rfl) (by kernel_rfl) (Or.inl ⟨by rfl, ?hy14⟩) hS ?rest14
      case hy14 => (intro w' hSw; obtain k9 := hSw; go_simp; try with_reducible rfl)
      try (first | rw [Go.put_some] | rw [Go.put_none])
      try dsimp only [List.set_cons_zero, List.set_cons_succ]
      refine' wpLast.take (i := 15) (v := _) rfl (by kernel_rfl) (fun _ _ _ h => h) (by kernel_rfl) _ _ _ _ (by kernel_rfl) (by kernel_rfl) (Or.inl ⟨by rfl, ?hy15⟩) hS ?rest15
      case hy15 => (intro w' hSw; obtain k9 := hSw; go_simp; try with_reducible rfl)
      try (first | rw [Go.put_some] | rw [Go.put_none])
      try dsimp only [List.set_cons_zero, List.set_cons_succ]
      refine wpLast.one (i := 1) rfl (by kernel_rfl) ?_
      intro K' hK; have HK' := Lib.hid hK; clear hK
      go_simp
      have o0 := Own.fresh (Below.refl W8.drew.heap.size W8.drew) 109 4
      have hS2 := KP.out _ o0.bel
      refine HK'.out _ _ ⟨fun _ => hS2, ?_⟩
      clear HK' K'
      try (first | rw [Go.put_some] | rw [Go.put_none])
      try dsimp only [List.set_cons_zero, List.set_cons_succ]
      refine wpLast.one (i := 8) rfl (by kernel_rfl) ?_
      intro K' hK; have HK' := Lib.hid hK; clear hK
      refine step_append_own (by rfl) _ _ 66 (by rfl) elRT _ 0 0 [] (by rfl) o0 sa k (p 0).2 _ (by rfl) (RA.out.1.below o0.bel).rd (by omega) (by omega) ?_
      intro s1 c1 w2 o1 f1 n1
      have hS3 := KP.out _ o1.bel
      refine HK'.out _ _ ⟨fun _ => hS3, ?_⟩
      clear HK' K' f1 n1
      try (first | rw [Go.put_some] | rw [Go.put_none])
      try dsimp only [List.set_cons_zero, List.set_cons_succ]
      refine wpLast.one (i := 16) rfl (by kernel_rfl) ?_
      intro K' hK; have HK' := Lib.hid hK; clear hK
      refine step_append_own (by rfl) _ _ 66 (by rfl) elRT _ _ _ _ (by rfl) o1 sb (n - (k + 1)) ((p 0).2 - (k + 1)) _ (by rfl) (RB.out.1.below o1.bel).rd (by omega) (by omega) ?_
      intro s2 c2 w3 o3 f2 n2
      have hS4 := KP.out _ o3.bel
      have hsz : 0 + k + (n - (k + 1)) = n - 1 := by omega
      have he : [] ++ flat RT.cells (M.take k) ++ flat RT.cells (M.drop (k + 1)) = flat RT.cells (M.eraseIdx k) := by rw [flat_erase]; rfl
      rw [hsz, he] at o3
      simp only [hsz]
      have H4 := Lib.hid (H2.out.own_new o3).swap
      have kf := H4.out.free 7
      refine HK'.out _ _ ⟨fun _ => hS4, ?_⟩
      clear HK' K' f2 n2
      try (first | rw [Go.put_some] | rw [Go.put_none])
      try dsimp only [List.set_cons_zero, List.set_cons_succ]
      refine wpLast.one (i := 17) rfl (by kernel_rfl) ?_
      intro K' hK; have HK' := Lib.hid hK; clear hK
      go_simp
      refine HK'.out _ _ ⟨fun _ => hS4, ?_⟩
      clear HK' K'
      try (first | rw [Go.put_some] | rw [Go.put_none])
      try dsimp only [List.set_cons_zero, List.set_cons_succ]
      refine wpLast.one (i := 18) rfl (by kernel_rfl) ?_
      intro K' hK; have HK' := Lib.hid hK; clear hK
      go_simp
      refine HK'.out _ _ ⟨fun _ => hS4, ?_⟩
      clear HK' K'
      try (first | rw [Go.put_some] | rw [Go.put_none])
      try dsimp only [List.set_cons_zero, List.set_cons_succ]
      refine wpLast.one (i := 19) rfl (by kernel_rfl) ?_
      intro K' hK; have HK' := Lib.hid hK; clear hK
      go_simp
      refine HK'.out _ _ ⟨fun h => absurd rfl h, ?_⟩
      clear HK' K'
      try (first | rw [Go.put_some] | rw [Go.put_none])
      try dsimp only [List.set_cons_zero, List.set_cons_succ]
      refine wpLast.done (by kernel_rfl) ?_
      have h7 := H4.out.set 7 (.slice s2 (n - 1) c2)
      obtain ⟨W7, hW7⟩ : ∃ W7, w3.setCell ⟨b, 7, none⟩ (.slice s2 (n - 1) c2) = W7 := ⟨_, rfl⟩
      rw [hW7] at h7
      rw [hW7]
      have H7 := Lib.hid (St.sh [_, _, _] [2, 0, 1] (by decide) h7).drop
      clear hW7 h7 kf hra hrb
      have h8 := unf_rrt (n := n - 1) (M.eraseIdx k) (by rw [List.length_eraseIdx_of_lt (by rw [HL.out]; exact hkn), HL.out]) H7.out
      obtain ⟨p2, hp2⟩ : ∃ p2, upd p 0 (s2, c2) = p2 := ⟨_, rfl⟩
      rw [hp2] at h8
      have H9 := Lib.hid h8
      clear h8 hp2 H7 H2 H4x
      try clear HK' K'
      obtain ⟨-, -, -, -, -, c5, -⟩ := rl_c H9.out
      have f5 := H9.out.free 5
      have hw1 : IntKind.i64.wrap (R2.users + 1) = R2.users + 1 := by rw [IntKind.wrap_i64]; have := HB.out.us0; have := HB.out.us1; omega
      simp only at c5
      go_upto_region 21 with fail
      have h10 := H9.out.set 5 (.int .i64 (R2.users + 1))
      obtain ⟨W10, hW10⟩ : ∃ W10, W7.setCell ⟨b, 5, none⟩ (.int .i64 (R2.users + 1)) = W10 := ⟨_, rfl⟩
      rw [hW10] at h10
      rw [hW10]
      rw [rset_users] at h10
      have H10 := Lib.hid (show St w0 W10 (rlL b { R2 with tasks := M.eraseIdx k, users := R2.users + 1 } p2 ++ (As.cells m7 t.cells.toArray 109 :: As.cells m (tk 0 0 0 0 none 0 0).toArray 77 :: L)) from h10)
      clear h10 hW10 c5 f5 H9 hw1
      have hb7 := (rl_out1 H10.out).blk.1
      have k0 : W10.cell? ⟨m7, 0, none⟩ = some (.int .i64 t.src) := by rw [hb7.cell]; rfl
      clear hb7
      go_upto_if 153 with fail
      clear k0
      go_cut [] (fun wx => St w0 wx (rlL b (rpop R2 k t) p2 ++ (As.cells m7 t.cells.toArray 109 :: As.cells m (tk 0 0 0 0 none 0 0).toArray 77 :: L)))
      case first =>
        by_cases hs : t.src = 0
        · have b0 : (t.src != 0) = false := by simp [hs]
          have HE := Lib.hid (show { R2 with tasks := M.eraseIdx k, users := R2.users + 1 } = rpop R2 k t from by simp [rpop, hs, HMR.out])
          clear hs
          go_wp2_with fail
          go_meet
          rw [← HE.out]
          exact H10.out
        · have b0 : (t.src != 0) = true := by simpa using hs
          have HE := Lib.hid (show { R2 with tasks := M.eraseIdx k, users := 0 } = rpop R2 k t from by simp [rpop, hs, HMR.out])
          have f5 := H10.out.free 5
          clear hs
          obtain ⟨-, -, -, -, -, c5, -⟩ := rl_c H10.out
          go_wp2_with fail
          go_meet
          rw [← HE.out]
          have h11 := H10.out.set 5 (.int .i64 0)
          rw [rset_users] at h11
          exact h11
      case rest =>
        have H11 := Lib.hid hcut
        clear hcut H10 HMR HL HLR
        have hb7 := (rl_out1 H11.out).blk.1
        have k0 : wc.cell? ⟨m7, 0, none⟩ = some (.int .i64 t.src) := by rw [hb7.cell]; rfl
        have k3 : wc.cell? ⟨m7, 3, none⟩ = some (.int .i64 t.n) := by rw [hb7.cell]; rfl
        clear hb7
        go_upto_region 24 with fail
        have h12 := rl_in (H11.out.new (tk 2 t.n t.src 0 none 0 0).toArray 77)
        obtain ⟨m8, hm8⟩ : ∃ m8, wc.heap.size = m8 := ⟨_, rfl⟩
        obtain ⟨W12, hW12⟩ : ∃ W12, wc.alloc (.cells #[.int .i64 2, .int .i64 t.n, .int .i64 t.src, .int .i64 0, .slice none 0 0] 77) = W12 := ⟨_, rfl⟩
        have H12 := Lib.hid (show St w0 W12 (rlL b (rpop R2 k t) p2 ++ (As.cells m8 (tk 2 t.n t.src 0 none 0 0).toArray 77 :: As.cells m7 t.cells.toArray 109 :: As.cells m (tk 0 0 0 0 none 0 0).toArray 77 :: L)) from by rw [← hW12, ← hm8]; exact h12)
        rw [hW12]
        try simp only [hm8]
        clear h12 hm8 hW12 k0 k3 H11
        have hb7 := (rl_out1 (St.sh [_, _, _, _, _, _, _] [0, 1, 2, 3, 4, 6, 5] (by decide) H12.out)).blk.1
        have k0 : W12.cell? ⟨m7, 0, none⟩ = some (.int .i64 t.src) := by rw [hb7.cell]; rfl
        have k2 : W12.cell? ⟨m7, 2, none⟩ = some (.int .i64 t.k) := by rw [hb7.cell]; rfl
        clear hb7
        by_cases hs2 : t.src = 2
        · have b0 : (t.src != 2) = false := by simp [hs2]
          by_cases hk0 : t.k = 0
          · have b1 : (t.k != 0) = false := by simp [hk0]
            have HS := Lib.hid hs2
            have HK0 := Lib.hid hk0
            clear hs2 hk0
            go_upto_region 26 with fail
            have H13 := Lib.hid H12.out
            clear k0 k2 b0 b1 H12
            have hb7 := (rl_out1 (St.sh [_, _, _, _, _, _, _] [0, 1, 2, 3, 4, 6, 5] (by decide) H13.out)).blk.1
            have k3 : W12.cell? ⟨m7, 3, none⟩ = some (.int .i64 t.n) := by rw [hb7.cell]; rfl
            clear hb7
            have HLN := Lib.hid (show (rpop R2 k t).tms.length ≤ 100000 from by have := HB.out.m; show R2.tms.length ≤ _; omega)
            go_upto_region 27 with (go_at_call 50; refine (rfind_st t.n (rl_shut H13.out) HLN.out).mono ?_; rintro e w14 ⟨rfl, rfl⟩)
            clear k3
            cases hf : R2.tms.findIdx? (fun c => c.id == t.n) with
            | none =>
              have hix : ixM (rpop R2 k t).tms t.n = -1 := by show ixM R2.tms t.n = -1; simp [ixM, hf]
              have HFN := Lib.hid hf
              rw [hix]
              clear hf hix
              go_wp2_with fail
              go_roundg (rpop R2 k t).tasks.length
              case measure =>
                have := Hg.out
                show (R2.tasks.eraseIdx k).length < _
                rw [List.length_eraseIdx]
                have hlt : k < R2.tasks.length := (List.getElem?_eq_some_iff.1 HT2.out).1
                rw [if_pos hlt]
                omega
              case rel =>
                refine ⟨rpop R2 k t, rfl, fun R' d hh => HR2.out _ _ (.skip HK.out HT2.out HS.out HK0.out HFN.out hh), HB.out.pop (by rw [HS.out]; decide), ?_⟩
                exact (rl_shut (rl_drop2 H13.out)).swap
            | some j =>
              have hix : ixM (rpop R2 k t).tms t.n = j := by show ixM R2.tms t.n = j; simp [ixM, hf]
              have hjl : j < R2.tms.length := (List.findIdx?_eq_some_iff_getElem.1 hf).1
              have HFN := Lib.hid hf
              rw [hix]
              have b9 : decide ((j : Int) < 0) = false := by simp
              clear hf hix
              go_upto_if 176 with fail
              go_cut [] (fun wx => wx = W12)
              case first =>
                go_wp2_with fail
                go_meet
                rfl
              case rest =>
                subst hcut
                rename_i hKK
                refine hKK _ _ ?_
                exact take_tail HK.out HT2.out HS.out HK0.out HFN.out HB.out HR2.out H13.out

          · have b1 : (t.k != 0) = true := by simpa using hk0
            have HP := Lib.hid (show ¬ (t.src = 2 ∧ t.k = 0) from fun q => hk0 q.2)
            clear hs2 hk0
            go_upto_region 25 with fail
            have H13 := Lib.hid H12.out
            clear k0 k2 b0 b1
            have H30 := Lib.hid (St.sh [_, _, _, _, _, _, _, _] [7, 0, 1, 2, 3, 4, 5, 6] (by decide) (rl_out2 H13.out))
            have hb8 := (rl_out1 H13.out).blk.1
            have k0 : W12.cell? ⟨m8, 0, none⟩ = some (.int .i64 2) := by rw [hb8.cell]; rfl
            have k1 : W12.cell? ⟨m8, 1, none⟩ = some (.int .i64 t.n) := by rw [hb8.cell]; rfl
            have k2 : W12.cell? ⟨m8, 2, none⟩ = some (.int .i64 t.src) := by rw [hb8.cell]; rfl
            have k3 : W12.cell? ⟨m8, 3, none⟩ = some (.int .i64 (0)) := by rw [hb8.cell]; rfl
            have k4 : W12.cell? ⟨m8, 4, none⟩ = some (.slice none 0 0) := by rw [hb8.cell]; rfl
            clear hb8
            go_wp2_with (first
              | (refine st_store rfl (.tmp 2) (.tmp 170) rfl H30.out (tk 2 t.n t.src (0) none 0 0) rfl rfl rfl rfl size77 (tk_one _ _ _ _ _ _ _) ?_; intro W31 HW31; have H31 := Lib.hid HW31; clear HW31)
              | fail)
            refine bodyPost_ret (results_cell_row (P := Try.prog) Try.results22 _ _ m 77 (tk 2 t.n t.src (0) none 0 0).toArray _ _ rfl H31.out.blk.1 Try.underlying77 rfl size77) rfl ?_
            refine ⟨_, ⟨2, t.n, t.src, 0⟩, rfl, HR2.out _ _ (.plain HK.out HT2.out HP.out), ?_⟩
            exact (rl_shut (rl_out2' H31.out.drop))
        · have b0 : (t.src != 2) = true := by simpa using hs2
          have HP := Lib.hid (show ¬ (t.src = 2 ∧ t.k = 0) from fun q => hs2 q.1)
          clear hs2
          go_upto_region 25 with fail
          have H13 := Lib.hid H12.out
          clear k0 k2 b0
          have H30 := Lib.hid (St.sh [_, _, _, _, _, _, _, _] [7, 0, 1, 2, 3, 4, 5, 6] (by decide) (rl_out2 H13.out))
          have hb8 := (rl_out1 H13.out).blk.1
          have k0 : W12.cell? ⟨m8, 0, none⟩ = some (.int .i64 2) := by rw [hb8.cell]; rfl
          have k1 : W12.cell? ⟨m8, 1, none⟩ = some (.int .i64 t.n) := by rw [hb8.cell]; rfl
          have k2 : W12.cell? ⟨m8, 2, none⟩ = some (.int .i64 t.src) := by rw [hb8.cell]; rfl
          have k3 : W12.cell? ⟨m8, 3, none⟩ = some (.int .i64 (0)) := by rw [hb8.cell]; rfl
          have k4 : W12.cell? ⟨m8, 4, none⟩ = some (.slice none 0 0) := by rw [hb8.cell]; rfl
          clear hb8
          go_wp2_with (first
            | (refine st_store rfl (.tmp 2) (.tmp 170) rfl H30.out (tk 2 t.n t.src (0) none 0 0) rfl rfl rfl rfl size77 (tk_one _ _ _ _ _ _ _) ?_; intro W31 HW31; have H31 := Lib.hid HW31; clear HW31)
            | fail)
          refine bodyPost_ret (results_cell_row (P := Try.prog) Try.results22 _ _ m 77 (tk 2 t.n t.src (0) none 0 0).toArray _ _ rfl H31.out.blk.1 Try.underlying77 rfl size77) rfl ?_
          refine ⟨_, ⟨2, t.n, t.src, 0⟩, rfl, HR2.out _ _ (.plain HK.out HT2.out HP.out), ?_⟩
          exact (rl_shut (rl_out2' H31.out.drop))

end Go.Proofs.Ytnamkckpgaopkaa
