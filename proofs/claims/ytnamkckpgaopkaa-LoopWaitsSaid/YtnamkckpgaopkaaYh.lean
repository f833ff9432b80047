/-
  Take of the chapter's loop: behind the search of a timer.
-/
import Derived.Test.YtnamkckpgaopkaaYd
set_option linter.unusedVariables false
set_option linter.unusedSimpArgs false
namespace Go.Proofs.Ytnamkckpgaopkaa
open Go.RowKit Go.K
/-- parts of a code -/
def cSnd : Code → Code
  | .seq _ b => b
  | c => c
def cBlk : Code → Code
  | .block _ b => b
  | c => c
def cLoop : Code → Code
  | .loop b => b
  | c => c
/-- the loop over the tasks; what follows when a timer's call is found -/
noncomputable def takeLoop2 : Code := cSnd (cSnd (cSnd (cSnd (Try.f22.body.getD .skip))))
noncomputable def takeTail : Code := cSnd (cSnd (cSnd (cSnd (cSnd (cSnd (cSnd (cSnd (cSnd (cSnd (cBlk (cLoop (cBlk takeLoop2))))))))))))
def RTkP (R : RL) (b : Nat) (w0 : World) (L : List As) (E : Ending) (w' : World) : Prop :=
  ∃ R' d, E = .returned (.agg (tk d.kd d.n d.src d.fn none 0 0).toArray) ∧ RTaskR R R' d ∧ St w0 w' (rlO b R' :: L)
def LR1 (R : RL) (b m : Nat) (w0 : World) (L : List As) (g : Nat) (wr : World) : Prop :=
  ∃ R1, g = waitN R1.tms ∧ rfireS R1 = rfireS R ∧ RBn R1 ∧ St w0 wr (As.cells m (tk 0 0 0 0 none 0 0).toArray 77 :: rlO b R1 :: L)
def LR2 (R : RL) (b m : Nat) (w0 : World) (L : List As) (g : Nat) (wr : World) : Prop :=
  ∃ R1, g = R1.tasks.length ∧ (∀ R' d, RTaskR R1 R' d → RTaskR R R' d) ∧ RBn R1 ∧ St w0 wr (As.cells m (tk 0 0 0 0 none 0 0).toArray 77 :: rlO b R1 :: L)
theorem choose_lt {R : RL} (h : ¬ chooseR R < 0) : ∃ i : Nat, chooseR R = i ∧ i < R.tasks.length := by
  have h1 := ixP_cases (fun t : RT => t.src == 0) R.tasks R.tasks.length
  have h2 := ixP_cases (fun t : RT => t.src != 0) R.tasks R.tasks.length
  refine ⟨(chooseR R).toNat, by omega, ?_⟩
  unfold chooseR at *
  split at h
  · rename_i hc; rw [if_pos hc]; omega
  · rename_i hc; rw [if_neg hc]; omega
set_option maxRecDepth 100000 in
set_option maxHeartbeats 4000000 in
theorem take_tail {K : Act → World → Prop} {w0 W12 : World} {L : List As} {b m m7 m8 k j : Nat} {R0 R2 : RL} {t : RT} {p2 : Pt} {u1 u3 u4 u5 u6 u10 u11 u12 u13 u14 u15 u16 u17 u18 u19 u20 u21 u22 u23 u24 u25 u26 u27 u28 u29 u30 u31 u32 u33 u34 u35 u36 u37 u38 u39 u40 u41 u42 u43 u44 u45 u46 u47 u48 u49 u50 u51 u52 u53 u54 u55 u56 u57 u58 u59 u60 u61 u62 u63 u64 u65 u66 u67 u68 u69 u70 u71 u72 u73 u74 u75 u76 u77 u78 u79 u80 u81 u82 u83 u84 u85 u86 u87 u88 u89 u90 u91 u92 u93 u94 u95 u96 u97 u98 u99 u100 u101 u102 u103 u104 u105 u106 u107 u108 u109 u110 u111 u112 u113 u114 u115 u116 u117 u118 u119 u120 u121 u122 u123 u124 u125 u126 u127 u128 u129 u130 u131 u132 u133 u134 u135 u136 u137 u138 u139 u140 u141 u142 u143 u144 u145 u146 u147 u148 u149 u150 u151 u152 u153 u154 u155 u156 u157 u158 u159 u160 u161 u162 u163 u164 u165 u166 u167 u168 u169 u170 u171 u172 u173 u174 u175 u176 u177 u178 u179 u180 u181 u182 u183 u184 u185 u186 u187 u188 u189 u190 u191 u192 u193 u194 u195 u196 u197 u198 u199 u200 u201 u202 u203 u204 u205 u206 u207 u208 u209 u210 u211 u212 u213 u214 u215 u216 u217 u218 u219 u220 u221 u222 u223 u224 u225 u226 u227 u228 u229 u230 u231 u232 u233 u234 u235 u236 u237 u238 u239 u240 u241 u242 u243 u244 u245 u246 u247 u248 u249 u250 u251 u252 u253 : Value} (hk : chooseR R2 = (k : Int)) (ht2 : R2.tasks[k]? = some t) (hs : t.src = 2) (hk0 : t.k = 0) (hfn : R2.tms.findIdx? (fun c => c.id == t.n) = some j) (hB : RBn R2) (hr2 : ∀ R' d, RTaskR R2 R' d → RTaskR R0 R' d)
    (h13 : St w0 W12 (rlL b (rpop R2 k t) p2 ++ (As.cells m8 (tk 2 t.n t.src 0 none 0 0).toArray 77 :: As.cells m7 t.cells.toArray 109 :: As.cells m (tk 0 0 0 0 none 0 0).toArray 77 :: L))) :
    Code.wp Try.prog takeTail (Exit.inBlock 3 (Exit.then K (Exit.inBlock 2 (bodyPost Try.prog Try.f22 (RTkP R0 b w0 L))))) { tmps := #[.pointer (some ⟨b, 0, none⟩), u1, .pointer (some ⟨m, 0, none⟩), u3, u4, u5, u6, .pointer (some ⟨m7, 0, none⟩), .pointer (some ⟨m8, 0, none⟩), .int .i64 j, u10, u11, u12, u13, u14, u15, u16, u17, u18, u19, u20, u21, u22, u23, u24, u25, u26, u27, u28, u29, u30, u31, u32, u33, u34, u35, u36, u37, u38, u39, u40, u41, u42, u43, u44, u45, u46, u47, u48, u49, u50, u51, u52, u53, u54, u55, u56, u57, u58, u59, u60, u61, u62, u63, u64, u65, u66, u67, u68, u69, u70, u71, u72, u73, u74, u75, u76, u77, u78, u79, u80, u81, u82, u83, u84, u85, u86, u87, u88, u89, u90, u91, u92, u93, u94, u95, u96, u97, u98, u99, u100, u101, u102, u103, u104, u105, u106, u107, u108, u109, u110, u111, u112, u113, u114, u115, u116, u117, u118, u119, u120, u121, u122, u123, u124, u125, u126, u127, u128, u129, u130, u131, u132, u133, u134, u135, u136, u137, u138, u139, u140, u141, u142, u143, u144, u145, u146, u147, u148, u149, u150, u151, u152, u153, u154, u155, u156, u157, u158, u159, u160, u161, u162, u163, u164, u165, u166, u167, u168, u169, u170, u171, u172, u173, u174, u175, u176, u177, u178, u179, u180, u181, u182, u183, u184, u185, u186, u187, u188, u189, u190, u191, u192, u193, u194, u195, u196, u197, u198, u199, u200, u201, u202, u203, u204, u205, u206, u207, u208, u209, u210, u211, u212, u213, u214, u215, u216, u217, u218, u219, u220, u221, u222, u223, u224, u225, u226, u227, u228, u229, u230, u231, u232, u233, u234, u235, u236, u237, u238, u239, u240, u241, u242, u243, u244, u245, u246, u247, u248, u249, u250, u251, u252, u253], defers := [] } W12 := by
  have HK := Lib.hid hk
  have HT2 := Lib.hid ht2
  have HS := Lib.hid hs
  have HK0 := Lib.hid hk0
  have HFN := Lib.hid hfn
  have HB := Lib.hid hB
  have HR2 := Lib.hid hr2
  have H13 := Lib.hid h13
  have hjl : j < R2.tms.length := (List.findIdx?_eq_some_iff_getElem.1 hfn).1
  have HLN := Lib.hid (show (rpop R2 k t).tms.length ≤ 100000 from by have := HB.out.m; show R2.tms.length ≤ _; omega)
  clear hk ht2 hs hk0 hfn hB hr2 h13
  obtain ⟨Q, hQ⟩ : ∃ Q, bodyPost Try.prog Try.f22 (RTkP R0 b w0 L) = Q := ⟨_, rfl⟩
  rw [hQ]
  simp only [takeTail, takeLoop2, Try.f22, Option.getD_some, cSnd, cBlk, cLoop]
  rw [← hQ]
  clear hQ
  obtain ⟨x, hx⟩ : ∃ x, R2.tms[j] = x := ⟨_, rfl⟩
  have HX := Lib.hid (show R2.tms[j]? = some x from by rw [List.getElem?_eq_getElem hjl, hx])
  have HEV := Lib.hid (HB.out.ev x (by rw [← hx]; exact List.getElem_mem hjl))
  have hjp : j < (rpop R2 k t).tms.length := hjl
  obtain ⟨g, off, hga, hne, hfr, hrd⟩ := rm_at2 H13.out j hjp
  obtain ⟨-, -, -, c10⟩ := rl_s H13.out
  rw [hga] at c10
  obtain ⟨-, -, -, d3, d4, d5⟩ := rm_cells hrd hjp
  rw [show (rpop R2 k t).tms[j] = x from hx] at d3 d4 d5
  have hjn : (j : Int) < ((rpop R2 k t).tms.length : Int) := by show (j : Int) < (R2.tms.length : Int); omega
  have h8 := rl_out1 H13.out
  have f8 := h8.free 3
  have hne8 : g ≠ m8 := by
    have q : St w0 W12 (As.cells m8 (tk 2 t.n t.src 0 none 0 0).toArray 77 :: As.row 107 6 (p2 3).1 (rpop R2 k t).tms.length (p2 3).2 (flat RM.cells (rpop R2 k t).tms) :: (As.cells b (rlc (rpop R2 k t) p2) 69 :: rrt (rpop R2 k t) p2 :: rrj (rpop R2 k t) p2 :: rrh (rpop R2 k t) p2 :: As.cells m7 t.cells.toArray 109 :: As.cells m (tk 0 0 0 0 none 0 0).toArray 77 :: L)) := St.sh [_, _, _, _, _, _] [5, 4, 0, 1, 2, 3] (by decide) H13.out
    rw [hga] at q
    exact q.apart
  have k3 : W12.cell? ⟨m8, 3, none⟩ = some (.int .i64 0) := by rw [h8.blk.1.cell]; rfl
  have h14 := rl_in (h8.set 3 (.int .i64 x.fn))
  clear hrd hfr hx hne h8
  go_upto_region 29 with fail
  obtain ⟨W14, hW14⟩ : ∃ W14, W12.setCell ⟨m8, 3, none⟩ (.int .i64 x.fn) = W14 := ⟨_, rfl⟩
  rw [hW14] at h14
  rw [hW14]
  have H14 := Lib.hid (show St w0 W14 (rlL b (rpop R2 k t) p2 ++ (As.cells m8 (tk 2 t.n t.src x.fn none 0 0).toArray 77 :: As.cells m7 t.cells.toArray 109 :: As.cells m (tk 0 0 0 0 none 0 0).toArray 77 :: L)) from h14)
  clear h14 hW14 H13 c10 d3 d4 d5 k3 f8
  obtain ⟨g', off', hga', -, hfr, hrd⟩ := rm_at2 H14.out j hjp
  rw [hga] at hga'
  cases hga'
  obtain ⟨-, -, -, c10⟩ := rl_s H14.out
  rw [hga] at c10
  obtain ⟨-, -, -, d3, d4, d5⟩ := rm_cells hrd hjp
  have hx : R2.tms[j] = x := by have := HX.out; rw [List.getElem?_eq_getElem hjl] at this; exact Option.some.inj this
  rw [show (rpop R2 k t).tms[j] = x from hx] at d3 d4 d5
  clear hrd
  by_cases he : x.ev = 0
  · have e0 : (x.ev == 0) = true := by simp [he]
    have HE := Lib.hid he
    rw [he] at d3
    have hb7 := (rl_out1 (St.sh [_, _, _, _, _, _, _] [0, 1, 2, 3, 4, 6, 5] (by decide) H14.out)).blk.1
    have k3 : W14.cell? ⟨m7, 3, none⟩ = some (.int .i64 t.n) := by rw [hb7.cell]; rfl
    clear he hb7
    go_upto_region 36 with (go_at_call 43; refine (rclear_st t.n (rl_shut H14.out) HLN.out).mono ?_; rintro e w15 ⟨rfl, h15⟩; have H15 := Lib.hid h15; clear h15)
    clear c10 d3 d4 d5 k3 H14 hfr
    obtain ⟨p3, h16⟩ := rl_open H15.out
    have H16 := Lib.hid h16
    clear h16 H15
    have H30 := Lib.hid (St.sh [_, _, _, _, _, _, _, _] [7, 0, 1, 2, 3, 4, 5, 6] (by decide) (rl_out2 H16.out))
    have hb8 := (rl_out1 H16.out).blk.1
    have k0 : w15.cell? ⟨m8, 0, none⟩ = some (.int .i64 2) := by rw [hb8.cell]; rfl
    have k1 : w15.cell? ⟨m8, 1, none⟩ = some (.int .i64 t.n) := by rw [hb8.cell]; rfl
    have k2 : w15.cell? ⟨m8, 2, none⟩ = some (.int .i64 t.src) := by rw [hb8.cell]; rfl
    have k3 : w15.cell? ⟨m8, 3, none⟩ = some (.int .i64 (x.fn)) := by rw [hb8.cell]; rfl
    have k4 : w15.cell? ⟨m8, 4, none⟩ = some (.slice none 0 0) := by rw [hb8.cell]; rfl
    clear hb8
    go_wp2_with (first
      | (refine st_store rfl (.tmp 2) (.tmp 253) rfl H30.out (tk 2 t.n t.src (x.fn) none 0 0) rfl rfl rfl rfl size77 (tk_one _ _ _ _ _ _ _) ?_; intro W31 HW31; have H31 := Lib.hid HW31; clear HW31)
      | fail)
    refine bodyPost_ret (results_cell_row (P := Try.prog) Try.results22 _ _ m 77 (tk 2 t.n t.src (x.fn) none 0 0).toArray _ _ rfl H31.out.blk.1 Try.underlying77 rfl size77) rfl ?_
    refine ⟨_, ⟨2, t.n, t.src, x.fn⟩, rfl, HR2.out _ _ (by rw [HS.out]; exact .once HK.out HT2.out HS.out HK0.out HFN.out HX.out HE.out), ?_⟩
    exact (rl_shut (rl_out2' H31.out.drop))
  · have e0 : (x.ev == 0) = false := by simp [he]
    have HE := Lib.hid he
    clear he
    by_cases hw : x.w = true
    · rw [hw] at d5
      have HW := Lib.hid hw
      clear hw
      go_upto_region 36 with fail
      clear c10 d3 d4 d5 hfr
      have H30 := Lib.hid (St.sh [_, _, _, _, _, _, _, _] [7, 0, 1, 2, 3, 4, 5, 6] (by decide) (rl_out2 H14.out))
      have hb8 := (rl_out1 H14.out).blk.1
      have k0 : W14.cell? ⟨m8, 0, none⟩ = some (.int .i64 2) := by rw [hb8.cell]; rfl
      have k1 : W14.cell? ⟨m8, 1, none⟩ = some (.int .i64 t.n) := by rw [hb8.cell]; rfl
      have k2 : W14.cell? ⟨m8, 2, none⟩ = some (.int .i64 t.src) := by rw [hb8.cell]; rfl
      have k3 : W14.cell? ⟨m8, 3, none⟩ = some (.int .i64 (x.fn)) := by rw [hb8.cell]; rfl
      have k4 : W14.cell? ⟨m8, 4, none⟩ = some (.slice none 0 0) := by rw [hb8.cell]; rfl
      clear hb8
      go_wp2_with (first
        | (refine st_store rfl (.tmp 2) (.tmp 253) rfl H30.out (tk 2 t.n t.src (x.fn) none 0 0) rfl rfl rfl rfl size77 (tk_one _ _ _ _ _ _ _) ?_; intro W31 HW31; have H31 := Lib.hid HW31; clear HW31)
        | fail)
      refine bodyPost_ret (results_cell_row (P := Try.prog) Try.results22 _ _ m 77 (tk 2 t.n t.src (x.fn) none 0 0).toArray _ _ rfl H31.out.blk.1 Try.underlying77 rfl size77) rfl ?_
      refine ⟨_, ⟨2, t.n, t.src, x.fn⟩, rfl, HR2.out _ _ (by rw [HS.out]; exact .wait HK.out HT2.out HS.out HK0.out HFN.out HX.out HE.out HW.out), ?_⟩
      exact (rl_shut (rl_out2' H31.out.drop))
    · have hwf : x.w = false := by simpa using hw
      rw [hwf] at d5
      have HW := Lib.hid hwf
      have f5 := hfr (off + j * 6 + 5)
      obtain ⟨-, -, q2, -⟩ := rl_c H14.out
      have c2 : W14.cell? ⟨b, 2, none⟩ = some (.int .i64 R2.next) := q2
      have f2 := H14.out.free 2
      have hw1 : IntKind.i64.wrap (R2.next + 1) = R2.next + 1 := by rw [IntKind.wrap_i64]; have := HB.out.nx0; have := HB.out.nx1; omega
      have hneb : g ≠ b := by
        have q : St w0 W14 (As.cells b (rlc (rpop R2 k t) p2) 69 :: As.row 107 6 (p2 3).1 (rpop R2 k t).tms.length (p2 3).2 (flat RM.cells (rpop R2 k t).tms) :: (rst_rrm (rpop R2 k t) p2 ++ (As.cells m8 (tk 2 t.n t.src x.fn none 0 0).toArray 77 :: As.cells m7 t.cells.toArray 109 :: As.cells m (tk 0 0 0 0 none 0 0).toArray 77 :: L))) := foc_rrm H14.out
        rw [hga] at q
        exact q.apart
      clear hw hwf q2
      have h15 := H14.out.set 2 (.int .i64 (R2.next + 1))
      rw [rset_next] at h15
      have h16 := rm_set (b := b) (R := { rpop R2 k t with next := R2.next + 1 }) (p := p2) (show St w0 (W14.setCell ⟨b, 2, none⟩ (.int .i64 (R2.next + 1))) (rlL b { rpop R2 k t with next := R2.next + 1 } p2 ++ _) from h15) hga j hjl 5 (by omega) (.bool true) rfl { x with w := true } (by show _ = (R2.tms[j].cells).set 5 _; rw [hx]; rfl)
      clear h15
      go_upto_region 34 with fail
      obtain ⟨W16, hW16⟩ : ∃ W16, (W14.setCell ⟨b, 2, none⟩ (.int .i64 (R2.next + 1))).setCell ⟨g, off + j * 6 + 5, none⟩ (.bool true) = W16 := ⟨_, rfl⟩
      rw [hW16] at h16
      rw [hW16]
      have H16 := Lib.hid h16
      clear h16 hW16 c10 d3 d4 d5 f5 hfr c2 f2 H14 hw1
      obtain ⟨q, hq⟩ : ∃ q, R2.tms.length = q := ⟨_, rfl⟩
      have HQ := Lib.hid hq
      have H17 := Lib.hid (show St w0 W16.drew _ from H16.out.drew)
      have hS : (fun w' : World => w'.cell? ⟨b, 10, none⟩ = some (.slice (some ⟨g, off, none⟩) q (p2 3).2) ∧ w'.cell? ⟨b, 2, none⟩ = some (.int .i64 (R2.next + 1))) W16.drew := by
        obtain ⟨-, -, -, a1⟩ := rl_s H17.out
        obtain ⟨-, -, a2, -⟩ := rl_c H17.out
        rw [hga] at a1
        simp only [List.length_set] at a1
        refine ⟨?_, a2⟩
        rw [← hq]
        exact a1
      have hjs : j < (R2.tms.set j { x with w := true }).length := by rw [List.length_set]; exact hjl
      obtain ⟨g2, off2, hga2, -, hfr, hrd⟩ := rm_at2 H17.out j hjs
      rw [hga] at hga2
      cases hga2
      obtain ⟨-, -, e2, -, -, -⟩ := rm_cells hrd hjs
      simp only [List.getElem_set_self] at e2
      have f2 := hfr (off + j * 6 + 2)
      have hjq : (j : Int) < (q : Int) := by omega
      clear hq hjn hrd hfr
      refine wpLast.region (S := (fun w' : World => w'.cell? ⟨b, 10, none⟩ = some (.slice (some ⟨g, off, none⟩) q (p2 3).2) ∧ w'.cell? ⟨b, 2, none⟩ = some (.int .i64 (R2.next + 1)))) (c := 11) (by kernel_rfl) ?_
      refine' wpLast.take (i := 0) (v := _) rfl (by kernel_rfl) (fun _ _ _ h => h) (by kernel_rfl) _ _ _ _ (by kernel_rfl) (by kernel_rfl) (Or.inl ⟨by rfl, ?hy0c⟩) hS ?rest0c
      case hy0c => (intro w' hSw; obtain ⟨k0, k1⟩ := hSw; go_simp; try with_reducible rfl)
      try (first | rw [Go.put_some] | rw [Go.put_none])
      try dsimp only [List.set_cons_zero, List.set_cons_succ]
      refine' wpLast.take (i := 1) (v := _) rfl (by kernel_rfl) (fun _ _ _ h => h) (by kernel_rfl) _ _ _ _ (by kernel_rfl) (by kernel_rfl) (Or.inl ⟨by rfl, ?hy1c⟩) hS ?rest1c
      case hy1c => (intro w' hSw; obtain ⟨k0, k1⟩ := hSw; go_simp; try with_reducible rfl)
      try (first | rw [Go.put_some] | rw [Go.put_none])
      try dsimp only [List.set_cons_zero, List.set_cons_succ]
      refine' wpLast.take (i := 2) (v := _) rfl (by kernel_rfl) (fun _ _ _ h => h) (by kernel_rfl) _ _ _ _ (by kernel_rfl) (by kernel_rfl) (Or.inl ⟨by rfl, ?hy2c⟩) hS ?rest2c
      case hy2c => (intro w' hSw; obtain ⟨k0, k1⟩ := hSw; go_simp; try with_reducible rfl)
      try (first | rw [Go.put_some] | rw [Go.put_none])
      try dsimp only [List.set_cons_zero, List.set_cons_succ]
      refine' wpLast.take (i := 3) (v := _) rfl (by kernel_rfl) (fun _ _ _ h => h) (by kernel_rfl) _ _ _ _ (by kernel_rfl) (by kernel_rfl) (Or.inl ⟨by rfl, ?hy3c⟩) hS ?rest3c
      case hy3c => (intro w' hSw; obtain ⟨k0, k1⟩ := hSw; go_simp; try with_reducible rfl)
      try (first | rw [Go.put_some] | rw [Go.put_none])
      try dsimp only [List.set_cons_zero, List.set_cons_succ]
      refine' wpLast.take (i := 4) (v := _) rfl (by kernel_rfl) (fun _ _ _ h => h) (by kernel_rfl) _ _ _ _ (by kernel_rfl) (by kernel_rfl) (Or.inl ⟨by rfl, ?hy4c⟩) hS ?rest4c
      case hy4c => (intro w' hSw; obtain ⟨k0, k1⟩ := hSw; go_simp; try with_reducible rfl)
      try (first | rw [Go.put_some] | rw [Go.put_none])
      try dsimp only [List.set_cons_zero, List.set_cons_succ]
      refine' wpLast.take (i := 5) (v := _) rfl (by kernel_rfl) (fun _ _ _ h => h) (by kernel_rfl) _ _ _ _ (by kernel_rfl) (by kernel_rfl) (Or.inl ⟨by rfl, ?hy5c⟩) hS ?rest5c
      case hy5c => (intro w' hSw; obtain ⟨k0, k1⟩ := hSw; go_simp; try with_reducible rfl)
      try (first | rw [Go.put_some] | rw [Go.put_none])
      try dsimp only [List.set_cons_zero, List.set_cons_succ]
      refine' wpLast.take (i := 6) (v := _) rfl (by kernel_rfl) (fun _ _ _ h => h) (by kernel_rfl) _ _ _ _ (by kernel_rfl) (by kernel_rfl) (Or.inl ⟨by rfl, ?hy6c⟩) hS ?rest6c
      case hy6c => (intro w' hSw; obtain ⟨k0, k1⟩ := hSw; go_simp; try with_reducible rfl)
      try (first | rw [Go.put_some] | rw [Go.put_none])
      try dsimp only [List.set_cons_zero, List.set_cons_succ]
      refine' wpLast.take (i := 7) (v := _) rfl (by kernel_rfl) (fun _ _ _ h => h) (by kernel_rfl) _ _ _ _ (by kernel_rfl) (by kernel_rfl) (Or.inl ⟨by rfl, ?hy7c⟩) hS ?rest7c
      case hy7c => (intro w' hSw; obtain ⟨k0, k1⟩ := hSw; go_simp; try with_reducible rfl)
      try (first | rw [Go.put_some] | rw [Go.put_none])
      try dsimp only [List.set_cons_zero, List.set_cons_succ]
      refine' wpLast.take (i := 8) (v := _) rfl (by kernel_rfl) (fun _ _ _ h => h) (by kernel_rfl) _ _ _ _ (by kernel_rfl) (by kernel_rfl) (Or.inl ⟨by rfl, ?hy8c⟩) hS ?rest8c
      case hy8c => (intro w' hSw; obtain ⟨k0, k1⟩ := hSw; go_simp; try with_reducible rfl)
      try (first | rw [Go.put_some] | rw [Go.put_none])
      try dsimp only [List.set_cons_zero, List.set_cons_succ]
      obtain ⟨z0, z1⟩ := hS
      have hS : (fun w' : World => w'.cell? ⟨b, 10, none⟩ = some (.slice (some ⟨g, off, none⟩) q (p2 3).2) ∧ w'.cell? ⟨b, 2, none⟩ = some (.int .i64 (R2.next + 1))) W16.drew := ⟨z0, z1⟩
      refine wpLast.one (i := 9) rfl (by kernel_rfl) ?_
      intro K' hK; have HK' := Lib.hid hK; clear hK
      go_simp
      refine HK'.out _ _ ⟨fun _ => hS, ?_⟩
      clear HK' K'
      try (first | rw [Go.put_some] | rw [Go.put_none])
      try dsimp only [List.set_cons_zero, List.set_cons_succ]
      refine wpLast.one (i := 10) rfl (by kernel_rfl) ?_
      intro K' hK; have HK' := Lib.hid hK; clear hK
      go_simp
      refine HK'.out _ _ ⟨fun _ => hS, ?_⟩
      clear HK' K'
      try (first | rw [Go.put_some] | rw [Go.put_none])
      try dsimp only [List.set_cons_zero, List.set_cons_succ]
      refine wpLast.one (i := 11) rfl (by kernel_rfl) ?_
      intro K' hK; have HK' := Lib.hid hK; clear hK
      go_simp
      refine HK'.out _ _ ⟨fun h => absurd rfl h, ?_⟩
      clear HK' K'
      try (first | rw [Go.put_some] | rw [Go.put_none])
      try dsimp only [List.set_cons_zero, List.set_cons_succ]
      refine wpLast.done (by kernel_rfl) ?_
      have h18 := rm_set H17.out hga j hjs 2 (by omega) (.int .i64 (R2.next + 1)) rfl { x with w := true, ord := R2.next + 1 } (by show _ = ((R2.tms.set j { x with w := true })[j].cells).set 2 _; rw [List.getElem_set_self]; rfl)
      simp only [List.set_set] at h18
      obtain ⟨W18, hW18⟩ : ∃ W18, (W16.setCell ⟨g, off + j * 6 + 2, none⟩ (.int .i64 (R2.next + 1))).drew = W18 := ⟨_, rfl⟩
      rw [show W16.drew.setCell ⟨g, off + j * 6 + 2, none⟩ (.int .i64 (R2.next + 1)) = (W16.setCell ⟨g, off + j * 6 + 2, none⟩ (.int .i64 (R2.next + 1))).drew from rfl, hW18] at h18
      rw [hW18]
      have H18 := Lib.hid h18
      clear h18 hW18 e2 f2 H17 H16 hjs
      go_upto_region 35 with fail
      have H19 := Lib.hid (show St w0 W18.drew _ from H18.out.drew)
      have hjs : j < (R2.tms.set j { x with w := true, ord := R2.next + 1 }).length := by rw [List.length_set]; exact hjl
      obtain ⟨g2, off2, hga2, -, hfr, hrd⟩ := rm_at2 H19.out j hjs
      rw [hga] at hga2
      cases hga2
      obtain ⟨-, e1, -, e3, -, -⟩ := rm_cells hrd hjs
      have e3 := e3.trans (show _ = some (Value.int .i64 x.ev) from by show some (Value.int .i64 ((R2.tms.set j { x with w := true, ord := R2.next + 1 })[j]).ev) = _; rw [List.getElem_set_self])
      have hS : (fun w' : World => w'.cell? ⟨b, 10, none⟩ = some (.slice (some ⟨g, off, none⟩) q (p2 3).2) ∧ w'.cell? ⟨b, 0, none⟩ = some (.int .i64 R2.now) ∧ w'.cell? ⟨g, off + j * 6 + 3, none⟩ = some (.int .i64 x.ev)) W18.drew := by
        obtain ⟨-, -, -, a1⟩ := rl_s H19.out
        obtain ⟨a2, -⟩ := rl_c H19.out
        rw [hga] at a1
        simp only [List.length_set] at a1
        refine ⟨?_, a2, e3⟩
        rw [← HQ.out]
        exact a1
      have f1 := hfr (off + j * 6 + 1)
      have hw2 : IntKind.i64.wrap (R2.now + x.ev) = R2.now + x.ev := by rw [IntKind.wrap_i64]; have := HB.out.now0; have := HB.out.now1; have := HEV.out; omega
      clear hrd hfr e3
      refine wpLast.region (S := (fun w' : World => w'.cell? ⟨b, 10, none⟩ = some (.slice (some ⟨g, off, none⟩) q (p2 3).2) ∧ w'.cell? ⟨b, 0, none⟩ = some (.int .i64 R2.now) ∧ w'.cell? ⟨g, off + j * 6 + 3, none⟩ = some (.int .i64 x.ev))) (c := 20) (by kernel_rfl) ?_
      refine' wpLast.take (i := 0) (v := _) rfl (by kernel_rfl) (fun _ _ _ h => h) (by kernel_rfl) _ _ _ _ (by kernel_rfl) (by kernel_rfl) (Or.inl ⟨by rfl, ?hy0b⟩) hS ?rest0b
      case hy0b => (intro w' hSw; obtain ⟨k0, k1, k2⟩ := hSw; go_simp; try with_reducible rfl)
      try (first | rw [Go.put_some] | rw [Go.put_none])
      try dsimp only [List.set_cons_zero, List.set_cons_succ]
      refine' wpLast.take (i := 1) (v := _) rfl (by kernel_rfl) (fun _ _ _ h => h) (by kernel_rfl) _ _ _ _ (by kernel_rfl) (by kernel_rfl) (Or.inl ⟨by rfl, ?hy1b⟩) hS ?rest1b
      case hy1b => (intro w' hSw; obtain ⟨k0, k1, k2⟩ := hSw; go_simp; try with_reducible rfl)
      try (first | rw [Go.put_some] | rw [Go.put_none])
      try dsimp only [List.set_cons_zero, List.set_cons_succ]
      refine' wpLast.take (i := 2) (v := _) rfl (by kernel_rfl) (fun _ _ _ h => h) (by kernel_rfl) _ _ _ _ (by kernel_rfl) (by kernel_rfl) (Or.inl ⟨by rfl, ?hy2b⟩) hS ?rest2b
      case hy2b => (intro w' hSw; obtain ⟨k0, k1, k2⟩ := hSw; go_simp; try with_reducible rfl)
      try (first | rw [Go.put_some] | rw [Go.put_none])
      try dsimp only [List.set_cons_zero, List.set_cons_succ]
      refine' wpLast.take (i := 3) (v := _) rfl (by kernel_rfl) (fun _ _ _ h => h) (by kernel_rfl) _ _ _ _ (by kernel_rfl) (by kernel_rfl) (Or.inl ⟨by rfl, ?hy3b⟩) hS ?rest3b
      case hy3b => (intro w' hSw; obtain ⟨k0, k1, k2⟩ := hSw; go_simp; try with_reducible rfl)
      try (first | rw [Go.put_some] | rw [Go.put_none])
      try dsimp only [List.set_cons_zero, List.set_cons_succ]
      refine' wpLast.take (i := 4) (v := _) rfl (by kernel_rfl) (fun _ _ _ h => h) (by kernel_rfl) _ _ _ _ (by kernel_rfl) (by kernel_rfl) (Or.inl ⟨by rfl, ?hy4b⟩) hS ?rest4b
      case hy4b => (intro w' hSw; obtain ⟨k0, k1, k2⟩ := hSw; go_simp; try with_reducible rfl)
      try (first | rw [Go.put_some] | rw [Go.put_none])
      try dsimp only [List.set_cons_zero, List.set_cons_succ]
      refine' wpLast.take (i := 5) (v := _) rfl (by kernel_rfl) (fun _ _ _ h => h) (by kernel_rfl) _ _ _ _ (by kernel_rfl) (by kernel_rfl) (Or.inl ⟨by rfl, ?hy5b⟩) hS ?rest5b
      case hy5b => (intro w' hSw; obtain ⟨k0, k1, k2⟩ := hSw; go_simp; try with_reducible rfl)
      try (first | rw [Go.put_some] | rw [Go.put_none])
      try dsimp only [List.set_cons_zero, List.set_cons_succ]
      refine' wpLast.take (i := 6) (v := _) rfl (by kernel_rfl) (fun _ _ _ h => h) (by kernel_rfl) _ _ _ _ (by kernel_rfl) (by kernel_rfl) (Or.inl ⟨by rfl, ?hy6b⟩) hS ?rest6b
      case hy6b => (intro w' hSw; obtain ⟨k0, k1, k2⟩ := hSw; go_simp; try with_reducible rfl)
      try (first | rw [Go.put_some] | rw [Go.put_none])
      try dsimp only [List.set_cons_zero, List.set_cons_succ]
      refine' wpLast.take (i := 7) (v := _) rfl (by kernel_rfl) (fun _ _ _ h => h) (by kernel_rfl) _ _ _ _ (by kernel_rfl) (by kernel_rfl) (Or.inl ⟨by rfl, ?hy7b⟩) hS ?rest7b
      case hy7b => (intro w' hSw; obtain ⟨k0, k1, k2⟩ := hSw; go_simp; try with_reducible rfl)
      try (first | rw [Go.put_some] | rw [Go.put_none])
      try dsimp only [List.set_cons_zero, List.set_cons_succ]
      refine' wpLast.take (i := 8) (v := _) rfl (by kernel_rfl) (fun _ _ _ h => h) (by kernel_rfl) _ _ _ _ (by kernel_rfl) (by kernel_rfl) (Or.inl ⟨by rfl, ?hy8b⟩) hS ?rest8b
      case hy8b => (intro w' hSw; obtain ⟨k0, k1, k2⟩ := hSw; go_simp; try with_reducible rfl)
      try (first | rw [Go.put_some] | rw [Go.put_none])
      try dsimp only [List.set_cons_zero, List.set_cons_succ]
      refine' wpLast.take (i := 9) (v := _) rfl (by kernel_rfl) (fun _ _ _ h => h) (by kernel_rfl) _ _ _ _ (by kernel_rfl) (by kernel_rfl) (Or.inl ⟨by rfl, ?hy9b⟩) hS ?rest9b
      case hy9b => (intro w' hSw; obtain ⟨k0, k1, k2⟩ := hSw; go_simp; try with_reducible rfl)
      try (first | rw [Go.put_some] | rw [Go.put_none])
      try dsimp only [List.set_cons_zero, List.set_cons_succ]
      refine' wpLast.take (i := 10) (v := _) rfl (by kernel_rfl) (fun _ _ _ h => h) (by kernel_rfl) _ _ _ _ (by kernel_rfl) (by kernel_rfl) (Or.inl ⟨by rfl, ?hy10b⟩) hS ?rest10b
      case hy10b => (intro w' hSw; obtain ⟨k0, k1, k2⟩ := hSw; go_simp; try with_reducible rfl)
      try (first | rw [Go.put_some] | rw [Go.put_none])
      try dsimp only [List.set_cons_zero, List.set_cons_succ]
      refine' wpLast.take (i := 11) (v := _) rfl (by kernel_rfl) (fun _ _ _ h => h) (by kernel_rfl) _ _ _ _ (by kernel_rfl) (by kernel_rfl) (Or.inl ⟨by rfl, ?hy11b⟩) hS ?rest11b
      case hy11b => (intro w' hSw; obtain ⟨k0, k1, k2⟩ := hSw; go_simp; try with_reducible rfl)
      try (first | rw [Go.put_some] | rw [Go.put_none])
      try dsimp only [List.set_cons_zero, List.set_cons_succ]
      refine' wpLast.take (i := 12) (v := _) rfl (by kernel_rfl) (fun _ _ _ h => h) (by kernel_rfl) _ _ _ _ (by kernel_rfl) (by kernel_rfl) (Or.inl ⟨by rfl, ?hy12b⟩) hS ?rest12b
      case hy12b => (intro w' hSw; obtain ⟨k0, k1, k2⟩ := hSw; go_simp; try with_reducible rfl)
      try (first | rw [Go.put_some] | rw [Go.put_none])
      try dsimp only [List.set_cons_zero, List.set_cons_succ]
      refine' wpLast.take (i := 13) (v := _) rfl (by kernel_rfl) (fun _ _ _ h => h) (by kernel_rfl) _ _ _ _ (by kernel_rfl) (by kernel_rfl) (Or.inl ⟨by rfl, ?hy13b⟩) hS ?rest13b
      case hy13b => (intro w' hSw; obtain ⟨k0, k1, k2⟩ := hSw; go_simp; try with_reducible rfl)
      try (first | rw [Go.put_some] | rw [Go.put_none])
      try dsimp only [List.set_cons_zero, List.set_cons_succ]
      refine' wpLast.take (i := 14) (v := _) rfl (by kernel_rfl) (fun _ _ _ h => h) (by kernel_rfl) _ _ _ _ (by kernel_rfl) (by kernel_rfl) (Or.inl ⟨by rfl, ?hy14b⟩) hS ?rest14b
      case hy14b => (intro w' hSw; obtain ⟨k0, k1, k2⟩ := hSw; go_simp; try with_reducible rfl)
      try (first | rw [Go.put_some] | rw [Go.put_none])
      try dsimp only [List.set_cons_zero, List.set_cons_succ]
      refine' wpLast.take (i := 15) (v := _) rfl (by kernel_rfl) (fun _ _ _ h => h) (by kernel_rfl) _ _ _ _ (by kernel_rfl) (by kernel_rfl) (Or.inl ⟨by rfl, ?hy15b⟩) hS ?rest15b
      case hy15b => (intro w' hSw; obtain ⟨k0, k1, k2⟩ := hSw; go_simp; try with_reducible rfl)
      try (first | rw [Go.put_some] | rw [Go.put_none])
      try dsimp only [List.set_cons_zero, List.set_cons_succ]
      refine' wpLast.take (i := 16) (v := _) rfl (by kernel_rfl) (fun _ _ _ h => h) (by kernel_rfl) _ _ _ _ (by kernel_rfl) (by kernel_rfl) (Or.inl ⟨by rfl, ?hy16b⟩) hS ?rest16b
      case hy16b => (intro w' hSw; obtain ⟨k0, k1, k2⟩ := hSw; go_simp; try with_reducible rfl)
      try (first | rw [Go.put_some] | rw [Go.put_none])
      try dsimp only [List.set_cons_zero, List.set_cons_succ]
      refine' wpLast.take (i := 17) (v := _) rfl (by kernel_rfl) (fun _ _ _ h => h) (by kernel_rfl) _ _ _ _ (by kernel_rfl) (by kernel_rfl) (Or.inl ⟨by rfl, ?hy17b⟩) hS ?rest17b
      case hy17b => (intro w' hSw; obtain ⟨k0, k1, k2⟩ := hSw; go_simp; try with_reducible rfl)
      try (first | rw [Go.put_some] | rw [Go.put_none])
      try dsimp only [List.set_cons_zero, List.set_cons_succ]
      obtain ⟨z0, z1, z2⟩ := hS
      have hS : (fun w' : World => w'.cell? ⟨b, 10, none⟩ = some (.slice (some ⟨g, off, none⟩) q (p2 3).2) ∧ w'.cell? ⟨b, 0, none⟩ = some (.int .i64 R2.now) ∧ w'.cell? ⟨g, off + j * 6 + 3, none⟩ = some (.int .i64 x.ev)) W18.drew := ⟨z0, z1, z2⟩
      refine wpLast.one (i := 18) rfl (by kernel_rfl) ?_
      intro K' hK; have HK' := Lib.hid hK; clear hK
      go_simp
      refine HK'.out _ _ ⟨fun _ => hS, ?_⟩
      clear HK' K'
      try (first | rw [Go.put_some] | rw [Go.put_none])
      try dsimp only [List.set_cons_zero, List.set_cons_succ]
      refine wpLast.one (i := 19) rfl (by kernel_rfl) ?_
      intro K' hK; have HK' := Lib.hid hK; clear hK
      go_simp
      refine HK'.out _ _ ⟨fun _ => hS, ?_⟩
      clear HK' K'
      try (first | rw [Go.put_some] | rw [Go.put_none])
      try dsimp only [List.set_cons_zero, List.set_cons_succ]
      refine wpLast.one (i := 20) rfl (by kernel_rfl) ?_
      intro K' hK; have HK' := Lib.hid hK; clear hK
      go_simp
      refine HK'.out _ _ ⟨fun h => absurd rfl h, ?_⟩
      clear HK' K'
      try (first | rw [Go.put_some] | rw [Go.put_none])
      try dsimp only [List.set_cons_zero, List.set_cons_succ]
      refine wpLast.done (by kernel_rfl) ?_
      have h20 := rm_set H19.out hga j hjs 1 (by omega) (.int .i64 (R2.now + x.ev)) rfl { x with w := true, ord := R2.next + 1, due := R2.now + x.ev } (by show _ = ((R2.tms.set j { x with w := true, ord := R2.next + 1 })[j].cells).set 1 _; rw [List.getElem_set_self]; rfl)
      simp only [List.set_set] at h20
      obtain ⟨W20, hW20⟩ : ∃ W20, (W18.setCell ⟨g, off + j * 6 + 1, none⟩ (.int .i64 (R2.now + x.ev))).drew = W20 := ⟨_, rfl⟩
      rw [show W18.drew.setCell ⟨g, off + j * 6 + 1, none⟩ (.int .i64 (R2.now + x.ev)) = (W18.setCell ⟨g, off + j * 6 + 1, none⟩ (.int .i64 (R2.now + x.ev))).drew from rfl, hW20] at h20
      rw [hW20]
      have H20 := Lib.hid h20
      clear h20 hW20 H19 H18 hw2
      have H30 := Lib.hid (St.sh [_, _, _, _, _, _, _, _] [7, 0, 1, 2, 3, 4, 5, 6] (by decide) (rl_out2 H20.out))
      have hb8 := (rl_out1 H20.out).blk.1
      have k0 : W20.cell? ⟨m8, 0, none⟩ = some (.int .i64 2) := by rw [hb8.cell]; rfl
      have k1 : W20.cell? ⟨m8, 1, none⟩ = some (.int .i64 t.n) := by rw [hb8.cell]; rfl
      have k2 : W20.cell? ⟨m8, 2, none⟩ = some (.int .i64 t.src) := by rw [hb8.cell]; rfl
      have k3 : W20.cell? ⟨m8, 3, none⟩ = some (.int .i64 (x.fn)) := by rw [hb8.cell]; rfl
      have k4 : W20.cell? ⟨m8, 4, none⟩ = some (.slice none 0 0) := by rw [hb8.cell]; rfl
      clear hb8
      go_wp2_with (first
        | (refine st_store rfl (.tmp 2) (.tmp 253) rfl H30.out (tk 2 t.n t.src (x.fn) none 0 0) rfl rfl rfl rfl size77 (tk_one _ _ _ _ _ _ _) ?_; intro W31 HW31; have H31 := Lib.hid HW31; clear HW31)
        | fail)
      refine bodyPost_ret (results_cell_row (P := Try.prog) Try.results22 _ _ m 77 (tk 2 t.n t.src (x.fn) none 0 0).toArray _ _ rfl H31.out.blk.1 Try.underlying77 rfl size77) rfl ?_
      refine ⟨_, ⟨2, t.n, t.src, x.fn⟩, rfl, HR2.out _ _ (by rw [HS.out]; exact .again HK.out HT2.out HS.out HK0.out HFN.out HX.out HE.out HW.out), ?_⟩
      exact (rl_shut (rl_out2' H31.out.drop))

end Go.Proofs.Ytnamkckpgaopkaa
