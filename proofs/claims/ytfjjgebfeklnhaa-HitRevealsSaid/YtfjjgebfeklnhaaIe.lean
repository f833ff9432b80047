/-
  ref24.Fragment.
-/
import Derived.Test.YtfjjgebfeklnhaaId
import Derived.Deep.CutBlock
import Derived.Test.YtfjjgebfeklnhaaKb
set_option linter.unusedVariables false
set_option linter.unusedSimpArgs false
namespace Go.Proofs.Ytfjjgebfeklnhaa
open Go.RowKit Go.K

theorem set67 (a : Fa) (n : Nat) (s : Option Addr) (m c : Nat) : ((fv a n).toArray.setIfInBounds 66 (.slice s m c)) = (fv { a with s := s, c := c } m).toArray := by
  simp [fv]
abbrev Fz : Fa := ⟨0, 0, 0, 0, 0, 0, 0, 0, none, 0⟩
theorem zv51 (w : World) : (zeroValue 51).run Try.prog w = .ok (.agg (fv Fz 0).toArray) w := by kernel_rfl
def shV (a : Sd) (n : Nat) : Array Value := #[.int .i8 a.x, .int .i8 a.y, .int .u8 a.w, .int .u8 a.h, .int .u8 a.kd, .int .u8 a.bd, .slice a.s n a.c]

theorem fc_one (f : Ft) : ∀ u ∈ fc f, u.oneCell' = true := fv_one _ _
theorem size51 : (Try.prog.info? 51).map (·.size) = some 67 := by kernel_rfl
theorem blk7 {W : World} {b : Nat} {t : TypeId} {v0 v1 v2 v3 v4 v5 v6 : Value} (h : Blk W b #[v0, v1, v2, v3, v4, v5, v6] t) :
    W.cell? ⟨b, 0, none⟩ = some v0 ∧ W.cell? ⟨b, 1, none⟩ = some v1 ∧ W.cell? ⟨b, 2, none⟩ = some v2 ∧ W.cell? ⟨b, 3, none⟩ = some v3 ∧ W.cell? ⟨b, 4, none⟩ = some v4 ∧ W.cell? ⟨b, 5, none⟩ = some v5 ∧ W.cell? ⟨b, 6, none⟩ = some v6 :=
  ⟨h.cell 0, h.cell 1, h.cell 2, h.cell 3, h.cell 4, h.cell 5, h.cell 6⟩
theorem bigI (a : Fa) (n : Nat) (t : TypeId) (W : World) (b : Nat) (h : Blk W b (fv a n).toArray t) :
    W.cell? ⟨b, 0, none⟩ = some (.int .i64 a.kd) ∧ W.cell? ⟨b, 1, none⟩ = some (.int .i64 a.nd) ∧ W.cell? ⟨b, 2, none⟩ = some (.int .i64 a.x) ∧ W.cell? ⟨b, 3, none⟩ = some (.int .i64 a.y) ∧ W.cell? ⟨b, 4, none⟩ = some (.int .i64 a.w) ∧ W.cell? ⟨b, 5, none⟩ = some (.int .i64 a.h) ∧ W.cell? ⟨b, 59, none⟩ = some (.int .i64 a.ov) ∧ W.cell? ⟨b, 66, none⟩ = some (.slice a.s n a.c) :=
  ⟨h.cell 0, h.cell 1, h.cell 2, h.cell 3, h.cell 4, h.cell 5, h.cell 59, h.cell 66⟩
theorem bigB (a : Fa) (n : Nat) (t : TypeId) (W : World) (b : Nat) (h : Blk W b (fv a n).toArray t) :
    W.cell? ⟨b, 38, none⟩ = some (.int .i64 a.bd) ∧ W.cell? ⟨b, 39, none⟩ = some (.int .i64 a.bd) ∧ W.cell? ⟨b, 40, none⟩ = some (.int .i64 a.bd) ∧ W.cell? ⟨b, 41, none⟩ = some (.int .i64 a.bd) :=
  ⟨h.cell 38, h.cell 39, h.cell 40, h.cell 41⟩

theorem set_bd {w0 w : World} {L : List As} {b n : Nat} {a : Fa} (h : St w0 w (As.cells b (fv a n).toArray 51 :: L)) (v : Int) :
    St w0 ((((w.setCell ⟨b, 38, none⟩ (.int .i64 v)).setCell ⟨b, 39, none⟩ (.int .i64 v)).setCell ⟨b, 40, none⟩ (.int .i64 v)).setCell ⟨b, 41, none⟩ (.int .i64 v)) (As.cells b (fv { a with bd := v } n).toArray 51 :: L) :=
  (((h.set 38 (.int .i64 v)).set 39 (.int .i64 v)).set 40 (.int .i64 v)).set 41 (.int .i64 v)
def FrC (w0 : World) (L : List As) (m : Nat) (a : Sd) (n : Nat) (bd : Int) (q : Prop) (wx : World) : Prop :=
  ∃ k n2 o : Int, (q → n2 = 1 ∧ k = 1) ∧ St w0 wx (As.cells (m + 1 + 1) (fv ⟨k, n2, a.x, a.y, a.w, a.h, bd, o, none, 0⟩ 0).toArray 51 :: As.cells (m + 1) (fv Fz 0).toArray 51 :: As.cells m (shV a n) 39 :: L)
theorem FrC.at {w0 : World} {L : List As} {m : Nat} {a : Sd} {n : Nat} {bd : Int} {q : Prop} {wx : World} (h : FrC w0 L m a n bd q wx) :
    (∃ v, wx.cell? ⟨m + 1 + 1, 0, none⟩ = some (.int .i64 v)) ∧ (∃ v, wx.cell? ⟨m + 1 + 1, 1, none⟩ = some (.int .i64 v)) ∧ (∃ v, wx.cell? ⟨m + 1 + 1, 59, none⟩ = some (.int .i64 v)) ∧ wx.frozen? ⟨m + 1 + 1, 0, none⟩ = false ∧ wx.frozen? ⟨m + 1 + 1, 1, none⟩ = false ∧ wx.frozen? ⟨m + 1 + 1, 59, none⟩ = false := by
  obtain ⟨k, n2, o, -, h⟩ := h
  exact ⟨⟨_, h.cell 0⟩, ⟨_, h.cell 1⟩, ⟨_, h.cell 59⟩, h.free 0, h.free 1, h.free 59⟩

def FgRel (w0 : World) (L : List As) (m d b : Nat) (a : Sd) (ks : List Sh) (bd : Int) (g : Nat) (v1 v58 : Value) (wr : World) : Prop :=
  ∃ (k B : Nat) (fs : List Ft) (s : Option Addr) (c : Nat) (k0 n2 o : Int), g = ks.length - k ∧ k ≤ ks.length ∧ v58 = .int .i64 k ∧ v1 = .int .i64 (B : Int) ∧ B = b + 1 + szL (ks.take k) ∧ fs.length = k ∧ (b = 0 → n2 = 1 ∧ k0 = 1) ∧ (∀ f ∈ fs, FtOk d f) ∧ Ft.szL fs = szL (ks.take k) ∧
    St w0 wr (As.fts fs :: As.row 51 67 s k c (flat fc fs) :: As.cells (m + 1 + 1) (fv ⟨k0, n2, a.x, a.y, a.w, a.h, bd, o, s, c⟩ k).toArray 51 :: As.cells (m + 1) (fv Fz 0).toArray 51 :: As.cells m (shV a ks.length) 39 :: L)

def FrPost (w0 : World) (L : List As) (d b : Nat) (t : Sh) (e : Ending) (w' : World) : Prop :=
  ∃ f : Ft, e = .returned (.tuple #[.agg (fc f).toArray, .int .i64 ((b + t.sz : Nat) : Int)]) ∧ FtOk (d + 1) f ∧ (b = 0 → f.a.nd = 1 ∧ f.a.kd = 1) ∧ f.sz = t.sz ∧ St w0 w' (As.fts [f] :: L)

set_option maxRecDepth 100000 in
set_option maxHeartbeats 4000000 in
theorem frag_c : ∀ (d : Nat) (t : Sh) (b : Nat) (w0 w : World) (L : List As), ShAt w0 t → deepB d t = false → d ≤ 8 → b + t.sz ≤ 100000 → St w0 w L →
    Calls Try.prog 15 #[.agg (shc t).toArray, .int .i64 (b : Int)] w (FrPost w0 L d b t) := by
  intro d
  induction d using Nat.strongRecOn with
  | ind d ih =>
  rintro ⟨a, ks⟩ b w0 w L hat hdp hd hb hst
  have hat' := hat
  cases hat with
  | mk _ _ ho hl hr hk =>
  obtain ⟨⟨x1, x2⟩, ⟨y1, y2⟩, ⟨w1, w2⟩, ⟨h1, h2⟩, ⟨k1, k2⟩, ⟨b1, b2⟩⟩ := ho
  have hkids : ∀ k ∈ ks, 1 ≤ d ∧ deepB (d - 1) k = false := fun k hk2 => by
    cases d with
    | zero => rw [deep_zero hdp] at hk2; cases hk2
    | succ d => exact ⟨by omega, deep_kid hdp k hk2⟩
  have hks : ks.length ≤ 100000 := by
    have : ∀ l : List Sh, l.length ≤ szL l := by
      intro l
      induction l with
      | nil => simp
      | cons k l ih => cases k; rw [szL, Sh.sz, List.length_cons]; omega
    have := this ks
    rw [Sh.sz] at hb; omega
  have IHD := Lib.hid ih
  have HKD := Lib.hid hkids
  have HK := Lib.hid hk
  have HRD := Lib.hid hr
  have HB := Lib.hid hb
  have H0 := Lib.hid hst
  clear hk hr hkids hdp hb ih hst hat' hl
  have hbb : (b : Int) ≤ 100000 := by have := HB.out; omega
  have hbw : IntKind.i64.wrap ((b : Int) + 1) = ((b + 1 : Nat) : Int) := by rw [IntKind.wrap_i64]; omega
  have ew1 : IntKind.i64.wrap a.x = a.x := by rw [IntKind.wrap_i64]; omega
  have ew2 : IntKind.i64.wrap a.y = a.y := by rw [IntKind.wrap_i64]; omega
  have ew3 : IntKind.i64.wrap a.w = a.w := by rw [IntKind.wrap_i64]; omega
  have ew4 : IntKind.i64.wrap a.h = a.h := by rw [IntKind.wrap_i64]; omega
  obtain ⟨bd, hbd⟩ : ∃ bd, a.bd.tmod 4 = bd := ⟨_, rfl⟩
  obtain ⟨kd, hkd⟩ : ∃ kd, a.kd.tmod 4 = kd := ⟨_, rfl⟩
  have hbd2 : 0 ≤ bd ∧ bd ≤ 3 := by rw [Int.tmod_eq_emod_of_nonneg b1] at hbd; omega
  have hkd2 : 0 ≤ kd ∧ kd ≤ 3 := by rw [Int.tmod_eq_emod_of_nonneg k1] at hkd; omega
  obtain ⟨bd1, bd2⟩ := hbd2
  obtain ⟨kd1, kd2⟩ := hkd2
  have ew5 : IntKind.i64.wrap bd = bd := by rw [IntKind.wrap_i64]; omega
  have ew6 : IntKind.u8.wrap bd = bd := by unfold IntKind.wrap IntKind.bits; simp; omega
  show Calls Try.prog 15 #[.agg #[.int .i8 a.x, .int .i8 a.y, .int .u8 a.w, .int .u8 a.h, .int .u8 a.kd, .int .u8 a.bd, .slice a.s ks.length a.c], .int .i64 b] w _
  have z51 := zv51
  go_enter Try.func15, Try.ntmps15
  have h3 := ((H0.out.new (shV a ks.length) 39).new (fv Fz 0).toArray 51).new (fv Fz 0).toArray 51
  simp only [World.size_alloc] at h3
  obtain ⟨m, hm⟩ : ∃ m, w.heap.size = m := ⟨_, rfl⟩
  rw [hm] at h3
  have H3 := Lib.hid h3
  clear h3
  have hsh := blk7 (H3.out.blkm (.tail _ (.tail _ (.head _))))
  obtain ⟨s0, s1, s2, s3, s4, s5, s6⟩ := hsh
  go_upto_region 3 with (refine st_store rfl (.tmp 6) (.tmp 26) rfl H3.out (fv ⟨1, b + 1, a.x, a.y, a.w, a.h, 0, 0, none, 0⟩ 0) rfl rfl rfl rfl size51 (fv_one _ _) ?_; intro W HW; have H4 := Lib.hid HW; clear HW)
  generalize Value.agg ((((((((fv Fz 0).set 0 (Value.int IntKind.i64 1)).set 1 (Value.int IntKind.i64 ((b : Int) + 1))).set 2 (Value.int IntKind.i64 a.x)).set 3 (Value.int IntKind.i64 a.y)).set 4 (Value.int IntKind.i64 a.w)).set 5 (Value.int IntKind.i64 a.h)).toArray) = V26
  clear s0 s1 s2 s3 s4 s5 s6 z51
  obtain ⟨s0, s1, s2, s3, s4, s5, s6⟩ := blk7 (H4.out.blkm (.tail _ (.tail _ (.head _))))
  have f38 := H4.out.free 38
  have f39 := H4.out.free 39
  have f40 := H4.out.free 40
  have f41 := H4.out.free 41
  obtain ⟨c38, c39, c40, c41⟩ := bigB _ _ _ _ _ (H4.out.blkm (.head _))
  go_upto_region 5 with fail
  have h5 := set_bd H4.out bd
  obtain ⟨W5, hW5⟩ : ∃ W5, ((((W.setCell ⟨m + 1 + 1, 38, none⟩ (.int .i64 bd)).setCell ⟨m + 1 + 1, 39, none⟩ (.int .i64 bd)).setCell ⟨m + 1 + 1, 40, none⟩ (.int .i64 bd)).setCell ⟨m + 1 + 1, 41, none⟩ (.int .i64 bd)) = W5 := ⟨_, rfl⟩
  rw [hW5] at h5 ⊢
  clear hW5 s0 s1 s2 s3 s4 s5 s6 f38 f39 f40 f41 c38 c39 c40 c41
  have H5 := Lib.hid h5
  clear h5
  obtain ⟨s0, s1, s2, s3, s4, s5, s6⟩ := blk7 (H5.out.blkm (.tail _ (.tail _ (.head _))))
  have c0 := H5.out.cell 0
  have c1 := H5.out.cell 1
  have c59 := H5.out.cell 59
  have f0 := H5.out.free 0
  have f1 := H5.out.free 1
  have f59 := H5.out.free 59
  replace c0 : W5.cell? ⟨m + 1 + 1, 0, none⟩ = some (.int .i64 1) := c0
  replace c1 : W5.cell? ⟨m + 1 + 1, 1, none⟩ = some (.int .i64 ((b : Int) + 1)) := c1
  replace c59 : W5.cell? ⟨m + 1 + 1, 59, none⟩ = some (.int .i64 0) := c59
  go_upto_block 0 with fail
  go_cut [41, 45, 48] (fun v41 v45 v48 wx => FrC w0 L m a ks.length bd False wx)
  case first =>
    have hkc : kd = 1 ∨ kd = 2 ∨ kd = 3 ∨ kd = 0 := by omega
    rcases hkc with rfl | rfl | rfl | rfl
    · go_wp2_with fail
      go_meet
      exact ⟨1, b + 1, 2, fun q => q.elim, H5.out.set 59 (.int .i64 2)⟩
    · go_wp2_with fail
      go_meet
      exact ⟨2, b + 1, 0, fun q => q.elim, H5.out.set 0 (.int .i64 2)⟩
    · go_wp2_with fail
      go_meet
      exact ⟨1, 0, 0, fun q => q.elim, H5.out.set 1 (.int .i64 0)⟩
    · go_wp2_with fail
      go_meet
      exact ⟨1, b + 1, 0, fun q => q.elim, H5.out⟩
  case rest =>
    clear c0 c1 c59 f0 f1 f59 s0 s1 s2 s3 s4 s5 s6
    have HC := Lib.hid hcut
    obtain ⟨⟨u0, c0⟩, ⟨u1, c1⟩, -, f0, f1, -⟩ := hcut.at
    clear hcut
    go_upto_if 52 with fail
    go_cut [] (fun wx => FrC w0 L m a ks.length bd (b = 0) wx)
    case first =>
      obtain ⟨k0, n2, o, -, hf⟩ := HC.out
      by_cases hb0 : b = 0
      · subst hb0
        go_wp2_with fail
        go_meet
        exact ⟨1, 1, o, fun _ => ⟨rfl, rfl⟩, (hf.set 0 (.int .i64 1)).set 1 (.int .i64 1)⟩
      · have hb1 : ((b : Int) + 1 == 1) = false := by simp; omega
        go_wp2_with fail
        go_meet
        exact ⟨k0, n2, o, fun q => absurd q hb0, hf⟩
    case rest =>
      clear c0 c1 f0 f1
      obtain ⟨k0, n2, o, hq, hf⟩ := hcut
      have HF := Lib.hid hf
      have HQ := Lib.hid hq
      obtain ⟨s0, s1, s2, s3, s4, s5, s6⟩ := blk7 (hf.blkm (.tail _ (.tail _ (.head _))))
      clear hf hq s0 s1 s2 s3 s4 s5
      go_wp2_with fail
      go_loopg [1, 58] ks.length (FgRel w0 L m d b a ks bd)
      case atStart =>
        refine ⟨0, b + 1, [], none, 0, k0, n2, o, rfl, Nat.zero_le _, rfl, by simp, by simp [szL], rfl, HQ.out, by simp, by simp [Ft.szL, szL], ?_⟩
        exact fts_nil (HF.out.row_nil 51 67)
      case round =>
        clear k0 n2 o HF HQ s6
        obtain ⟨k, B, fs, s, c, k0, n2, o, hg, hk, rfl, rfl, hB, hfs, hq, hok, hsz, hst⟩ := hrel
        have Hg := Lib.hid hg
        have HBB := Lib.hid hB
        have Hfs := Lib.hid hfs
        have HQ := Lib.hid hq
        have HOK := Lib.hid hok
        have HSZ := Lib.hid hsz
        have HS := Lib.hid hst
        have hW7 := Go.Proofs.Ytfjjgebfeklnhaa.blk7 (hst.blkm (.tail _ (.tail _ (.tail _ (.tail _ (.head _))))))
        obtain ⟨-, -, -, -, -, -, s6⟩ := hW7
        clear hg hB hfs hq hok hsz hst
        by_cases hkn : k < ks.length
        · have hkI : (k : Int) < (ks.length : Int) := by omega
          have hkI0 : (0 : Int) ≤ (k : Int) := by omega
          have hrd := HRD.out.below HS.out.bel
          obtain ⟨g, off, hsa, -⟩ := hrd.addr (by omega)
          rw [hsa] at hrd s6
          obtain ⟨kb, kl, hx⟩ : ∃ kb kl, ks[k] = Sh.mk kb kl := by cases ks[k] with | mk b l => exact ⟨b, l, rfl⟩
          obtain ⟨d0, d1, d2, d3, d4, d5, d6⟩ := s_at hrd hkn kb kl hx
          have hat2 := HK.out _ (List.getElem_mem hkn)
          have hkd2 := HKD.out _ (List.getElem_mem hkn)
          have htk : szL (ks.take (k + 1)) = szL (ks.take k) + (Sh.mk kb kl).sz := by
            rw [List.take_succ_eq_append_getElem hkn, hx]
            have : ∀ l : List Sh, ∀ x, szL (l ++ [x]) = szL l + x.sz := by
              intro l
              induction l with
              | nil => intro x; simp [szL]
              | cons y l ih => intro x; rw [List.cons_append, szL, szL, ih]; omega
            exact this _ _
          have hle : szL (ks.take (k + 1)) ≤ szL ks := by
            have : ∀ (l : List Sh) (n : Nat), szL (l.take n) ≤ szL l := by
              intro l
              induction l with
              | nil => intro n; simp
              | cons y l ih => intro n; cases n with
                | zero => simp [szL]
                | succ n => rw [List.take_succ_cons, szL, szL]; have := ih n; omega
            exact this _ _
          rw [hx] at hat2 hkd2
          have IHC := Lib.hid (IHD.out (d - 1) (by omega) (.mk kb kl) B w0 wr _ hat2 hkd2.2 (by omega) (by have := HB.out; rw [Sh.sz] at this; have := HBB.out; omega) HS.out)
          have HTK := Lib.hid htk
          have HD1 := Lib.hid hkd2.1
          have HSA := Lib.hid hsa
          clear hrd hsa hx hat2 hkd2 htk hle
          have z51 := zv51
          go_upto_region 19 with (first
            | (go_at_call 15; refine (IHC.out).mono ?_; rintro e w3 ⟨f, rfl, q1, q2, q3, q4⟩; have HOf := Lib.hid q1; have HSf := Lib.hid q3; have H5n := Lib.hid (q4.new (fv Fz 0).toArray 51); clear q1 q2 q3 q4 s6 d0 d1 d2 d3 d4 d5 d6)
            | (refine st_store rfl (.tmp 9) (.tmp 69) rfl H5n.out (fc f) rfl rfl rfl rfl size51 (fv_one _ _) ?_; intro W4 HW4; have H6 := Lib.hid HW4; clear HW4; obtain ⟨-, -, -, -, -, -, -, c66⟩ := bigI _ _ _ _ _ (H6.out.blkm (.tail _ (.tail _ (.tail _ (.tail _ (.head _)))))) ))
          clear z51
          have H7 := Lib.hid (St.sh [_, _, _, _] [3, 0, 1, 2] (by decide) H6.out)
          go_wp2_with (first
            | (refine st_load rfl (.tmp 9) rfl (fc f) H6.out (.head _) rfl rfl Try.underlying51 rfl size51 ?_)
            | (refine st_build rfl (.tmp 73) rfl H7.out Try.underlying49 zv51 Try.sizeOf51 (by decide) (by decide) (fc f).toArray rfl rfl ?_; intro W8 g8 HW8 HG8; have H8 := Lib.hid HW8; have G8 := Lib.hid HG8; clear HW8 HG8)
            | (refine st_push rfl (.tmp 72) (.tmp 74) rfl el51 H8.out rfl (fc f).toArray G8.out rfl rfl (fc_one f) (by omega) (by decide) ?_; intro s' c' W9 HW9; have H9 := Lib.hid HW9; clear HW9; obtain ⟨-, -, -, -, -, -, -, c66⟩ := bigI _ _ _ _ _ (H9.out.blkm (.tail _ (.tail _ (.tail _ (.tail _ (.head _)))))); have f66 := (St.sh [_, _, _, _, _] [4, 0, 1, 2, 3] (by decide) H9.out).free 66))
          go_roundg (ks.length - (k + 1))
          case measure => have := Hg.out; omega
          case rel =>
            have g1 := fts_app (St.sh [_, _, _, _, _] [1, 2, 3, 0, 4] (by decide) H9.out).drop
            have g2 := (St.sh [_, _, _] [2, 0, 1] (by decide) g1).set 66 (.slice s' (k + 1) c')
            rw [set67] at g2
            have g3 := St.sh [_, _, _] [1, 2, 0] (by decide) g2
            have e1 : flat fc fs ++ (fc f).toArray.toList = flat fc (fs ++ [f]) := by simp [flat]
            refine ⟨k + 1, B + (Sh.mk kb kl).sz, fs ++ [f], s', c', k0, n2, o, rfl, hkn, by simp, by simp, by have := HBB.out; have := HTK.out; omega, by simp [Hfs.out], HQ.out, ?_, ?_, ?_⟩
            · intro x hx
              rcases List.mem_append.1 hx with q | q
              · exact HOK.out x q
              · rw [List.mem_singleton.1 q]
                have := HOf.out
                rwa [Nat.sub_add_cancel HD1.out] at this
            · rw [szL_app, HSZ.out, HTK.out, ← HSf.out]; simp [Ft.szL]
            · rw [← e1]; exact g3
        · have hkI : ¬ (k : Int) < (ks.length : Int) := by omega
          have hke : k = ks.length := by omega
          subst hke
          have h9 := St.sh [_, _, _, _] [3, 2, 0, 1] (by decide) HS.out
          have e1 : (fv ⟨k0, n2, a.x, a.y, a.w, a.h, bd, o, s, c⟩ ks.length) = fc (.mk ⟨k0, n2, a.x, a.y, a.w, a.h, bd, o, s, c⟩ fs) := by simp only [fc, Ft.a, Ft.ks, Hfs.out]
          obtain ⟨F, hF⟩ : ∃ F, Ft.mk ⟨k0, n2, a.x, a.y, a.w, a.h, bd, o, s, c⟩ fs = F := ⟨_, rfl⟩
          rw [e1, hF] at h9
          have H9 := Lib.hid h9
          have HF := Lib.hid hF
          clear e1 h9 hF
          go_wp2_with (first
            | (refine st_load rfl (.tmp 6) rfl (fc F) H9.out (.tail _ (.head _)) rfl rfl Try.underlying51 rfl size51 ?_)
            | (refine st_store rfl (.tmp 4) (.tmp 79) rfl H9.out (fc F) rfl rfl rfl rfl size51 (fc_one _) ?_; intro W4 HW4; have H6 := Lib.hid HW4; clear HW4))
          have hl := run_loadVar_mid (P := Try.prog) W4 (m + 1) 0 51 (fc F) _ (H6.out.blkm (.head _)).range Try.underlying51 rfl size51
          refine bodyPost_ret (v := .tuple #[.agg (fc F).toArray, .int .i64 (B : Int)]) (by rw [results_cell_tmp Try.results15]; simp [hl, asAddr, Sem.run_bind]) rfl ?_
          refine ⟨F, ?_, ?_, ?_, ?_, ?_⟩
          · have := HBB.out
            rw [List.take_length] at this
            rw [this, Sh.sz]
            simp only [Nat.add_assoc]
          · rw [← HF.out]
            exact .mk d _ _ ⟨⟨x1, x2⟩, ⟨y1, y2⟩, ⟨w1, w2⟩, ⟨h1, h2⟩, ⟨bd1, bd2⟩⟩ HOK.out
          · rw [← HF.out]; exact HQ.out
          · rw [← HF.out, Ft.sz, Sh.sz, HSZ.out, List.take_length]
          · have g1 := (St.sh [_, _, _, _, _] [0, 1, 4, 3, 2] (by decide) H6.out).drop.drop.drop
            have g2 := fts_up ⟨k0, n2, a.x, a.y, a.w, a.h, bd, o, s, c⟩ (Hfs.out ▸ g1)
            rw [HF.out] at g2
            exact g2
end Go.Proofs.Ytfjjgebfeklnhaa
