/-
  store.with; the store as objects in memory; drop, Open, Abort, Size.
-/
import Derived.Test.YtcglnjklnlejmaaSf
set_option linter.unusedVariables false
set_option linter.unusedSimpArgs false
namespace Go.Proofs.Ytcglnjklnlejmaa
open Go.RowKit Go.K Go.K.Sr

theorem c_len (A : List Ch) : (flat ccells A).length = A.length * 3 := flat_len (f := ccells) (sz := 3) (fun _ => rfl) A
theorem y_len (A : List (Tx × Value)) : (flat ycells A).length = A.length * 4 := flat_len (f := ycells) (sz := 4) (fun _ => rfl) A
def WtPost (l : List Ch) (x : Ch) (w : World) (e : Ending) (w' : World) : Prop :=
  ∃ s c, e = .returned (.slice s (withC x l).length c) ∧ St w w' [As.row 59 3 s (withC x l).length c (flat ccells (withC x l))]

set_option maxRecDepth 100000 in
set_option maxHeartbeats 1000000 in
theorem with_any (s : Option Addr) (c : Nat) (l : List Ch) (x : Ch) (w : World) (hp : Rd w 3 s l.length (flat ccells l)) (hc0 : s = none → c = 0) (hn : l.length ≤ 100000) (ha : Asc Ch.k l) :
    Calls Try.prog 49 #[.slice s l.length c, .agg #[.string x.k, .string x.v, .bool x.r]] w (WtPost l x w) := by
  have HA := Lib.hid ha
  have HP := Lib.hid (hp.alloc (.cells #[.string x.k, .string x.v, .bool x.r] 59))
  have hbx := Blk.new w #[.string x.k, .string x.v, .bool x.r] 59
  have H0 := Lib.hid ((St.start w (Below.refl _ w)).alloc (.cells #[.string x.k, .string x.v, .bool x.r] 59))
  have HBX := Lib.hid hbx
  clear hp ha hbx
  go_enter Try.func49, Try.ntmps49
  go_upto_region 3 with (first
    | (go_at_call 63; refine (cloneC _ _ _ _ _ HP.out hc0 (by omega)).mono ?_; rintro e w1 ⟨s1, c1, rfl, g1, g2, g3⟩; have H1 := Lib.hid (H0.out.row_new g1 g2 g3); have hb1 := (HBX.out.kept (S := fun _ => False) (g2.mono (fun _ _ q => q)) (fun q => q)); have HB1 := Lib.hid hb1; obtain ⟨k0, k1, k2, -, -, -⟩ := hb1.three; clear hb1 g1 g2 g3)
    | (go_at_call 33; refine (cplace_any s1 c1 l x.k _ H1.out.sl.rd (by omega) HA.out).mono ?_; rintro e w3 ⟨A, B, hcut, rfl, hb3⟩; have HCut := Lib.hid hcut; have HST3 := Lib.hid (H1.out.of_below hb3); have hb1 := HB1.out.kept (S := fun _ => False) (Fr.of_below hb3) (fun q => q); clear hcut k0 k1 k2 hb3; obtain ⟨k0, k1, k2, -, -, -⟩ := hb1.three; clear hb1))
  have hOl : l.length = A.length + B.length := by rw [HCut.out.eq]; simp
  obtain ⟨hk, hhk⟩ : ∃ hk, hasKey Ch.k x.k B = hk := ⟨_, rfl⟩
  have HHK := Lib.hid hhk
  rw [hhk]
  clear hhk
  cases hk with
  | true =>
    obtain ⟨b, B', hBB⟩ : ∃ b B', B = b :: B' := by
      cases B with
      | nil => exact absurd HHK.out (by simp [hasKey])
      | cons b B' => exact ⟨b, B', rfl⟩
    subst hBB
    simp only [List.length_cons] at hOl
    have hAO : A.length < l.length := by omega
    have hOA : l[A.length] = b := by
      have := HCut.out.eq
      subst this
      simp
    have hfl : flat ccells l = flat ccells A ++ ccells b ++ flat ccells B' := by rw [HCut.out.eq, flat_append, List.append_assoc]; rfl
    obtain ⟨g2, o2, rfl, -⟩ := HST3.out.sl.rd.addr (by omega)
    obtain ⟨e0, e1, e2⟩ := c_at HST3.out.sl.rd hAO b hOA
    have hfz := fun j => HST3.out.sl.some_free j
    have hf0 := hfz (o2 + A.length * 3)
    have hf1 := hfz (o2 + A.length * 3 + 1)
    have hf2 := hfz (o2 + A.length * 3 + 2)
    have hWt : withC x l = A ++ x :: B' := by
      rw [withC_cut HCut.out, HHK.out]
      rfl
    have HWt := Lib.hid hWt
    have hset := ((HST3.out.row_set (A.length * 3) (by omega) (.string x.k) rfl).row_set (A.length * 3 + 1) (by omega) (.string x.v) rfl).row_set (A.length * 3 + 2) (by omega) (.bool x.r) rfl
    rw [hfl] at hset
    have hAfl : (flat ccells A).length = A.length * 3 := c_len A
    have hse : (((flat ccells A ++ ccells b ++ flat ccells B').set (A.length * 3) (.string x.k)).set (A.length * 3 + 1) (.string x.v)).set (A.length * 3 + 2) (.bool x.r) = flat ccells (A ++ x :: B') := by
      rw [List.append_assoc, ← hAfl, List.set_append_right _ _ (by omega), List.set_append_right _ _ (by omega), List.set_append_right _ _ (by omega), flat_append]
      simp only [Nat.sub_self, Nat.add_sub_cancel_left]
      rfl
    rw [hse] at hset
    simp only [← Nat.add_assoc] at hset
    have HSET := Lib.hid hset
    have hAI : (A.length : Int) < (l.length : Int) := by omega
    have HOl := Lib.hid hOl
    clear hset hse hAfl hfl hOA hfz hWt hOl hAO
    go_wp2_with fail
    refine bodyPost_ret (v := .slice (some ⟨g2, o2, none⟩) l.length c1) (by simp [results, Try.results49, go_sem]) rfl ?_
    have hOl := HOl.out
    exact ⟨some ⟨g2, o2, none⟩, c1, by rw [HWt.out]; simp; omega, by rw [HWt.out]; simpa [hOl, Nat.add_assoc] using HSET.out⟩
  | false =>
    have hfl : flat ccells l = flat ccells A ++ flat ccells B := by rw [HCut.out.eq, flat_append]
    have hst := HST3.out.alloc (.cells #[.string x.k, .string x.v, .bool x.r] 59)
    rw [hfl] at hst
    have HD := Lib.hid hst
    have hWt : withC x l = A ++ x :: B := by
      rw [withC_cut HCut.out, HHK.out]
      rfl
    have HWt := Lib.hid hWt
    have hrow : rowOf s1 ≠ some w3.heap.size := by
      intro e
      have := HST3.out.sl.lt _ e
      omega
    have HOl := Lib.hid hOl
    clear hst hfl hWt hOl
    go_wp2_with (go_at_call 64; refine (insertC _ #[.string x.k, .string x.v, .bool x.r] _ A.length B.length (flat ccells A) (flat ccells B) HD.out (Blk.new w3 _ _) hrow rfl (by simp [Value.oneCell']) (c_len A) (c_len B) (by have := HOl.out; omega) rfl (by have := HOl.out; omega)).mono ?_; rintro e w4 ⟨s4, c4, rfl, h4⟩)
    refine bodyPost_ret (v := .slice s4 (l.length + 1) c4) (by simp [results, Try.results49, go_sem]) rfl ?_
    have hOl := HOl.out
    refine ⟨s4, c4, by rw [HWt.out]; simp; omega, ?_⟩
    rw [HWt.out, flat_append]
    have e1 : (A ++ x :: B).length = l.length + 1 := by simp; omega
    rw [e1]
    simpa [flat, ccells] using h4
end Go.Proofs.Ytcglnjklnlejmaa
