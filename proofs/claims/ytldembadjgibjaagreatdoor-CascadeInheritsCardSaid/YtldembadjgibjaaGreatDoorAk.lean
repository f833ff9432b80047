/-
  Cascade: each, part.
-/
import Derived.Test.YtldembadjgibjaaGreatDoorAj
import Derived.Test.YtldembadjgibjaaGreatDoorKo
set_option linter.unusedVariables false
set_option linter.unusedSimpArgs false
namespace Go.Proofs.YtldembadjgibjaaGreatDoor
open Go.RowKit Go.K Go.PlainAid Go.Lib

/-- a declaration -/
structure De where
  n : List UInt8
  v : Va
  im : Bool
deriving DecidableEq
def De.cells (d : De) : List Value := [.string (S d.n), .int .i64 d.v.kd, .int .i64 d.v.nm, .string (S d.v.wd), .bool d.im]
theorem de_len (d : De) : d.cells.length = 5 := rfl
theorem de_one (d : De) : ∀ u ∈ d.cells, u.oneCell' = true := by
  intro u hu
  simp only [De.cells, List.mem_cons, List.not_mem_nil, or_false] at hu
  rcases hu with rfl | rfl | rfl | rfl | rfl <;> rfl
theorem zero70 : (Tryz.prog.info? 70).map (fun i => (i.zero, i.size, i.bytes)) = some (some (.agg #[.string ⟨#[]⟩, .int .i64 0, .int .i64 0, .string ⟨#[]⟩, .bool false]), 5, 56) := by kernel_rfl
theorem el70 : El Tryz.prog 30 70 5 56 := by
  obtain ⟨i, hi, h1, h2, h3⟩ := info_parts zero70
  exact ⟨by kernel_rfl, ⟨i, _, hi, h1, h2, h3, rfl⟩, by decide⟩
theorem row_own {w0 w : World} {L : List As} {e : TypeId} {sz : Nat} {s : Option Addr} {n c : Nat} {xs : List Value} (h : St w0 w (As.row e sz s n c xs :: L)) : K.Own w0 w e sz s n c xs := by
  obtain ⟨F, hF, hn, -⟩ := h.head
  exact ⟨h.sl, h.bel, fun k hk => hn k ((hF.1 k).2 hk)⟩
abbrev vS (x : List UInt8) : Value := .string (S x)
def eachA (acc : List De) : List (List UInt8 × List UInt8) → Option (List De)
  | [] => some acc
  | p :: r => if (parseM p.1 p.2).2 = 0 then eachA (acc ++ [⟨p.1, (parseM p.1 p.2).1, false⟩]) r else none
def eachM (ns vs : List (List UInt8)) : List De × Bool := match eachA [] (ns.zip vs) with
  | some d => (d, true)
  | none => ([], false)
set_option maxRecDepth 100000 in
set_option maxHeartbeats 4000000 in
theorem each_any [Inhabited TbBox] (ns vs : List (List UInt8)) (hl : vs.length = ns.length) (hk : ns.length ≤ 1000) (hn : ∀ x ∈ ns, x.length ≤ 100000) (hv : ∀ x ∈ vs, x.length ≤ 100000) (sa sb : Option Addr) (ca cb : Nat) (w : World)
    (ha : Rc w 1 sa ns.length ca (ns.map vS)) (hb : Rc w 1 sb vs.length cb (vs.map vS)) (E : Env w) :
    Calls Tryz.prog 68 #[.slice sa ns.length ca, .slice sb vs.length cb] w fun e w' => ∃ s c, e = .returned (.tuple #[.slice s (eachM ns vs).1.length c, .bool (eachM ns vs).2]) ∧ K.Own w w' 70 5 s (eachM ns vs).1.length c (flat De.cells (eachM ns vs).1) := by
  obtain ⟨⟨dd, db⟩, hR⟩ : ∃ R, eachM ns vs = R := ⟨_, rfl⟩
  rw [hR]
  unfold eachM at hR
  obtain ⟨zs, hz⟩ : ∃ z, ns.zip vs = z := ⟨_, rfl⟩
  have hzl : zs.length = ns.length := by rw [← hz, List.length_zip]; omega
  have hk0 : ns.length ≤ 1000 := hk
  rw [hl] at hb ⊢
  obtain ⟨N, hN⟩ : ∃ N, ns.length = N := ⟨_, rfl⟩
  rw [hN] at hb ha hk hzl ⊢
  have hza : ∀ (k : Nat) (x : List UInt8 × List UInt8), zs[k]? = some x → ns[k]? = some x.1 ∧ vs[k]? = some x.2 := by
    intro k x hx
    rw [← hz] at hx
    exact List.getElem?_zip_eq_some.1 hx
  rw [hz] at hR
  have HR := Lib.hid hR
  have HZL := Lib.hid hzl
  have HZA := Lib.hid hza
  have HA := Lib.hid ha
  have HB := Lib.hid hb
  have HNL := Lib.hid hn
  have HVL := Lib.hid hv
  have HE := Lib.hid E
  have HL := Lib.hid hl
  have HPA := Lib.hid parse_any
  have H0 := Lib.hid ((St.start w (Below.refl _ w)).row_nil 70 5)
  have hkI : (N : Int) ≤ 1000 := by omega
  clear hR hzl hza ha hb hn hv E hz hl hN hk0
  go_enter Tryz.func68, Tryz.ntmps68
  go_wp2_with fail
  go_loopg [13, 6, 7, 8, 9, 10] N (fun g v13 v6 v7 v8 v9 v10 wr => ∃ (k : Nat) (ds : List De) (s : Option Addr) (c : Nat), g = N - k ∧ k ≤ N ∧ v13 = .int .i64 (k : Int) ∧ v6 = .slice s ds.length c ∧ ds.length = k ∧ eachA [] zs = eachA ds (zs.drop k) ∧ St w wr [As.row 70 5 s ds.length c (flat De.cells ds)])
  case atStart => exact ⟨0, [], none, 0, rfl, Nat.zero_le _, rfl, rfl, rfl, by rw [List.drop_zero], H0.out⟩
  case round =>
    obtain ⟨k, ds, s, c, hg, hkN, rfl, rfl, hdl, hea, hS⟩ := hrel
    have HG := Lib.hid hg
    have HEA := Lib.hid hea
    have HS := Lib.hid hS
    have HDL := Lib.hid hdl
    have hds : ds.length ≤ 1000 := by omega
    clear hg hea hS hdl
    by_cases hkn : k < N
    · have hkI2 : (k : Int) < (N : Int) := by omega
      have hk0 : (0 : Int) ≤ (k : Int) := by omega
      have g1 := wrapS (a := (k : Int) + 1) (by omega) (by omega)
      obtain ⟨⟨n, v⟩, hx⟩ : ∃ x, zs[k]? = some x := ⟨_, List.getElem?_eq_getElem (by rw [HZL.out]; exact hkn)⟩
      obtain ⟨hxn, hxv⟩ := HZA.out k _ hx
      obtain ⟨ga, oa, rfl, hca⟩ := (HA.out.below HS.out.bel).rd.addr (by omega)
      obtain ⟨gb, ob, rfl, hcb⟩ := (HB.out.below HS.out.bel).rd.addr (by omega)
      have cx := hca k (vS n) (by rw [List.getElem?_map, hxn]; rfl)
      have cy := hcb k (vS v) (by rw [List.getElem?_map, hxv]; rfl)
      have hdr : zs.drop k = (n, v) :: zs.drop (k + 1) := by
        obtain ⟨l1, e1⟩ := List.getElem?_eq_some_iff.1 hx
        rw [List.drop_eq_getElem_cons l1, e1]
      have hea := HEA.out
      rw [hdr] at hea
      simp only [eachA] at hea
      have hp := HPA.out n v (HNL.out _ (List.mem_of_getElem? hxn)) (HVL.out _ (List.mem_of_getElem? hxv)) wr (HE.out.below HS.out.bel)
      obtain ⟨⟨⟨kd, nm, wd⟩, er⟩, hpm⟩ : ∃ p, parseM n v = p := ⟨_, rfl⟩
      rw [hpm] at hea hp
      simp only [Va.cells] at hp
      have HP := Lib.hid hp
      have HEA2 := Lib.hid hea
      clear hp hea hpm hdr hca hcb hxn hxv hx HEA
      by_cases her : er = 0
      · subst her
        have hea2 := HEA2.out
        rw [if_pos rfl] at hea2
        have HEA3 := Lib.hid hea2
        clear hea2 HEA2
        go_wp2_with (first
          | (go_at_call 53; refine HP.out.mono ?_; rintro e w1 ⟨rfl, hb1⟩; have H1 := Lib.hid (HS.out.of_below hb1); clear hb1)
          | (refine st_push rfl (.tmp 29) (.tmp 33) rfl el70 ((H1.out.alloc (.cells #[.int .i64 kd, .int .i64 nm, vS wd] 68)).alloc (.cells #[vS n, .int .i64 kd, .int .i64 nm, vS wd, .bool false] 70)) rfl #[vS n, .int .i64 kd, .int .i64 nm, vS wd, .bool false] (blk_new (w1.alloc (.cells #[.int .i64 kd, .int .i64 nm, vS wd] 68)) #[vS n, .int .i64 kd, .int .i64 nm, vS wd, .bool false] 70 (w1.heap.size + 1) (by simp)) rfl rfl (de_one ⟨n, ⟨kd, nm, wd⟩, false⟩) (by omega) (by decide) ?_; intro s' c' W HW; have H2 := Lib.hid HW; clear HW))
        go_roundg (N - (k + 1))
        case measure => have := HG.out; omega
        case rel => exact ⟨k + 1, ds ++ [⟨n, ⟨kd, nm, wd⟩, false⟩], s', c', rfl, by omega, by rw [Int.natCast_add]; rfl, by simp, by simp [HDL.out], HEA3.out, by simpa [flat, De.cells] using H2.out⟩
      · have herb : (er == 0) = false := by simpa using her
        have hea2 := HEA2.out
        rw [if_neg her] at hea2
        have hr := HR.out
        rw [hea2] at hr
        obtain ⟨rfl, rfl⟩ := Prod.mk.inj hr
        clear hea2 HEA2 hr HR
        go_wp2_with (go_at_call 53; refine HP.out.mono ?_; rintro e w1 ⟨rfl, hb1⟩; have H1 := Lib.hid (HS.out.of_below hb1); clear hb1)
        exact bodyPost_ret (v := .tuple #[.slice none 0 0, .bool false]) (by simp [results, Tryz.results68, go_sem]) rfl ⟨none, 0, rfl, Own.nil ((H1.out.alloc (.cells #[.int .i64 kd, .int .i64 nm, vS wd] 68)).bel) 70 5⟩
    · have hke : k = N := by omega
      subst hke
      have hea := HEA.out
      rw [List.drop_eq_nil_of_le (by rw [HZL.out]; exact Nat.le_refl _)] at hea
      have hr := HR.out
      rw [hea] at hr
      obtain ⟨rfl, rfl⟩ := Prod.mk.inj hr
      clear hr hea
      go_wp2_with fail
      exact bodyPost_ret (v := .tuple #[.slice s ds.length c, .bool true]) (by simp [results, Tryz.results68, go_sem]) rfl ⟨s, c, rfl, row_own HS.out⟩
end Go.Proofs.YtldembadjgibjaaGreatDoor
