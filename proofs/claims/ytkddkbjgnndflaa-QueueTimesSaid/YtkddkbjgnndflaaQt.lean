/-
  Contracts of the chapter's set of timers: Add, find, Again, Remove, First, Pop, Sorted.
-/
import Derived.Test.YtkddkbjgnndflaaQs
import Derived.Test.YtkddkbjgnndflaaKo
import Derived.Deep.RegionHeld3
set_option linter.unusedVariables false
set_option linter.unusedSimpArgs false
namespace Go.Proofs.Ytkddkbjgnndflaa
open Go.RowKit Go.K


theorem info65 : (Try.prog.info? 74).map (fun i => (i.zero, i.size, i.bytes)) = some (some (.agg #[.int .i64 0, .int .i64 0, .int .i64 0]), 3, 24) := by kernel_rfl
theorem el65 : El Try.prog 65 74 3 24 := by
  obtain ⟨i, hi, h1, h2, h3⟩ := info_parts info65
  exact ⟨by kernel_rfl, ⟨i, _, hi, h1, h2, h3, rfl⟩, by decide⟩

abbrev MV (s : Option Addr) (n c : Nat) (nx : Int) : Value := .agg #[.slice s n c, .int .i64 nx]

def RAddPost (M : List Tm) (nx : Int) (w : World) (E : Ending) (w' : World) : Prop :=
  ∃ s c, E = .returned (MV s M.length c nx) ∧ Rc w' 3 s M.length c (tcells M) ∧ NewAt w s ∧ Below w.heap.size w w'

set_option maxHeartbeats 1000000 in
theorem radd_any (s : Option Addr) (n c : Nat) (M : List Tm) (nx due : Int) (w : World) (hs : Rc w 3 s n c (tcells M)) (hl : M.length = n) (hn : n ≤ 100000) (hx : 0 ≤ nx) (hx2 : nx ≤ 4294967296) :
    Calls Try.prog 28 #[MV s n c nx, .int .i64 due] w (RAddPost (M ++ [⟨nx + 1, due, nx + 1⟩]) (nx + 1) w) := by
  have b0 : Below w.heap.size w ((w.alloc (.cells #[.slice s n c, .int .i64 nx] 67)).alloc (.cells #[.slice none 0 0, .int .i64 0] 67)) := ((Below.refl _ _).alloc (Nat.le_refl _) _).alloc (by simp) _
  have o0 := Own.fresh_at (Below.refl ((w.alloc (.cells #[.slice s n c, .int .i64 nx] 67)).alloc (.cells #[.slice none 0 0, .int .i64 0] 67)).heap.size _) 74 3 (w.heap.size + 1 + 1) (by simp)
  have r0 := ((hs.below b0).below o0.bel).rd
  have hw1 : IntKind.i64.wrap (nx + 1) = nx + 1 := by rw [IntKind.wrap_i64]; omega
  have HL := Lib.hid hl
  clear hl hs
  go_enter Try.func28, Try.ntmps28
  go_wp2_with (refine wpList_append_own' rfl (.tmp 9) (.tmp 11) 65 rfl el65 _ 0 0 [] rfl o0 s n c (tcells M) rfl r0 (by omega) (by omega) ?_)
  intro s1 c1 w1 o1 f1 n1
  try simp only [Nat.zero_add, List.nil_append] at o1
  have o2 := o1.alloc (.cells #[.int .i64 (nx + 1), .int .i64 due, .int .i64 (nx + 1)] 74)
  have r2 := rd_built w1 #[.int .i64 (nx + 1), .int .i64 due, .int .i64 (nx + 1)] 74 3 1 rfl (by simp [Value.oneCell'])
  clear f1 n1 o0 r0
  go_wp2_with (refine wpList_append_own' rfl (.tmp 12) (.tmp 17) 65 rfl el65 _ _ _ _ rfl o2 _ 1 _ _ rfl r2 (by omega) (by omega) ?_)
  intro s2 c2 w2 o3 f2 n2
  have hb2 := o3.blk (blk_new (w.alloc (.cells #[.slice s n c, .int .i64 nx] 67)) #[.slice none 0 0, .int .i64 0] 67 (w.heap.size + 1) (by simp))
  obtain ⟨c0, c1, g0, g1⟩ := hb2.two
  have hB := Lib.hid (b0.trans (o3.bel.mono b0.size))
  have O3 := Lib.hid o3.sl
  have Or := Lib.hid o3.row
  clear o3 f2 n2 hb2 o2 r2 o1 b0
  go_wp2_with fail
  refine bodyPost_ret (v := MV s2 (n + 1) c2 (nx + 1)) (by simp [results, Try.results28, go_sem, c0, c1]) rfl ⟨s2, c2, ?_, ?_, fun k hk => by have := Or.out k hk; simp at this; omega, ?_⟩
  · simp [HL.out]
  · have := (O3.out.put Or.out (p := ⟨w.heap.size + 1, 0, none⟩) (by simp) (.slice s2 (n + 1) c2)).put Or.out (p := ⟨w.heap.size + 1, 1, none⟩) (by simp) (.int .i64 (nx + 1))
    simpa [HL.out, tcells, Tm.cells] using this.rc
  · exact (hB.out.setCell (p := ⟨w.heap.size + 1, 0, none⟩) (by simp) _).setCell (p := ⟨w.heap.size + 1, 1, none⟩) (by simp) _

def FindRel (M : List Tm) (id : Int) (n : Nat) (w : World) (g : Nat) (v : Value) (wr : World) : Prop :=
  ∃ k : Nat, g = n - k ∧ k ≤ n ∧ v = .int .i64 k ∧ wr = w ∧ ∀ j (hj : j < M.length), j < k → M[j].id ≠ id

set_option maxHeartbeats 1000000 in
theorem rfind_any (s : Option Addr) (n c : Nat) (M : List Tm) (nx id : Int) (w : World) (hs : Rc w 3 s n c (tcells M)) (hl : M.length = n) (hn : n ≤ 100000) :
    Calls Try.prog 43 #[MV s n c nx, .int .i64 id] w (IdxPost M id w) := by
  have HS := Lib.hid (hs.alloc (.cells #[.slice s n c, .int .i64 nx] 67)).rd
  have HL := Lib.hid hl
  clear hs hl
  go_enter Try.func43, Try.ntmps43
  go_wp2_with fail
  go_loopg [9] n (FindRel M id n (w.alloc (.cells #[.slice s n c, .int .i64 nx] 67)))
  case atStart => exact ⟨0, rfl, Nat.zero_le _, rfl, rfl, by intro j hj h; omega⟩
  case round =>
    obtain ⟨k, hg, hk, rfl, rfl, hall⟩ := hrel
    have Hg := Lib.hid hg
    have HA := Lib.hid hall
    clear hg hall
    by_cases hkn : k < n
    · have hkt : k < M.length := by rw [HL.out]; exact hkn
      obtain ⟨g, off, rfl, hcell⟩ := HS.out.addr (by omega)
      obtain ⟨c0, c1, c2⟩ := tcells_at M k hkt
      have d0 := hcell _ _ c0
      clear hcell c0 c1 c2
      have hkn' : (k : Int) < (n : Int) := by omega
      by_cases hid : M[k].id = id
      · have hidb : (M[k].id == id) = true := by simp [hid]
        have HID := Lib.hid hid
        clear hid
        go_wp2_with fail
        go_ret
        refine ⟨k, rfl, .inl ⟨k, hkt, rfl, HID.out, fun j hj => HA.out j (by omega) hj⟩, (Below.refl _ _).alloc (Nat.le_refl _) _⟩
      · have hidb : (M[k].id == id) = false := by simp [hid]
        have HID := Lib.hid hid
        clear hid
        go_wp2_with fail
        go_roundg (n - (k + 1))
        case measure => have := Hg.out; omega
        case rel =>
          refine ⟨k + 1, rfl, by omega, by simp, rfl, fun j hj hjk => ?_⟩
          by_cases e : j = k
          · subst e; exact HID.out
          · exact HA.out j hj (by omega)
    · go_wp2_with fail
      go_ret
      refine ⟨-1, rfl, .inr ⟨rfl, fun t ht => ?_⟩, (Below.refl _ _).alloc (Nat.le_refl _) _⟩
      obtain ⟨j, hj, rfl⟩ := List.getElem_of_mem ht
      exact HA.out j hj (by have := HL.out; omega)

def Fit (M : List Tm) (nx id : Int) : Prop := 1 ≤ id ∧ id ≤ nx ∧ ∀ t ∈ M, t.id ≠ id
def RAgPost (M : List Tm) (nx id due : Int) (s : Option Addr) (n c : Nat) (w : World) (E : Ending) (w' : World) : Prop :=
  (Fit M nx id ∧ ∃ s' c', E = .returned (.tuple #[MV s' (n + 1) c' (nx + 1), .bool true]) ∧ Rc w' 3 s' (n + 1) c' (tcells (M ++ [⟨id, due, nx + 1⟩])) ∧ NewAt w s' ∧ Below w.heap.size w w') ∨
  (¬ Fit M nx id ∧ E = .returned (.tuple #[MV s n c nx, .bool false]) ∧ Below w.heap.size w w')

/-- the two boxes at the head of a call -/
abbrev box2 (w : World) (s : Option Addr) (n c : Nat) (nx : Int) : World := (w.alloc (.cells #[.slice s n c, .int .i64 nx] 67)).alloc (.cells #[.slice none 0 0, .int .i64 0] 67)

theorem box2_bel (w : World) (s : Option Addr) (n c : Nat) (nx : Int) : Below w.heap.size w (box2 w s n c nx) := ((Below.refl _ _).alloc (Nat.le_refl _) _).alloc (by simp) _
theorem box2_blk (w : World) (s : Option Addr) (n c : Nat) (nx : Int) : Blk (box2 w s n c nx) w.heap.size #[.slice s n c, .int .i64 nx] 67 ∧ Blk (box2 w s n c nx) (w.heap.size + 1) #[.slice none 0 0, .int .i64 0] 67 :=
  ⟨(Blk.new w _ 67).alloc _, blk_new _ _ _ _ (by simp)⟩

set_option maxHeartbeats 1000000 in
theorem ragain_any (s : Option Addr) (n c : Nat) (M : List Tm) (nx id due : Int) (w : World) (hs : Rc w 3 s n c (tcells M)) (hl : M.length = n) (hn : n ≤ 100000) (hx : 0 ≤ nx) (hx2 : nx ≤ 4294967296) :
    Calls Try.prog 29 #[MV s n c nx, .int .i64 id, .int .i64 due] w (RAgPost M nx id due s n c w) := by
  have hw1 : IntKind.i64.wrap (nx + 1) = nx + 1 := by rw [IntKind.wrap_i64]; omega
  have HL := Lib.hid hl
  have b0 := box2_bel w s n c nx
  have HS := Lib.hid (hs.below b0)
  obtain ⟨k0, k1⟩ := box2_blk w s n c nx
  have K0 := Lib.hid k0
  have K1 := Lib.hid k1
  clear hl hs k0 k1
  by_cases h1 : id < 1
  · have hno : Hid (¬ Fit M nx id) := Lib.hid (fun h => by have := h.1; omega)
    have B0 := Lib.hid b0
    clear b0
    go_enter Try.func29, Try.ntmps29
    go_wp2_with fail
    refine bodyPost_ret (v := .tuple #[MV s n c nx, .bool false]) (by simp [results, Try.results29, go_sem]) rfl (.inr ⟨hno.out, rfl, ((Below.refl _ _).alloc (Nat.le_refl _) _).alloc (by simp) _⟩)
  · by_cases h2 : nx < id
    · have hno : Hid (¬ Fit M nx id) := Lib.hid (fun h => by have := h.2.1; omega)
      have B0 := Lib.hid b0
      clear b0
      go_enter Try.func29, Try.ntmps29
      go_wp2_with fail
      refine bodyPost_ret (v := .tuple #[MV s n c nx, .bool false]) (by simp [results, Try.results29, go_sem]) rfl (.inr ⟨hno.out, rfl, ((Below.refl _ _).alloc (Nat.le_refl _) _).alloc (by simp) _⟩)
    · have B0 := Lib.hid b0
      clear b0
      go_enter Try.func29, Try.ntmps29
      go_wp2_with fail
      refine (rfind_any s n c M nx id _ HS.out HL.out hn).mono ?_
      rintro e w1 ⟨r, rfl, hr, hb⟩
      have K2 := K0.out.kept (Fr.of_below hb) (fun q => q)
      have K3 := K1.out.kept (Fr.of_below hb) (fun q => q)
      obtain ⟨c0, c1, g0, g1⟩ := K2.two
      obtain ⟨c2, c3, g2, g3⟩ := K3.two
      have HR := Lib.hid hr
      have HB := Lib.hid (B0.out.trans (hb.mono B0.out.size))
      have HS1 := Lib.hid (HS.out.below hb)
      have hlt := K3.lt
      have hlt0 := K2.lt
      have KK3 := Lib.hid K3
      by_cases hr0 : 0 ≤ r
      · have hno : Hid (¬ Fit M nx id) := Lib.hid (fun h => by
          rcases HR.out with ⟨k, hk, e, q, _⟩ | ⟨e, _⟩
          · exact h.2.2 _ (List.getElem_mem hk) q
          · omega)
        clear hr hb K2 K3
        go_wp2_with fail
        refine bodyPost_ret (v := .tuple #[MV s n c nx, .bool false]) (by simp [results, Try.results29, go_sem, c2, c3]) rfl (.inr ⟨hno.out, rfl, (HB.out.setCell (p := ⟨w.heap.size + 1, 0, none⟩) (by simp) _).setCell (p := ⟨w.heap.size + 1, 1, none⟩) (by simp) _⟩)
      · have hyes : Hid (Fit M nx id) := Lib.hid ⟨by omega, by omega, by
          rcases HR.out with ⟨k, hk, e, q, _⟩ | ⟨e, q⟩
          · omega
          · exact q⟩
        have o0 := Own.fresh (Below.refl w1.heap.size w1) 74 3
        have r0 := (HS1.out.below o0.bel).rd
        clear hr hb K2 K3 c2 c3 g2 g3
        go_wp2_with (refine wpList_append_own' rfl (.tmp 27) (.tmp 29) 65 rfl el65 _ 0 0 [] rfl o0 s n c (tcells M) rfl r0 (by omega) (by omega) ?_)
        intro s1 cc1 w2 o1 f1 n1
        try simp only [Nat.zero_add, List.nil_append] at o1
        have o2 := o1.alloc (.cells #[.int .i64 id, .int .i64 due, .int .i64 (nx + 1)] 74)
        have r2 := rd_built w2 #[.int .i64 id, .int .i64 due, .int .i64 (nx + 1)] 74 3 1 rfl (by simp [Value.oneCell'])
        clear f1 n1 o0 r0 c0 c1 g0 g1
        go_wp2_with (refine wpList_append_own' rfl (.tmp 30) (.tmp 35) 65 rfl el65 _ _ _ _ rfl o2 _ 1 _ _ rfl r2 (by omega) (by omega) ?_)
        intro s2 c2 w3 o3 f2 n2
        have hb2 := o3.blk KK3.out
        obtain ⟨c0, c1, g0, g1⟩ := hb2.two
        have hB := Lib.hid (HB.out.trans (o3.bel.mono HB.out.size))
        have O3 := Lib.hid o3.sl
        have Or := Lib.hid o3.row
        clear o3 f2 n2 hb2 o2 r2 o1
        go_wp2_with fail
        refine bodyPost_ret (v := .tuple #[MV s2 (n + 1) c2 (nx + 1), .bool true]) (by simp [results, Try.results29, go_sem, c0, c1]) rfl (.inl ⟨hyes.out, s2, c2, rfl, ?_, fun k hk => by have := Or.out k hk; omega, ?_⟩)
        · have := (O3.out.put Or.out (p := ⟨w.heap.size + 1, 0, none⟩) hlt (.slice s2 (n + 1) c2)).put Or.out (p := ⟨w.heap.size + 1, 1, none⟩) hlt (.int .i64 (nx + 1))
          simpa [tcells, Tm.cells] using this.rc
        · exact (hB.out.setCell (p := ⟨w.heap.size + 1, 0, none⟩) (by simp) _).setCell (p := ⟨w.heap.size + 1, 1, none⟩) (by simp) _


def RRemPost (M : List Tm) (nx id : Int) (s : Option Addr) (n c : Nat) (w : World) (E : Ending) (w' : World) : Prop :=
  (∃ (k : Nat) (hk : k < M.length) (s' : Option Addr) (c' : Nat), M[k].id = id ∧ E = .returned (.tuple #[MV s' (n - 1) c' nx, .bool true]) ∧ Rc w' 3 s' (n - 1) c' (tcells (M.eraseIdx k)) ∧ NewAt w s' ∧ Below w.heap.size w w') ∨
  ((∀ t ∈ M, t.id ≠ id) ∧ E = .returned (.tuple #[MV s n c nx, .bool false]) ∧ Below w.heap.size w w')

theorem tcells_take (M : List Tm) (k : Nat) : (tcells M).take (k * 3) = tcells (M.take k) := flat_take (f := Tm.cells) (fun _ => rfl) M k
theorem tcells_drop (M : List Tm) (k : Nat) : (tcells M).drop (k * 3) = tcells (M.drop k) := flat_drop (f := Tm.cells) (fun _ => rfl) M k

set_option maxRecDepth 100000 in
set_option maxHeartbeats 2000000 in
theorem rremove_any (s : Option Addr) (n c : Nat) (M : List Tm) (nx id : Int) (w : World) (hs : Rc w 3 s n c (tcells M)) (hl : M.length = n) (hn : n ≤ 100000) :
    Calls Try.prog 30 #[MV s n c nx, .int .i64 id] w (RRemPost M nx id s n c w) := by
  have HL := Lib.hid hl
  have b0 := box2_bel w s n c nx
  have HS := Lib.hid (hs.below b0)
  obtain ⟨k0, k1⟩ := box2_blk w s n c nx
  have K0 := Lib.hid k0
  have K1 := Lib.hid k1
  have B0 := Lib.hid b0
  clear hl hs k0 k1 b0
  go_enter Try.func30, Try.ntmps30
  go_wp2_with fail
  refine (rfind_any s n c M nx id _ HS.out HL.out hn).mono ?_
  rintro e w1 ⟨r, rfl, hr, hb⟩
  have K2 := K0.out.kept (Fr.of_below hb) (fun q => q)
  have K3 := K1.out.kept (Fr.of_below hb) (fun q => q)
  obtain ⟨c0, c1, g0, g1⟩ := K2.two
  obtain ⟨c2, c3, g2, g3⟩ := K3.two
  have HB := Lib.hid (B0.out.trans (hb.mono B0.out.size))
  have HS1 := Lib.hid (HS.out.below hb)
  have hlt := K3.lt
  have hlt0 := K2.lt
  have KK2 := Lib.hid K2
  have KK3 := Lib.hid K3
  clear K2 K3 hb
  rcases hr with ⟨k, hk, rfl, hid, -⟩ | ⟨rfl, hno⟩
  · have hkn : k < n := by rw [← HL.out]; exact hk
    obtain ⟨sa, hra, hA⟩ := HS1.out.cut_h el65 k (by omega)
    obtain ⟨sb, hrb, hB⟩ := HS1.out.cut_l el65 (k + 1) (by omega)
    rw [tcells_take] at hA
    rw [tcells_drop] at hB
    push_cast at hrb
    have HID := Lib.hid hid
    have RA := Lib.hid hA
    have RB := Lib.hid hB
    have o0 := (Own.fresh (Below.refl w1.heap.size w1) 74 3).drew
    have r0 := (hA.below o0.bel).rd
    have hw1 : IntKind.i64.wrap ((k : Int) + 1) = (k : Int) + 1 := by rw [IntKind.wrap_i64]; omega
    have hknb : decide ((k : Int) < 0) = false := by simp
    clear hid hA hB
    have hkeep : ∀ w', Below w1.heap.size w1 w' → w'.cell? ⟨w.heap.size, 0, none⟩ = some (.slice s n c) ∧ w'.cell? ⟨w.heap.size, 1, none⟩ = some (.int .i64 nx) ∧ w'.cell? ⟨w.heap.size + 1, 0, none⟩ = some (.slice none 0 0) ∧ w'.cell? ⟨w.heap.size + 1, 1, none⟩ = some (.int .i64 0) ∧ w'.frozen? ⟨w.heap.size + 1, 0, none⟩ = false ∧ w'.frozen? ⟨w.heap.size + 1, 1, none⟩ = false :=
      fun w' h => ⟨(h.cell hlt0).trans c0, (h.cell hlt0).trans c1, (h.cell hlt).trans c2, (h.cell hlt).trans c3, (h.frozen (p := ⟨w.heap.size + 1, 0, none⟩) hlt).trans g2, (h.frozen (p := ⟨w.heap.size + 1, 1, none⟩) hlt).trans g3⟩
    have KP := Lib.hid hkeep
    clear hkeep
    go_wp2_with fail
    go_region_held3 (fun w' => w'.cell? ⟨w.heap.size, 0, none⟩ = some (.slice s n c) ∧ w'.cell? ⟨w.heap.size, 1, none⟩ = some (.int .i64 nx))
      (first | go_keep | exact ⟨(KP.out _ o3.bel).1, (KP.out _ o3.bel).2.1⟩ | exact ⟨(KP.out _ o1.bel).1, (KP.out _ o1.bel).2.1⟩)
      (first
        | ((refine step_append_own (by rfl) _ _ 65 (by rfl) el65 _ 0 0 [] (by rfl) o0 sa k c (tcells (M.take k)) (by rfl) r0 (by omega) (by omega) ?_; intro s1 c1 w2 o1 f1 n1; have r1 := (RB.out.below o1.bel).rd))
        | ((refine step_append_own (by rfl) _ _ 65 (by rfl) el65 _ _ _ _ (by rfl) o1 sb (n - (k + 1)) (c - (k + 1)) _ (by rfl) r1 (by omega) (by omega) ?_; intro s2 c2 w3 o3 f2 n2; obtain ⟨-, -, c4, c5, g4, g5⟩ := KP.out _ o3.bel)))
    go_wp2_with fail
    have hsz : k + (n - (k + 1)) = n - 1 := by omega
    have he : tcells (M.take k) ++ tcells (M.drop (k + 1)) = tcells (M.eraseIdx k) := by rw [← tcells_app, List.eraseIdx_eq_take_drop_succ]
    rw [Nat.zero_add, List.nil_append, hsz, he] at o3
    simp only [hsz]
    refine bodyPost_ret (v := .tuple #[MV s2 (n - 1) c2 nx, .bool true]) (by simp [results, Try.results30, go_sem, c4, c5]) rfl (.inl ⟨k, hk, s2, c2, HID.out, rfl, ?_, fun k hk => by have := o3.row k hk; omega, ?_⟩)
    · exact ((o3.put (p := ⟨w.heap.size + 1, 0, none⟩) hlt (.slice s2 (n - 1) c2)).put o3.row (p := ⟨w.heap.size + 1, 1, none⟩) hlt (.int .i64 nx)).rc
    · exact ((HB.out.trans (o3.bel.mono HB.out.size)).setCell (p := ⟨w.heap.size + 1, 0, none⟩) (by simp) _).setCell (p := ⟨w.heap.size + 1, 1, none⟩) (by simp) _
  · have HNO := Lib.hid hno
    clear hno
    go_wp2_with fail
    refine bodyPost_ret (v := .tuple #[MV s n c nx, .bool false]) (by simp [results, Try.results30, go_sem, c2, c3]) rfl (.inr ⟨HNO.out, rfl, ?_⟩)
    exact (HB.out.setCell (p := ⟨w.heap.size + 1, 0, none⟩) (by simp) _).setCell (p := ⟨w.heap.size + 1, 1, none⟩) (by simp) _
end Go.Proofs.Ytkddkbjgnndflaa
