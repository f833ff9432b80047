/-
  Cascade: what the package's variables hold; among.
-/
import Derived.Test.YtldembadjgibjaaGreatDoorAd
import Derived.Lib.SmallJoins
set_option linter.unusedVariables false
set_option linter.unusedSimpArgs false
namespace Go.Proofs.YtldembadjgibjaaGreatDoor
open Go.RowKit Go.K Go.PlainAid Go.Lib

/-- the table of the properties: name, what it takes, words -/
def tabE : List (List UInt8 × Int × List UInt8) := [
  ([98, 97, 99, 107, 103, 114, 111, 117, 110, 100], 1, [116, 114, 97, 110, 115, 112, 97, 114, 101, 110, 116]),
  ([98, 111, 114, 100, 101, 114, 45, 98, 111, 116, 116, 111, 109, 45, 119, 105, 100, 116, 104], 34, []),
  ([98, 111, 114, 100, 101, 114, 45, 99, 111, 108, 111, 114], 1, []),
  ([98, 111, 114, 100, 101, 114, 45, 108, 101, 102, 116, 45, 119, 105, 100, 116, 104], 34, []),
  ([98, 111, 114, 100, 101, 114, 45, 114, 105, 103, 104, 116, 45, 119, 105, 100, 116, 104], 34, []),
  ([98, 111, 114, 100, 101, 114, 45, 116, 111, 112, 45, 119, 105, 100, 116, 104], 34, []),
  ([99, 111, 108, 111, 114], 1, []),
  ([100, 105, 115, 112, 108, 97, 121], 0, [98, 108, 111, 99, 107, 32, 102, 108, 101, 120, 32, 105, 110, 108, 105, 110, 101, 32, 105, 110, 108, 105, 110, 101, 45, 98, 108, 111, 99, 107, 32, 108, 105, 115, 116, 45, 105, 116, 101, 109, 32, 110, 111, 110, 101, 32, 116, 97, 98, 108, 101, 32, 116, 97, 98, 108, 101, 45, 99, 101, 108, 108, 32, 116, 97, 98, 108, 101, 45, 114, 111, 119, 32, 116, 97, 98, 108, 101, 45, 114, 111, 119, 45, 103, 114, 111, 117, 112]),
  ([102, 108, 101, 120, 45, 98, 97, 115, 105, 115], 38, [97, 117, 116, 111]),
  ([102, 108, 101, 120, 45, 100, 105, 114, 101, 99, 116, 105, 111, 110], 0, [99, 111, 108, 117, 109, 110, 32, 114, 111, 119]),
  ([102, 108, 101, 120, 45, 103, 114, 111, 119], 40, []),
  ([102, 108, 101, 120, 45, 115, 104, 114, 105, 110, 107], 40, []),
  ([102, 108, 101, 120, 45, 119, 114, 97, 112], 0, [110, 111, 119, 114, 97, 112, 32, 119, 114, 97, 112]),
  ([102, 111, 110, 116, 45, 115, 105, 122, 101], 38, []),
  ([104, 101, 105, 103, 104, 116], 38, [97, 117, 116, 111]),
  ([108, 101, 102, 116], 6, [97, 117, 116, 111]),
  ([108, 105, 110, 101, 45, 104, 101, 105, 103, 104, 116], 46, [110, 111, 114, 109, 97, 108]),
  ([109, 97, 114, 103, 105, 110, 45, 98, 111, 116, 116, 111, 109], 6, [97, 117, 116, 111]),
  ([109, 97, 114, 103, 105, 110, 45, 108, 101, 102, 116], 6, [97, 117, 116, 111]),
  ([109, 97, 114, 103, 105, 110, 45, 114, 105, 103, 104, 116], 6, [97, 117, 116, 111]),
  ([109, 97, 114, 103, 105, 110, 45, 116, 111, 112], 6, [97, 117, 116, 111]),
  ([109, 97, 120, 45, 119, 105, 100, 116, 104], 38, [110, 111, 110, 101]),
  ([109, 105, 110, 45, 119, 105, 100, 116, 104], 38, []),
  ([111, 114, 100, 101, 114], 24, []),
  ([111, 118, 101, 114, 102, 108, 111, 119], 0, [104, 105, 100, 100, 101, 110, 32, 115, 99, 114, 111, 108, 108, 32, 118, 105, 115, 105, 98, 108, 101]),
  ([112, 97, 100, 100, 105, 110, 103, 45, 98, 111, 116, 116, 111, 109], 38, []),
  ([112, 97, 100, 100, 105, 110, 103, 45, 108, 101, 102, 116], 38, []),
  ([112, 97, 100, 100, 105, 110, 103, 45, 114, 105, 103, 104, 116], 38, []),
  ([112, 97, 100, 100, 105, 110, 103, 45, 116, 111, 112], 38, []),
  ([112, 111, 115, 105, 116, 105, 111, 110], 0, [97, 98, 115, 111, 108, 117, 116, 101, 32, 114, 101, 108, 97, 116, 105, 118, 101, 32, 115, 116, 97, 116, 105, 99]),
  ([116, 101, 120, 116, 45, 97, 108, 105, 103, 110], 0, [99, 101, 110, 116, 101, 114, 32, 108, 101, 102, 116, 32, 114, 105, 103, 104, 116]),
  ([116, 111, 112], 6, [97, 117, 116, 111]),
  ([118, 101, 114, 116, 105, 99, 97, 108, 45, 97, 108, 105, 103, 110], 0, [98, 111, 116, 116, 111, 109, 32, 109, 105, 100, 100, 108, 101, 32, 116, 111, 112]),
  ([118, 105, 115, 105, 98, 105, 108, 105, 116, 121], 0, [104, 105, 100, 100, 101, 110, 32, 118, 105, 115, 105, 98, 108, 101]),
  ([119, 104, 105, 116, 101, 45, 115, 112, 97, 99, 101], 0, [110, 111, 114, 109, 97, 108, 32, 110, 111, 119, 114, 97, 112, 32, 112, 114, 101]),
  ([119, 105, 100, 116, 104], 38, [97, 117, 116, 111]),
  ([122, 45, 105, 110, 100, 101, 120], 24, [97, 117, 116, 111])]

def tabC : List Value := tabE.flatMap fun x => [.string (S x.1), .int .i64 x.2.1, .string (S x.2.2)]
/-- a table of numbers, as a thing that a text may take for given -/
structure TbBox where
  t : Nat → Int
/-- what the table uint64pow10 holds -/
def pw [Inhabited TbBox] (i : Nat) : Int := (default : TbBox).t i
/-- what the variables hold -/
structure Env [Inhabited TbBox] (w : World) : Prop where
  asc : Lib.TabIs Tryz.prog w "strings.asciiSpace" .u8 Lib.asciiSpaceTab
  p10 : ∀ i, i < 20 → w.cell? ⟨6, i, none⟩ = some (.int .u64 (pw i))
  ml : ∃ m, w.cell? ⟨5, 0, none⟩ = some (.int .i64 m)
  tab : ∀ (j : Nat) (v : Value), tabC[j]? = some v → w.cell? ⟨0, j, none⟩ = some v
theorem Env.below [Inhabited TbBox] {w w' : World} (h : Env w) (hb : Below w.heap.size w w') : Env w' := by
  refine ⟨Go.Joins.tab_stays (g := 1) (by kernel_rfl) h.asc hb (Nat.le_refl _), fun i hi => (hb.cell (World.block_lt_of_cell? _ _ (h.p10 i hi))).trans (h.p10 i hi), ?_, fun j v hv => (hb.cell (World.block_lt_of_cell? _ _ (h.tab j v hv))).trans (h.tab j v hv)⟩
  obtain ⟨m, hm⟩ := h.ml
  exact ⟨m, (hb.cell (World.block_lt_of_cell? _ _ hm)).trans hm⟩
theorem St.env [Inhabited TbBox] {w0 w : World} {L : List As} (h : St w0 w L) (e : Env w0) : Env w := e.below h.bel

def amongL (s l : List UInt8) : Bool := Lib.containsS ((Lib.fields l).map S) (S s)
theorem among_any [Inhabited TbBox] (s l : List UInt8) (hl : l.length ≤ 1000) (ha : l.all (fun b => decide (b.toNat < 128)) = true) (hfl : (Lib.fields l).length ≤ 1000) (w : World) (E : Env w) : Calls Tryz.prog 69 #[.string (S s), .string (S l)] w fun e w' => e = .returned (.bool (amongL s l)) ∧ Below w.heap.size w w' := by
  have hf := Tryz.strings_Fields (S l) w (by rw [S_size]; omega) (ascii_of ha) E.asc
  rw [S_list] at hf
  obtain ⟨f, hfe⟩ : ∃ f, Lib.fields l = f := ⟨_, rfl⟩
  obtain ⟨b, hb⟩ : ∃ b, amongL s l = b := ⟨_, rfl⟩
  have HB := Lib.hid hb
  rw [hb]
  unfold amongL at HB
  rw [hfe] at HB
  rw [hfe] at hf
  have HF := Lib.hid hf
  rw [hfe] at hfl
  clear hf hb
  have hc := Tryz.slices_Contains_string w.heap.size 0 f.length f.length (f.map S) (S s) (w.alloc (.cells (f.map fun l => Value.string ⟨l.toArray⟩).toArray 9)) (by simp) (by omega) (fun j hj => by
    rw [Nat.zero_add, (Blk.new w _ 9).cell]
    simp at hj
    simp [hj])
  rw [show (f.map S).take f.length = f.map S from by rw [← List.length_map (f := S)]; exact List.take_length, HB.out] at hc
  have HC := Lib.hid hc
  clear hc
  go_enter Tryz.func69, Tryz.ntmps69
  go_wp2_with (first
    | (go_at_call 58; refine HF.out.mono ?_; rintro e w1 ⟨rfl, rfl⟩)
    | (go_at_call 100; refine HC.out.mono ?_; rintro e w2 ⟨rfl, hw2⟩; rw [hw2]; clear hw2))
  exact bodyPost_ret (results_tmp Tryz.results69 _ _ _) rfl ⟨rfl, (Below.refl _ _).alloc (Nat.le_refl _) _⟩
end Go.Proofs.YtldembadjgibjaaGreatDoor
