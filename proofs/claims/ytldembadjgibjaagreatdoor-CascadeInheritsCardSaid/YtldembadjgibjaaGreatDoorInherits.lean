/-
  An element without declarations has the inherited properties of its parent, and the initial values of all others; all inherit gives the parent's style.
  No condition. The table uint64pow10, which the row leaves open, may hold any numbers.
-/
import Derived.Test.YtldembadjgibjaaGreatDoorCards
import Derived.Test.YtldembadjgibjaaGreatDoorTie
import Derived.Test.YtldembadjgibjaaGreatDoorBj
import Derived.WalkKit
import Derived.ProofKit
import Derived.LaidMore
import Derived.OpenShut
import Derived.ChangeOld
import Derived.ChangeMaps5
import Derived.Below
import Derived.PinnedBridge
import Derived.Lay
import Derived.Lib.LaidU8T
import Derived.Lib.LaidIn
import Derived.Lib.LaidTab
import Derived.HandedShaped
import Derived.SevenTiedAt
set_option linter.unusedVariables false
namespace Go.Proofs.YtldembadjgibjaaGreatDoor.cascadeInherits
open Go.K Go.ChangeShapes Go.WideShapes Go.ChangeAt Go.RowKit Go.Lib

theorem own : ownKnob Tryz.prog.godebug = none := by kernel_rfl
theorem laidOut : laidOutB Tryz.prog = true := by kernel_rfl
/-- the wrap over a row with laid variables, the world's shape kept -/
theorem wrapped {H : Type} {enc : TypeId × Value → H} {a : Assume} {C : Checked} {os : Os} {f : FuncId} {fn : Func} {s : ChangeSpec} {conds : List PathCond} {apart fresh handsOn again : Bool} {X : World → Array Value → Prop}
    (hX : ∀ (w w' : World) (args : Array Value), w.heap = w'.heap → X w args → X w' args)
    (own : ownKnob C.prog.godebug = none) (started : os.Started) (noInit : C.prog.inits.idxOf? f = none) (hfn : C.prog.funcs[f]? = some fn)
    (witness : ∃ (w : World) (tape : Tape) (i : Input), w.os = os ∧ (w.forCall tape i).Shaped C.prog ∧ i.vars = [] ∧ Input.okWide C.prog (w.forCall tape i) .any w.heap.size f i ∧
      ((s.pre enc C.prog fn conds apart (w.forCall tape i).memory i.args ∧ X (w.forCall tape i).memory i.args) ∧ sizedMet enc C.prog fn (OpenSpec.ofChange s) apart (w.forCall tape i).memory i.args) ∧ a.holds C.prog (lone (Frame.enter C.prog f i.args .normal) [] (w.forCall tape i)))
    (contract : ∀ (W : World) (base : Nat) (args : Array Value) (ds gs : List (DataW H)) (before : List MemPlace),
      (∀ (j : Nat) t v, fn.params[j]? = some t → args[j]? = some v → Value.okWide C.prog W .any base t v) →
      DataW.Whole enc C.prog fn.params.toList s.vars apart W args.toList ds gs before →
      X W args → W.ShapedOpen C.prog →
      Calls C.prog f args W fun e W' => ∃ v, e = .returned v ∧ s.post enc C.prog fn apart fresh handsOn again W args v W') :
    ReturnsInHanded a C os f .any (fun w args => (s.pre enc C.prog fn conds apart w args ∧ X w args) ∧ sizedMet enc C.prog fn (OpenSpec.ofChange s) apart w args) (s.post enc C.prog fn apart fresh handsOn again) := by
  refine returnsInHanded_of_calls own started noInit witness ?_
  intro w tape i _ hsh _ hok hpre _
  obtain ⟨_, _, _, fn', hfn', _, _, _, _, hval⟩ := hok
  have e : fn' = fn := Option.some.inj (hfn'.symm.trans hfn)
  subst e
  obtain ⟨⟨⟨ds, gs, before, hw, hc⟩, hx⟩, hz⟩ := hpre
  have hw' := DataW.Whole.of_heap (w' := w.forCall tape i) (by rfl) hw
  refine (contract (w.forCall tape i) w.heap.size i.args ds gs before hval hw' (hX _ _ _ (by rfl) hx) hsh).mono fun e W' ⟨v, he, hp⟩ => ?_
  subst he
  exact ChangeSpec.post_blind hp
/-- a variable that is an array of integers holds some integers -/
theorem ints_of_shape {P : Program} {w : World} {g n : Nat} {t e : TypeId} {zero : Array Value} {k : IntKind}
    (h : w.ShapedOpen P) (hg : g < P.globals.size)
    (h0 : ((begin P (fun _ _ => 0) default).world.heap[g]?).bind Obj.row? = some (zero, t)) (hz : zero.size = n)
    (hb : P.buildable t = true) (hc : P.cellTypes P.depth t = some (List.replicate n e)) (hu : P.underlying e = some (.int k)) (i : Nat) (hi : i < n) :
    ∃ m, w.cell? ⟨g, i, none⟩ = some (.int k m) := by
  obtain ⟨cs, hh, hs, hr⟩ := h.1 g zero t hg h0
  obtain ⟨ts, hts, _, hall⟩ := hr hb
  rw [hc] at hts
  cases hts
  have h1 : i < cs.size := by omega
  obtain ⟨u, hu', hok⟩ := hall i cs[i] (by simp [h1])
  rw [List.length_replicate, Nat.mod_eq_of_lt hi, List.getElem?_replicate, if_pos hi] at hu'
  obtain rfl : e = u := Option.some.inj hu'
  have hcell : w.cell? ⟨g, i, none⟩ = some cs[i] := by simp [World.cell?, hh, h1]
  rw [hcell]
  unfold Cell.ok at hok
  rw [hu] at hok
  cases hv : cs[i] <;> rw [hv] at hok <;> simp at hok
  case int k' n => exact ⟨n, by rw [hok.1]⟩
theorem tab_of_reads {P : Program} {W : World} {name : String} {k : IntKind} {zs : List Int} {g : Nat} {t e : TypeId} {n : Nat}
    (hg : P.globalNamed name = some g) (hty : (P.globals[g]?).map (·.type) = some t) (ht : P.underlying t = some (.array n e)) (he : P.underlying e = some (.int k)) (hce : P.cellsOf e = 1) (hct : P.cellsOf t = n)
    (h : VarReads P W name (tabData k zs)) : TabIs P W name k zs := by
  obtain ⟨g', t', cs, fuel, p, hg', ht', hvar, hd⟩ := h
  obtain rfl := Option.some.inj (hg.symm.trans hg')
  obtain rfl := Option.some.inj (hty.symm.trans ht')
  unfold TabIs
  rw [hvar, ← cells_of_tab ht he hce hct hd]
theorem three {α : Type} (l : List α) (h : l.length = 3) : ∃ a b c, l = [a, b, c] := by
  rcases l with _ | ⟨a, _ | ⟨b, _ | ⟨c, _ | ⟨d, l⟩⟩⟩⟩
  · cases h
  · cases h
  · cases h
  · exact ⟨a, b, c, rfl⟩
  · simp at h
/-- a row of the table of the properties -/
theorem row_of_reads {H : Type} {enc : TypeId × Value → H} {w : World} {base : Nat} {sp : Nat → Bool} {held : Bool} {fuel : Nat} {cs : List Value} {a b : List UInt8} {k : Int} {p : List MemPlace}
    (h : DataW.trod enc Tryz.prog w base sp held fuel 49 cs = some (.agg [.lit (.string a), .lit (.int .i64 k), .lit (.string b)], p)) : cs = [.string (S a), .int .i64 k, .string (S b)] := by
  obtain ⟨xs, n, rfl, hx, hl, hxl, hall⟩ := DataW.trod_struct Tryz.underlying49 h
  have hxs : xs.map (·.1) = [DataW.lit (.string a), .lit (.int .i64 k), .lit (.string b)] := by
    have := congrArg Prod.fst hx
    simpa using this.symm
  have c9 : Tryz.prog.cellsOf 9 = 1 := by kernel_rfl
  have c3 : Tryz.prog.cellsOf 3 = 1 := by kernel_rfl
  have c49 : Tryz.prog.cellsOf 49 = 3 := by kernel_rfl
  rw [c49] at hl
  obtain ⟨x0, x1, x2, rfl⟩ := three xs hxl
  obtain ⟨v0, v1, v2, rfl⟩ := three cs hl
  have h0 := hall 0 _ rfl
  have h1 := hall 1 _ rfl
  have h2 := hall 2 _ rfl
  change DataW.trod enc Tryz.prog w base sp held n 9 (([v0, v1, v2].drop 0).take (Tryz.prog.cellsOf 9)) = some x0 at h0
  change DataW.trod enc Tryz.prog w base sp held n 3 (([v0, v1, v2].drop 1).take (Tryz.prog.cellsOf 3)) = some x1 at h1
  change DataW.trod enc Tryz.prog w base sp held n 9 (([v0, v1, v2].drop 2).take (Tryz.prog.cellsOf 9)) = some x2 at h2
  rw [c9] at h0 h2
  rw [c3] at h1
  obtain ⟨s0, e0, f0, -⟩ := DataW.trod_string Tryz.underlying9 h0
  obtain ⟨s1, e1, f1, -⟩ := DataW.trod_int Tryz.underlying3 h1
  obtain ⟨s2, e2, f2, -⟩ := DataW.trod_string Tryz.underlying9 h2
  simp at e0 e1 e2 hxs
  subst e0 e1 e2
  rw [f0, f1, f2] at hxs
  simp at hxs
  obtain ⟨rfl, rfl, rfl⟩ := hxs
  rfl
theorem table_data : (Rows.laid_knapsack_style_table : DataW Unit) = .agg (tabE.map fun x => .agg [.lit (.string x.1), .lit (.int .i64 x.2.1), .lit (.string x.2.2)]) := by rfl
theorem space_data : (Rows.laid_strings_asciiSpace : DataW Unit) = tabData .u8 asciiSpaceTab := by kernel_rfl
theorem table_of_reads {W : World} (h : VarReads Tryz.prog W "knapsack/style.table" Rows.laid_knapsack_style_table) (j : Nat) (v : Value) (hv : tabC[j]? = some v) : W.cell? ⟨0, j, none⟩ = some v := by
  rw [table_data] at h
  obtain ⟨g', t', cs, fuel, p, hg', ht', hvar, hd⟩ := h
  have hg : Tryz.prog.globalNamed "knapsack/style.table" = some 0 := by kernel_rfl
  obtain rfl := Option.some.inj (hg.symm.trans hg')
  have hty : (Tryz.prog.globals[0]?).map (·.type) = some 50 := by kernel_rfl
  obtain rfl := Option.some.inj (hty.symm.trans ht')
  have c49 : Tryz.prog.cellsOf 49 = 3 := by kernel_rfl
  have hcell := World.var?_cell hg hvar j
  rw [hcell]
  obtain ⟨k, i, hk, hi, rfl, x, hx, hxi⟩ := flat_get (f := fun x : List UInt8 × Int × List UInt8 => [.string (S x.1), .int .i64 x.2.1, .string (S x.2.2)]) (sz := 3) (fun _ => rfl) tabE j v hv
  have hk37 : k < 37 := hk
  obtain ⟨fuel', d, q, hd1, hd2⟩ := array_elem Tryz.underlying50 hd k hk37
  rw [List.getElem?_map, hx] at hd1
  obtain rfl := Option.some.inj hd1
  rw [c49] at hd2
  have hr := row_of_reads hd2
  have : ((cs.toList.drop (k * 3)).take 3)[i]? = some v := by rw [hr]; exact hxi
  rw [List.getElem?_take, if_pos hi, List.getElem?_drop] at this
  simpa using this
theorem walk (a : ByteArray) (w : World) (hL : laidMet Tryz.prog Rows.cascadeInheritsRow.laid w) (hsh : w.ShapedOpen Tryz.prog) :
    Calls Tryz.prog 3 #[.string a] w fun e w' => e = .returned (.bool true) ∧ Below w.heap.size w w' := by
  have hT : Tabs w :=
    utf8Tabs_of_readsT (U8Types.of196 Tryz.laysValid) ⟨by kernel_rfl, by kernel_rfl, by kernel_rfl, by kernel_rfl, by kernel_rfl, by kernel_rfl, by kernel_rfl⟩ (Pinned.utf8First_eq ▸ Lib.laidMet.reads hL (.tail _ (.tail _ (.tail _ (.tail _ (.tail _ (.head _))))))) (Lib.laidMet.reads hL (.tail _ (.tail _ (.head _))))
  have hA : TabIs Tryz.prog w "strings.asciiSpace" .u8 asciiSpaceTab :=
    tab_of_reads (g := 1) (t := 133) (e := 5) (n := 256) (by kernel_rfl) (by kernel_rfl) (by kernel_rfl) Tryz.underlying5 (by kernel_rfl) (by kernel_rfl) (space_data ▸ Lib.laidMet.reads hL (.tail _ (.tail _ (.tail _ (.head _)))))
  have hP : ∀ i, i < 20 → ∃ m, w.cell? ⟨6, i, none⟩ = some (.int .u64 m) := ints_of_shape (t := 217) (e := 173) (zero := Array.replicate 20 (.int .u64 0)) hsh (of_decide_eq_true (by kernel_rfl)) (by kernel_rfl) (by kernel_rfl) (by kernel_rfl) (by kernel_rfl) Tryz.underlying173
  have hM : ∃ m, w.cell? ⟨5, 0, none⟩ = some (.int .i64 m) := ints_of_shape (n := 1) (t := 3) (e := 3) (zero := #[.int .i64 0]) hsh (of_decide_eq_true (by kernel_rfl)) (by kernel_rfl) (by kernel_rfl) (by kernel_rfl) (by kernel_rfl) Tryz.underlying3 0 (by decide)
  have hI : ∃ T : TbBox, ∀ i, i < 20 → w.cell? ⟨6, i, none⟩ = some (.int .u64 (T.t i)) := by
    refine ⟨⟨fun i => match w.cell? ⟨6, i, none⟩ with | some (.int _ m) => m | _ => 0⟩, fun i hi => ?_⟩
    obtain ⟨m, hm⟩ := hP i hi
    simp only [hm]
  obtain ⟨T, hTb⟩ := hI
  have inst : Inhabited TbBox := ⟨T⟩
  have E : @Env ⟨T⟩ w := @Env.mk ⟨T⟩ w hA hTb hM (fun j v hv => table_of_reads (Lib.laidMet.reads hL (.tail _ (.tail _ (.tail _ (.tail _ (.head _)))))) j v hv)
  have := @law_go ⟨T⟩ a.data.toList w E hT
  rwa [show S a.data.toList = a from by cases a; rfl] at this

set_option maxRecDepth 100000 in
theorem lifted (os : Os) (started : os.Started) (H : Type) (enc : TypeId × Value → H) :
    ReturnsInHanded {} Tryz.checked os 3 .any (fun w args => (Rows.cascadeInheritsSpec.pre enc Tryz.prog Tryz.f3 [] false w args ∧ laidMetH Tryz.prog Rows.cascadeInheritsRow.laid w) ∧ sizedMet enc Tryz.prog Tryz.f3 (OpenSpec.ofChange Rows.cascadeInheritsSpec) false w args)
      (Rows.cascadeInheritsSpec.post enc Tryz.prog Tryz.f3 false true false false) := by
  refine wrapped (C := Tryz.checked) (X := fun w _ => laidMetH Tryz.prog Rows.cascadeInheritsRow.laid w) (fun _ _ _ hh h => h.of_heap hh) own started (by kernel_rfl) Tryz.func3
    (ChangeSpec.witness_shaped (enc := enc) (C := Tryz.checked) (os := os) (X := fun w _ => laidMetH Tryz.prog Rows.cascadeInheritsRow.laid w) false (World.laidAll Tryz.prog os Rows.cascadeInheritsRow.laid) #[.string ⟨#[]⟩] 8 (World.laidAll_os _ _ _)
      (World.shaped_of_ZipB (by kernel_rfl) (by kernel_rfl)) (by kernel_rfl) (by kernel_rfl) (by kernel_rfl)
      (by rw [MakeChecks.laidMetH_plain _ _ _ (by kernel_rfl)]; exact laidMet_laidAll _ (by kernel_rfl) (by kernel_rfl))) ?_
  intro W base args ds gs before hval0 hW hL hsh
  have hval : ∀ (j : Nat) t v, Tryz.f3.params[j]? = some t → args[j]? = some v → Value.okWide Tryz.prog W .any base t v := hval0
  have hW' := hW
  obtain ⟨p, q, hA0, hV, rfl, hfz, hnd⟩ := hW
  have hA : DataW.TrodAll enc Tryz.prog W 0 (fun _ => true) true Tryz.f3.params.toList args.toList ds p := hA0
  rw [Tryz.params3] at hA hval
  obtain ⟨v0, d0, rfl, rfl, h0⟩ := trodAll_one hA
  obtain ⟨rfl, rfl⟩ := trodVars_none hV
  obtain ⟨a0, rfl, rfl, rfl, w0⟩ := Go.ChangeMaps.open_string Tryz.underlying9 (hval 0 9 v0 rfl rfl) h0
  clear hA0 hval0
  rw [MakeChecks.laidMetH_plain _ _ _ (by kernel_rfl)] at hL
  refine (walk a0 W hL hsh).mono fun e W' ⟨he, bel⟩ => ?_
  subst he
  exact ⟨_, rfl, _, _, _, [], _, [], hW', trodAll_mk1 (shut_bool Tryz.underlying4 _), trodAll_mk1 (Go.ChangeMaps.shut_string Tryz.underlying9 w0), rfl, bel.frame _, fun h => by cases h⟩

theorem over : Rows.CascadeInheritsSaid :=
  OpenClaim.holds_of_wide 3 Tryz.f3 rfl rfl rfl rfl rfl rfl rfl ⟨rfl, rfl, rfl, rfl, rfl⟩ rfl rfl rfl rfl rfl (by kernel_rfl) Tryz.func3 (by kernel_rfl)
    (of_decide_eq_true (by kernel_rfl)) (by unfold Func.isWrapper; first | (rw [if_pos (by decide +kernel)]; kernel_rfl) | (rw [if_neg (by decide +kernel)]; exact ⟨rfl, rfl⟩))
    (fun os started H enc _ => lifted os started H enc)

/-- the card -/
theorem proved : Rows.CascadeInheritsCardSaid :=
  Claim7.holds_tied_plain_at .later [] [.data, .data, .data, .data, .data, .pinned] true (true, "bcac2a2ca28dce5f38099a9bcd42391159ce6c266c21705b9e908dd346daa894") true
    over (fun _ h => by cases h) (by kernel_rfl) (fun _ h => by cases h) cascadeInherits_row_tie rfl ⟨rfl, rfl⟩ (by kernel_rfl) rfl
    (fun f fn hf hfn => by
      obtain rfl : f = 3 := Option.some.inj ((show Tryz.prog.funcNamed "knapsack/knapsacklaw13.CascadeInherits" = some 3 by kernel_rfl).symm.trans hf) |>.symm
      obtain rfl : fn = Tryz.f3 := (Option.some.inj (Tryz.func3.symm.trans hfn)).symm
      exact ⟨by kernel_rfl, fun j t ht => by
        rw [Tryz.params3] at ht
        have hm : t ∈ [9] := by simpa using Array.mem_of_getElem? ht
        have hall : ([9].all fun u => !Tryz.prog.wantsStandIn u) = true := by kernel_rfl
        exact (show Tryz.prog.wantsStandIn t = false by simpa using List.all_eq_true.1 hall t hm)⟩)
    (by kernel_rfl)
#print axioms proved
end Go.Proofs.YtldembadjgibjaaGreatDoor.cascadeInherits
