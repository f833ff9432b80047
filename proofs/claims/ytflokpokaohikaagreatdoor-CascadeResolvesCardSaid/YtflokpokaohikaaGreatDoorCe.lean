/-
  CascadeResolves: apply of no declarations.
-/
import Derived.Test.YtflokpokaohikaaGreatDoorCd
import Derived.Carry
set_option linter.unusedVariables false
set_option linter.unusedSimpArgs false
namespace Go.Proofs.YtflokpokaohikaaGreatDoor
open Go.RowKit Go.K Go.Maps
/-- the state of apply -/
abbrev ApL (pa : Array Value) (bo bc bm mp : Nat) (K : List (Nat × Value)) (R : List As) : List As := As.sty 53 31 bo K :: cmp bc bm :: As.mp0 bm :: As.cells mp pa 31 :: R
theorem ap_comp {w0 w : World} {pa : Array Value} {bo bc bm mp : Nat} {K : List (Nat × Value)} {R : List As} (h : St w0 w (ApL pa bo bc bm mp K R)) : Comp w bc bm := Comp.of h (.tail _ (.head _)) (.tail _ (.tail _ (.head _)))
theorem word_st {w0 w : World} {pa : Array Value} {bo bc bm mp : Nat} {K : List (Nat × Value)} {R : List As} (s words : ByteArray) (p st : Int) (inh : Bool) (hs : s.size ≤ maxLen) (h : St w0 w (ApL pa bo bc bm mp K R)) :
    Calls Tryz.prog 13 #[.pointer (some ⟨bc, 0, none⟩), .string s, .string words, .int .i64 p, .int .i64 st, .bool inh] w fun e w' => e = .returned (.int .i64 (if inh then p else st)) ∧ St w0 w' (ApL pa bo bc bm mp K R) := by
  refine (word_c s words p st inh (ap_comp h) hs).mono ?_
  rintro e w' ⟨he, hb⟩
  exact ⟨he, h.of_below hb⟩
theorem number_st {w0 w : World} {pa : Array Value} {bo bc bm mp : Nat} {K : List (Nat × Value)} {R : List As} (s : ByteArray) (per p st : Int) (hs : s.size ≤ maxLen) (h : St w0 w (ApL pa bo bc bm mp K R)) :
    Calls Tryz.prog 15 #[.pointer (some ⟨bc, 0, none⟩), .string s, .int .i64 per, .int .i64 p, .int .i64 st] w fun e w' => e = .returned (.int .i64 st) ∧ St w0 w' (ApL pa bo bc bm mp K R) := by
  refine (number_c s per p st (ap_comp h) hs).mono ?_
  rintro e w' ⟨he, hb⟩
  exact ⟨he, h.of_below hb⟩
theorem long_st {w0 w : World} {pa : Array Value} {bo bc bm mp : Nat} {K : List (Nat × Value)} {R : List As} (s : ByteArray) (pk pv k v : Int) (hs : s.size ≤ maxLen) (h : St w0 w (ApL pa bo bc bm mp K R)) :
    Calls Tryz.prog 14 #[.pointer (some ⟨bc, 0, none⟩), .string s, .agg #[.int .i64 pk, .int .i64 pv], .agg #[.int .i64 k, .int .i64 v]] w fun e w' => e = .returned (.agg #[.int .i64 k, .int .i64 v]) ∧ St w0 w' (ApL pa bo bc bm mp K R) := by
  refine (long_c s pk pv k v (ap_comp h) hs).mono ?_
  rintro e w' ⟨he, hb⟩
  exact ⟨he, h.of_below hb⟩
theorem getz_st {w0 w : World} {pa : Array Value} {bo bc bm mp : Nat} {K : List (Nat × Value)} {R : List As} (s : ByteArray) (hs : s.size ≤ maxLen) (h : St w0 w (ApL pa bo bc bm mp K R)) :
    Calls Tryz.prog 16 #[.pointer (some ⟨bc, 0, none⟩), .string s] w fun e w' => e = .returned (.tuple #[.agg #[.int .i64 0, .int .i64 0, .string ⟨#[]⟩], .int .i64 0]) ∧ St w0 w' (ApL pa bo bc bm mp K R) := by
  refine (get_st s hs (ap_comp h) h).mono ?_
  rintro e w' ⟨he, -, h', -⟩
  exact ⟨he, h'⟩
theorem fonts_st {w0 w : World} {pa : Array Value} {bo bc bm mp : Nat} {R : List As} (hpa : pst.toArray = pa) (h : St w0 w (ApL pa bo bc bm mp [] R)) :
    Calls Tryz.prog 10 #[.pointer (some ⟨bc, 0, none⟩), .pointer (some ⟨bo, 0, none⟩), .agg pa] w fun e w' => e = .returned (.tuple #[]) ∧ St w0 w' (ApL pa bo bc bm mp [(37, .int .i64 16)] R) := by
  subst hpa
  have q := St.sh [_, _, _] [1, 2, 0] (by decide) h
  refine (fonts_c q).mono ?_
  rintro e w' ⟨he, h'⟩
  have q := St.sh [_, _, _] [2, 0, 1] (by decide) h'
  exact ⟨he, q⟩
theorem colors_st {w0 w : World} {pa : Array Value} {bo bc bm mp : Nat} {R : List As} (hpa : pst.toArray = pa) (h : St w0 w (ApL pa bo bc bm mp [(37, .int .i64 16)] R)) :
    Calls Tryz.prog 11 #[.pointer (some ⟨bc, 0, none⟩), .pointer (some ⟨bo, 0, none⟩), .agg pa] w fun e w' => e = .returned (.tuple #[]) ∧ St w0 w' (ApL pa bo bc bm mp kk R) := by
  subst hpa
  have q := St.sh [_, _, _] [1, 2, 0] (by decide) h
  refine (colors_c q).mono ?_
  rintro e w' ⟨he, h'⟩
  have q := St.sh [_, _, _] [2, 0, 1] (by decide) h'
  exact ⟨he, q⟩
theorem boxes_st {w0 w : World} {pa : Array Value} {bo bc bm mp : Nat} {R : List As} (hpa : pst.toArray = pa) (h : St w0 w (ApL pa bo bc bm mp kk R)) :
    Calls Tryz.prog 12 #[.pointer (some ⟨bc, 0, none⟩), .pointer (some ⟨bo, 0, none⟩), .agg pa] w fun e w' => e = .returned (.tuple #[]) ∧ St w0 w' (ApL pa bo bc bm mp kk R) := by
  subst hpa
  have q := St.sh [_, _, _] [1, 2, 0] (by decide) h
  refine (boxes_c q).mono ?_
  rintro e w' ⟨he, h'⟩
  have q := St.sh [_, _, _] [2, 0, 1] (by decide) h'
  exact ⟨he, q⟩
abbrev k2 : List (Nat × Value) := [(1, .int .i64 0), (35, blk), (37, .int .i64 16)]
theorem keepK {o : Nat} {vs : List Value} {K : List (Nat × Value)} (h : ∀ p ∈ K, p.1 < o ∨ o + vs.length ≤ p.1) : ∀ p ∈ K, (p ∈ K ∧ (p.1 < o ∨ o + vs.length ≤ p.1)) ∨ ∃ j, p.1 = o + j ∧ vs[j]? = some p.2 := fun p hp => .inl ⟨hp, h p hp⟩
theorem st_mp0 {w0 w : World} {L : List As} (h : St w0 w L) : St w0 (w.alloc (.map #[] 0)) (As.mp0 w.heap.size :: L) :=
  h.add (F' := fun k => k = w.heap.size) ⟨fun _ => Iff.rfl, (Go.MapKept.heap_alloc w _).1⟩ ((Fr.refl emp w).alloc _) (fun k hk => by omega)
theorem sty_of {w0 w : World} {L : List As} {n b : Nat} {T : TypeId} {cs : Array Value} {K : List (Nat × Value)} (h : St w0 w (As.cells b cs T :: L)) (hn : cs.size = n) (h1 : ∀ v ∈ cs, v.oneCell' = true) (hk : ∀ p ∈ K, cs[p.1]? = some p.2) : St w0 w (As.sty n T b K :: L) :=
  h.shut_ex (f := fun cs : { cs : Array Value // cs.size = n ∧ (∀ v ∈ cs, v.oneCell' = true) ∧ ∀ p ∈ K, cs[p.1]? = some p.2 } => As.cells b cs.1 T) ⟨cs, hn, h1, hk⟩
end Go.Proofs.YtflokpokaohikaaGreatDoor
