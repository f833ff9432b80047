/-
  Fragments with their rectangles, and how far they reach: plain.
-/
import Derived.Test.YtfjjgebfeklnhaaIc
set_option linter.unusedVariables false
set_option linter.unusedSimpArgs false
namespace Go.Proofs.Ytfjjgebfeklnhaa
open Go.RowKit Go.K

abbrev wr (n : Int) : Int := IntKind.i64.wrap n
theorem wr_id {n : Int} (h : -9223372036854775808 ≤ n) (h2 : n ≤ 9223372036854775807) : wr n = n := by unfold wr; rw [IntKind.wrap_i64]; omega

/-! the tree -/
mutual
def bxs (x y : Int) : Ft → List (Ft × R4)
  | .mk a ks => (.mk a ks, ⟨wr (x + a.x), wr (y + a.y), a.w, a.h⟩) :: bxsL (wr (x + a.x)) (wr (y + a.y)) ks
def bxsL (x y : Int) : List Ft → List (Ft × R4)
  | [] => []
  | k :: ks => bxs x y k ++ bxsL x y ks
end
mutual
def Ft.sz : Ft → Nat
  | .mk _ ks => 1 + Ft.szL ks
def Ft.szL : List Ft → Nat
  | [] => 0
  | k :: ks => k.sz + Ft.szL ks
end
theorem szL_app : ∀ (l m : List Ft), Ft.szL (l ++ m) = Ft.szL l + Ft.szL m
  | [], m => by simp [Ft.szL]
  | k :: l, m => by rw [List.cons_append, Ft.szL, Ft.szL, szL_app l m]; omega
theorem bxsL_app (x y : Int) : ∀ (l m : List Ft), bxsL x y (l ++ m) = bxsL x y l ++ bxsL x y m
  | [], m => by simp [bxsL]
  | k :: l, m => by rw [List.cons_append, bxsL, bxsL, bxsL_app x y l m, List.append_assoc]
mutual
theorem bxs_len : ∀ (x y : Int) (t : Ft), (bxs x y t).length = t.sz
  | x, y, .mk a ks => by rw [bxs, Ft.sz, List.length_cons, bxsL_len _ _ ks]; omega
theorem bxsL_len : ∀ (x y : Int) (ks : List Ft), (bxsL x y ks).length = Ft.szL ks
  | x, y, [] => by simp [bxsL, Ft.szL]
  | x, y, k :: ks => by rw [bxsL, Ft.szL, List.length_append, bxs_len x y k, bxsL_len x y ks]
end
theorem szL_ge : ∀ (ks : List Ft), ks.length ≤ Ft.szL ks
  | [] => by simp
  | .mk a l :: ks => by
    have := szL_ge ks
    rw [Ft.szL, Ft.sz, List.length_cons]; omega
theorem sz_kid : ∀ {ks : List Ft} {k : Ft}, k ∈ ks → k.sz ≤ Ft.szL ks
  | k' :: ks, k, h => by
    rw [Ft.szL]
    rcases List.mem_cons.1 h with e | e
    · rw [e]; omega
    · have := sz_kid e; omega
/-- the fields of a fragment are those of a shape; it is nested at most d deep -/
def Fa.ok (a : Fa) : Prop := (-128 ≤ a.x ∧ a.x ≤ 127) ∧ (-128 ≤ a.y ∧ a.y ≤ 127) ∧ (0 ≤ a.w ∧ a.w ≤ 255) ∧ (0 ≤ a.h ∧ a.h ≤ 255) ∧ (0 ≤ a.bd ∧ a.bd ≤ 3)
inductive FtOk : Nat → Ft → Prop
  | mk (d : Nat) (a : Fa) (ks : List Ft) : a.ok → (∀ k ∈ ks, FtOk d k) → FtOk (d + 1) (.mk a ks)
theorem FtOk.a {d : Nat} {t : Ft} (h : FtOk d t) : t.a.ok := by cases h; assumption
theorem FtOk.pos {d : Nat} {t : Ft} (h : FtOk d t) : 1 ≤ d := by cases h; omega

/-! the greatest of a list -/
def emax (f : R4 → Int) : List R4 → Int
  | [] => 0
  | r :: rs => rs.foldl (fun m q => max m (f q)) (f r)
theorem emax_snoc (f : R4 → Int) (l : List R4) (r : R4) : emax f (l ++ [r]) = if l = [] then f r else max (emax f l) (f r) := by
  cases l with
  | nil => simp [emax]
  | cons a l => simp [emax]
theorem emax_cong {f g : R4 → Int} {l : List R4} (h : ∀ r ∈ l, f r = g r) : emax f l = emax g l := by
  cases l with
  | nil => rfl
  | cons a l =>
    rw [emax, emax, h a (by simp)]
    have : ∀ (l : List R4) (m : Int), (∀ r ∈ l, f r = g r) → l.foldl (fun m q => max m (f q)) m = l.foldl (fun m q => max m (g q)) m := by
      intro l
      induction l with
      | nil => intro m _; rfl
      | cons b l ih => intro m h; rw [List.foldl_cons, List.foldl_cons, h b (by simp)]; exact ih _ (fun r hr => h r (by simp [hr]))
    exact this l _ (fun r hr => h r (by simp [hr]))
theorem fold_ge (f : R4 → Int) : ∀ (l : List R4) (m : Int), m ≤ l.foldl (fun m q => max m (f q)) m
  | [], m => Int.le_refl _
  | a :: l, m => by rw [List.foldl_cons]; have := fold_ge f l (max m (f a)); omega
theorem fold_max (f : R4 → Int) : ∀ (l : List R4) (m n : Int), l.foldl (fun m q => max m (f q)) (max m n) = max m (l.foldl (fun m q => max m (f q)) n)
  | [], m, n => rfl
  | a :: l, m, n => by rw [List.foldl_cons, List.foldl_cons, Int.max_assoc, fold_max f l]
theorem emax_app (f : R4 → Int) (l m : List R4) (hl : l ≠ []) (hm : m ≠ []) : emax f (l ++ m) = max (emax f l) (emax f m) := by
  cases l with
  | nil => exact absurd rfl hl
  | cons a l =>
    cases m with
    | nil => exact absurd rfl hm
    | cons b m => rw [List.cons_append, emax, emax, emax, List.foldl_append, List.foldl_cons, fold_max]
theorem emax_sub (f : R4 → Int) (c : Int) (l : List R4) (hl : l ≠ []) : emax (fun r => f r - c) l = emax f l - c := by
  cases l with
  | nil => exact absurd rfl hl
  | cons a l =>
    rw [emax, emax]
    have : ∀ (l : List R4) (m : Int), l.foldl (fun m q => max m (f q - c)) (m - c) = l.foldl (fun m q => max m (f q)) m - c := by
      intro l
      induction l with
      | nil => intro m; rfl
      | cons b l ih => intro m; rw [List.foldl_cons, List.foldl_cons, ← ih]; congr 1; omega
    exact this l _
theorem emax_mem (f : R4 → Int) : ∀ {l : List R4}, l ≠ [] → ∃ r ∈ l, emax f l = f r
  | [], h => absurd rfl h
  | a :: l, _ => by
    have : ∀ (l : List R4) (m : Int), l.foldl (fun m q => max m (f q)) m = m ∨ ∃ r ∈ l, l.foldl (fun m q => max m (f q)) m = f r := by
      intro l
      induction l with
      | nil => intro m; exact .inl rfl
      | cons b l ih =>
        intro m
        rw [List.foldl_cons]
        rcases ih (max m (f b)) with h | ⟨r, hr, h⟩
        · rw [h]
          by_cases hb : m ≤ f b
          · exact .inr ⟨b, by simp, by omega⟩
          · exact .inl (by omega)
        · exact .inr ⟨r, by simp [hr], h⟩
    rcases this l (f a) with h | ⟨r, hr, h⟩
    · exact ⟨a, by simp, h⟩
    · exact ⟨r, by simp [hr], h⟩
theorem emax_map (f : R4 → Int) (g : R4 → R4) (l : List R4) : emax f (l.map g) = emax (fun r => f (g r)) l := by
  cases l with
  | nil => rfl
  | cons a l => rw [List.map_cons, emax, emax, List.foldl_map]

/-! bounds -/
def Bx (n : Int) (r : R4) : Prop := (-n ≤ r.x ∧ r.x ≤ n) ∧ (-n ≤ r.y ∧ r.y ≤ n) ∧ (0 ≤ r.w ∧ r.w ≤ 255) ∧ (0 ≤ r.h ∧ r.h ≤ 255)
theorem bxs_bd : ∀ (d : Nat) (x y n : Int) (t : Ft), FtOk d t → -n ≤ x → x ≤ n → -n ≤ y → y ≤ n → n + 128 * d ≤ 1000000000 → ∀ p ∈ bxs x y t, Bx (n + 128 * d) p.2 ∧ ∃ e, e ≤ d ∧ FtOk e p.1
  | 0, x, y, n, t, h, _, _, _, _, _ => by have := h.pos; omega
  | d + 1, x, y, n, .mk a ks, h, h1, h2, h3, h4, h5 => by
    cases h with
    | mk _ _ _ ha hk =>
    have ha' := ha
    obtain ⟨⟨a1, a2⟩, ⟨a3, a4⟩, ⟨a5, a6⟩, ⟨a7, a8⟩, -⟩ := ha
    intro p hp
    rw [bxs] at hp
    have ex : wr (x + a.x) = x + a.x := wr_id (by omega) (by omega)
    have ey : wr (y + a.y) = y + a.y := wr_id (by omega) (by omega)
    rw [ex, ey] at hp
    rcases List.mem_cons.1 hp with e | hp
    · rw [e]
      exact ⟨⟨⟨by simp only; omega, by simp only; omega⟩, ⟨by simp only; omega, by simp only; omega⟩, ⟨a5, a6⟩, ⟨a7, a8⟩⟩, d + 1, Nat.le_refl _, .mk d a ks ha' hk⟩
    · have : ∀ (l : List Ft), (∀ k ∈ l, FtOk d k) → ∀ p ∈ bxsL (x + a.x) (y + a.y) l, Bx (n + 128 * (d + 1 : Nat)) p.2 ∧ ∃ e, e ≤ d ∧ FtOk e p.1 := by
        intro l
        induction l with
        | nil => intro _ p hp; rw [bxsL] at hp; cases hp
        | cons k l ih =>
          intro hl p hp
          rw [bxsL] at hp
          rcases List.mem_append.1 hp with q | q
          · have := bxs_bd d (x + a.x) (y + a.y) (n + 128) k (hl k (by simp)) (by omega) (by omega) (by omega) (by omega) (by omega) p q
            have e : n + 128 + 128 * (d : Int) = n + 128 * ((d + 1 : Nat) : Int) := by omega
            rw [e] at this
            exact this
          · exact ih (fun k' hk' => hl k' (by simp [hk'])) p q
      obtain ⟨h6, e, h7, h8⟩ := this ks hk p hp
      exact ⟨h6, e, by omega, h8⟩
theorem bxsL_bd (d : Nat) (x y n : Int) (l : List Ft) (hl : ∀ k ∈ l, FtOk d k) (h1 : -n ≤ x) (h2 : x ≤ n) (h3 : -n ≤ y) (h4 : y ≤ n) (h5 : n + 128 * d ≤ 1000000000) : ∀ p ∈ bxsL x y l, Bx (n + 128 * d) p.2 ∧ ∃ e, e ≤ d ∧ FtOk e p.1 := by
  induction l with
  | nil => intro p hp; rw [bxsL] at hp; cases hp
  | cons k l ih =>
    intro p hp
    rw [bxsL] at hp
    rcases List.mem_append.1 hp with q | q
    · exact bxs_bd d x y n k (hl k (by simp)) h1 h2 h3 h4 h5 p q
    · exact ih (fun k' hk' => hl k' (by simp [hk'])) p q
/-- a tree at another place -/
def mv (u v : Int) (r : R4) : R4 := ⟨r.x + u, r.y + v, r.w, r.h⟩
theorem bxs_mv : ∀ (d : Nat) (x y u v : Int) (t : Ft), FtOk d t → -100000000 ≤ x → x ≤ 100000000 → -100000000 ≤ y → y ≤ 100000000 → -100000000 ≤ u → u ≤ 100000000 → -100000000 ≤ v → v ≤ 100000000 → 128 * (d : Int) ≤ 100000000 - x → 128 * (d : Int) ≤ 100000000 + x → 128 * (d : Int) ≤ 100000000 - y → 128 * (d : Int) ≤ 100000000 + y →
    (bxs (x + u) (y + v) t) = (bxs x y t).map (fun p => (p.1, mv u v p.2))
  | 0, x, y, u, v, t, h, _, _, _, _, _, _, _, _, _, _, _, _ => by have := h.pos; omega
  | d + 1, x, y, u, v, .mk a ks, h, h1, h2, h3, h4, h5, h6, h7, h8, h9, h10, h11, h12 => by
    cases h with
    | mk _ _ _ ha hk =>
    obtain ⟨⟨a1, a2⟩, ⟨a3, a4⟩, ⟨a5, a6⟩, ⟨a7, a8⟩, -⟩ := ha
    rw [bxs, bxs]
    have ex : wr (x + a.x) = x + a.x := wr_id (by omega) (by omega)
    have ey : wr (y + a.y) = y + a.y := wr_id (by omega) (by omega)
    have ex2 : wr (x + u + a.x) = x + a.x + u := by rw [wr_id (by omega) (by omega)]; omega
    have ey2 : wr (y + v + a.y) = y + a.y + v := by rw [wr_id (by omega) (by omega)]; omega
    rw [ex, ey, ex2, ey2, List.map_cons]
    have : ∀ (l : List Ft), (∀ k ∈ l, FtOk d k) → bxsL (x + a.x + u) (y + a.y + v) l = (bxsL (x + a.x) (y + a.y) l).map (fun p => (p.1, mv u v p.2)) := by
      intro l
      induction l with
      | nil => intro _; rw [bxsL, bxsL]; rfl
      | cons k l ih =>
        intro hl
        rw [bxsL, bxsL, List.map_append, ih (fun k' hk' => hl k' (by simp [hk'])), bxs_mv d _ _ u v k (hl k (by simp)) (by omega) (by omega) (by omega) (by omega) h5 h6 h7 h8 (by omega) (by omega) (by omega) (by omega)]
    rw [this ks hk]
    rfl
theorem bxsL_mv (d : Nat) (x y u v : Int) (l : List Ft) (hl : ∀ k ∈ l, FtOk d k) (h1 : -100000000 ≤ x) (h2 : x ≤ 100000000) (h3 : -100000000 ≤ y) (h4 : y ≤ 100000000) (h5 : -100000000 ≤ u) (h6 : u ≤ 100000000) (h7 : -100000000 ≤ v) (h8 : v ≤ 100000000) (h9 : 128 * (d : Int) ≤ 100000000 - x) (h10 : 128 * (d : Int) ≤ 100000000 + x) (h11 : 128 * (d : Int) ≤ 100000000 - y) (h12 : 128 * (d : Int) ≤ 100000000 + y) :
    (bxsL (x + u) (y + v) l) = (bxsL x y l).map (fun p => (p.1, mv u v p.2)) := by
  induction l with
  | nil => rw [bxsL, bxsL]; rfl
  | cons k l ih =>
    rw [bxsL, bxsL, List.map_append, ih (fun k' hk' => hl k' (by simp [hk'])), bxs_mv d x y u v k (hl k (by simp)) h1 h2 h3 h4 h5 h6 h7 h8 h9 h10 h11 h12]

/-! how far -/
abbrev rcts (t : Ft) : List R4 := (bxs 0 0 t).map (·.2)
def eX (a : Fa) (r : R4) : Int := wr (wr (r.x - a.x) + r.w)
def eY (a : Fa) (r : R4) : Int := wr (wr (r.y - a.y) + r.h)
def gX (r : R4) : Int := wr (r.x + r.w)
def gY (r : R4) : Int := wr (r.y + r.h)
def extW (t : Ft) : Int := emax (eX t.a) (rcts t)
def extH (t : Ft) : Int := emax (eY t.a) (rcts t)
theorem rcts_ne (t : Ft) : rcts t ≠ [] := by cases t; rw [rcts, bxs]; simp
theorem ext_w {d : Nat} {t : Ft} (h : FtOk d t) (hd : d ≤ 1000) : extW t = emax (fun r => r.x + r.w) (rcts t) - t.a.x ∧ extH t = emax (fun r => r.y + r.h) (rcts t) - t.a.y ∧ emax gX (rcts t) = emax (fun r => r.x + r.w) (rcts t) ∧ emax gY (rcts t) = emax (fun r => r.y + r.h) (rcts t) := by
  have hb := bxs_bd d 0 0 0 t h (by omega) (by omega) (by omega) (by omega) (by omega)
  obtain ⟨⟨a1, a2⟩, ⟨a3, a4⟩, -⟩ := h.a
  have hb' : ∀ r ∈ rcts t, Bx (0 + 128 * d) r := by
    intro r hr
    obtain ⟨p, hp, rfl⟩ := List.mem_map.1 hr
    exact (hb p hp).1
  have e1 : ∀ r ∈ rcts t, eX t.a r = (r.x + r.w) - t.a.x := by
    intro r hr
    obtain ⟨⟨b1, b2⟩, ⟨b3, b4⟩, ⟨b5, b6⟩, ⟨b7, b8⟩⟩ := hb' r hr
    rw [eX, wr_id (n := r.x - t.a.x) (by omega) (by omega), wr_id (by omega) (by omega)]; omega
  have e2 : ∀ r ∈ rcts t, eY t.a r = (r.y + r.h) - t.a.y := by
    intro r hr
    obtain ⟨⟨b1, b2⟩, ⟨b3, b4⟩, ⟨b5, b6⟩, ⟨b7, b8⟩⟩ := hb' r hr
    rw [eY, wr_id (n := r.y - t.a.y) (by omega) (by omega), wr_id (by omega) (by omega)]; omega
  have e3 : ∀ r ∈ rcts t, gX r = r.x + r.w := by
    intro r hr
    obtain ⟨⟨b1, b2⟩, ⟨b3, b4⟩, ⟨b5, b6⟩, ⟨b7, b8⟩⟩ := hb' r hr
    rw [gX, wr_id (by omega) (by omega)]
  have e4 : ∀ r ∈ rcts t, gY r = r.y + r.h := by
    intro r hr
    obtain ⟨⟨b1, b2⟩, ⟨b3, b4⟩, ⟨b5, b6⟩, ⟨b7, b8⟩⟩ := hb' r hr
    rw [gY, wr_id (by omega) (by omega)]
  refine ⟨?_, ?_, emax_cong e3, emax_cong e4⟩
  · rw [extW, emax_cong e1, emax_sub (fun r => r.x + r.w) _ _ (rcts_ne t)]
  · rw [extH, emax_cong e2, emax_sub (fun r => r.y + r.h) _ _ (rcts_ne t)]
theorem ext_bd {d : Nat} {t : Ft} (h : FtOk d t) (hd : d ≤ 1000) : (-1000000 ≤ extW t ∧ extW t ≤ 1000000) ∧ (-1000000 ≤ extH t ∧ extH t ≤ 1000000) := by
  obtain ⟨e1, e2, -⟩ := ext_w h hd
  have hb := bxs_bd d 0 0 0 t h (by omega) (by omega) (by omega) (by omega) (by omega)
  obtain ⟨⟨a1, a2⟩, ⟨a3, a4⟩, -⟩ := h.a
  obtain ⟨r, hr, hr2⟩ := emax_mem (fun r => r.x + r.w) (rcts_ne t)
  obtain ⟨q, hq, hq2⟩ := emax_mem (fun r => r.y + r.h) (rcts_ne t)
  rw [e1, e2, hr2, hq2]
  obtain ⟨p, hp, rfl⟩ := List.mem_map.1 hr
  obtain ⟨p', hp', rfl⟩ := List.mem_map.1 hq
  obtain ⟨⟨b1, b2⟩, ⟨b3, b4⟩, ⟨b5, b6⟩, ⟨b7, b8⟩⟩ := (hb p hp).1
  obtain ⟨⟨c1, c2⟩, ⟨c3, c4⟩, ⟨c5, c6⟩, ⟨c7, c8⟩⟩ := (hb p' hp').1
  omega
end Go.Proofs.Ytfjjgebfeklnhaa
