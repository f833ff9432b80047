/-
  The plain law of LoopTimers.
-/
import Derived.Test.YtnamkckpgaopkaaLu
set_option linter.unusedVariables false
set_option linter.unusedSimpArgs false
namespace Go.Proofs.Ytnamkckpgaopkaa
open Go.RowKit Go.K

theorem perm_erase {α : Type} {l : List α} {i : Nat} (h : i < l.length) : (l[i] :: l.eraseIdx i).Perm l := by
  rw [List.eraseIdx_eq_take_drop_succ]
  have e : l = l.take i ++ l[i] :: l.drop (i + 1) := by rw [← List.drop_eq_getElem_cons h, List.take_append_drop]
  conv => rhs; rw [e]
  exact List.perm_middle.symm
/-- what an element's number is, where one is struck out -/
theorem erase_ids {α : Type} (f : α → Int) {l : List α} (hnd : (l.map f).Nodup) {i : Nat} (h : i < l.length) : ((l.eraseIdx i).map f).Nodup ∧ ∀ x, x ∈ (l.eraseIdx i).map f ↔ x ∈ l.map f ∧ x ≠ f l[i] := by
  have hp := (perm_erase h).map f
  rw [List.map_cons] at hp
  have hn := (hp.nodup_iff).2 hnd
  obtain ⟨h1, h2⟩ := List.nodup_cons.1 hn
  refine ⟨h2, fun x => ⟨fun hx => ⟨hp.subset (List.mem_cons_of_mem _ hx), fun e => h1 (e ▸ hx)⟩, fun ⟨hx, hne⟩ => ?_⟩⟩
  rcases List.mem_cons.1 (hp.symm.subset hx) with q | q
  · exact absurd q hne
  · exact q
def dOf (ds : List Int) (id : Int) : Int := ds.getD (id - 1).toNat 0
def lexL (ds : List Int) (a b : Int) : Prop := dOf ds a < dOf ds b ∨ (dOf ds a = dOf ds b ∧ a < b)
theorem lexL.ne {ds : List Int} {a b : Int} (h : lexL ds a b) : a ≠ b := by
  rintro rfl
  rcases h with h | ⟨-, h⟩ <;> omega
def Lst (S : LS) : List Int := (S.q 2).map Qt.n ++ S.tm.map Tm.id
structure TI (ds : List Int) (S : LS) (gone : Nat → Bool) (due last : Int) (m : Nat) : Prop where
  bnd : Bnd S
  jobs : S.jobs = []
  sh : S.shots = []
  di : S.dirty = false
  q : ∀ j, j ≠ 2 → S.q j = []
  q2 : ∀ y ∈ S.q 2, y.k = 0 ∧ dOf ds y.n ≤ S.now
  tm : ∀ t ∈ S.tm, t.due = dOf ds t.id ∧ t.ord = t.id
  ok : TOk S.tm S.nx
  srt : (Lst S).Pairwise (lexL ds)
  mem : ∀ id : Nat, (id : Int) ∈ Lst S ↔ 1 ≤ id ∧ id ≤ m ∧ gone id = false
  nat : ∀ x ∈ Lst S, 1 ≤ x ∧ x ≤ m
  cal : ∀ c ∈ S.calls, c.ev = 0 ∧ c.fn = c.id
  cid : ∀ x, x ∈ S.calls.map Cl.id ↔ x ∈ Lst S
  cnd : (S.calls.map Cl.id).Nodup
  lo : ∀ x ∈ Lst S, due < dOf ds x ∨ (due = dOf ds x ∧ last < x)
  nx : S.nx = m
  ord : S.ord + S.tm.length ≤ m
  len : (S.q 2).length + S.tm.length ≤ m
  cl : S.calls.length ≤ m
theorem TI.no {ds : List Int} {S : LS} {gone : Nat → Bool} {due last : Int} {m : Nat} (h : TI ds S gone due last m) : ¬ Shows S := by
  rintro ⟨q | q, -⟩
  · rw [h.di] at q; cases q
  · rw [h.sh] at q; cases q
theorem TI.room {ds : List Int} {S : LS} {gone : Nat → Bool} {due last : Int} {m : Nat} (h : TI ds S gone due last m) (hm : m ≤ 1000) : Room S :=
  ⟨h.bnd, fun i => by
    by_cases e : i = 2
    · subst e; have := h.len; omega
    · rw [h.q i e]; have := h.len; simp; omega, by have := h.ord; omega⟩
theorem ti0 (ds : List Int) : TI ds LS.zero (fun _ => false) (-1) 0 0 :=
  ⟨bnd_zero, rfl, rfl, rfl, fun _ _ => rfl, by simp [LS.zero], by simp [LS.zero], TOk.nil, List.Pairwise.nil, fun id => by simp [Lst, LS.zero]; omega, by simp [Lst, LS.zero], by simp [LS.zero], by simp [Lst, LS.zero], by simp [LS.zero], by simp [Lst, LS.zero], rfl, by simp [LS.zero], by simp [LS.zero], by simp [LS.zero]⟩
theorem lst_tm {S : LS} (h : S.q 2 = []) : Lst S = S.tm.map Tm.id := by unfold Lst; rw [h]; rfl
/-- the timers that wait, sorted, give their numbers, sorted -/
theorem srt_tm {ds : List Int} {ts : List Tm} (h : ts.Pairwise Tm.lt) (ht : ∀ t ∈ ts, t.due = dOf ds t.id ∧ t.ord = t.id) : (ts.map Tm.id).Pairwise (lexL ds) := by
  rw [List.pairwise_map]
  refine h.imp_of_mem (fun {a b} ha hb hab => ?_)
  obtain ⟨a1, a2⟩ := ht a ha
  obtain ⟨b1, b2⟩ := ht b hb
  rcases hab with q | ⟨q1, q2⟩
  · exact .inl (by rw [← a1, ← b1]; exact q)
  · exact .inr ⟨by rw [← a1, ← b1]; exact q1, by rw [← a2, ← b2]; exact q2⟩
/-- a timer is set -/
theorem ti_set {ds : List Int} {S : LS} {m : Nat} (h : TI ds S (fun _ => false) (-1) 0 m) (hq : S.q 2 = []) (hm : m < 40) (hnow : S.now = 0) (d : Int) (hd : dOf ds ((m : Int) + 1) = d) (hd0 : 0 ≤ d) {i : Nat} (hf : Found S.tm ⟨(m : Int) + 1, d, (m : Int) + 1⟩ i) (a : Option Addr) (c : Nat) :
    TI ds { S with tm := insAt S.tm i ⟨(m : Int) + 1, d, (m : Int) + 1⟩, nx := (m : Int) + 1, calls := S.calls ++ [⟨(m : Int) + 1, 0, 3, (m : Int) + 1, a, 0, c⟩] } (fun _ => false) (-1) 0 (m + 1) := by
  have hB := h.bnd
  have hl := insAt_len S.tm i ⟨(m : Int) + 1, d, (m : Int) + 1⟩ hf.1
  have hlen := h.len
  have hnx := h.nx
  have hids : S.calls.length ≤ 1000 := by have := h.cl; omega
  have htm : ∀ t ∈ insAt S.tm i ⟨(m : Int) + 1, d, (m : Int) + 1⟩, t.due = dOf ds t.id ∧ t.ord = t.id := fun t ht => by
    rcases mem_insAt.1 ht with rfl | q
    · exact ⟨hd.symm, rfl⟩
    · exact h.tm t q
  have hok : TOk (insAt S.tm i ⟨(m : Int) + 1, d, (m : Int) + 1⟩) ((m : Int) + 1) := by
    have := ins_sorted h.ok hf (by rw [hnx])
    rwa [hnx] at this
  have hL : Lst { S with tm := insAt S.tm i ⟨(m : Int) + 1, d, (m : Int) + 1⟩, nx := (m : Int) + 1, calls := S.calls ++ [⟨(m : Int) + 1, 0, 3, (m : Int) + 1, a, 0, c⟩] } = (insAt S.tm i ⟨(m : Int) + 1, d, (m : Int) + 1⟩).map Tm.id := lst_tm hq
  have hmem : ∀ x, x ∈ (insAt S.tm i ⟨(m : Int) + 1, d, (m : Int) + 1⟩).map Tm.id ↔ x = (m : Int) + 1 ∨ x ∈ Lst S := fun x => by
    rw [lst_tm hq]
    simp only [List.mem_map, mem_insAt]
    constructor
    · rintro ⟨t, rfl | q, rfl⟩
      · exact .inl rfl
      · exact .inr ⟨t, q, rfl⟩
    · rintro (rfl | ⟨t, q, rfl⟩)
      · exact ⟨_, .inl rfl, rfl⟩
      · exact ⟨t, .inr q, rfl⟩
  refine ⟨⟨hB.q, by show _ ≤ 100000; rw [hl]; omega, by simp; omega, hB.shots, hB.jobs, by simp only; omega, by simp only; omega, hB.ord0, hB.ord1, hB.now0, hB.now1, hB.last0, hB.last1, hB.us0, hB.us1, fun c' hc => ?_, hB.sh0, hB.sh1⟩, h.jobs, h.sh, h.di, h.q, h.q2, htm, hok, ?_, fun id => ?_, fun x hx => ?_, fun c' hc => ?_, fun x => ?_, ?_, fun x hx => ?_, by simp, ?_, ?_, by have := h.cl; simp; omega⟩
  · rcases List.mem_append.1 hc with q | q
    · exact hB.ev c' q
    · rw [List.mem_singleton.1 q]; constructor <;> simp
  · rw [hL]; exact srt_tm hok.sorted htm
  · rw [hL, hmem, h.mem]; simp; omega
  · rw [hL, hmem] at hx
    rcases hx with rfl | q
    · omega
    · have := h.nat x q; omega
  · rcases List.mem_append.1 hc with q | q
    · exact h.cal c' q
    · rw [List.mem_singleton.1 q]; exact ⟨rfl, rfl⟩
  · rw [hL, hmem, List.map_append, List.mem_append, h.cid]
    simp only [List.map_cons, List.map_nil, List.mem_singleton]
    exact or_comm
  · rw [List.map_append, List.nodup_append]
    refine ⟨h.cnd, by simp, fun x hx y hy e => ?_⟩
    simp only [List.map_cons, List.map_nil, List.mem_singleton] at hy
    subst e
    have := h.nat x ((h.cid x).1 hx)
    omega
  · rw [hL, hmem] at hx
    rcases hx with rfl | q
    · rw [hd]; left; omega
    · exact h.lo x q
  · have := h.ord; simp only; rw [hl]; omega
  · simp only; rw [hl]; omega
theorem find_call {S : LS} {id : Int} : (S.calls.findIdx? (fun c => c.id == id) = none → id ∉ S.calls.map Cl.id) ∧ (∀ i, S.calls.findIdx? (fun c => c.id == id) = some i → ∃ h : i < S.calls.length, S.calls[i].id = id) := by
  refine ⟨fun h hm => ?_, fun i h => ?_⟩
  · obtain ⟨c, hc, rfl⟩ := List.mem_map.1 hm
    have := List.findIdx?_eq_none_iff.1 h c hc
    simp at this
  · obtain ⟨h1, h2, -⟩ := List.findIdx?_eq_some_iff_getElem.1 h
    exact ⟨h1, by simpa using h2⟩
theorem remT_facts {ts : List Tm} {id : Int} (hnd : (ts.map Tm.id).Nodup) : (∀ t ∈ remT ts id, t ∈ ts) ∧ (∀ x, x ∈ (remT ts id).map Tm.id ↔ x ∈ ts.map Tm.id ∧ x ≠ id) ∧ (remT ts id).Sublist ts ∧ (remT ts id).length ≤ ts.length := by
  unfold remT
  cases hf : ts.findIdx? (fun t => t.id == id) with
  | none =>
    refine ⟨fun t h => h, fun x => ⟨fun h => ⟨h, ?_⟩, fun h => h.1⟩, List.Sublist.refl _, Nat.le_refl _⟩
    rintro rfl
    obtain ⟨t, ht, e⟩ := List.mem_map.1 h
    have := List.findIdx?_eq_none_iff.1 hf t ht
    simp [e] at this
  | some k =>
    obtain ⟨h1, h2, -⟩ := List.findIdx?_eq_some_iff_getElem.1 hf
    have h3 : ts[k].id = id := by simpa using h2
    refine ⟨fun t h => List.mem_of_mem_eraseIdx h, fun x => ?_, List.eraseIdx_sublist _ _, (List.eraseIdx_sublist _ _).length_le⟩
    rw [(erase_ids Tm.id hnd h1).2 x, h3]
theorem TI.nodup {ds : List Int} {S : LS} {gone : Nat → Bool} {due last : Int} {m : Nat} (h : TI ds S gone due last m) : (Lst S).Nodup := h.srt.imp (fun q => q.ne)
/-- a call and what waits of its timer are struck out: general -/
theorem ti_clear' {ds : List Int} {S : LS} {gone : Nat → Bool} {due last : Int} {m : Nat} (h : TI ds S gone due last m) (hq : S.q 2 = []) (id : Nat) (h1 : 1 ≤ id) (h2 : id ≤ m) :
    clearB S id = !gone id ∧ TI ds (clearS S id) (upd gone id true) due last m := by
  unfold clearB clearS
  have hnd : (S.tm.map Tm.id).Nodup := by have := h.nodup; rwa [lst_tm hq] at this
  cases hf : S.calls.findIdx? (fun c => c.id == (id : Int)) with
  | none =>
    have hni := find_call.1 hf
    rw [h.cid] at hni
    have hg : gone id = true := by
      cases hgg : gone id with
      | true => rfl
      | false => exact absurd ((h.mem id).2 ⟨h1, h2, hgg⟩) hni
    have hu : upd gone id true = gone := by
      funext j
      simp only [upd]
      split
      · rename_i e; rw [e, hg]
      · rfl
    rw [hu, hg]
    exact ⟨rfl, h⟩
  | some i =>
    obtain ⟨hi, hid⟩ := find_call.2 i hf
    have hin : (id : Int) ∈ Lst S := (h.cid _).1 (by rw [← hid]; exact List.mem_map.2 ⟨_, List.getElem_mem hi, rfl⟩)
    have hg : gone id = false := ((h.mem id).1 hin).2.2
    obtain ⟨e1, e2⟩ := erase_ids Cl.id h.cnd hi
    rw [hid] at e2
    obtain ⟨r1, r2, r3, r4⟩ := remT_facts (id := (id : Int)) hnd
    have hB := h.bnd
    have hL : Lst { S with calls := S.calls.eraseIdx i, tm := remT S.tm id } = (remT S.tm id).map Tm.id := lst_tm hq
    have hsubL : ((remT S.tm id).map Tm.id).Sublist (Lst S) := by rw [lst_tm hq]; exact r3.map _
    have hmem : ∀ x, x ∈ (remT S.tm id).map Tm.id ↔ x ∈ Lst S ∧ x ≠ id := fun x => by rw [lst_tm hq]; exact r2 x
    refine ⟨by rw [hg]; rfl, ⟨⟨hB.q, by have := hB.tm; simp only; omega, ?_, hB.shots, hB.jobs, hB.nx0, hB.nx1, hB.ord0, hB.ord1, hB.now0, hB.now1, hB.last0, hB.last1, hB.us0, hB.us1, fun c hc => hB.ev c (List.mem_of_mem_eraseIdx hc), hB.sh0, hB.sh1⟩, h.jobs, h.sh, h.di, h.q, h.q2, fun t ht => h.tm t (r1 t ht), ⟨h.ok.sorted.sublist r3, fun t ht => h.ok.ord t (r1 t ht)⟩, ?_, fun j => ?_, fun x hx => ?_, fun c hc => h.cal c (List.mem_of_mem_eraseIdx hc), fun x => ?_, e1, fun x hx => ?_, h.nx, ?_, ?_, by have := h.cl; simp only; rw [List.length_eraseIdx]; split <;> omega⟩⟩
    · have := hB.calls; simp only; rw [List.length_eraseIdx]; split <;> omega
    · rw [hL]; exact h.srt.sublist hsubL
    · rw [hL, hmem, h.mem]
      simp only [upd]
      by_cases e : j = id
      · subst e; simp
      · rw [if_neg e]
        have : (j : Int) ≠ (id : Int) := by omega
        simp [this]
    · rw [hL] at hx; exact h.nat x (hsubL.subset hx)
    · rw [hL, hmem, e2, h.cid]
    · rw [hL] at hx; exact h.lo x (hsubL.subset hx)
    · have := h.ord; simp only; omega
    · have := h.len; simp only; omega
/-- the timers that are due hand over their tasks -/
theorem ti_fire {ds : List Int} {gone : Nat → Bool} {due last : Int} {m : Nat} (hm : m ≤ 1000) : ∀ (n : Nat) {S : LS}, S.tm.length = n → TI ds S gone due last m → TI ds (fireS S) gone due last m ∧ (∀ t ∈ (fireS S).tm, S.now < t.due) ∧ (fireS S).now = S.now
  | 0, S, hn, h => by
    have : S.tm = [] := List.eq_nil_of_length_eq_zero hn
    rw [fire_nil this]
    exact ⟨h, by rw [this]; simp, rfl⟩
  | n + 1, S, hn, h => by
    cases hs : S.tm with
    | nil => rw [hs] at hn; simp at hn
    | cons t r =>
      by_cases hd : t.due ≤ S.now
      · have hp : popTm S = (t, true, { S with tm := r }) := by unfold popTm; rw [hs]; simp [hd]
        obtain ⟨f1, -, -, -⟩ := fire_go hp
        obtain ⟨hrm, hb2, -⟩ := room_step hp (h.room hm)
        rw [f1]
        have hsr : srcN 2 = 2 := rfl
        have hq2 : (pushS { S with tm := r } 2 0 t.id).q 2 = S.q 2 ++ [⟨S.ord + 1, 0, t.id⟩] := by simp [pushS, LS.setQ, hsr, upd]
        have hqj : ∀ j, j ≠ 2 → (pushS { S with tm := r } 2 0 t.id).q j = S.q j := fun j hj => by simp [pushS, LS.setQ, hsr, upd, hj]
        have hL : Lst (pushS { S with tm := r } 2 0 t.id) = Lst S := by
          unfold Lst
          rw [hq2, hs]
          simp [pushS, LS.setQ]
        obtain ⟨ht1, ht2⟩ := h.tm t (by rw [hs]; exact List.mem_cons_self)
        have hok := h.ok
        rw [hs] at hok
        have hti : TI ds (pushS { S with tm := r } 2 0 t.id) gone due last m := by
          refine ⟨hrm.bnd, h.jobs, h.sh, h.di, fun j hj => by rw [hqj j hj]; exact h.q j hj, fun y hy => ?_, fun t' h' => h.tm t' (by rw [hs]; exact List.mem_cons_of_mem _ h'), hok.tail, by rw [hL]; exact h.srt, fun id => by rw [hL]; exact h.mem id, by rw [hL]; exact h.nat, h.cal, fun x => by rw [hL]; exact h.cid x, h.cnd, by rw [hL]; exact h.lo, h.nx, ?_, ?_, h.cl⟩
          · rw [hq2] at hy
            rcases List.mem_append.1 hy with q | q
            · exact h.q2 y q
            · rw [List.mem_singleton.1 q]
              exact ⟨rfl, by rw [← ht1]; exact hd⟩
          · have := h.ord; rw [hs] at this; simp at this; show S.ord + 1 + (r.length : Int) ≤ m; omega
          · have := h.len; rw [hs] at this; simp at this; rw [hq2]; show (S.q 2 ++ [_]).length + r.length ≤ m; simp; omega
        have := ti_fire hm n (S := pushS { S with tm := r } 2 0 t.id) (by rw [hs] at hn; simpa [pushS, LS.setQ] using hn) hti
        exact this
      · have e : fireS S = S := by unfold fireS; rw [hs, fireL, if_neg hd, ← hs]
        rw [e]
        refine ⟨h, fun t' h' => ?_, rfl⟩
        rw [hs] at h'
        rcases List.mem_cons.1 h' with rfl | q
        · omega
        · have hp := h.ok.sorted
          rw [hs] at hp
          rcases (List.pairwise_cons.1 hp).1 t' q with q | ⟨q, -⟩ <;> omega
/-- what a task of a timer does -/
theorem ti_task {ds : List Int} {S S' : LS} {gone : Nat → Bool} {due last : Int} {m : Nat} {x : Ch} (h : TI ds S gone due last m) (ht : TaskR S S' x) :
    (x = Ch.z ∧ S' = S ∧ S.q 2 = []) ∨ ∃ (id : Nat) (vk : Int) (a : Option Addr) (an ac : Nat), 1 ≤ id ∧ id ≤ m ∧ gone id = false ∧ dOf ds id ≤ S.now ∧ (due < dOf ds id ∨ (due = dOf ds id ∧ last < id)) ∧ x = { chP 2 ⟨x.hn, 0, id⟩ with c := ⟨id, 0, vk, id, a, an, ac⟩ } ∧ TI ds S' (upd gone id true) (dOf ds id) id m ∧ S'.now = S.now ∧ (Lst S').length < (Lst S).length := by
  have key : ∀ {y : Qt} {r : List Qt} {j : Nat} {c : Cl} {a : Option Addr} {ac : Nat}, S.q 2 = y :: r → S.calls.findIdx? (fun c => c.id == y.n) = some j → S.calls[j]? = some c →
      ∃ (id : Nat) (vk : Int) (a' : Option Addr) (an ac' : Nat), 1 ≤ id ∧ id ≤ m ∧ gone id = false ∧ dOf ds id ≤ S.now ∧ (due < dOf ds id ∨ (due = dOf ds id ∧ last < id)) ∧ { chP 2 y with c := { c with a := a, ac := ac } } = { chP 2 ⟨0, 0, id⟩ with c := ⟨id, 0, vk, id, a', an, ac'⟩ } ∧ TI ds (clearS (popS S 2 r) c.id) (upd gone id true) (dOf ds id) id m ∧ (clearS (popS S 2 r) c.id).now = S.now ∧ (Lst (clearS (popS S 2 r) c.id)).length < (Lst S).length := by
    intro y r j c a ac hq hf hc
    obtain ⟨hy0, hyd⟩ := h.q2 y (by rw [hq]; exact List.mem_cons_self)
    have hyL : y.n ∈ Lst S := by unfold Lst; rw [hq]; simp
    obtain ⟨hy1, hy2⟩ := h.nat y.n hyL
    obtain ⟨id, hid⟩ : ∃ id : Nat, y.n = (id : Int) := ⟨y.n.toNat, by omega⟩
    obtain ⟨hj, hcj⟩ := find_call.2 j hf
    rw [List.getElem?_eq_getElem hj] at hc
    have hcc : S.calls[j] = c := by simpa using hc
    rw [hcc] at hcj
    have hcm : c ∈ S.calls := by rw [← hcc]; exact List.getElem_mem hj
    obtain ⟨c1, c2⟩ := h.cal c hcm
    rw [hid] at hyL hyd hcj hy1 hy2
    have hg := ((h.mem id).1 hyL).2.2
    have hlo := h.lo _ hyL
    have hsrt := h.srt
    have eL : Lst S = (id : Int) :: (r.map Qt.n ++ S.tm.map Tm.id) := by unfold Lst; rw [hq]; simp [hid]
    rw [eL] at hsrt
    obtain ⟨s1, s2⟩ := List.pairwise_cons.1 hsrt
    have hnt : (id : Int) ∉ S.tm.map Tm.id := fun q => (s1 _ (List.mem_append_right _ q)).ne rfl
    have hrt : remT S.tm id = S.tm := by
      unfold remT
      have : S.tm.findIdx? (fun t => t.id == (id : Int)) = none := by
        rw [List.findIdx?_eq_none_iff]
        intro t ht
        simp only [beq_eq_false_iff_ne]
        exact fun e => hnt (List.mem_map.2 ⟨t, ht, e⟩)
      rw [this]
    have hfi : (popS S 2 r).calls.findIdx? (fun c' => c'.id == c.id) = some j := by rw [hcj, ← hid]; exact hf
    have eS : clearS (popS S 2 r) c.id = { popS S 2 r with calls := S.calls.eraseIdx j, tm := S.tm } := by
      unfold clearS
      rw [hfi]
      show { popS S 2 r with calls := S.calls.eraseIdx j, tm := remT S.tm c.id } = _
      rw [hcj, hrt]
    rw [eS]
    have hq2 : (popS S 2 r).q 2 = r := by simp [popS, LS.setQ, upd]
    have hqj : ∀ k, k ≠ 2 → (popS S 2 r).q k = S.q k := fun k hk => by simp [popS, LS.setQ, upd, hk]
    have eL' : Lst { popS S 2 r with calls := S.calls.eraseIdx j, tm := S.tm } = r.map Qt.n ++ S.tm.map Tm.id := by unfold Lst; rw [hq2]
    obtain ⟨e1, e2⟩ := erase_ids Cl.id h.cnd hj
    rw [hcc, hcj] at e2
    have hB := bnd_pop h.bnd 2 (r := r) (by rw [hq]; simp) (by omega)
    have hmem : ∀ z, z ∈ r.map Qt.n ++ S.tm.map Tm.id ↔ z ∈ Lst S ∧ z ≠ id := fun z => by
      rw [eL, List.mem_cons]
      constructor
      · intro hz; exact ⟨.inr hz, fun e => (s1 z hz).ne e.symm⟩
      · rintro ⟨rfl | hz, hne⟩
        · exact absurd rfl hne
        · exact hz
    refine ⟨id, c.vk, a, c.an, ac, by omega, by omega, hg, hyd, hlo, ?_, ⟨⟨hB.q, hB.tm, ?_, hB.shots, hB.jobs, hB.nx0, hB.nx1, hB.ord0, hB.ord1, hB.now0, hB.now1, hB.last0, hB.last1, hB.us0, hB.us1, fun c' hc' => hB.ev c' (List.mem_of_mem_eraseIdx hc'), hB.sh0, hB.sh1⟩, h.jobs, h.sh, h.di, fun k hk => by show (popS S 2 r).q k = []; rw [hqj k hk]; exact h.q k hk, fun z hz => h.q2 z (by rw [hq]; have : z ∈ (popS S 2 r).q 2 := hz; rw [hq2] at this; exact List.mem_cons_of_mem _ this), h.tm, h.ok, by rw [eL']; exact s2, fun k => ?_, fun z hz => ?_, fun c' hc' => h.cal c' (List.mem_of_mem_eraseIdx hc'), fun z => ?_, e1, fun z hz => ?_, h.nx, h.ord, ?_, by have := h.cl; show (S.calls.eraseIdx j).length ≤ m; rw [List.length_eraseIdx]; split <;> omega⟩, rfl, ?_⟩
    · unfold chP
      simp only [Ch.z, hid, hy0, hcj, c1, c2]
    · have := hB.calls; show (S.calls.eraseIdx j).length ≤ 100000; rw [List.length_eraseIdx]; have h9 := h.bnd.calls; split <;> omega
    · rw [eL', hmem, h.mem]
      simp only [upd]
      by_cases e : k = id
      · subst e; simp
      · rw [if_neg e]
        have : (k : Int) ≠ (id : Int) := by omega
        simp [this]
    · rw [eL'] at hz; exact h.nat z ((hmem z).1 hz).1
    · rw [eL', hmem]
      show z ∈ (S.calls.eraseIdx j).map Cl.id ↔ _
      rw [e2, h.cid]
    · rw [eL'] at hz; exact s1 z hz
    · have := h.len; rw [hq] at this; simp at this
      show ((popS S 2 r).q 2).length + S.tm.length ≤ m
      rw [hq2]; omega
    · rw [eL', eL]; simp
  cases ht with
  | none hs => exact .inl ⟨rfl, rfl, src_none hs 2 (by omega)⟩
  | @plain _ i y r hs hi hq hp =>
    exfalso
    by_cases e : i = 2
    · subst e
      exact hp ⟨rfl, (h.q2 y (by rw [hq]; exact List.mem_cons_self)).1⟩
    · rw [h.q i e] at hq; cases hq
  | @skip _ _ y r _ hs hq hk hf =>
    exfalso
    have hyL : y.n ∈ Lst S := by unfold Lst; rw [hq]; simp
    exact find_call.1 hf ((h.cid _).2 hyL)
  | @again _ _ y r j c a ac hs hq hk hf hc he =>
    exfalso
    exact he (h.cal c (List.mem_of_getElem? hc)).1
  | @once _ y r j c a ac hs hq hk hf hc he =>
    right
    obtain ⟨id, vk, a', an, ac', h1⟩ := key (a := a) (ac := ac) hq hf hc
    exact ⟨id, vk, a', an, ac', h1⟩

end Go.Proofs.Ytnamkckpgaopkaa
