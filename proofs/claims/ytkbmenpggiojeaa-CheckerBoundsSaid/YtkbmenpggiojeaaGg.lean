/-
  Plain: the checker's bound is the definition's; a bound shuts out every lasso.
-/
import Derived.Test.YtkbmenpggiojeaaGe
namespace Go.Proofs.Ytkbmenpggiojeaa
open Go.RowKit
set_option linter.unusedSimpArgs false
set_option linter.unusedVariables false

theorem flt_at {evs : List Ev} (h : FltOk evs) {e : Int} (ho : (evAt evs e).obs = true) : (evAt evs e).fault = 0 := by
  unfold evAt at *
  cases hz : evs[e.toNat]? with
  | none => rw [hz] at ho
  | some z => rw [hz] at ho; exact h z (List.mem_of_getElem? hz) ho

/-- Ranks of a list whose ranks are at least -1. -/
theorem rk_look {l : List Pa} (hr : ∀ p, p ∈ l → -1 ≤ p.rk) (f s : Int) (b : Bool) (r : Int) : ranksOf l (f, s, if b = true then 1 else 0) = some r ↔ ∃ (k : Nat) (p : Pa), lookV l f s b = k ∧ l[k]? = some p ∧ p.rk = r := by
  have hq : ∀ p, p ∈ l → (pkey p = (f, s, if b = true then 1 else 0) ↔ hitP f s b p) := by
    intro p hp
    have := hr p hp
    simp only [pkey, hitP, Prod.mk.injEq]
    cases b
    · by_cases h : p.rk = -1
      · simp [h]
      · have : 0 ≤ p.rk := by omega
        simp [h, this]
    · by_cases h : p.rk = -1
      · simp [h]
      · have : 0 ≤ p.rk := by omega
        simp [h, this]
  unfold ranksOf
  rcases lookV_cases l f s b with ⟨h1, h2⟩ | ⟨k, x, h1, h2, h3, h4⟩
  · have : l.find? (fun p => decide (pkey p = (f, s, if b = true then 1 else 0))) = none := by
      rw [List.find?_eq_none]
      intro x hx
      simp only [decide_eq_true_eq]
      exact fun h => h2 x hx ((hq x hx).1 h)
    rw [this]
    constructor
    · intro h; simp at h
    · rintro ⟨k, p, e1, _⟩; omega
  · have hk := (List.getElem?_eq_some_iff.1 h2).1
    have : l.find? (fun p => decide (pkey p = (f, s, if b = true then 1 else 0))) = some x := by
      rw [List.find?_eq_some_iff_getElem]
      refine ⟨by simpa using (hq x (List.mem_of_getElem? h2)).2 h3, k, hk, (List.getElem?_eq_some_iff.1 h2).2, fun j hj => ?_⟩
      have := h4 j l[j] hj (List.getElem?_eq_getElem (by omega))
      simpa using fun h => this ((hq _ (List.getElem_mem _)).1 h)
    rw [this]
    constructor
    · intro h
      exact ⟨k, x, h1, h2, by simpa using h⟩
    · rintro ⟨k', p, e1, e2, e3⟩
      obtain rfl : k' = k := by omega
      rw [h2] at e2; cases e2
      simp [e3]
theorem rk_isSome {l : List Pa} (hr : ∀ p, p ∈ l → -1 ≤ p.rk) (f s : Int) (b : Bool) : (ranksOf l (f, s, if b = true then 1 else 0)).isSome = true ↔ lookV l f s b ≠ -1 := by
  rw [Option.isSome_iff_exists]
  constructor
  · rintro ⟨r, h⟩
    obtain ⟨k, p, h1, _⟩ := (rk_look hr f s b r).1 h
    rw [h1]; omega
  · intro h
    obtain ⟨k, x, h1, h2, h3⟩ := lookV_some h
    exact ⟨x.rk, (rk_look hr f s b _).2 ⟨k, x, h1, h2, rfl⟩⟩

theorem leads_iff {l : List Pa} (hr : ∀ p, p ∈ l → -1 ≤ p.rk) {bound rk f s : Int} {isF : Prop} {moves flt : Bool} (hrk : -1 ≤ rk) (hf : flt = true ↔ moves = true ∧ isF) :
    leadsP (ranksOf l) bound isF rk f s moves ↔ mvOk l bound rk ⟨f, s, moves, flt⟩ := by
  have r1 := fun r => rk_look hr f s true r
  have r0 := fun r => rk_look hr f s false r
  simp only [if_true, if_false, Bool.false_eq_true] at r1 r0
  unfold leadsP mvOk
  simp only
  by_cases hk : rk = -1
  · subst hk
    simp only [true_and, if_true, ne_eq, not_true_eq_false, false_implies, and_true, show ¬ (0 : Int) ≤ -1 by omega, decide_false, Bool.false_or, show ((-1 : Int) < 0) by omega, true_implies]
    cases flt with
    | true =>
      have h := hf.1 rfl
      simp only [h, and_self, not_true_eq_false, false_implies, and_true, true_implies]
      constructor
      · rintro ⟨r, h2, h3⟩
        obtain ⟨k, p, e1, e2, e3⟩ := (r1 r).1 h2
        exact ⟨k, p, e1, e2, by omega⟩
      · rintro ⟨k, p, e1, e2, e3⟩
        exact ⟨p.rk, (r1 _).2 ⟨k, p, e1, e2, rfl⟩, e3⟩
    | false =>
      have h : ¬ (moves = true ∧ isF) := fun h => by have := hf.2 h; cases this
      simp only [h, false_implies, true_and, not_false_eq_true, true_implies, and_true, Bool.false_eq_true]
      constructor
      · rintro ⟨r, h2⟩
        obtain ⟨k, p, e1, e2, e3⟩ := (r0 r).1 h2
        exact ⟨k, p, e1, e2⟩
      · rintro ⟨k, p, e1, e2⟩
        exact ⟨p.rk, (r0 _).2 ⟨k, p, e1, e2, rfl⟩⟩
  · have h0 : 0 ≤ rk := by omega
    have h1 : ¬ rk < 0 := by omega
    simp only [hk, h0, h1, false_and, false_implies, true_and, if_false, ne_eq, not_false_eq_true, true_implies, decide_true, Bool.true_or]
    constructor
    · rintro ⟨r, h2, h3⟩
      obtain ⟨k, p, e1, e2, e3⟩ := (r1 r).1 h2
      refine ⟨k, p, e1, e2, fun hm => ?_, ?_⟩
      · rw [hm] at h3; simp at h3; omega
      · split at h3 <;> omega
    · rintro ⟨k, p, e1, e2, e3, e4⟩
      refine ⟨p.rk, (r1 _).2 ⟨k, p, e1, e2, rfl⟩, ?_⟩
      split
      · rename_i hm; exact e3 hm
      · exact e4

theorem mem_movesV {evs : List Ev} {ed : List Ed} {cl f s : Int} {m : Mv} : m ∈ movesV evs ed cl f s ed ↔
    (∃ y, y ∈ ed ∧ (evAt evs y.ev).obs = false ∧ y.src = f ∧ m = ⟨y.dst, s, true, (evAt evs y.ev).fault == cl⟩) ∨
    (∃ y, y ∈ ed ∧ (evAt evs y.ev).obs = false ∧ y.src = s ∧ (evAt evs y.ev).fault ≠ cl ∧ m = ⟨f, y.dst, false, false⟩) ∨
    (∃ y, y ∈ ed ∧ (evAt evs y.ev).obs = true ∧ y.src = f ∧ 0 ≤ nextV ed s y.ev ∧ m = ⟨y.dst, nextV ed s y.ev, true, false⟩) := by
  simp only [movesV, List.mem_flatMap, movesE, List.mem_append, mv1, mv2, mv3]
  constructor
  · rintro ⟨y, hy, (h | h) | h⟩
    · split at h
      · rename_i hc; simp at h; exact .inl ⟨y, hy, hc.1, hc.2, h⟩
      · simp at h
    · split at h
      · rename_i hc; simp at h; exact .inr (.inl ⟨y, hy, hc.1, hc.2.1, hc.2.2, h⟩)
      · simp at h
    · split at h
      · rename_i hc; simp at h; exact .inr (.inr ⟨y, hy, hc.1, hc.2.1, hc.2.2, h⟩)
      · simp at h
  · rintro (⟨y, hy, h1, h2, h3⟩ | ⟨y, hy, h1, h2, h3, h4⟩ | ⟨y, hy, h1, h2, h3, h4⟩)
    · exact ⟨y, hy, .inl (.inl (by rw [if_pos ⟨h1, h2⟩, h3]; simp))⟩
    · exact ⟨y, hy, .inl (.inr (by rw [if_pos ⟨h1, h2, h3⟩, h4]; simp))⟩
    · exact ⟨y, hy, .inr (by rw [if_pos ⟨h1, h2, h3⟩, h4]; simp)⟩

theorem nextV_edge {au : Au} (h : au.Right) {x : Ed} (hx : x ∈ au.ed) : nextV au.ed x.src x.ev = x.dst := by
  unfold nextV
  cases hf : au.ed.find? (fun y => decide (y.src = x.src) && decide (y.ev = x.ev)) with
  | none =>
    rw [List.find?_eq_none] at hf
    have := hf x hx
    simp at this
  | some y =>
    have h1 := List.mem_of_find?_eq_some hf
    have h2 := List.find?_some hf
    simp only [Bool.and_eq_true, decide_eq_true_eq] at h2
    rw [h.uniq h1 hx h2.1 h2.2]
    rfl
theorem Au.Right.dst0 {au : Au} (h : au.Right) {x : Ed} (hx : x ∈ au.ed) : 0 ≤ x.src ∧ x.src < au.n ∧ 0 ≤ x.dst ∧ x.dst < au.n := by
  obtain ⟨j, hj, rfl⟩ := List.mem_iff_getElem.1 hx
  have := h.ed j hj _ (List.getElem?_eq_getElem hj)
  exact ⟨this.1, this.2.1, this.2.2.1, this.2.2.2.1⟩

theorem pair_iff {evs : List Ev} {au : Au} (hF : Fits evs au) (hf : FltOk evs) {l : List Pa} (hr : ∀ p, p ∈ l → -1 ≤ p.rk) {bound : Int} {p : Pa} (hp : PaIn au.n p) :
    PairOk (ranksOf l) bound 1 evs au.ed p ↔ ∀ m, m ∈ movesV evs au.ed 1 p.fst p.snd au.ed → mvOk l bound p.rk m := by
  have hm : ∀ (x : Ed) (i : Int), 0 ≤ i → (x ∈ outOf au.ed i.toNat ↔ x ∈ au.ed ∧ x.src = i) := by
    intro x i hi
    have : ((i.toNat : Nat) : Int) = i := Int.toNat_of_nonneg hi
    simp [outOf, this, hi]
  constructor
  · rintro ⟨m1, m2, m3⟩ m hmem
    rcases mem_movesV.1 hmem with ⟨y, hy, h1, h2, rfl⟩ | ⟨y, hy, h1, h2, h3, rfl⟩ | ⟨y, hy, h1, h2, h3, rfl⟩
    · exact (leads_iff hr hp.r0 (by simp)).1 (m1 y ((hm y _ hp.f0).2 ⟨hy, h2⟩) h1)
    · exact (leads_iff hr hp.r0 (by simp)).1 (m2 y ((hm y _ hp.s0).2 ⟨hy, h2⟩) h1 h3)
    · rcases hF.ha.next_cases p.snd y.ev with hn | ⟨_, _, z, hz, z1, z2, z3⟩
      · omega
      · rw [← z3]
        have hfl := flt_at hf h1
        exact (leads_iff hr hp.r0 (by simp [hfl])).1 (m3 y ((hm y _ hp.f0).2 ⟨hy, h2⟩) z ((hm z _ hp.s0).2 ⟨hz, z1⟩) z2.symm h1)
  · intro h
    refine ⟨fun x hx ho => ?_, fun y hy ho hfl => ?_, fun x hx y hy he ho => ?_⟩
    · obtain ⟨h1, h2⟩ := (hm x _ hp.f0).1 hx
      exact (leads_iff hr hp.r0 (by simp)).2 (h _ (mem_movesV.2 (.inl ⟨x, h1, ho, h2, rfl⟩)))
    · obtain ⟨h1, h2⟩ := (hm y _ hp.s0).1 hy
      exact (leads_iff hr hp.r0 (by simp)).2 (h _ (mem_movesV.2 (.inr (.inl ⟨y, h1, ho, h2, hfl, rfl⟩))))
    · obtain ⟨h1, h2⟩ := (hm x _ hp.f0).1 hx
      obtain ⟨h3, h4⟩ := (hm y _ hp.s0).1 hy
      have hn : nextV au.ed p.snd x.ev = y.dst := by rw [← h4, he]; exact nextV_edge hF.ha h3
      have hd := hF.ha.dst0 h3
      have hfl := flt_at hf ho
      refine (leads_iff (flt := false) hr hp.r0 (by simp [hfl])).2 (h _ (mem_movesV.2 (.inr (.inr ⟨x, h1, ho, h2, by omega, ?_⟩))))
      rw [hn]

theorem bound_iff {evs : List Ev} {au : Au} (hF : Fits evs au) (hf : FltOk evs) (hn : au.n ≠ 0) {l : List Pa} {bound : Int} (hb : 0 ≤ bound) : BoundOk evs au 1 bound l ↔ IsB evs au.ed au.n bound l := by
  have un : ∀ (hr : ∀ p, p ∈ l → -1 ≤ p.rk) (k : Nat) (p : Pa), l[k]? = some p → ((ranksOf (l.take k) (pkey p)).isSome = false ↔ lookV l p.fst p.snd (decide (0 ≤ p.rk)) = k) := by
    intro hr k p hp
    have hp1 := hr p (List.mem_of_getElem? hp)
    have hkey : pkey p = (p.fst, p.snd, if decide (0 ≤ p.rk) = true then 1 else 0) := by
      unfold pkey
      by_cases h : p.rk = -1
      · simp [h]
      · simp [h, show 0 ≤ p.rk by omega]
    rw [hkey, ← Bool.not_eq_true, rk_isSome (fun q hq => hr q (List.mem_of_mem_take hq)), ne_eq, Decidable.not_not]
    rw [lookV_neg, lookV_eq]
    constructor
    · intro h
      refine ⟨p, hp, hitP_self p, fun j y hj hy => h y ?_⟩
      exact List.mem_of_getElem? (i := j) (by rw [List.getElem?_take_of_lt hj]; exact hy)
    · rintro ⟨x, h1, h2, h3⟩ q hq
      obtain ⟨j, hj, rfl⟩ := List.mem_iff_getElem.1 hq
      have hj' : j < k := by simp at hj; omega
      refine h3 j _ hj' ?_
      rw [List.getElem_take]
      exact List.getElem?_eq_getElem (by have := (List.getElem?_eq_some_iff.1 hp).1; omega)
  constructor
  · intro h
    have hr : ∀ p, p ∈ l → -1 ≤ p.rk := fun p hp => by
      obtain ⟨k, hk, rfl⟩ := List.mem_iff_getElem.1 hp
      exact (h.in_ k _ (List.getElem?_eq_getElem hk)).1.r0
    refine ⟨(rk_isSome hr 0 0 false).1 h.st, fun i x hx => ?_⟩
    have hi := h.in_ i x hx
    exact ⟨hi.1, (un hr i x hx).1 hi.2, (pair_iff hF hf hr hi.1).1 (h.pr x (List.mem_of_getElem? hx))⟩
  · intro h
    have hr : ∀ p, p ∈ l → -1 ≤ p.rk := fun p hp => by
      obtain ⟨k, hk, rfl⟩ := List.mem_iff_getElem.1 hp
      exact (h.it k _ (List.getElem?_eq_getElem hk)).in_.r0
    refine ⟨⟨hF.ha, by omega, by omega, hF.hev⟩, hn, hb, fun k p hp => ⟨(h.it k p hp).in_, (un hr k p hp).2 (h.it k p hp).un⟩, (rk_isSome hr 0 0 false).2 h.st, fun p hp => ?_⟩
    obtain ⟨k, hk, rfl⟩ := List.mem_iff_getElem.1 hp
    have hi := h.it k _ (List.getElem?_eq_getElem hk)
    exact (pair_iff hF hf hr hi.in_).2 hi.mv

/-- Two runs that look alike lead from a pair to a pair. -/
theorem IsB.lead {evs : List Ev} {au : Au} {n bound : Int} {l : List Pa} (hF : Fits evs au) (hf : FltOk evs) (hB : IsB evs au.ed n bound l) : ∀ (N : Nat) (u v : List Int) (p : Pa), u.length + v.length ≤ N → p ∈ l →
    0 ≤ runV au.ed p.fst u → 0 ≤ runV au.ed p.snd v → seen evs u = seen evs v → ¬ faultyP evs 1 v →
    ∃ q, q ∈ l ∧ q.fst = runV au.ed p.fst u ∧ q.snd = runV au.ed p.snd v ∧ (0 ≤ p.rk → 0 ≤ q.rk ∧ q.rk ≤ p.rk ∧ (u ≠ [] → q.rk < p.rk)) ∧ (p.rk < 0 → faultyP evs 1 u → 0 ≤ q.rk) := by
  -- one move
  have step : ∀ (p : Pa) (m : Mv), p ∈ l → m ∈ movesV evs au.ed 1 p.fst p.snd au.ed → ∃ q, q ∈ l ∧ q.fst = m.fst ∧ q.snd = m.snd ∧ (0 ≤ q.rk ↔ 0 ≤ p.rk ∨ m.flt = true) ∧ (0 ≤ p.rk → q.rk ≤ p.rk ∧ (m.one = true → q.rk < p.rk)) := by
    intro p m hp hm
    obtain ⟨i, hi, rfl⟩ := List.mem_iff_getElem.1 hp
    obtain ⟨k, q, e1, e2, e3, e4, e5⟩ := (hB.it i _ (List.getElem?_eq_getElem hi)).mv m hm
    obtain ⟨q', f1, f2, _⟩ := lookV_eq.1 e1
    rw [e2] at f1; cases f1
    exact ⟨q, List.mem_of_getElem? e2, f2.1, f2.2.1, by rw [f2.2.2]; simp, fun h => ⟨e5 h, e4 h⟩⟩
  have edge : ∀ (s e : Int), 0 ≤ nextV au.ed s e → ∃ x, x ∈ au.ed ∧ x.src = s ∧ x.ev = e ∧ x.dst = nextV au.ed s e := by
    intro s e h
    rcases hF.ha.next_cases s e with h1 | ⟨_, _, h1⟩
    · omega
    · exact h1
  have run0 : ∀ (s : Int) (e : Int) (r : List Int), 0 ≤ runV au.ed s (e :: r) → 0 ≤ s ∧ 0 ≤ nextV au.ed s e ∧ runV au.ed s (e :: r) = runV au.ed (nextV au.ed s e) r := by
    intro s e r h
    by_cases hs : 0 ≤ s
    · simp only [runV, hs, if_true] at h ⊢
      by_cases hn : 0 ≤ nextV au.ed s e
      · exact ⟨trivial, hn, by first | rfl | trivial⟩
      · rw [runV_neg _ (by omega)] at h; omega
    · rw [runV_neg _ (by omega)] at h; omega
  intro N
  induction N with
  | zero =>
    intro u v p hN hp hu hv hs hfv
    obtain rfl : u = [] := List.length_eq_zero_iff.1 (by omega)
    obtain rfl : v = [] := List.length_eq_zero_iff.1 (by omega)
    exact ⟨p, hp, rfl, rfl, fun h => ⟨h, Int.le_refl _, fun h => absurd rfl h⟩, fun _ ⟨x, hx, _⟩ => by simp at hx⟩
  | succ N ih =>
    intro u v p hN hp hu hv hs hfv
    have one : ∀ (e : Int) (u' : List Int), u = e :: u' → (evAt evs e).obs = false → ∃ q, q ∈ l ∧ q.fst = runV au.ed p.fst u ∧ q.snd = runV au.ed p.snd v ∧ (0 ≤ p.rk → 0 ≤ q.rk ∧ q.rk ≤ p.rk ∧ (u ≠ [] → q.rk < p.rk)) ∧ (p.rk < 0 → faultyP evs 1 u → 0 ≤ q.rk) := by
      rintro e u' rfl ho
      obtain ⟨h0, hn, hrun⟩ := run0 _ _ _ hu
      obtain ⟨x, hx, x1, x2, x3⟩ := edge _ _ hn
      obtain ⟨q, hq, q1, q2, q3, q4⟩ := step p _ hp (mem_movesV.2 (.inl ⟨x, hx, by rw [x2]; exact ho, x1, rfl⟩))
      simp only at q1 q2 q3 q4
      rw [hrun] at hu ⊢
      obtain ⟨t, ht, t1, t2, t3, t4⟩ := ih u' v q (by simp at hN; omega) hq (by rw [q1, x3]; exact hu) (by rw [q2]; exact hv) (by rw [← hs]; simp [seen, ho]) hfv
      refine ⟨t, ht, by rw [t1, q1, x3], by rw [t2, q2], fun h => ?_, fun h hfu => ?_⟩
      · have := q4 h
        have := t3 (q3.2 (.inl h))
        have := (q4 h).2 trivial
        exact ⟨by omega, by omega, fun _ => by omega⟩
      · by_cases hq0 : 0 ≤ q.rk
        · exact (t3 hq0).1
        · refine t4 (by omega) ?_
          obtain ⟨z, hz, hz1⟩ := hfu
          rcases List.mem_cons.1 hz with rfl | hz
          · exact absurd (q3.2 (.inr (by rw [x2, hz1]; rfl))) hq0
          · exact ⟨z, hz, hz1⟩
    have two : ∀ (e : Int) (v' : List Int), v = e :: v' → (evAt evs e).obs = false → ∃ q, q ∈ l ∧ q.fst = runV au.ed p.fst u ∧ q.snd = runV au.ed p.snd v ∧ (0 ≤ p.rk → 0 ≤ q.rk ∧ q.rk ≤ p.rk ∧ (u ≠ [] → q.rk < p.rk)) ∧ (p.rk < 0 → faultyP evs 1 u → 0 ≤ q.rk) := by
      rintro e v' rfl ho
      obtain ⟨h0, hn, hrun⟩ := run0 _ _ _ hv
      obtain ⟨x, hx, x1, x2, x3⟩ := edge _ _ hn
      have hnf : (evAt evs e).fault ≠ 1 := fun h => hfv ⟨e, by simp, h⟩
      obtain ⟨q, hq, q1, q2, q3, q4⟩ := step p _ hp (mem_movesV.2 (.inr (.inl ⟨x, hx, by rw [x2]; exact ho, x1, by rw [x2]; exact hnf, rfl⟩)))
      simp only [Bool.false_eq_true, or_false] at q1 q2 q3 q4
      rw [hrun] at hv ⊢
      obtain ⟨t, ht, t1, t2, t3, t4⟩ := ih u v' q (by simp at hN; omega) hq (by rw [q1]; exact hu) (by rw [q2, x3]; exact hv) (by rw [hs]; simp [seen, ho]) (fun ⟨z, hz, h⟩ => hfv ⟨z, by simp [hz], h⟩)
      refine ⟨t, ht, by rw [t1, q1], by rw [t2, q2, x3], fun h => ?_, fun h hfu => ?_⟩
      · have := (q4 h).1
        have h1 := t3 (q3.2 h)
        refine ⟨by omega, by omega, fun hu => ?_⟩
        have := h1.2.2 hu
        omega
      · by_cases hq0 : 0 ≤ q.rk
        · exact (t3 hq0).1
        · exact t4 (by omega) hfu
    cases u with
    | nil =>
      cases v with
      | nil => exact ⟨p, hp, rfl, rfl, fun h => ⟨h, Int.le_refl _, fun h => absurd rfl h⟩, fun _ ⟨x, hx, _⟩ => by simp at hx⟩
      | cons d v' =>
        cases hd : (evAt evs d).obs with
        | false => exact two d v' rfl hd
        | true => simp [seen, hd] at hs
    | cons e u' =>
      cases he : (evAt evs e).obs with
      | false => exact one e u' rfl he
      | true =>
        cases v with
        | nil => simp [seen, he] at hs
        | cons d v' =>
          cases hd : (evAt evs d).obs with
          | false => exact two d v' rfl hd
          | true =>
            have hs' : e = d ∧ seen evs u' = seen evs v' := by simpa [seen, he, hd] using hs
            obtain ⟨rfl, hs'⟩ := hs'
            obtain ⟨h0, hn, hrun⟩ := run0 _ _ _ hu
            obtain ⟨g0, gn, grun⟩ := run0 _ _ _ hv
            obtain ⟨x, hx, x1, x2, x3⟩ := edge _ _ hn
            obtain ⟨q, hq, q1, q2, q3, q4⟩ := step p _ hp (mem_movesV.2 (.inr (.inr ⟨x, hx, by rw [x2]; exact he, x1, by rw [x2]; exact gn, rfl⟩)))
            simp only [Bool.false_eq_true, or_false] at q1 q2 q3 q4
            rw [x2] at q2
            rw [hrun] at hu ⊢
            rw [grun] at hv ⊢
            obtain ⟨t, ht, t1, t2, t3, t4⟩ := ih u' v' q (by simp at hN; omega) hq (by rw [q1, x3]; exact hu) (by rw [q2]; exact hv) hs' (fun ⟨z, hz, h⟩ => hfv ⟨z, by simp [hz], h⟩)
            refine ⟨t, ht, by rw [t1, q1, x3], by rw [t2, q2], fun h => ?_, fun h hfu => ?_⟩
            · have := (q4 h).2 trivial
              have h1 := t3 (q3.2 h)
              exact ⟨by omega, by omega, fun _ => by omega⟩
            · have hq0 : ¬ 0 ≤ q.rk := fun h' => by have := q3.1 h'; omega
              refine t4 (by omega) ?_
              obtain ⟨z, hz, hz1⟩ := hfu
              rcases List.mem_cons.1 hz with rfl | hz
              · have := flt_at hf he; omega
              · exact ⟨z, hz, hz1⟩

theorem IsB.noLasso {evs : List Ev} {au : Au} {n bound : Int} {l : List Pa} (hF : Fits evs au) (hf : FltOk evs) (hB : IsB evs au.ed n bound l) (ls : Ls) : ¬ LassoOk evs au 1 ls := by
  intro h
  have g := (isLasso_iff hF).1 h
  obtain ⟨k, p, hk, hp, hit⟩ := lookV_some hB.st
  obtain ⟨q, hq, q1, q2, _, q4⟩ := hB.lead hF hf _ ls.fa ls.no p (Nat.le_refl _) (List.mem_of_getElem? hp) (by rw [hit.1]; exact g.x0) (by rw [hit.2.1]; exact g.y0) h.s1 g.f2
  have hr : ¬ 0 ≤ p.rk := fun hh => by have := hit.2.2.1 hh; simp at this
  have hq0 := q4 (by omega) g.f1
  rw [hit.1] at q1
  rw [hit.2.1] at q2
  obtain ⟨t, ht, t1, t2, t3, _⟩ := hB.lead hF hf _ ls.fc ls.nc q (Nat.le_refl _) hq (by rw [q1, g.x1]; exact g.x0) (by rw [q2, g.y1]; exact g.y0) h.s2 g.f3
  have h3 := t3 hq0
  have hlt := h3.2.2 g.c0
  rw [q1, g.x1] at t1
  rw [q2, g.y1] at t2
  obtain ⟨i, hi, rfl⟩ := List.mem_iff_getElem.1 hq
  obtain ⟨j, hj, rfl⟩ := List.mem_iff_getElem.1 ht
  have u1 := (hB.it i _ (List.getElem?_eq_getElem hi)).un
  have u2 := (hB.it j _ (List.getElem?_eq_getElem hj)).un
  rw [show (decide (0 ≤ l[i].rk)) = true by simpa using hq0, q1, q2] at u1
  rw [show (decide (0 ≤ l[j].rk)) = true by simpa using h3.1, t1, t2, u1] at u2
  obtain rfl : i = j := by omega
  omega
end Go.Proofs.Ytkbmenpggiojeaa
