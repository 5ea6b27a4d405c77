/-
  Plain laws: words in a right automaton.
-/
import Derived.Test.YtkbmenpggiojeaaMe
import Derived.Test.YtkbmenpggiojeaaLg
namespace Go.Proofs.Ytkbmenpggiojeaa
open Go.RowKit
set_option linter.unusedSimpArgs false
set_option linter.unusedVariables false

theorem Says.yes3 {Q : Prop} {w w' : World} {e : Ending} (h : Says Q w e w') (hq : Q) : e = .returned (.bool true) ∧ w = w' := by
  obtain ⟨r, rfl, hr, hb⟩ := h; exact ⟨by rw [hr.2 hq], hb⟩
theorem Says.no3 {Q : Prop} {w w' : World} {e : Ending} (h : Says Q w e w') (hq : ¬ Q) : e = .returned (.bool false) ∧ w = w' := by
  obtain ⟨r, rfl, hr, hb⟩ := h
  cases r
  · exact ⟨rfl, hb⟩
  · exact absurd (hr.1 rfl) hq
theorem Tells.yes2 {Q : Prop} {w w' : World} {e : Ending} (h : Tells Q w e w') (hq : Q) : e = .returned (.bool true) ∧ Below w.heap.size w w' := by
  obtain ⟨r, rfl, hr, hb⟩ := h; exact ⟨by rw [hr.2 hq], hb⟩
theorem Tells.no2 {Q : Prop} {w w' : World} {e : Ending} (h : Tells Q w e w') (hq : ¬ Q) : e = .returned (.bool false) ∧ Below w.heap.size w w' := by
  obtain ⟨r, rfl, hr, hb⟩ := h
  cases r
  · exact ⟨rfl, hb⟩
  · exact absurd (hr.1 rfl) hq
theorem Au.Right.lex {au : Au} (h : au.Right) : ∀ (i j : Nat) (x y : Ed), i < j → au.ed[i]? = some x → au.ed[j]? = some y → x.src < y.src ∨ x.src = y.src ∧ x.ev < y.ev := by
  intro i j x y hij hx hy
  have hj := (List.getElem?_eq_some_iff.1 hy).1
  induction j generalizing y with
  | zero => omega
  | succ j ih =>
    have hz : au.ed[j]? = some au.ed[j] := List.getElem?_eq_getElem (by omega)
    have h1 := (h.ed (j + 1) hj y hy).2.2.2.2.2 au.ed[j] (by omega) hz
    by_cases e : i = j
    · subst e; rw [hx] at hz; cases hz; exact h1
    · have := ih au.ed[j] (by omega) hz (by omega)
      omega
theorem Au.Right.uniq {au : Au} (h : au.Right) {x y : Ed} (hx : x ∈ au.ed) (hy : y ∈ au.ed) (h1 : x.src = y.src) (h2 : x.ev = y.ev) : x = y := by
  obtain ⟨i, hi, hx⟩ := List.mem_iff_getElem.1 hx
  obtain ⟨j, hj, hy⟩ := List.mem_iff_getElem.1 hy
  have hx' : au.ed[i]? = some x := by rw [List.getElem?_eq_getElem hi, hx]
  have hy' : au.ed[j]? = some y := by rw [List.getElem?_eq_getElem hj, hy]
  rcases Nat.lt_trichotomy i j with h3 | h3 | h3
  · have := h.lex i j x y h3 hx' hy'; omega
  · subst h3; rw [hx'] at hy'; cases hy'; rfl
  · have := h.lex j i y x h3 hy' hx'; omega
theorem find_rev {α : Type} {p : α → Bool} {l : List α} (h : ∀ x y, x ∈ l → y ∈ l → p x = true → p y = true → x = y) : l.reverse.find? p = l.find? p := by
  cases h1 : l.find? p with
  | none =>
    rw [List.find?_eq_none] at h1 ⊢
    intro x hx; exact h1 x (List.mem_reverse.1 hx)
  | some x =>
    cases h2 : l.reverse.find? p with
    | none =>
      rw [List.find?_eq_none] at h2
      exact absurd (List.find?_some h1) (h2 x (List.mem_reverse.2 (List.mem_of_find?_eq_some h1)))
    | some y => rw [h y x (List.mem_reverse.1 (List.mem_of_find?_eq_some h2)) (List.mem_of_find?_eq_some h1) (List.find?_some h2) (List.find?_some h1)]
theorem Au.Right.next {au : Au} (h : au.Right) (s e : Int) : nextV au.ed s e = toV (stepOf au.ed) s e := by
  unfold nextV toV stepOf
  rw [find_rev (l := au.ed) (p := fun (x : Ed) => decide ((x.src, x.ev) = (s, e)))]
  · congr 2
    congr 1
    funext x
    simp
  · intro x y hx hy h1 h2
    simp at h1 h2
    exact h.uniq hx hy (by omega) (by omega)
theorem Au.Right.next_cases {au : Au} (h : au.Right) (s e : Int) : nextV au.ed s e = -1 ∨ 0 ≤ nextV au.ed s e ∧ nextV au.ed s e < au.n ∧ ∃ x, x ∈ au.ed ∧ x.src = s ∧ x.ev = e ∧ x.dst = nextV au.ed s e := by
  by_cases h1 : nextV au.ed s e = -1
  · exact .inl h1
  · rw [h.next] at h1 ⊢
    obtain ⟨x, hx, h2, h3, h4⟩ := toV_edge h1
    obtain ⟨j, hj, hj2⟩ := List.mem_iff_getElem.1 hx
    have := h.ed j hj x (by rw [List.getElem?_eq_getElem hj, hj2])
    exact .inr ⟨by omega, by omega, x, hx, h2, h3, h4⟩
theorem Au.Right.run {au : Au} (h : au.Right) : ∀ (l : List Int) (s : Int), 0 ≤ s → runV au.ed s l = followV (stepOf au.ed) s l
  | [], _, _ => rfl
  | e :: r, s, hs => by
    simp only [runV, hs, if_true, followV]
    rw [← h.next]
    rcases h.next_cases s e with h1 | h1
    · rw [if_pos h1, h1]; exact runV_neg _ (by omega) r
    · rw [if_neg (by omega)]; exact h.run r _ h1.1
theorem Au.Right.run_cases {au : Au} (h : au.Right) : ∀ (l : List Int) (s : Int), 0 ≤ s → runV au.ed s l = -1 ∨ 0 ≤ runV au.ed s l
  | [], s, hs => .inr hs
  | e :: r, s, hs => by
    simp only [runV, hs, if_true]
    rcases h.next_cases s e with h1 | h1
    · rw [h1]; exact .inl (runV_neg _ (by omega) r)
    · exact h.run_cases r _ h1.1
/-- A right automaton whose events are events of a list. -/
structure Fits (evs : List Ev) (au : Au) : Prop where
  ha : au.Right
  hev : ∀ x, x ∈ au.al → x < evs.length
theorem Fits.edge {evs : List Ev} {au : Au} (h : Fits evs au) {x : Ed} (hx : x ∈ au.ed) : 0 ≤ x.ev ∧ x.ev < evs.length := by
  obtain ⟨j, hj, rfl⟩ := List.mem_iff_getElem.1 hx
  have h1 := (h.ha.ed j hj _ (List.getElem?_eq_getElem hj)).2.2.2.2.1
  refine ⟨?_, h.hev _ h1⟩
  obtain ⟨t, ht, he⟩ := List.mem_iff_getElem.1 h1
  have := h.ha.al t _ ht (List.getElem?_eq_getElem ht)
  rw [he] at this; exact this.1
theorem Fits.runWithin {evs : List Ev} {au : Au} (h : Fits evs au) : ∀ (l : List Int) (s : Int), 0 ≤ s → 0 ≤ runV au.ed s l → InEvs evs l
  | [], _, _, _, x, hx => by simp at hx
  | e :: r, s, hs, hr, x, hx => by
    simp only [runV, hs, if_true] at hr
    rcases h.ha.next_cases s e with h1 | ⟨h1, _, y, hy, h2, h3, h4⟩
    · rw [h1, runV_neg _ (by omega)] at hr; omega
    · simp only [List.mem_cons] at hx
      rcases hx with rfl | hx
      · rw [← h3]; exact h.edge hy
      · exact h.runWithin r _ h1 hr x hx
/-- The numbers of the observable events among the first k. -/
def obsV (evs : List Ev) (k : Nat) : List Int := ((List.range k).filter fun (i : Nat) => (evAt evs (i : Int)).obs).map fun (i : Nat) => (i : Int)
theorem obsV_succ (evs : List Ev) (k : Nat) : obsV evs (k + 1) = if (evAt evs k).obs = true then obsV evs k ++ [(k : Int)] else obsV evs k := by
  simp only [obsV, List.range_succ, List.filter_append, List.map_append]
  split <;> simp_all
theorem mem_obsV {evs : List Ev} {k : Nat} {x : Int} : x ∈ obsV evs k ↔ 0 ≤ x ∧ x < k ∧ (evAt evs x).obs = true := by
  simp only [obsV, List.mem_map, List.mem_filter, List.mem_range]
  constructor
  · rintro ⟨i, ⟨h1, h2⟩, rfl⟩; exact ⟨by omega, by omega, h2⟩
  · rintro ⟨h0, h1, h2⟩
    obtain ⟨i, rfl⟩ := Int.eq_ofNat_of_zero_le h0
    exact ⟨i, ⟨by omega, h2⟩, rfl⟩
theorem obsV_len (evs : List Ev) (k : Nat) : (obsV evs k).length ≤ k := by
  simp only [obsV, List.length_map]
  exact Nat.le_trans (List.length_filter_le ..) (by simp)
theorem incr_snoc {l : List Int} {x : Int} (h : incr l) (hx : ∀ y, y ∈ l → y < x) : incr (l ++ [x]) := by
  intro i j a b hij ha hb
  have hj := (List.getElem?_eq_some_iff.1 hb).1
  simp at hj
  rw [List.getElem?_append_left (by omega)] at ha
  by_cases e : j < l.length
  · rw [List.getElem?_append_left e] at hb; exact h i j a b hij ha hb
  · rw [List.getElem?_append_right (by omega), show j - l.length = 0 by omega] at hb
    simp at hb; subst hb
    exact hx a (List.mem_of_getElem? ha)
theorem obsV_incr (evs : List Ev) : ∀ k, incr (obsV evs k)
  | 0 => fun i j x y _ hx _ => by simp [obsV] at hx
  | k + 1 => by
    rw [obsV_succ]
    split
    · exact incr_snoc (obsV_incr evs k) fun y hy => (mem_obsV.1 hy).2.1
    · exact obsV_incr evs k
theorem projV_seen {evs : List Ev} {l : List Int} (h : InEvs evs l) : projV (obsV evs evs.length) l = seen evs l := by
  unfold projV seen
  apply List.filter_congr
  intro x hx
  have := h x hx
  rw [Bool.eq_iff_iff]
  simp [mem_obsV, this]
abbrev lsCells (l : Ls) (p : LsP) : List Value := [.slice p.A1 l.fa.length p.c1, .slice p.A2 l.fc.length p.c2, .slice p.A3 l.no.length p.c3, .slice p.A4 l.nc.length p.c4]
/-- What the law says a lasso is. -/
structure IsLassoP (evs : List Ev) (au : Au) (class_ : Int) (l : Ls) : Prop where
  k1 : 1 ≤ class_
  k4 : class_ ≤ 4
  n0 : au.n ≠ 0
  c0 : l.fc ≠ []
  x0 : 0 ≤ runV au.ed 0 l.fa
  y0 : 0 ≤ runV au.ed 0 l.no
  x1 : runV au.ed (runV au.ed 0 l.fa) l.fc = runV au.ed 0 l.fa
  y1 : runV au.ed (runV au.ed 0 l.no) l.nc = runV au.ed 0 l.no
  f1 : faultyP evs class_ l.fa
  f2 : ¬ faultyP evs class_ l.no
  f3 : ¬ faultyP evs class_ l.nc
  s1 : projV (obsV evs evs.length) l.fa = projV (obsV evs evs.length) l.no
  s2 : projV (obsV evs evs.length) l.fc = projV (obsV evs evs.length) l.nc
theorem isLasso_iff {evs : List Ev} {au : Au} {class_ : Int} {l : Ls} (h : Fits evs au) : LassoOk evs au class_ l ↔ IsLassoP evs au class_ l := by
  have e0 : ∀ l, runV au.ed 0 l = followV (stepOf au.ed) 0 l := fun l => h.ha.run l 0 (by omega)
  constructor
  · intro g
    have x0 : 0 ≤ runV au.ed 0 l.fa := by rcases h.ha.run_cases l.fa 0 (by omega) with h1 | h1; · rw [e0] at h1; exact absurd h1 g.x0
                                          exact h1
    have y0 : 0 ≤ runV au.ed 0 l.no := by rcases h.ha.run_cases l.no 0 (by omega) with h1 | h1; · rw [e0] at h1; exact absurd h1 g.y0
                                          exact h1
    have x1 : runV au.ed (runV au.ed 0 l.fa) l.fc = runV au.ed 0 l.fa := by rw [h.ha.run _ _ x0, e0]; exact g.x1
    have y1 : runV au.ed (runV au.ed 0 l.no) l.nc = runV au.ed 0 l.no := by rw [h.ha.run _ _ y0, e0]; exact g.y1
    refine ⟨g.pl.c1, g.pl.c4, g.n0, g.c0, x0, y0, x1, y1, g.f1, g.f2, g.f3, ?_, ?_⟩
    · rw [projV_seen (h.runWithin _ _ (by omega) x0), projV_seen (h.runWithin _ _ (by omega) y0)]; exact g.s1
    · rw [projV_seen (h.runWithin _ _ x0 (by rw [x1]; exact x0)), projV_seen (h.runWithin _ _ y0 (by rw [y1]; exact y0))]; exact g.s2
  · intro g
    have x0 := g.x0
    have y0 := g.y0
    refine ⟨⟨h.ha, g.k1, g.k4, h.hev⟩, g.n0, g.c0, by rw [← e0]; omega, by rw [← e0]; omega, ?_, ?_, g.f1, g.f2, g.f3, ?_, ?_⟩
    · rw [← e0, ← h.ha.run _ _ x0]; exact g.x1
    · rw [← e0, ← h.ha.run _ _ y0]; exact g.y1
    · rw [← projV_seen (h.runWithin _ _ (by omega) x0), ← projV_seen (h.runWithin _ _ (by omega) y0)]; exact g.s1
    · rw [← projV_seen (h.runWithin _ _ x0 (by rw [g.x1]; exact x0)), ← projV_seen (h.runWithin _ _ y0 (by rw [g.y1]; exact y0))]; exact g.s2
end Go.Proofs.Ytkbmenpggiojeaa
