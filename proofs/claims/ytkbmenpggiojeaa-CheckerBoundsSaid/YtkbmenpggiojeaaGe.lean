/-
  Plain: the pairs that are reached, and their ranks.
-/
import Derived.Test.YtkbmenpggiojeaaGd
namespace Go.Proofs.Ytkbmenpggiojeaa
open Go.RowKit
set_option linter.unusedSimpArgs false
set_option linter.unusedVariables false

theorem nextV_in {ed : List Ed} {n : Int} (hed : ∀ y, y ∈ ed → 0 ≤ y.dst ∧ y.dst < n) {s e : Int} (h : 0 ≤ nextV ed s e) : nextV ed s e < n := by
  unfold nextV at *
  cases hf : ed.find? (fun x => decide (x.src = s) && decide (x.ev = e)) with
  | none => rw [hf] at h; simp at h
  | some y =>
    simp only [Option.map_some, Option.getD_some]
    exact (hed y (List.mem_of_find?_eq_some hf)).2
theorem movesV_in {evs : List Ev} {ed : List Ed} {n cl f s : Int} (hed : ∀ y, y ∈ ed → 0 ≤ y.dst ∧ y.dst < n) (hf : 0 ≤ f ∧ f < n) (hs : 0 ≤ s ∧ s < n) {m : Mv} (hm : m ∈ movesV evs ed cl f s ed) : 0 ≤ m.fst ∧ m.fst < n ∧ 0 ≤ m.snd ∧ m.snd < n := by
  obtain ⟨y, hy, hm⟩ := List.mem_flatMap.1 hm
  have h := hed y hy
  simp only [movesE, List.mem_append] at hm
  rcases hm with (hm | hm) | hm
  · unfold mv1 at hm
    split at hm
    · simp at hm; subst hm; exact ⟨h.1, h.2, hs.1, hs.2⟩
    · simp at hm
  · unfold mv2 at hm
    split at hm
    · simp at hm; subst hm; exact ⟨hf.1, hf.2, h.1, h.2⟩
    · simp at hm
  · unfold mv3 at hm
    split at hm
    · rename_i hc
      simp at hm; subst hm; exact ⟨h.1, h.2, hc.2.2, nextV_in hed hc.2.2⟩
    · simp at hm

/-- A move's pair is in the list. -/
def tgt (l : List Pa) (rk : Int) (m : Mv) : Prop := lookV l m.fst m.snd (decide (0 ≤ rk) || m.flt) ≠ -1
theorem tgt.append {l : List Pa} {rk : Int} {m : Mv} (h : tgt l rk m) (x : Pa) : tgt (l ++ [x]) rk m := by
  unfold tgt at *
  rw [lookV_append h]; exact h

structure Grow (evs : List Ev) (ed : List Ed) (n : Int) (k j : Nat) (l : List Pa) : Prop where
  st : l[0]? = some ⟨0, 0, -1⟩
  in_ : ∀ x, x ∈ l → InP n x ∧ (x.rk = -1 ∨ x.rk = 0)
  un : Uni l
  cl : ∀ (i : Nat) (x : Pa), i < k → l[i]? = some x → ∀ m, m ∈ movesV evs ed 1 x.fst x.snd ed → tgt l x.rk m
  cj : ∀ (x : Pa), l[k]? = some x → ∀ (t : Nat) (m : Mv), t < j → (movesV evs ed 1 x.fst x.snd ed)[t]? = some m → tgt l x.rk m
theorem Grow.start {evs : List Ev} {ed : List Ed} {n : Int} (hn : 0 < n) : Grow evs ed n 0 0 [⟨0, 0, -1⟩] :=
  ⟨rfl, fun x hx => by simp at hx; subst hx; exact ⟨⟨by simp, hn, by simp, hn⟩, .inl rfl⟩, fun i x hx => by
    match i, hx with
    | 0, hx => simp at hx; subst hx; rfl
    | i + 1, hx => simp at hx, fun i x h => absurd h (by omega), fun x _ t m h => absurd h (by omega)⟩
theorem Grow.next {evs : List Ev} {ed : List Ed} {n : Int} {k j : Nat} {l : List Pa} (h : Grow evs ed n k j l) {x : Pa} (hx : l[k]? = some x) (hj : (movesV evs ed 1 x.fst x.snd ed).length ≤ j) : Grow evs ed n (k + 1) 0 l :=
  ⟨h.st, h.in_, h.un, fun i y hi hy m hm => by
    by_cases e : i = k
    · subst e; rw [hx] at hy; cases hy
      obtain ⟨t, ht, hm⟩ := List.mem_iff_getElem.1 hm
      exact h.cj x hx t m (by omega) (by rw [List.getElem?_eq_getElem ht, hm])
    · exact h.cl i y (by omega) hy m hm, fun x _ t m h => absurd h (by omega)⟩
theorem Grow.old {evs : List Ev} {ed : List Ed} {n : Int} {k j : Nat} {l : List Pa} (h : Grow evs ed n k j l) {x : Pa} (hx : l[k]? = some x) {m : Mv} (hm : (movesV evs ed 1 x.fst x.snd ed)[j]? = some m) (ht : tgt l x.rk m) : Grow evs ed n k (j + 1) l :=
  ⟨h.st, h.in_, h.un, h.cl, fun y hy t m' htj hm' => by
    rw [hx] at hy; cases hy
    by_cases e : t = j
    · subst e; rw [hm] at hm'; cases hm'; exact ht
    · exact h.cj x hx t m' (by omega) hm'⟩
theorem Grow.push {evs : List Ev} {ed : List Ed} {n : Int} (hed : ∀ y, y ∈ ed → 0 ≤ y.dst ∧ y.dst < n) {k j : Nat} {l : List Pa} (h : Grow evs ed n k j l) {x : Pa} (hx : l[k]? = some x) {m : Mv} (hm : (movesV evs ed 1 x.fst x.snd ed)[j]? = some m) {b : Bool} (hb : b = (decide (0 ≤ x.rk) || m.flt)) (ht : lookV l m.fst m.snd b = -1) {r : Int} (hr : r = if b then 0 else -1) :
    Grow evs ed n k (j + 1) (l ++ [⟨m.fst, m.snd, r⟩]) := by
  have hkl := (List.getElem?_eq_some_iff.1 hx).1
  have hbr : decide (0 ≤ r) = b := by subst hr; cases b <;> simp
  have hin := (h.in_ x (List.mem_of_getElem? hx)).1
  have hmi := movesV_in (evs := evs) (cl := 1) hed ⟨hin.1, hin.2.1⟩ ⟨hin.2.2.1, hin.2.2.2⟩ (List.mem_of_getElem? hm)
  have hget : ∀ i, i < l.length → (l ++ [⟨m.fst, m.snd, r⟩])[i]? = l[i]? := fun i hi => List.getElem?_append_left hi
  have hl0 := (List.getElem?_eq_some_iff.1 h.st).1
  refine ⟨by rw [hget 0 hl0]; exact h.st, fun y hy => ?_, h.un.push (x := ⟨m.fst, m.snd, r⟩) (by simp only [hbr]; exact ht), fun i y hi hy m' hm' => ?_, fun y hy t m' htj hm' => ?_⟩
  · rcases List.mem_append.1 hy with hy | hy
    · exact h.in_ y hy
    · simp at hy; subst hy
      exact ⟨hmi, by subst hr; cases b <;> simp⟩
  · rw [hget i (by omega)] at hy
    exact (h.cl i y hi hy m' hm').append _
  · rw [hget k hkl, hx] at hy; cases hy
    by_cases e : t = j
    · subst e; rw [hm] at hm'; cases hm'
      unfold tgt
      rw [← hb, lookV_new ht (x := ⟨m.fst, m.snd, r⟩) ⟨rfl, rfl, by rw [← hbr]; simp⟩]
      omega
    · exact (h.cj x hx t m' (by omega) hm').append _

/-- Where a fault leads at last: the bound is reached. -/
def Reached (evs : List Ev) (ed : List Ed) (bound : Int) (l : List Pa) : Prop := bound = 0 ∨ ∃ x, x ∈ l ∧ x.rk < 0 ∧ ∃ m, m ∈ movesV evs ed 1 x.fst x.snd ed ∧ m.flt = true ∧ ∃ (k : Nat) (p : Pa), lookV l m.fst m.snd true = k ∧ l[k]? = some p ∧ bound ≤ p.rk + 1
structure Rise (evs : List Ev) (ed : List Ed) (n bound : Int) (l : List Pa) : Prop where
  in_ : ∀ x, x ∈ l → InP n x ∧ -1 ≤ x.rk ∧ x.rk ≤ 60
  un : Uni l
  st : lookV l 0 0 false ≠ -1
  cl : ∀ x, x ∈ l → ∀ m, m ∈ movesV evs ed 1 x.fst x.snd ed → tgt l x.rk m
  b0 : 0 ≤ bound
  b1 : bound ≤ 61
  re : Reached evs ed bound l
theorem Grow.rise {evs : List Ev} {ed : List Ed} {n : Int} {l : List Pa} (h : Grow evs ed n l.length 0 l) : Rise evs ed n 0 l :=
  ⟨fun x hx => by have := h.in_ x hx; exact ⟨this.1, by omega, by omega⟩, h.un, by
    have := (lookV_eq (l := l) (f := 0) (s := 0) (b := false) (k := 0)).2 ⟨⟨0, 0, -1⟩, h.st, ⟨rfl, rfl, by simp⟩, fun j y hj => absurd hj (by omega)⟩
    rw [this]; simp, fun x hx m hm => by
    obtain ⟨i, hi, rfl⟩ := List.mem_iff_getElem.1 hx
    exact h.cl i _ hi (List.getElem?_eq_getElem hi) m hm, by omega, by omega, .inl rfl⟩

theorem keys_set {l : List Pa} {k : Nat} {x y : Pa} (hx : l[k]? = some x) (h : keyP y = keyP x) : (l.set k y).map keyP = l.map keyP := by
  apply List.ext_getElem?
  intro i
  simp only [List.getElem?_map, List.getElem?_set]
  by_cases e : k = i
  · subst e
    rw [hx]
    have := (List.getElem?_eq_some_iff.1 hx).1
    simp [this, h]
  · simp [e]
theorem look_set {l : List Pa} {k : Nat} {f s rk r : Int} (hx : l[k]? = some ⟨f, s, rk⟩) (h0 : 0 ≤ rk) (h1 : 0 ≤ r) (g t : Int) (b : Bool) : lookV (l.set k ⟨f, s, r⟩) g t b = lookV l g t b :=
  lookV_congr (keys_set hx (by simp [keyP, h0, h1])) g t b
theorem get_set {l : List Pa} {k : Nat} {x : Pa} (y : Pa) (hx : l[k]? = some x) (i : Nat) : (l.set k y)[i]? = if i = k then some y else l[i]? := by
  have := (List.getElem?_eq_some_iff.1 hx).1
  rw [List.getElem?_set]
  by_cases e : k = i
  · subst e; simp [this]
  · simp [e, show ¬ i = k from fun h => e h.symm]

theorem Rise.raise {evs : List Ev} {ed : List Ed} {n bound : Int} {l : List Pa} (h : Rise evs ed n bound l) {k : Nat} {f s rk r : Int} (hx : l[k]? = some ⟨f, s, rk⟩) (h0 : 0 ≤ rk) (h1 : rk < r) (h2 : r ≤ 60) : Rise evs ed n bound (l.set k ⟨f, s, r⟩) := by
  have hmx := List.mem_of_getElem? hx
  have hlk := look_set hx h0 (show 0 ≤ r by omega)
  refine ⟨fun x hxm => ?_, fun i x hix => ?_, by rw [hlk]; exact h.st, fun x hxm m hm => ?_, h.b0, h.b1, ?_⟩
  · rcases List.mem_or_eq_of_mem_set hxm with e | e
    · exact h.in_ x e
    · subst e
      have := h.in_ _ hmx
      exact ⟨this.1, by simp only; omega, by simp only; omega⟩
  · rw [hlk]
    rw [get_set _ hx] at hix
    split at hix
    · rename_i e; subst e
      cases hix
      have := h.un _ _ hx
      simp only [h0, show 0 ≤ r by omega] at this ⊢
      exact this
    · exact h.un i x hix
  · unfold tgt
    rw [hlk]
    rcases List.mem_or_eq_of_mem_set hxm with e | e
    · exact h.cl x e m hm
    · subst e
      have := h.cl _ hmx m hm
      unfold tgt at this
      simp only [h0, show 0 ≤ r by omega] at this ⊢
      exact this
  · rcases h.re with e | ⟨x, hxm, hxr, m, hm, hf, k', p, e1, e2, e3⟩
    · exact .inl e
    · right
      have hxs : x ∈ l.set k ⟨f, s, r⟩ := by
        obtain ⟨i, hi, rfl⟩ := List.mem_iff_getElem.1 hxm
        have hik : i ≠ k := by
          rintro rfl
          rw [List.getElem?_eq_getElem hi] at hx
          have e := Option.some.inj hx
          rw [e] at hxr
          simp only at hxr
          omega
        exact List.mem_of_getElem? (i := i) (by rw [get_set _ hx, if_neg hik]; exact List.getElem?_eq_getElem hi)
      refine ⟨x, hxs, hxr, m, hm, hf, ?_⟩
      by_cases e : k' = k
      · subst e
        rw [hx] at e2; cases e2
        exact ⟨k', _, by rw [hlk]; exact e1, by rw [get_set _ hx, if_pos rfl], by simp only at e3 ⊢; omega⟩
      · exact ⟨k', p, by rw [hlk]; exact e1, by rw [get_set _ hx, if_neg e]; exact e2, e3⟩
theorem Rise.bound {evs : List Ev} {ed : List Ed} {n bound : Int} {l : List Pa} (h : Rise evs ed n bound l) {x p : Pa} {m : Mv} {k : Nat} (hx : x ∈ l) (hr : x.rk < 0) (hm : m ∈ movesV evs ed 1 x.fst x.snd ed) (hf : m.flt = true) (hk : lookV l m.fst m.snd true = k) (hp : l[k]? = some p) :
    Rise evs ed n (max bound (p.rk + 1)) l := by
  have := h.in_ p (List.mem_of_getElem? hp)
  have := h.b0
  have := h.b1
  refine ⟨h.in_, h.un, h.st, h.cl, by omega, by omega, ?_⟩
  by_cases e : p.rk + 1 ≤ bound
  · rw [Int.max_eq_left e]; exact h.re
  · rw [Int.max_eq_right (by omega)]
    exact .inr ⟨x, hx, hr, m, hm, hf, k, p, hk, hp, by omega⟩

def slack (l : List Pa) : Nat := (l.map (fun x => (61 - x.rk).toNat)).sum
theorem slack_set : ∀ {l : List Pa} {k : Nat} {f s rk r : Int} (hx : l[k]? = some ⟨f, s, rk⟩) (h1 : rk < r) (h2 : r ≤ 60), slack (l.set k ⟨f, s, r⟩) < slack l
  | [], k, _, _, _, _, hx, _, _ => by simp at hx
  | a :: l, 0, f, s, rk, r, hx, h1, h2 => by
    simp at hx; subst hx
    simp only [slack, List.set_cons_zero, List.map_cons, List.sum_cons]
    omega
  | a :: l, k + 1, f, s, rk, r, hx, h1, h2 => by
    have := slack_set (l := l) (k := k) (by simpa using hx) h1 h2
    simp only [slack, List.set_cons_succ, List.map_cons, List.sum_cons] at this ⊢
    omega

theorem mvOk.mono {l : List Pa} {bound bound' rk : Int} {m : Mv} (h : mvOk l bound rk m) (hb : bound ≤ bound') : mvOk l bound' rk m := by
  obtain ⟨k, p, h1, h2, h3, h4⟩ := h
  exact ⟨k, p, h1, h2, fun a b => by have := h3 a b; omega, h4⟩
/-- What a pass over the pairs has seen to be right. -/
structure Pass (evs : List Ev) (ed : List Ed) (bound : Int) (k j : Nat) (l : List Pa) : Prop where
  cl : ∀ (i : Nat) (x : Pa), i < k → l[i]? = some x → ∀ m, m ∈ movesV evs ed 1 x.fst x.snd ed → mvOk l bound x.rk m
  cj : ∀ (x : Pa), l[k]? = some x → ∀ (t : Nat) (m : Mv), t < j → (movesV evs ed 1 x.fst x.snd ed)[t]? = some m → mvOk l bound x.rk m
theorem Pass.start (evs : List Ev) (ed : List Ed) (bound : Int) (l : List Pa) : Pass evs ed bound 0 0 l := ⟨fun i x h => absurd h (by omega), fun x _ t m h => absurd h (by omega)⟩
theorem Pass.next {evs : List Ev} {ed : List Ed} {bound : Int} {k j : Nat} {l : List Pa} (h : Pass evs ed bound k j l) {x : Pa} (hx : l[k]? = some x) (hj : (movesV evs ed 1 x.fst x.snd ed).length ≤ j) : Pass evs ed bound (k + 1) 0 l :=
  ⟨fun i y hi hy m hm => by
    by_cases e : i = k
    · subst e; rw [hx] at hy; cases hy
      obtain ⟨t, ht, hm⟩ := List.mem_iff_getElem.1 hm
      exact h.cj x hx t m (by omega) (by rw [List.getElem?_eq_getElem ht, hm])
    · exact h.cl i y (by omega) hy m hm, fun x _ t m h => absurd h (by omega)⟩
theorem Pass.add {evs : List Ev} {ed : List Ed} {bound : Int} {k j : Nat} {l : List Pa} (h : Pass evs ed bound k j l) {x : Pa} (hx : l[k]? = some x) {m : Mv} (hm : (movesV evs ed 1 x.fst x.snd ed)[j]? = some m) (ht : mvOk l bound x.rk m) : Pass evs ed bound k (j + 1) l :=
  ⟨h.cl, fun y hy t m' htj hm' => by
    rw [hx] at hy; cases hy
    by_cases e : t = j
    · subst e; rw [hm] at hm'; cases hm'; exact ht
    · exact h.cj x hx t m' (by omega) hm'⟩
theorem Pass.mono {evs : List Ev} {ed : List Ed} {bound bound' : Int} {k j : Nat} {l : List Pa} (h : Pass evs ed bound k j l) (hb : bound ≤ bound') : Pass evs ed bound' k j l :=
  ⟨fun i x hi hx m hm => (h.cl i x hi hx m hm).mono hb, fun x hx t m ht hm => (h.cj x hx t m ht hm).mono hb⟩
theorem Pass.isB {evs : List Ev} {ed : List Ed} {n bound : Int} {l : List Pa} (h : Pass evs ed bound l.length 0 l) (hr : Rise evs ed n bound l) : IsB evs ed n bound l :=
  ⟨hr.st, fun i x hx => by
    have := hr.in_ x (List.mem_of_getElem? hx)
    exact ⟨⟨this.1.1, this.1.2.1, this.1.2.2.1, this.1.2.2.2, this.2.1⟩, hr.un i x hx, h.cl i x (List.getElem?_eq_some_iff.1 hx).1 hx⟩⟩
theorem Rise.least {evs : List Ev} {ed : List Ed} {n bound : Int} {l : List Pa} (hr : Rise evs ed n bound l) (hb : 0 < bound) : ¬ IsB evs ed n (bound - 1) l := by
  intro h
  rcases hr.re with e | ⟨x, hxm, hxr, m, hm, hf, k', p, e1, e2, e3⟩
  · omega
  · obtain ⟨i, hi, rfl⟩ := List.mem_iff_getElem.1 hxm
    have := (h.it i _ (List.getElem?_eq_getElem hi)).mv m hm
    have := (this.use (b := true) (by simp [hf]) e1 e2).1 hxr hf
    omega
end Go.Proofs.Ytkbmenpggiojeaa
