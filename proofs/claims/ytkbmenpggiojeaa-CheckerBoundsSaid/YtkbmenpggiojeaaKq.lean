/-
  The division of numbers into kept and removed ones.
-/
import Derived.Test.YtkbmenpggiojeaaKg
import Derived.Test.YtkbmenpggiojeaaKp
import Derived.Deep.DeepCutAuto
namespace Go.Proofs.Ytkbmenpggiojeaa
open Go.RowKit
set_option linter.unusedSimpArgs false
set_option linter.unusedVariables false

theorem BlkAt.ne_ {w : World} {g g' : Nat} {T T' : TypeId} {cs cs' : List Value} (h : BlkAt w g T cs) (h' : BlkAt w g' T' cs') (hne : T ≠ T') : ¬ g = g' := by
  rintro rfl
  unfold BlkAt at h h'
  rw [h] at h'
  injection h' with h'
  injection h' with _ ht
  exact hne ht

theorem length_le_of {l : List Int} : ∀ {n : Nat}, l.Nodup → (∀ x, x ∈ l → 0 ≤ x ∧ x < n) → l.length ≤ n := by
  intro n
  induction n generalizing l with
  | zero =>
    intro _ h
    cases l with
    | nil => simp
    | cons a l => have := h a (by simp); omega
  | succ n ih =>
    intro hd h
    by_cases hm : (n : Int) ∈ l
    · have h1 := ih (l := l.erase (n : Int)) (hd.erase _) (fun x hx => by
        have h2 := h x (List.mem_of_mem_erase hx)
        have h3 : x ≠ n := fun e => by subst e; exact (List.Nodup.not_mem_erase hd) hx
        omega)
      rw [List.length_erase_of_mem hm] at h1
      omega
    · have h1 := ih hd (fun x hx => by
        have h2 := h x hx
        have h3 : x ≠ n := fun e => hm (e ▸ hx)
        omega)
      omega
theorem covers {l : List Int} {n : Nat} (hd : l.Nodup) (hl : l.length = n) (h : ∀ x, x ∈ l → 0 ≤ x ∧ x < n) {i : Nat} (hi : i < n) : (i : Int) ∈ l := by
  by_cases hm : (i : Int) ∈ l
  · exact hm
  · have := length_le_of (l := (i : Int) :: l) (n := n) (List.nodup_cons.2 ⟨hm, hd⟩) (fun x hx => by
      rcases List.mem_cons.1 hx with rfl | hx
      · omega
      · exact h x hx)
    simp at this; omega
theorem incr.nodup {l : List Int} (h : incr l) : l.Nodup := by
  unfold List.Nodup
  rw [List.pairwise_iff_getElem]
  intro i j hi hj hij he
  have := h i j l[i] l[j] hij (List.getElem?_eq_getElem hi) (List.getElem?_eq_getElem hj)
  omega

def rmOk (n : Int) (kept : List Int) (rms : List Rm) (j : Nat) : Prop := ∀ r, rms[j]? = some r → 0 ≤ r.st ∧ r.st < n ∧ r.st ∉ kept ∧ 1 ≤ r.rank ∧ (∀ r', 0 < j → rms[j-1]? = some r' → r'.st < r.st)
structure DivOk (n : Nat) (kept : List Int) (rms : List Rm) : Prop where
  hk : setOk kept n kept.length
  len : kept.length + rms.length = n
  hr : ∀ j, j < rms.length → rmOk n kept rms j

theorem DivOk.rises {n : Nat} {kept : List Int} {rms : List Rm} (h : DivOk n kept rms) : ∀ (i j : Nat) (x y : Rm), i < j → rms[i]? = some x → rms[j]? = some y → x.st < y.st := by
  intro i j
  induction j with
  | zero => intro x y h; omega
  | succ j ih =>
    intro x y hij hx hy
    have hj : j + 1 < rms.length := (List.getElem?_eq_some_iff.1 hy).1
    have hz : rms[j]? = some rms[j] := List.getElem?_eq_getElem (by omega)
    have h1 := (h.hr (j+1) hj y hy).2.2.2.2 rms[j] (by omega) hz
    by_cases e : i = j
    · subst e; rw [hx] at hz; cases hz; exact h1
    · have := ih x rms[j] (by omega) hx hz; omega
theorem DivOk.all {n : Nat} {kept : List Int} {rms : List Rm} (h : DivOk n kept rms) {i : Nat} (hi : i < n) : (i : Int) ∈ kept ∨ ∃ r, r ∈ rms ∧ r.st = (i : Int) := by
  have hd2 : incr (rms.map (·.st)) := by
    intro i j x y hij hx hy
    simp only [List.getElem?_map, Option.map_eq_some_iff] at hx hy
    obtain ⟨x', hx', rfl⟩ := hx
    obtain ⟨y', hy', rfl⟩ := hy
    exact h.rises i j x' y' hij hx' hy'
  have hr : ∀ r, r ∈ rms → 0 ≤ r.st ∧ r.st < n ∧ r.st ∉ kept := fun r hr => by
    obtain ⟨j, hj, rfl⟩ := List.mem_iff_getElem.1 hr
    have := h.hr j hj _ (List.getElem?_eq_getElem hj)
    exact ⟨this.1, this.2.1, this.2.2.1⟩
  have hk : ∀ x, x ∈ kept → 0 ≤ x ∧ x < n := fun x hx => by
    obtain ⟨j, hj, rfl⟩ := List.mem_iff_getElem.1 hx
    have := h.hk j _ hj (List.getElem?_eq_getElem hj)
    exact ⟨this.1, this.2.1⟩
  have := covers (l := kept ++ rms.map (·.st)) (n := n) (List.nodup_append.2 ⟨h.hk.incr.nodup, hd2.nodup, fun a ha b hb e => by
      obtain ⟨r, hr', rfl⟩ := List.mem_map.1 hb
      subst e
      exact (hr r hr').2.2 ha⟩) (by rw [List.length_append, List.length_map]; exact h.len) (fun x hx => by
      rcases List.mem_append.1 hx with hx | hx
      · exact hk x hx
      · obtain ⟨r, hr', rfl⟩ := List.mem_map.1 hx
        exact ⟨(hr r hr').1, (hr r hr').2.1⟩) hi
  rcases List.mem_append.1 this with h | h
  · exact .inl h
  · obtain ⟨r, hr', e⟩ := List.mem_map.1 h
    exact .inr ⟨r, hr', e⟩

/-- The marks after k kept numbers. -/
structure Marks (n : Nat) (kept : List Int) (k : Nat) (kp : List Bool) (pl : List Int) : Prop where
  lk : kp.length = n
  lp : pl.length = n
  yes : ∀ (j i : Nat), j < k → kept[j]? = some (i : Int) → kp[i]? = some true ∧ pl[i]? = some (j : Int)
  no : ∀ i : Nat, i < n → (∀ j, j < k → kept[j]? ≠ some (i : Int)) → kp[i]? = some false
theorem Marks.start (n : Nat) (kept : List Int) : Marks n kept 0 (List.replicate n false) (List.replicate n 0) :=
  ⟨by simp, by simp, fun j i h => absurd h (by omega), fun i hi _ => by simp [hi]⟩
theorem Marks.step {n : Nat} {kept : List Int} {k : Nat} {kp : List Bool} {pl : List Int} (h : Marks n kept k kp pl) {i : Nat} (hi : kept[k]? = some (i : Int)) (hn : i < n) (hs : incr kept) : Marks n kept (k + 1) (kp.set i true) (pl.set i (k : Int)) := by
  refine ⟨by simpa using h.lk, by simpa using h.lp, fun j t hj ht => ?_, fun t ht hno => ?_⟩
  · by_cases e : j = k
    · subst e
      rw [hi] at ht
      have : t = i := by simp at ht; omega
      subst this
      simp [h.lk, h.lp, hn]
    · have hne : t ≠ i := fun e' => by subst e'; have := hs j k t t (by omega) ht hi; omega
      rw [List.getElem?_set_ne (by omega), List.getElem?_set_ne (by omega)]
      exact h.yes j t (by omega) ht
  · have hne : t ≠ i := fun e' => hno k (by omega) (by rw [e']; exact hi)
    rw [List.getElem?_set_ne (by omega)]
    exact h.no t ht (fun j hj => hno j (by omega))
theorem Marks.iff {n : Nat} {kept : List Int} {kp : List Bool} {pl : List Int} (h : Marks n kept kept.length kp pl) {i : Nat} (hi : i < n) : (kp[i]? = some true ↔ (i : Int) ∈ kept) ∧ (kp[i]? = some false ↔ (i : Int) ∉ kept) := by
  by_cases hm : (i : Int) ∈ kept
  · obtain ⟨j, hj, e⟩ := List.mem_iff_getElem.1 hm
    have := (h.yes j i hj (by rw [List.getElem?_eq_getElem hj, e])).1
    simp [this, hm]
  · have := h.no i hi (fun j hj e => hm (List.mem_of_getElem? e))
    simp [this, hm]
/-- .. and after m removals. -/
structure Places (n : Nat) (kept : List Int) (rms : List Rm) (m : Nat) (kp : List Bool) (pl : List Int) : Prop where
  lk : kp.length = n
  lp : pl.length = n
  yes : ∀ (j i : Nat), kept[j]? = some (i : Int) → pl[i]? = some (j : Int)
  rm : ∀ (j i : Nat) (r : Rm), j < m → rms[j]? = some r → r.st = (i : Int) → pl[i]? = some (j : Int)
theorem Places.start {n : Nat} {kept : List Int} {rms : List Rm} {kp : List Bool} {pl : List Int} (h : Marks n kept kept.length kp pl) : Places n kept rms 0 kp pl :=
  ⟨h.lk, h.lp, fun j i hj => (h.yes j i (List.getElem?_eq_some_iff.1 hj).1 hj).2, fun j i r h => absurd h (by omega)⟩
theorem Places.step {n : Nat} {kept : List Int} {rms : List Rm} {m : Nat} {kp : List Bool} {pl : List Int} (h : Places n kept rms m kp pl) {i : Nat} {r : Rm} (hr : rms[m]? = some r) (hst : r.st = (i : Int)) (hi : i < n) (hk : (i : Int) ∉ kept)
    (hinc : ∀ (j : Nat) (x : Rm), j < m → rms[j]? = some x → x.st < r.st) : Places n kept rms (m + 1) kp (pl.set i (m : Int)) := by
  refine ⟨h.lk, by simpa using h.lp, fun j t hj => ?_, fun j t x hj hx hxt => ?_⟩
  · have hne : t ≠ i := fun e => hk (e ▸ List.mem_of_getElem? hj)
    rw [List.getElem?_set_ne (by omega)]
    exact h.yes j t hj
  · by_cases e : j = m
    · subst e
      rw [hr] at hx; cases hx
      have : t = i := by omega
      subst this
      simp [h.lp, hi]
    · have := hinc j x (by omega) hx
      rw [List.getElem?_set_ne (by omega)]
      exact h.rm j t x (by omega) hx hxt

theorem Sp.of_places {n : Nat} {kept : List Int} {rms : List Rm} {kp : List Bool} {pl : List Int} (hd : DivOk n kept rms) (hm : ∀ i : Nat, i < n → (kp[i]? = some true ↔ (i : Int) ∈ kept) ∧ (kp[i]? = some false ↔ (i : Int) ∉ kept)) (hp : Places n kept rms rms.length kp pl) :
    Sp.Of ⟨kp, pl, rms⟩ n kept ∧ ∀ (i : Nat) r, r ∈ rms → r.st = (i : Int) → kp[i]? = some false := by
  have hr : ∀ (i : Nat) r, r ∈ rms → r.st = (i : Int) → (i : Int) ∉ kept ∧ i < n := fun i r hr e => by
    obtain ⟨j, hj, rfl⟩ := List.mem_iff_getElem.1 hr
    have := hd.hr j hj _ (List.getElem?_eq_getElem hj)
    rw [e] at this
    exact ⟨this.2.2.1, by have := this.2.1; omega⟩
  refine ⟨⟨hp.lk, hp.lp, fun i hi => ?_, hd.hk.incr, hd.rises⟩, fun i r h e => (hm i (hr i r h e).2).2.2 (hr i r h e).1⟩
  rcases hd.all hi with h | ⟨r, h, e⟩
  · obtain ⟨j, hj, e⟩ := List.mem_iff_getElem.1 h
    have hj' : kept[j]? = some (i : Int) := by rw [List.getElem?_eq_getElem hj, e]
    exact .inl ⟨(hm i hi).1.2 h, j, hp.yes j i hj', hj'⟩
  · obtain ⟨j, hj, rfl⟩ := List.mem_iff_getElem.1 h
    exact .inr ⟨(hm i hi).2.2 (hr i _ h e).1, j, rms[j], hp.rm j i _ hj (List.getElem?_eq_getElem hj) e, List.getElem?_eq_getElem hj, e⟩
end Go.Proofs.Ytkbmenpggiojeaa
