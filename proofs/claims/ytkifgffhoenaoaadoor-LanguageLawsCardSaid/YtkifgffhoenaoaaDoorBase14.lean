/-
  Plain: the union of two rising lists; automata of pairs.
-/
import Derived.Test.YtkifgffhoenaoaaDoorBase08
import Derived.Test.YtkifgffhoenaoaaDoorBase12
import Derived.Test.YtkifgffhoenaoaaDoorBase13
namespace Go.Proofs.YtkifgffhoenaoaaDoor
set_option linter.unusedSimpArgs false
set_option linter.unusedVariables false

/-! The rising union -/
def orF : Bool → Bool → Bool := fun p q => p || q
def unionV (a b : List Int) : List Int := mergeV orF a b
theorem mem_unionV : ∀ (n : Nat) (a b : List Int), a.length + b.length ≤ n → ∀ x, x ∈ unionV a b ↔ x ∈ a ∨ x ∈ b := by
  intro n
  induction n with
  | zero =>
    intro a b h x
    obtain rfl : a = [] := List.length_eq_zero_iff.1 (by omega)
    obtain rfl : b = [] := List.length_eq_zero_iff.1 (by omega)
    simp [unionV, mergeV]
  | succ n ih =>
    intro a b h x
    cases a with
    | nil =>
      cases b with
      | nil => simp [unionV, mergeV]
      | cons y b =>
        have := ih [] b (by simp at h ⊢; omega) x
        unfold unionV at *
        rw [mergeV, if_pos (by decide), List.mem_cons, this]
        simp
    | cons z a =>
      cases b with
      | nil =>
        have := ih a [] (by simp at h ⊢; omega) x
        unfold unionV at *
        rw [mergeV, if_pos (by decide), List.mem_cons, this]
        simp
      | cons y b =>
        have h1 := ih a (y :: b) (by simp at h ⊢; omega) x
        have h2 := ih (z :: a) b (by simp at h ⊢; omega) x
        have h3 := ih a b (by simp at h ⊢; omega) x
        unfold unionV at *
        rw [mergeV]
        split
        · rw [if_pos (by decide), List.mem_cons, h1]
          simp only [List.mem_cons]
          constructor
          · rintro (g | g | g | g) <;> simp [g]
          · rintro ((g | g) | g | g) <;> simp [g]
        · split
          · rw [if_pos (by decide), List.mem_cons, h2]
            simp only [List.mem_cons]
            constructor
            · rintro (g | (g | g) | g) <;> simp [g]
            · rintro ((g | g) | g | g) <;> simp [g]
          · have e : z = y := by omega
            rw [if_pos (by decide), List.mem_cons, h3]
            simp only [List.mem_cons, e]
            constructor
            · rintro (g | g | g) <;> simp [g]
            · rintro ((g | g) | g | g) <;> simp [g]
/-- Rising, told from the head. -/
theorem rises_cons {x : Int} {l : List Int} (h : Rises (fun p q : Int => p < q) l) (hx : ∀ y, y ∈ l → x < y) : Rises (fun p q : Int => p < q) (x :: l) := by
  intro i j u v hij hu hv
  cases i with
  | zero =>
    obtain ⟨j', rfl⟩ : ∃ j', j = j' + 1 := ⟨j - 1, by omega⟩
    simp at hu hv; subst hu
    exact hx v (List.mem_of_getElem? hv)
  | succ i =>
    obtain ⟨j', rfl⟩ : ∃ j', j = j' + 1 := ⟨j - 1, by omega⟩
    exact h i j' u v (by omega) (by simpa using hu) (by simpa using hv)
theorem rises_unionV : ∀ (n : Nat) (a b : List Int), a.length + b.length ≤ n → Rises (fun p q : Int => p < q) a → Rises (fun p q : Int => p < q) b → Rises (fun p q : Int => p < q) (unionV a b) := by
  intro n
  induction n with
  | zero =>
    intro a b h ha hb
    obtain rfl : a = [] := List.length_eq_zero_iff.1 (by omega)
    obtain rfl : b = [] := List.length_eq_zero_iff.1 (by omega)
    unfold unionV; rw [mergeV]; exact ha
  | succ n ih =>
    intro a b h ha hb
    cases a with
    | nil =>
      cases b with
      | nil => unfold unionV; rw [mergeV]; exact ha
      | cons y b =>
        have h1 := ih [] b (by simp at h ⊢; omega) ha hb.tail
        have m := mem_unionV _ [] b (Nat.le_refl _)
        unfold unionV at *
        rw [mergeV, if_pos (by decide)]
        refine rises_cons h1 fun u hu => hb.head u ?_
        simpa using (m u).1 hu
    | cons z a =>
      cases b with
      | nil =>
        have h1 := ih a [] (by simp at h ⊢; omega) ha.tail hb
        have m := mem_unionV _ a [] (Nat.le_refl _)
        unfold unionV at *
        rw [mergeV, if_pos (by decide)]
        refine rises_cons h1 fun u hu => ha.head u ?_
        simpa using (m u).1 hu
      | cons y b =>
        have h1 := ih a (y :: b) (by simp at h ⊢; omega) ha.tail hb
        have h2 := ih (z :: a) b (by simp at h ⊢; omega) ha hb.tail
        have h3 := ih a b (by simp at h ⊢; omega) ha.tail hb.tail
        have m1 := mem_unionV _ a (y :: b) (Nat.le_refl _)
        have m2 := mem_unionV _ (z :: a) b (Nat.le_refl _)
        have m3 := mem_unionV _ a b (Nat.le_refl _)
        unfold unionV at *
        rw [mergeV]
        split
        · rename_i hlt
          rw [if_pos (by decide)]
          refine rises_cons h1 fun u hu => ?_
          rcases (m1 u).1 hu with g | g
          · exact ha.head u g
          · rcases List.mem_cons.1 g with rfl | g
            · exact hlt
            · exact Int.lt_trans hlt (hb.head u g)
        · split
          · rename_i hlt
            rw [if_pos (by decide)]
            refine rises_cons h2 fun u hu => ?_
            rcases (m2 u).1 hu with g | g
            · rcases List.mem_cons.1 g with rfl | g
              · exact hlt
              · exact Int.lt_trans hlt (ha.head u g)
            · exact hb.head u g
          · rw [if_pos (by decide)]
            have e : z = y := by omega
            refine rises_cons h3 fun u hu => ?_
            rcases (m3 u).1 hu with g | g
            · rw [← e]; exact ha.head u g
            · exact hb.head u g
theorem setOk_of {l : List Int} {n : Int} (h : Rises (fun p q : Int => p < q) l) (hr : ∀ x, x ∈ l → 0 ≤ x ∧ x < n) : setOk l n l.length := by
  intro j x hj hx
  have := hr x (List.mem_of_getElem? hx)
  exact ⟨this.1, this.2, fun y h0 hy => h (j - 1) j y x (by omega) hy hx⟩
theorem setOk.rg {l : List Int} {n : Int} (h : setOk l n l.length) {x : Int} (hx : x ∈ l) : 0 ≤ x ∧ x < n := by
  obtain ⟨i, hi, rfl⟩ := List.mem_iff_getElem.1 hx
  have := h i _ hi (List.getElem?_eq_getElem hi)
  exact ⟨this.1, this.2.1⟩
theorem setOk_union {l m : List Int} {n : Int} (h : setOk l n l.length) (k : setOk m n m.length) : setOk (unionV l m) n (unionV l m).length :=
  setOk_of (rises_unionV _ l m (Nat.le_refl _) h.incr k.incr) fun x hx => by
    rcases (mem_unionV _ l m (Nat.le_refl _) x).1 hx with g | g
    · exact h.rg g
    · exact k.rg g

/-! Pairs -/
section
variable {a b : Au} {al : List Int}
/-- Where pairs go: with every event of a list. -/
def outP (a b : Au) (al : List Int) (v : Int × Int) : List (Int × (Int × Int)) := al.map fun e => (e, stp2 a b v e)
theorem outP_ups (h : incr al) (v : Int × Int) : Ups (outP a b al v) := by
  intro p q x y hpq hx hy
  unfold outP at hx hy
  rw [List.getElem?_map, Option.map_eq_some_iff] at hx hy
  obtain ⟨u, hu, rfl⟩ := hx
  obtain ⟨z, hz, rfl⟩ := hy
  exact h p q u z hpq hu hz
theorem outP_len (v : Int × Int) : (outP a b al v).length = al.length := by simp [outP]
theorem outP_get (v : Int × Int) (q : Nat) : (outP a b al v)[q]? = (al[q]?).map fun e => (e, stp2 a b v e) := by simp [outP]
theorem stepS_outP (v : Int × Int) (e : Int) : stepS (outP a b al) v e = if e ∈ al then some (stp2 a b v e) else none := by
  unfold stepS outP
  rw [List.find?_map]
  cases hf : al.find? ((fun x : Int × (Int × Int) => decide (x.1 = e)) ∘ fun e => (e, stp2 a b v e)) with
  | none =>
    rw [List.find?_eq_none] at hf
    rw [if_neg (fun h => by have := hf e h; simp at this)]
    rfl
  | some x =>
    have h1 := List.mem_of_find?_eq_some hf
    have h2 := List.find?_some hf
    simp at h2
    subst h2
    rw [if_pos h1]; rfl
theorem rn_to {a : Au} (ha : a.Right) (w : List Int) (e : Int) : toV (stepOf a.ed) (rn a w) e = rn a (w ++ [e]) := by
  rcases ha.rn_cases w with g | g
  · rw [g, ha.to_neg, rn_app, g, runV_neg _ (by omega)]
  · rw [rn_snoc a w e g.1, ← ha.next]
theorem runS_outP (ha : a.Right) (hb : b.Right) : ∀ w : List Int, runS (outP a b al) (a.st, b.st) w = if ∀ x, x ∈ w → x ∈ al then some (rn a w, rn b w) else none := by
  refine snoc_ind ?_ ?_
  · rw [if_pos (by simp)]; rfl
  · intro w e ih
    rw [runS_snoc, ih]
    by_cases h : ∀ x, x ∈ w → x ∈ al
    · rw [if_pos h, Option.bind_some, stepS_outP]
      by_cases he : e ∈ al
      · rw [if_pos he, if_pos (fun x hx => by rcases List.mem_append.1 hx with g | g; exact h x g; rw [List.mem_singleton.1 g]; exact he)]
        simp only [stp2, rn_to ha, rn_to hb]
      · rw [if_neg he, if_neg (fun g => he (g e (by simp)))]
    · rw [if_neg h, if_neg (fun g => h fun x hx => g x (List.mem_append_left _ hx))]; rfl
def rgP (a b : Au) (v : Int × Int) : Prop := (v.1 = -1 ∨ 0 ≤ v.1 ∧ v.1 < a.n) ∧ (v.2 = -1 ∨ 0 ≤ v.2 ∧ v.2 < b.n)
theorem rgP_step (ha : a.Right) (hb : b.Right) (v : Int × Int) (e : Int) : rgP a b (stp2 a b v e) := ⟨ha.to_cases _ _, hb.to_cases _ _⟩
theorem rgP_start (ha : a.Right) (hb : b.Right) : rgP a b (a.st, b.st) := ⟨ha.rn_cases [], hb.rn_cases []⟩
theorem mem_outP {v t : Int × Int} {e : Int} (h : (e, t) ∈ outP a b al v) : e ∈ al ∧ t = stp2 a b v e := by
  obtain ⟨x, hx, he⟩ := List.mem_map.1 h
  rw [Prod.mk.injEq] at he
  obtain ⟨rfl, rfl⟩ := he
  exact ⟨hx, rfl⟩
theorem congP {κ : Type} {key : Int × Int → κ} (ha : a.Right) (hb : b.Right) (hal : incr al) (hk : ∀ v v', rgP a b v → rgP a b v' → key v = key v' → v = v') : Cong (rgP a b) key (outP a b al) :=
  ⟨fun v _ e t h => by rw [(mem_outP h).2]; exact rgP_step ha hb v e, fun v v' hv hv' h e t ht => ⟨t, by rw [← hk v v' hv hv' h]; exact ht, rfl⟩, fun v _ => outP_ups hal v⟩
/-- The language of the automaton of pairs. -/
theorem Built.pairs {κ : Type} {key : Int × Int → κ} (ha : a.Right) (hb : b.Right) (hal : incr al) (hk : ∀ v v', rgP a b v → rgP a b v' → key v = key v' → v = v') {m : Au} {fs : List (Int × Int)}
    (B : Built key (outP a b al) (a.st, b.st) m fs) (hfs : ∀ v, v ∈ fs → rgP a b v) {P : Int × Int → Prop} (hm : ∀ d : Nat, (d : Int) ∈ m.mr ↔ ∃ v, fs[d]? = some v ∧ P v) (w : List Int) :
    rn m w ∈ m.mr ↔ (∀ x, x ∈ w → x ∈ al) ∧ P (rn a w, rn b w) := by
  have hr := runS_outP (al := al) ha hb w
  rcases B.run (congP ha hb hal hk) (rgP_start ha hb) hfs w with ⟨g1, g2⟩ | ⟨d, u, t, g1, g2, g3, g4, g5⟩
  · rw [g2] at hr
    constructor
    · intro h; have := (B.rt.mem h).1; omega
    · rintro ⟨h, _⟩; rw [if_pos h] at hr; cases hr
  · rw [g3] at hr
    split at hr
    · rename_i hin
      cases hr
      have hu := hfs u (List.mem_of_getElem? g2)
      have e := hk u _ hu g5 g4
      subst e
      rw [g1, hm]
      constructor
      · rintro ⟨v, h1, h2⟩
        rw [g2] at h1; cases h1
        exact ⟨hin, h2⟩
      · rintro ⟨_, h⟩; exact ⟨_, g2, h⟩
    · cases hr
end
end Go.Proofs.YtkifgffhoenaoaaDoor

