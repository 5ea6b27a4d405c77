/-
  Plain: lists of pairs that grow, and whose ranks rise.
-/
import Derived.Test.YtkbmenpggiojeaaGc
namespace Go.Proofs.Ytkbmenpggiojeaa
open Go.RowKit
set_option linter.unusedSimpArgs false
set_option linter.unusedVariables false

theorem lookV_eq {l : List Pa} {f s : Int} {b : Bool} {k : Nat} : lookV l f s b = k ↔ ∃ x, l[k]? = some x ∧ hitP f s b x ∧ ∀ j y, j < k → l[j]? = some y → ¬ hitP f s b y := by
  constructor
  · intro h
    rcases lookV_cases l f s b with ⟨h1, _⟩ | ⟨k', x, h1, h2, h3, h4⟩
    · omega
    · obtain rfl : k' = k := by omega
      exact ⟨x, h2, h3, h4⟩
  · rintro ⟨x, h1, h2, h3⟩
    exact lookV_hit h3 h1 h2
theorem lookV_neg {l : List Pa} {f s : Int} {b : Bool} : lookV l f s b = -1 ↔ ∀ p, p ∈ l → ¬ hitP f s b p := by
  constructor
  · intro h
    rcases lookV_cases l f s b with ⟨_, h1⟩ | ⟨k', x, h1, _⟩
    · exact h1
    · omega
  · intro h
    exact lookV_miss fun j y _ hy => h y (List.mem_of_getElem? hy)
theorem lookV_some {l : List Pa} {f s : Int} {b : Bool} (h : lookV l f s b ≠ -1) : ∃ (k : Nat) (x : Pa), lookV l f s b = k ∧ l[k]? = some x ∧ hitP f s b x := by
  rcases lookV_cases l f s b with ⟨h1, _⟩ | ⟨k', x, h1, h2, h3, _⟩
  · exact absurd h1 h
  · exact ⟨k', x, h1, h2, h3⟩
theorem lookV_append {l : List Pa} {f s : Int} {b : Bool} (h : lookV l f s b ≠ -1) (x : Pa) : lookV (l ++ [x]) f s b = lookV l f s b := by
  obtain ⟨k, y, h1, h2, h3⟩ := lookV_some h
  rw [h1]
  obtain ⟨y', h4, h5, h6⟩ := lookV_eq.1 h1
  have hk := (List.getElem?_eq_some_iff.1 h2).1
  refine lookV_eq.2 ⟨y', by rw [List.getElem?_append_left hk]; exact h4, h5, fun j z hj hz => ?_⟩
  rw [List.getElem?_append_left (by omega)] at hz
  exact h6 j z hj hz
theorem lookV_new {l : List Pa} {f s : Int} {b : Bool} (h : lookV l f s b = -1) {x : Pa} (hx : hitP f s b x) : lookV (l ++ [x]) f s b = l.length := by
  rw [lookV_neg] at h
  refine lookV_eq.2 ⟨x, by simp, hx, fun j z hj hz => ?_⟩
  rw [List.getElem?_append_left hj] at hz
  exact h z (List.mem_of_getElem? hz)
theorem hitP_self (x : Pa) : hitP x.fst x.snd (decide (0 ≤ x.rk)) x := ⟨rfl, rfl, by simp⟩
theorem hitP_key {f s : Int} {b : Bool} {x : Pa} (h : hitP f s b x) : x.fst = f ∧ x.snd = s ∧ decide (0 ≤ x.rk) = b := ⟨h.1, h.2.1, by rw [Bool.eq_iff_iff]; simpa using h.2.2⟩

/-- No pair twice. -/
def Uni (l : List Pa) : Prop := ∀ (i : Nat) (x : Pa), l[i]? = some x → lookV l x.fst x.snd (decide (0 ≤ x.rk)) = i
theorem Uni.push {l : List Pa} (h : Uni l) {x : Pa} (hx : lookV l x.fst x.snd (decide (0 ≤ x.rk)) = -1) : Uni (l ++ [x]) := by
  intro i y hy
  by_cases hi : i < l.length
  · rw [List.getElem?_append_left hi] at hy
    have := h i y hy
    rw [lookV_append (by rw [this]; omega), this]
  · have hi2 : i = l.length := by
      have := (List.getElem?_eq_some_iff.1 hy).1
      simp at this; omega
    subst hi2
    simp at hy; subst hy
    exact lookV_new hx (hitP_self _)

def keyP (x : Pa) : Int × Int × Bool := (x.fst, x.snd, decide (0 ≤ x.rk))
theorem lookV_congr {l l' : List Pa} (h : l.map keyP = l'.map keyP) (f s : Int) (b : Bool) : lookV l f s b = lookV l' f s b := by
  have hl : l.length = l'.length := by have := congrArg List.length h; simpa using this
  have hk : ∀ (j : Nat) (x y : Pa), l[j]? = some x → l'[j]? = some y → (hitP f s b x ↔ hitP f s b y) := by
    intro j x y hx hy
    have := congrArg (fun z => z[j]?) h
    simp only [List.getElem?_map, hx, hy, Option.map_some, Option.some.injEq, keyP, Prod.mk.injEq, decide_eq_decide] at this
    simp only [hitP, this.1, this.2.1, this.2.2]
  rcases lookV_cases l f s b with ⟨h1, h2⟩ | ⟨k, x, h1, h2, h3, h4⟩
  · rw [h1]
    symm
    rw [lookV_neg]
    intro p hp
    obtain ⟨j, hj, rfl⟩ := List.mem_iff_getElem.1 hp
    have e := hk j l[j] l'[j] (List.getElem?_eq_getElem (by omega)) (List.getElem?_eq_getElem hj)
    exact fun hh => h2 _ (List.getElem_mem _) (e.2 hh)
  · rw [h1]
    symm
    have hkl := (List.getElem?_eq_some_iff.1 h2).1
    refine lookV_eq.2 ⟨l'[k], List.getElem?_eq_getElem (by omega), (hk k _ _ h2 (List.getElem?_eq_getElem (by omega))).1 h3, fun j y hj hy => ?_⟩
    exact fun hh => h4 j l[j] hj (List.getElem?_eq_getElem (by omega)) ((hk j _ _ (List.getElem?_eq_getElem (by omega)) hy).2 hh)

/-- A list of numbers below n, none twice, has at most n. -/
theorem nodup_lenN : ∀ (n : Nat) (l : List Nat), l.Nodup → (∀ x, x ∈ l → x < n) → l.length ≤ n
  | 0, l, _, h => by
    cases l with
    | nil => simp
    | cons a r => have := h a (by simp); omega
  | n + 1, l, hn, h => by
    have h1 := nodup_lenN n (l.filter (fun x => decide (x ≠ n))) (hn.filter _) (fun x hx => by
      simp only [List.mem_filter, decide_eq_true_eq] at hx
      have := h x hx.1
      omega)
    have h2 : l.length ≤ (l.filter (fun x => decide (x ≠ n))).length + 1 := by
      clear h1 h
      induction l with
      | nil => simp
      | cons a r ih =>
        rw [List.nodup_cons] at hn
        by_cases e : a = n
        · subst e
          have : r.filter (fun x => decide (x ≠ a)) = r := List.filter_eq_self.2 (fun x hx => by
            simp only [decide_eq_true_eq]
            rintro rfl
            exact hn.1 hx)
          rw [List.filter_cons, this]
          simp
        · rw [List.filter_cons]
          have := ih hn.2
          rw [if_pos (by simpa using e), List.length_cons, List.length_cons]
          omega
    omega

def codeP (x : Pa) : Nat := (x.fst.toNat * 5 + x.snd.toNat) * 2 + (if 0 ≤ x.rk then 1 else 0)
def InP (n : Int) (x : Pa) : Prop := 0 ≤ x.fst ∧ x.fst < n ∧ 0 ≤ x.snd ∧ x.snd < n
theorem Uni.len {l : List Pa} (h : Uni l) {n : Int} (hn : n ≤ 5) (hin : ∀ x, x ∈ l → InP n x) : l.length ≤ 50 := by
  have h1 := nodup_lenN 50 (l.map codeP) ?_ ?_
  · simpa using h1
  · rw [List.nodup_iff_pairwise_ne, List.pairwise_iff_getElem]
    intro i j hi hj hij
    simp only [List.length_map] at hi hj
    simp only [List.getElem_map]
    intro hc
    have e1 := h i l[i] (List.getElem?_eq_getElem hi)
    have e2 := h j l[j] (List.getElem?_eq_getElem hj)
    have a1 := hin _ (List.getElem_mem hi)
    have a2 := hin _ (List.getElem_mem hj)
    generalize l[i] = x at *
    generalize l[j] = y at *
    obtain ⟨f, s, r⟩ := x
    obtain ⟨f', s', r'⟩ := y
    simp only [codeP, InP] at hc a1 a2 e1 e2
    have k1 : f = f' := by split at hc <;> split at hc <;> omega
    have k2 : s = s' := by split at hc <;> split at hc <;> omega
    have k3 : decide (0 ≤ r) = decide (0 ≤ r') := by
      rw [decide_eq_decide]
      by_cases q1 : 0 ≤ r <;> by_cases q2 : 0 ≤ r' <;> simp only [q1, q2, if_true, if_false] at hc ⊢ <;> omega
    rw [k1, k2, k3, e2] at e1
    omega
  · intro x hx
    obtain ⟨p, hp, rfl⟩ := List.mem_map.1 hx
    have a1 := hin _ hp
    simp only [InP] at a1
    unfold codeP
    split <;> omega
end Go.Proofs.Ytkbmenpggiojeaa
