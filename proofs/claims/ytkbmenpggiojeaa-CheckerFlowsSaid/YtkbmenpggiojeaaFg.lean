/-
  The plain law of flows.
-/
import Derived.Test.YtkbmenpggiojeaaFe
import Derived.Test.YtkbmenpggiojeaaFd
namespace Go.Proofs.Ytkbmenpggiojeaa
open Go.RowKit
set_option linter.unusedSimpArgs false
set_option linter.unusedVariables false

def sumTo (f : Nat → Int) : Nat → Int
  | 0 => 0
  | n + 1 => sumTo f n + f n
theorem sumTo_congr {f g : Nat → Int} : ∀ (n : Nat), (∀ i, i < n → f i = g i) → sumTo f n = sumTo g n := by
  intro n
  induction n with
  | zero => intro _; rfl
  | succ n ih => intro h; simp only [sumTo]; rw [ih (fun i hi => h i (by omega)), h n (by omega)]
theorem sumTo_upd {f g : Nat → Int} {p : Nat} : ∀ (n : Nat), (∀ i, i < n → i ≠ p → g i = f i) → p < n → sumTo g n = sumTo f n + (g p - f p) := by
  intro n
  induction n with
  | zero => intro _ h; omega
  | succ n ih =>
    intro h hp
    simp only [sumTo]
    by_cases e : p = n
    · subst e
      rw [sumTo_congr p (fun i hi => h i (by omega) (by omega))]; omega
    · rw [ih (fun i hi he => h i (by omega) he) (by omega), h n (by omega) (by omega)]; omega
theorem sumTo_zero : ∀ (n : Nat), sumTo (fun _ => 0) n = 0 := by
  intro n
  induction n with
  | zero => rfl
  | succ n ih => simp only [sumTo, ih]; rfl
theorem sumTo_sub {f g : Nat → Int} : ∀ (n : Nat), sumTo (fun i => f i - g i) n = sumTo f n - sumTo g n := by
  intro n
  induction n with
  | zero => rfl
  | succ n ih => simp only [sumTo, ih]; omega

theorem arcsOk.cons {x : Arc} {r : List Arc} {n : Int} (h : arcsOk (x :: r) n) : (0 ≤ x.pl ∧ x.pl < n) ∧ (1 ≤ x.wt ∧ x.wt ≤ 8) ∧ arcsOk r n ∧ ∀ y, y ∈ r → x.pl < y.pl := by
  have h0 := h 0 (by simp) x rfl
  have hr : arcsOk r n := fun i hi z hz => by
    have := h (i + 1) (by simp; omega) z (by simpa using hz)
    refine ⟨this.1, this.2.1, fun y hy0 hy => this.2.2.1 y (by omega) ?_, this.2.2.2⟩
    have e : i + 1 - 1 = (i - 1) + 1 := by omega
    rw [e]; simpa using hy
  refine ⟨⟨h0.1, h0.2.1⟩, h0.2.2.2, hr, fun y hy => ?_⟩
  obtain ⟨t, ht, rfl⟩ := List.mem_iff_getElem.1 hy
  have key : ∀ (t : Nat) (z : Arc), r[t]? = some z → x.pl < z.pl := by
    intro t
    induction t with
    | zero => intro z hz; exact (h 1 (by have := (List.getElem?_eq_some_iff.1 hz).1; simp; omega) z (by simpa using hz)).2.2.1 x (by omega) (by simp)
    | succ t ih =>
      intro z hz
      have hl := (List.getElem?_eq_some_iff.1 hz).1
      have hy : r[t]? = some r[t] := List.getElem?_eq_getElem (by omega)
      have h1 := ih _ hy
      have h2 := (hr (t + 1) hl z hz).2.2.1 r[t] (by omega) hy
      omega
  exact key t _ (List.getElem?_eq_getElem ht)
theorem wOf_cons (x : Arc) (r : List Arc) (p : Int) : wOf (x :: r) p = if x.pl = p then x.wt else wOf r p := by
  unfold wOf
  by_cases h : x.pl = p <;> simp [List.find?_cons, h]
theorem wOf_none {r : List Arc} {p : Int} (h : ∀ y, y ∈ r → y.pl ≠ p) : wOf r p = 0 := wOf_miss fun j y hj hy => h y (List.mem_of_getElem? hy)
theorem wOf_range {l : List Arc} {n : Int} (h : arcsOk l n) (p : Int) : 0 ≤ wOf l p ∧ wOf l p ≤ 8 := by
  induction l with
  | nil => simp [wOf]
  | cons x r ih =>
    obtain ⟨_, hw, hr, _⟩ := h.cons
    rw [wOf_cons]
    split
    · omega
    · exact ih hr
theorem sumV_eq (ws : List Int) (n : Nat) : ∀ (l : List Arc), arcsOk l n → sumV ws l = sumTo (fun i => ws.getD i 0 * wOf l i) n := by
  intro l
  induction l with
  | nil => intro _; simp only [sumV, wOf, List.find?_nil, Option.map_none, Option.getD_none, Int.mul_zero, sumTo_zero]
  | cons x r ih =>
    intro h
    obtain ⟨⟨p0, p1⟩, hw, hr, hlt⟩ := h.cons
    obtain ⟨p, hp⟩ := Int.eq_ofNat_of_zero_le p0
    rw [sumV, ih hr, sumTo_upd (f := fun i => ws.getD i 0 * wOf r i) (g := fun i => ws.getD i 0 * wOf (x :: r) i) (p := p) n (fun i _ hi => by
      rw [wOf_cons, if_neg (by omega)]) (by omega)]
    rw [wOf_cons, if_pos hp, wOf_none (r := r) (p := (p : Int)) (fun y hy => by have := hlt y hy; omega), hp, Int.toNat_natCast]
    omega

def sumTr : List Int → List Tr → Nat → Int
  | c :: cs, t :: ts, i => c * (wOf t.outs i - wOf t.ins i) + sumTr cs ts i
  | _, _, _ => 0
theorem sumTr_step (i : Nat) (cs : List Int) (ts : List Tr) : ∀ (k : Nat) (c : Int) (t : Tr), cs[k]? = some c → ts[k]? = some t → sumTr (cs.take (k + 1)) (ts.take (k + 1)) i = sumTr (cs.take k) (ts.take k) i + c * (wOf t.outs i - wOf t.ins i) := by
  intro k
  induction k generalizing cs ts with
  | zero =>
    intro c t hc ht
    cases cs <;> cases ts <;> simp_all [sumTr]
  | succ k ih =>
    intro c t hc ht
    cases cs with
    | nil => simp at hc
    | cons c0 cs =>
      cases ts with
      | nil => simp at ht
      | cons t0 ts =>
        have := ih cs ts c t (by simpa using hc) (by simpa using ht)
        simp only [List.take_succ_cons, sumTr, this]; omega
theorem addArcs_get (c : Int) (n : Nat) : ∀ (l : List Arc) (ch : List Int), arcsOk l n → ch.length = n → (addArcs c l ch).length = n ∧ ∀ i, i < n → (addArcs c l ch).getD i 0 = ch.getD i 0 + c * wOf l i := by
  intro l
  induction l with
  | nil => intro ch _ hl; exact ⟨hl, fun i _ => by simp [addArcs, wOf]⟩
  | cons x r ih =>
    intro ch h hl
    obtain ⟨⟨p0, p1⟩, hw, hr, hlt⟩ := h.cons
    obtain ⟨p, hp⟩ := Int.eq_ofNat_of_zero_le p0
    obtain ⟨g1, g2⟩ := ih (ch.set x.pl.toNat (ch.getD x.pl.toNat 0 + c * x.wt)) hr (by rw [List.length_set]; exact hl)
    refine ⟨g1, fun i hi => ?_⟩
    have := g2 i hi
    show (addArcs c r (ch.set x.pl.toNat (ch.getD x.pl.toNat 0 + c * x.wt))).getD i 0 = _
    rw [this, wOf_cons, hp, Int.toNat_natCast]
    by_cases e : p = i
    · subst e
      rw [if_pos rfl, wOf_none (r := r) (p := (p : Int)) (fun y hy => by have := hlt y hy; omega), List.getD_eq_getElem?_getD, List.getElem?_set_self (by omega)]
      simp
    · rw [if_neg (by omega), List.getD_eq_getElem?_getD, List.getElem?_set_ne e, ← List.getD_eq_getElem?_getD]
theorem addTrs_get (n : Nat) : ∀ (cs : List Int) (ts : List Tr) (ch : List Int), (∀ t, t ∈ ts → arcsOk t.ins n ∧ arcsOk t.outs n) → ch.length = n → (addTrs cs ts ch).length = n ∧ ∀ i, i < n → (addTrs cs ts ch).getD i 0 = ch.getD i 0 + sumTr cs ts i := by
  intro cs
  induction cs with
  | nil => intro ts ch _ hl; exact ⟨by cases ts <;> exact hl, fun i _ => by cases ts <;> simp [addTrs, sumTr]⟩
  | cons c cs ih =>
    intro ts ch ht hl
    cases ts with
    | nil => exact ⟨hl, fun i _ => by simp [addTrs, sumTr]⟩
    | cons t ts =>
      obtain ⟨h1, h2⟩ := ht t (by simp)
      obtain ⟨a1, a2⟩ := addArcs_get (-c) n t.ins ch h1 hl
      obtain ⟨b1, b2⟩ := addArcs_get c n t.outs _ h2 a1
      obtain ⟨d1, d2⟩ := ih ts (addTr c t ch) (fun t ht' => ht t (by simp [ht'])) b1
      refine ⟨d1, fun i hi => ?_⟩
      simp only [addTrs, sumTr]
      rw [d2 i hi]
      show (addArcs c t.outs (addArcs (-c) t.ins ch)).getD i 0 + _ = _
      rw [b2 i hi, a2 i hi, Int.mul_sub, Int.neg_mul]; omega

/-- The law's sum of a transition. -/
def sumP (ws : List Int) (t : Tr) (k : Nat) : Int := sumTo (fun i => ws.getD i 0 * (wOf t.outs i - wOf t.ins i)) k
theorem place_iff {init : List Int} {trs : List Tr} {ws : List Int} (hn : NetOk init trs) : PlaceOk init trs ws ↔ WtOk ws init.length ∧ ∀ t, t ∈ trs → sumP ws t init.length = 0 := by
  have key : ∀ t, t ∈ trs → (sumP ws t init.length = 0 ↔ sumV ws t.ins = sumV ws t.outs) := fun t ht => by
    obtain ⟨_, _, h1, h2⟩ := hn.t t ht
    rw [sumV_eq ws _ _ h1, sumV_eq ws _ _ h2]
    unfold sumP
    rw [sumTo_congr (g := fun i => ws.getD i 0 * wOf t.outs i - ws.getD i 0 * wOf t.ins i) _ (fun i _ => Int.mul_sub ..), sumTo_sub]
    omega
  exact ⟨fun h => ⟨h.w, fun t ht => (key t ht).2 (h.s t ht)⟩, fun h => ⟨hn, h.1, fun t ht => (key t ht).1 (h.2 t ht)⟩⟩
theorem trans_iff {init : List Int} {trs : List Tr} {cs : List Int} (hn : NetOk init trs) : TransOk init trs cs ↔ WtOk cs trs.length ∧ ∀ i, i < init.length → sumTr cs trs i = 0 := by
  obtain ⟨g1, g2⟩ := addTrs_get init.length cs trs (List.replicate init.length 0) (fun t ht => (hn.t t ht).2.2) (by simp)
  have g3 : ∀ i, i < init.length → (addTrs cs trs (List.replicate init.length 0))[i]? = some (sumTr cs trs i) := fun i hi => by
    have := g2 i hi
    rw [List.getD_eq_getElem?_getD, List.getElem?_eq_getElem (by omega)] at this
    rw [List.getElem?_eq_getElem (by omega)]
    simp [List.getD_eq_getElem?_getD, List.getElem?_replicate, hi] at this
    rw [this]
  constructor
  · exact fun h => ⟨h.w, fun i hi => h.s _ (List.mem_of_getElem? (g3 i hi))⟩
  · refine fun h => ⟨hn, h.1, fun x hx => ?_⟩
    obtain ⟨i, hi, rfl⟩ := List.mem_iff_getElem.1 hx
    have := g3 i (by omega)
    rw [List.getElem?_eq_getElem hi] at this
    have e := h.2 i (by omega)
    simp only [Option.some.injEq] at this
    rw [this, e]
theorem mul_bound2 {a d : Int} (h0 : 0 ≤ a) (h1 : a ≤ 65536) (h2 : -8 ≤ d) (h3 : d ≤ 8) : -524288 ≤ a * d ∧ a * d ≤ 524288 := by
  have e1 : a * d ≤ a * 8 := Int.mul_le_mul_of_nonneg_left h3 h0
  have e2 : a * (-8) ≤ a * d := Int.mul_le_mul_of_nonneg_left h2 h0
  omega
end Go.Proofs.Ytkbmenpggiojeaa
