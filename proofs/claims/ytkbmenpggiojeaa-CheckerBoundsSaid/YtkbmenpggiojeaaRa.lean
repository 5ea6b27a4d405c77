/-
  How arguments read: structs by their fields, slices by their elements, whatever these are.
-/
import Derived.Test.YtkbmenpggiojeaaKa
import Derived.WalkKit
import Derived.ProofKit
import Derived.OpenShut
import Derived.ShutString
import Derived.ChangeOld
import Derived.Below
import Derived.Lib.SmallJoins
import Derived.Deep.MidRow
namespace Go.Proofs.Ytkbmenpggiojeaa
open Go.ChangeShapes Go.WideShapes Go.ChangeAt Go.RowKit
set_option linter.unusedSimpArgs false
set_option linter.unusedVariables false

section
variable {H : Type} {enc : TypeId × Value → H} {P : Program} {w : World} {base : Nat} {spare : Nat → Bool} {held : Bool}

/-- The fields lie one behind another from n on, up to m. -/
def consec (P : Program) : List Field → Nat → Nat → Bool
  | [], n, m => n == m
  | f :: r, n, m => f.offset == n && consec P r (n + P.cellsOf f.type) m
theorem consec_cut {P : Program} : ∀ (fs : List Field) (n m : Nat) (cs : List Value), consec P fs n m = true → cs.length = m →
    n ≤ m ∧ cs.drop n = (fs.map fun f => (cs.drop f.offset).take (P.cellsOf f.type)).flatten ∧ ∀ f, f ∈ fs → ((cs.drop f.offset).take (P.cellsOf f.type)).length = P.cellsOf f.type := by
  intro fs
  induction fs with
  | nil =>
    intro n m cs h hl
    have : n = m := by simpa [consec] using h
    subst this
    exact ⟨Nat.le_refl _, by simp [hl], fun f hf => by cases hf⟩
  | cons f r ih =>
    intro n m cs h hl
    simp only [consec, Bool.and_eq_true, beq_iff_eq] at h
    obtain ⟨h1, h2⟩ := h
    obtain ⟨g1, g2, g3⟩ := ih _ _ cs h2 hl
    refine ⟨by omega, ?_, fun x hx => ?_⟩
    · simp only [List.map_cons, List.flatten_cons]
      rw [← g2, h1, ← List.drop_drop, List.take_append_drop]
    · rcases List.mem_cons.1 hx with rfl | hx
      · rw [List.length_take, List.length_drop]; omega
      · exact g3 x hx

/-- A struct's cells, field by field. -/
theorem st_of {t : TypeId} {fs : List Field} (ht : P.underlying t = some (.struct fs.toArray)) (hc : consec P fs 0 (P.cellsOf t) = true) {fuel : Nat} {cs : List Value} {x : DataW H × List MemPlace}
    (h : DataW.trod enc P w base spare held fuel t cs = some x) :
    ∃ css : List (List Value), cs = css.flatten ∧ css.length = fs.length ∧ ∀ (i : Nat) (f : Field), fs[i]? = some f → ∃ (c : List Value) (y : DataW H × List MemPlace) (n : Nat), css[i]? = some c ∧ c.length = P.cellsOf f.type ∧ DataW.trod enc P w base spare held n f.type c = some y := by
  obtain ⟨xs, n, _, _, hl, hlen, hf⟩ := DataW.trod_struct ht h
  obtain ⟨_, g2, g3⟩ := consec_cut fs 0 _ cs hc hl
  refine ⟨fs.map fun f => (cs.drop f.offset).take (P.cellsOf f.type), by simpa using g2, by simp, fun i f hfi => ?_⟩
  have h1 := hf i f (by simpa using hfi)
  have hi : i < fs.length := (List.getElem?_eq_some_iff.1 hfi).1
  rw [List.getElem?_eq_getElem (by simp at hlen; omega)] at h1
  exact ⟨_, _, n, by rw [List.getElem?_map, hfi]; rfl, g3 f (List.mem_of_getElem? hfi), h1⟩
theorem st2_of {t : TypeId} {f0 f1 : Field} (ht : P.underlying t = some (.struct #[f0, f1])) (hc : consec P [f0, f1] 0 (P.cellsOf t) = true) {fuel : Nat} {cs : List Value} {x : DataW H × List MemPlace}
    (h : DataW.trod enc P w base spare held fuel t cs = some x) :
    ∃ (c0 c1 : List Value) (y0 y1 : DataW H × List MemPlace) (n0 n1 : Nat), cs = c0 ++ c1 ∧ DataW.trod enc P w base spare held n0 f0.type c0 = some y0 ∧ DataW.trod enc P w base spare held n1 f1.type c1 = some y1 := by
  obtain ⟨css, rfl, hl, hf⟩ := st_of (fs := [f0, f1]) ht hc h
  match css, hl with
  | [c0, c1], _ =>
    obtain ⟨_, y0, n0, e0, _, t0⟩ := hf 0 f0 rfl
    obtain ⟨_, y1, n1, e1, _, t1⟩ := hf 1 f1 rfl
    cases e0; cases e1
    exact ⟨c0, c1, y0, y1, n0, n1, by simp, t0, t1⟩
theorem st3_of {t : TypeId} {f0 f1 f2 : Field} (ht : P.underlying t = some (.struct #[f0, f1, f2])) (hc : consec P [f0, f1, f2] 0 (P.cellsOf t) = true) {fuel : Nat} {cs : List Value} {x : DataW H × List MemPlace}
    (h : DataW.trod enc P w base spare held fuel t cs = some x) :
    ∃ (c0 c1 c2 : List Value) (y0 y1 y2 : DataW H × List MemPlace) (n0 n1 n2 : Nat), cs = c0 ++ (c1 ++ c2) ∧ DataW.trod enc P w base spare held n0 f0.type c0 = some y0 ∧ DataW.trod enc P w base spare held n1 f1.type c1 = some y1 ∧ DataW.trod enc P w base spare held n2 f2.type c2 = some y2 := by
  obtain ⟨css, rfl, hl, hf⟩ := st_of (fs := [f0, f1, f2]) ht hc h
  match css, hl with
  | [c0, c1, c2], _ =>
    obtain ⟨_, y0, n0, e0, _, t0⟩ := hf 0 f0 rfl
    obtain ⟨_, y1, n1, e1, _, t1⟩ := hf 1 f1 rfl
    obtain ⟨_, y2, n2, e2, _, t2⟩ := hf 2 f2 rfl
    cases e0; cases e1; cases e2
    exact ⟨c0, c1, c2, y0, y1, y2, n0, n1, n2, by simp, t0, t1, t2⟩
theorem st4_of {t : TypeId} {f0 f1 f2 f3 : Field} (ht : P.underlying t = some (.struct #[f0, f1, f2, f3])) (hc : consec P [f0, f1, f2, f3] 0 (P.cellsOf t) = true) {fuel : Nat} {cs : List Value} {x : DataW H × List MemPlace}
    (h : DataW.trod enc P w base spare held fuel t cs = some x) :
    ∃ (c0 c1 c2 c3 : List Value) (y0 y1 y2 y3 : DataW H × List MemPlace) (n0 n1 n2 n3 : Nat), cs = c0 ++ (c1 ++ (c2 ++ c3)) ∧ DataW.trod enc P w base spare held n0 f0.type c0 = some y0 ∧ DataW.trod enc P w base spare held n1 f1.type c1 = some y1 ∧ DataW.trod enc P w base spare held n2 f2.type c2 = some y2 ∧ DataW.trod enc P w base spare held n3 f3.type c3 = some y3 := by
  obtain ⟨css, rfl, hl, hf⟩ := st_of (fs := [f0, f1, f2, f3]) ht hc h
  match css, hl with
  | [c0, c1, c2, c3], _ =>
    obtain ⟨_, y0, n0, e0, _, t0⟩ := hf 0 f0 rfl
    obtain ⟨_, y1, n1, e1, _, t1⟩ := hf 1 f1 rfl
    obtain ⟨_, y2, n2, e2, _, t2⟩ := hf 2 f2 rfl
    obtain ⟨_, y3, n3, e3, _, t3⟩ := hf 3 f3 rfl
    cases e0; cases e1; cases e2; cases e3
    exact ⟨c0, c1, c2, c3, y0, y1, y2, y3, n0, n1, n2, n3, by simp, t0, t1, t2, t3⟩

/-- A slice, element by element. -/
theorem sl_of {α : Type} {E : Reading α} {k : Nat} {t e : TypeId} (ht : P.underlying t = some (.slice e)) (hce : P.cellsOf e = k) (hk : 0 < k)
    (hel : ∀ (n : Nat) (cs : List Value) (x : DataW H × List MemPlace), DataW.trod enc P w base spare held n e cs = some x → ∃ y : α, E w y cs) {fuel : Nat} {cs : List Value} {x : DataW H × List MemPlace}
    (h : DataW.trod enc P w base spare held fuel t cs = some x) : ∃ (A : Option Addr) (c : Nat) (l : List α), cs = [.slice A l.length c] ∧ SlAt E k w A l ∧ l.length ≤ c ∧ c ≤ maxLen := by
  rcases DataW.trod_slice ht h with ⟨rfl, _⟩ | ⟨a, len, cap, elems, rest, n, _, rfl, _, _, hl, hm, hlen, hi, _, _⟩
  · exact ⟨none, 0, [], rfl, SlAt.nil, by simp, by simp⟩
  · rw [hce] at hi
    have hx : ∀ i, i < len → ∃ y : α, ∃ vs : List Value, vs.length = k ∧ E w y vs ∧ ∀ j v, vs[j]? = some v → w.cell? ((a.add (i * k)).add j) = some v := fun i hil => by
      have h1 := hi i hil
      rw [List.getElem?_eq_getElem (by omega)] at h1
      obtain ⟨cs', hc, hd⟩ := Option.bind_eq_some_iff.1 h1
      obtain ⟨_, hcl, hat⟩ := World.cells?_some hc
      obtain ⟨y, hy⟩ := hel n cs' _ hd
      refine ⟨y, cs', hcl, hy, fun j v hj => ?_⟩
      have hjk : j < k := by have := (List.getElem?_eq_some_iff.1 hj).1; omega
      rw [hat j hjk, hj]
    let f : Fin len → α := fun i => Classical.choose (hx i.1 i.2)
    have hf : ∀ i : Fin len, ∃ vs : List Value, vs.length = k ∧ E w (f i) vs ∧ ∀ j v, vs[j]? = some v → w.cell? ((a.add (i.1 * k)).add j) = some v := fun i => Classical.choose_spec (hx i.1 i.2)
    refine ⟨some a, cap, List.ofFn f, by simp, fun hne => ?_, by simpa using hl, hm⟩
    have h0 : 0 < len := by
      rcases Nat.eq_zero_or_pos len with e | e
      · subst e; simp at hne
      · exact e
    obtain ⟨vs, hvl, _, hv⟩ := hf ⟨0, h0⟩
    obtain ⟨u, hu⟩ : ∃ u, vs[0]? = some u := ⟨_, List.getElem?_eq_getElem (by omega)⟩
    obtain ⟨b, off, spot⟩ := a
    have hc0 := hv 0 u hu
    have hspot : spot = none := by simpa [Addr.add] using World.cell?_spot hc0
    subst hspot
    refine ⟨b, off, rfl, ?_, fun i x hxx => ?_⟩
    · have := World.block_lt_of_cell? w _ hc0
      simpa [Addr.add] using this
    · obtain ⟨hil, rfl⟩ := List.getElem?_eq_some_iff.1 hxx
      have hil' : i < len := by simpa using hil
      obtain ⟨vs, g1, g2, g3⟩ := hf ⟨i, hil'⟩
      refine ⟨vs, g1, by simpa using g2, fun j v hj => ?_⟩
      have := g3 j v hj
      simpa [Addr.add_mid, Nat.add_assoc] using this
theorem int_of {t : TypeId} (he : P.underlying t = some (.int .i64)) {fuel : Nat} {cs : List Value} {x : DataW H × List MemPlace} (h : DataW.trod enc P w base spare held fuel t cs = some x) : ∃ n : Int, cs = [.int .i64 n] := by
  obtain ⟨n, hn, _, _⟩ := DataW.trod_int he h
  exact ⟨n, hn⟩
theorem i64s_of {t e : TypeId} (ht : P.underlying t = some (.slice e)) (he : P.underlying e = some (.int .i64)) (hce : P.cellsOf e = 1) {fuel : Nat} {cs : List Value} {x : DataW H × List MemPlace}
    (h : DataW.trod enc P w base spare held fuel t cs = some x) : ∃ (A : Option Addr) (c : Nat) (l : List Int), cs = [.slice A l.length c] ∧ IntsAt w A l ∧ l.length ≤ c ∧ c ≤ maxLen :=
  sl_of (E := IntE) ht hce (by decide) (fun n cs x h => int_of he h) h
end
end Go.Proofs.Ytkbmenpggiojeaa
