/-
  How the arguments of the laws read: numbers, lists of numbers, described plants.
-/
import Derived.Test.YtkbmenpggiojeaaRows
import Derived.Test.YtkbmenpggiojeaaMn
import Derived.WalkKit
import Derived.ProofKit
import Derived.OpenShut
import Derived.ShutString
import Derived.ChangeOld
import Derived.Below
import Derived.Lib.SmallJoins
namespace Go.Proofs.Ytkbmenpggiojeaa
open Go.ChangeShapes Go.WideShapes Go.ChangeAt Go.RowKit
set_option linter.unusedSimpArgs false
set_option linter.unusedVariables false

section
variable {H : Type} {enc : TypeId × Value → H} {w : World} {base : Nat} {spare : Nat → Bool} {held : Bool}

theorem u8_bounds {n : Int} (h : (Lit.int .u8 n).wf = true) : 0 ≤ n ∧ n < 256 := by
  simp [Lit.wf, IntKind.min, IntKind.max, IntKind.signed, IntKind.bits] at h; omega
theorem list5 {α : Type} {cs : List α} (h : cs.length = 5) : ∃ c0 c1 c2 c3 c4, cs = [c0, c1, c2, c3, c4] := by
  match cs, h with
  | [c0, c1, c2, c3, c4], _ => exact ⟨c0, c1, c2, c3, c4, rfl⟩
theorem cut5 {α : Type} {cs : List α} (h : cs.length = 25) : cs = (cs.drop 0).take 5 ++ ((cs.drop 5).take 5 ++ ((cs.drop 10).take 5 ++ ((cs.drop 15).take 5 ++ (cs.drop 20).take 5))) := by
  have e4 : (cs.drop 20).take 5 = cs.drop 20 := List.take_of_length_le (by simp [h])
  have e3 : (cs.drop 15).take 5 ++ cs.drop 20 = cs.drop 15 := by have := List.take_append_drop 5 (cs.drop 15); rwa [List.drop_drop] at this
  have e2 : (cs.drop 10).take 5 ++ cs.drop 15 = cs.drop 10 := by have := List.take_append_drop 5 (cs.drop 10); rwa [List.drop_drop] at this
  have e1 : (cs.drop 5).take 5 ++ cs.drop 10 = cs.drop 5 := by have := List.take_append_drop 5 (cs.drop 5); rwa [List.drop_drop] at this
  rw [e4, e3, e2, e1, List.drop_zero, List.take_append_drop]

theorem b5_of {P : Program} {t e : TypeId} (ht : P.underlying t = some (.array 5 e)) (he : P.underlying e = some (.int .u8)) (hc : P.cellsOf t = 5) (hce : P.cellsOf e = 1) {fuel : Nat} {cs : List Value} {x : DataW H × List MemPlace}
    (h : DataW.trod enc P w base spare held fuel t cs = some x) : ∃ f : B5, f.Ok ∧ cs = f.cells := by
  obtain ⟨xs, m, _, _, hl, hlen, hf⟩ := DataW.trod_array ht h
  obtain ⟨c0, c1, c2, c3, c4, rfl⟩ := list5 (hl.trans hc)
  have g : ∀ i, i < 5 → ∀ c, ([c0, c1, c2, c3, c4].drop i).take 1 = [c] → ∃ n, c = .int .u8 n ∧ 0 ≤ n ∧ n < 256 := fun i hi c hcc => by
    have h1 := hf i hi
    rw [hce, Nat.mul_one, hcc, List.getElem?_eq_getElem (by omega)] at h1
    obtain ⟨n, hn, _, hw⟩ := DataW.trod_int he h1
    cases hn
    exact ⟨n, rfl, u8_bounds hw⟩
  obtain ⟨x0, rfl, b0⟩ := g 0 (by omega) c0 rfl
  obtain ⟨x1, rfl, b1⟩ := g 1 (by omega) c1 rfl
  obtain ⟨x2, rfl, b2⟩ := g 2 (by omega) c2 rfl
  obtain ⟨x3, rfl, b3⟩ := g 3 (by omega) c3 rfl
  obtain ⟨x4, rfl, b4⟩ := g 4 (by omega) c4 rfl
  exact ⟨⟨x0, x1, x2, x3, x4⟩, ⟨fun x hx => by
    simp only [List.mem_cons, List.not_mem_nil, or_false] at hx
    rcases hx with rfl | rfl | rfl | rfl | rfl <;> assumption⟩, rfl⟩

theorem b25_of {P : Program} {t e e' : TypeId} (ht : P.underlying t = some (.array 5 e)) (he : P.underlying e = some (.array 5 e')) (he' : P.underlying e' = some (.int .u8)) (hc : P.cellsOf t = 25) (hce : P.cellsOf e = 5) (hce' : P.cellsOf e' = 1) {fuel : Nat} {cs : List Value} {x : DataW H × List MemPlace}
    (h : DataW.trod enc P w base spare held fuel t cs = some x) : ∃ r0 r1 r2 r3 r4 : B5, r0.Ok ∧ r1.Ok ∧ r2.Ok ∧ r3.Ok ∧ r4.Ok ∧ cs = r0.cells ++ (r1.cells ++ (r2.cells ++ (r3.cells ++ r4.cells))) := by
  obtain ⟨xs, m, _, _, hl, hlen, hf⟩ := DataW.trod_array ht h
  have g : ∀ i, i < 5 → ∃ f : B5, f.Ok ∧ (cs.drop (i * 5)).take 5 = f.cells := fun i hi => by
    have h1 := hf i hi
    rw [hce, List.getElem?_eq_getElem (by omega)] at h1
    exact b5_of he he' hce hce' h1
  obtain ⟨r0, o0, e0⟩ := g 0 (by omega)
  obtain ⟨r1, o1, e1⟩ := g 1 (by omega)
  obtain ⟨r2, o2, e2⟩ := g 2 (by omega)
  obtain ⟨r3, o3, e3⟩ := g 3 (by omega)
  obtain ⟨r4, o4, e4⟩ := g 4 (by omega)
  refine ⟨r0, r1, r2, r3, r4, o0, o1, o2, o3, o4, ?_⟩
  rw [← e0, ← e1, ← e2, ← e3, ← e4]
  exact cut5 (hl.trans hc)

/-- A list of numbers that came in. -/
theorem ints_of {P : Program} {t e : TypeId} (ht : P.underlying t = some (.slice e)) (he : P.underlying e = some (.int .i64)) (hce : P.cellsOf e = 1) {fuel : Nat} {cs : List Value} {x : DataW H × List MemPlace}
    (h : DataW.trod enc P w base spare held fuel t cs = some x) : ∃ (A : Option Addr) (c : Nat) (l : List Int), cs = [.slice A l.length c] ∧ IntsAt w A l ∧ l.length ≤ maxLen := by
  rcases open_ints ht he hce h with ⟨rfl, _⟩ | ⟨a, len, cap, zs, rfl, _, hl, hm, hz, _, hcell, _⟩
  · exact ⟨none, 0, [], rfl, SlAt.nil, by simp⟩
  · have hlz : len ≤ zs.length := by rw [hz]; split <;> omega
    have e1 : (zs.take len).length = len := by simp; omega
    refine ⟨some a, cap, zs.take len, by rw [e1], fun hne => ?_, by omega⟩
    have h0 : 0 < zs.length := by
      cases zs with
      | nil => simp at hne
      | cons a l => simp
    obtain ⟨b, off, spot⟩ := a
    have hc0 := hcell 0 h0
    have hspot : spot = none := by simpa [Addr.add] using World.cell?_spot hc0
    subst hspot
    refine ⟨b, off, rfl, ?_, fun i x hx => ⟨[.int .i64 x], rfl, rfl, fun j v hj => ?_⟩⟩
    · have := World.block_lt_of_cell? w _ hc0
      simpa [Addr.add] using this
    · have hj0 : j = 0 := by
        have := (List.getElem?_eq_some_iff.1 hj).1
        simp at this; exact this
      subst hj0
      simp at hj; subst hj
      rw [List.getElem?_take] at hx
      split at hx
      · have hi := (List.getElem?_eq_some_iff.1 hx).1
        have := hcell i hi
        rw [Addr.add_mid] at this
        rw [Nat.mul_one, Nat.add_zero, this, List.getD_eq_getElem?_getD, hx]; rfl
      · cases hx
end
end Go.Proofs.Ytkbmenpggiojeaa
