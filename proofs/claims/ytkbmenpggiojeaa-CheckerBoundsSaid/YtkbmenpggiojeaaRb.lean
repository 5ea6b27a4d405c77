/-
  How automata, edges, problems and certificates read.
-/
import Derived.Test.YtkbmenpggiojeaaRows
import Derived.Test.YtkbmenpggiojeaaRa
import Derived.Test.YtkbmenpggiojeaaKt
namespace Go.Proofs.Ytkbmenpggiojeaa
open Go.ChangeShapes Go.WideShapes Go.ChangeAt Go.RowKit
set_option linter.unusedSimpArgs false
set_option linter.unusedVariables false
set_option maxRecDepth 100000

theorem own_ : ownKnob Try.prog.godebug = none := by kernel_rfl
theorem laidOut_ : laidOutB Try.prog = true := by kernel_rfl
section
variable {H : Type} {enc : TypeId × Value → H} {w : World} {base : Nat} {spare : Nat → Bool} {held : Bool}
theorem ints_of_ {fuel : Nat} {cs : List Value} {x : DataW H × List MemPlace} (h : DataW.trod enc Try.prog w base spare held fuel 36 cs = some x) : ∃ (A : Option Addr) (c : Nat) (l : List Int), cs = [.slice A l.length c] ∧ IntsAt w A l ∧ l.length ≤ c ∧ c ≤ maxLen :=
  i64s_of Try.underlying36 Try.underlying3 (by kernel_rfl) h
theorem ed_of {fuel : Nat} {cs : List Value} {x : DataW H × List MemPlace} (h : DataW.trod enc Try.prog w base spare held fuel 73 cs = some x) : ∃ y : Ed, EdE w y cs := by
  obtain ⟨c0, c1, c2, _, _, _, _, _, _, rfl, h0, h1, h2⟩ := st3_of Try.underlying73 (by kernel_rfl) h
  obtain ⟨a, rfl⟩ := int_of Try.underlying3 h0
  obtain ⟨b, rfl⟩ := int_of Try.underlying3 h1
  obtain ⟨c, rfl⟩ := int_of Try.underlying3 h2
  exact ⟨⟨a, b, c⟩, rfl⟩
theorem eds_of {fuel : Nat} {cs : List Value} {x : DataW H × List MemPlace} (h : DataW.trod enc Try.prog w base spare held fuel 37 cs = some x) : ∃ (A : Option Addr) (c : Nat) (l : List Ed), cs = [.slice A l.length c] ∧ EdsAt w A l ∧ l.length ≤ c ∧ c ≤ maxLen :=
  sl_of (E := EdE) Try.underlying37 (by kernel_rfl) (by decide) (fun n cs x h => ed_of h) h
theorem rm_of {fuel : Nat} {cs : List Value} {x : DataW H × List MemPlace} (h : DataW.trod enc Try.prog w base spare held fuel 83 cs = some x) : ∃ y : Rm, RmE w y cs := by
  obtain ⟨c0, c1, c2, c3, _, _, _, _, _, _, _, _, rfl, h0, h1, h2, h3⟩ := st4_of Try.underlying83 (by kernel_rfl) h
  obtain ⟨a, rfl⟩ := int_of Try.underlying3 h0
  obtain ⟨b, rfl⟩ := int_of Try.underlying3 h1
  obtain ⟨c, rfl⟩ := int_of Try.underlying3 h2
  obtain ⟨d, rfl⟩ := int_of Try.underlying3 h3
  exact ⟨⟨a, b, c, d⟩, rfl⟩
theorem rms_of {fuel : Nat} {cs : List Value} {x : DataW H × List MemPlace} (h : DataW.trod enc Try.prog w base spare held fuel 79 cs = some x) : ∃ (A : Option Addr) (c : Nat) (l : List Rm), cs = [.slice A l.length c] ∧ RmsAt w A l ∧ l.length ≤ c ∧ c ≤ maxLen :=
  sl_of (E := RmE) Try.underlying79 (by kernel_rfl) (by decide) (fun n cs x h => rm_of h) h
/-- An automaton that came in. -/
structure AuIn (w : World) (a : Au) (p : AuP) : Prop where
  h1 : IntsAt w p.A1 a.al
  h2 : IntsAt w p.A2 a.mr
  h3 : EdsAt w p.A3 a.ed
  l1 : a.al.length ≤ p.c1
  l2 : a.mr.length ≤ p.c2
  l3 : a.ed.length ≤ p.c3
  m1 : p.c1 ≤ maxLen
  m2 : p.c2 ≤ maxLen
  m3 : p.c3 ≤ maxLen
theorem au_of {fuel : Nat} {cs : List Value} {x : DataW H × List MemPlace} (h : DataW.trod enc Try.prog w base spare held fuel 39 cs = some x) :
    ∃ (a : Au) (p : AuP), cs = [.slice p.A1 a.al.length p.c1, .int .i64 a.n, .slice p.A2 a.mr.length p.c2, .slice p.A3 a.ed.length p.c3] ∧ AuIn w a p := by
  obtain ⟨c0, c1, c2, c3, _, _, _, _, _, _, _, _, rfl, h0, h1, h2, h3⟩ := st4_of Try.underlying39 (by kernel_rfl) h
  obtain ⟨A1, d1, l1, rfl, i1, m1, k1⟩ := ints_of_ h0
  obtain ⟨n, rfl⟩ := int_of Try.underlying3 h1
  obtain ⟨A2, d2, l2, rfl, i2, m2, k2⟩ := ints_of_ h2
  obtain ⟨A3, d3, l3, rfl, i3, m3, k3⟩ := eds_of h3
  exact ⟨⟨l1, n, l2, l3⟩, ⟨A1, d1, A2, d2, A3, d3⟩, rfl, i1, i2, i3, m1, m2, m3, k1, k2, k3⟩
end
/-- A struct's cells. -/
theorem cells_of {H : Type} {enc : TypeId × Value → H} {P : Program} {w : World} {base : Nat} {spare : Nat → Bool} {held : Bool} {t : TypeId} {fs : Array Field} {r : Reach} {b0 : Nat} {v : Value} {d : DataW H} {p : List MemPlace} (ht : P.underlying t = some (.struct fs)) (hv : Value.okWide P w r b0 t v) (h : DataW.Trod enc P w base spare held t v d p) :
    ∃ (cs : List Value) (fuel : Nat), v = .agg cs.toArray ∧ DataW.trod enc P w base spare held fuel t cs = some (d, p) := by
  obtain ⟨⟨cs⟩, rfl, hsz⟩ := okWide_struct ht hv
  obtain ⟨fuel, hf⟩ := h
  exact ⟨cs, fuel, rfl, by simpa [Value.cells] using hf⟩
theorem acells_of {H : Type} {enc : TypeId × Value → H} {P : Program} {w : World} {base : Nat} {spare : Nat → Bool} {held : Bool} {t e : TypeId} {n : Nat} {r : Reach} {b0 : Nat} {v : Value} {d : DataW H} {p : List MemPlace} (ht : P.underlying t = some (.array n e)) (hv : Value.okWide P w r b0 t v) (h : DataW.Trod enc P w base spare held t v d p) :
    ∃ (cs : List Value) (fuel : Nat), v = .agg cs.toArray ∧ DataW.trod enc P w base spare held fuel t cs = some (d, p) := by
  unfold Value.okWide at hv
  rw [ht] at hv
  obtain ⟨⟨cs⟩, rfl, _, _⟩ := hv
  obtain ⟨fuel, hf⟩ := h
  exact ⟨cs, fuel, rfl, by simpa [Value.cells] using hf⟩
/-- A value of one cell. -/
theorem ocells_of {H : Type} {enc : TypeId × Value → H} {P : Program} {w : World} {base : Nat} {spare : Nat → Bool} {held : Bool} {t : TypeId} {v : Value} {d : DataW H} {p : List MemPlace} (hv : v.oneCell' = true) (h : DataW.Trod enc P w base spare held t v d p) :
    ∃ (fuel : Nat), DataW.trod enc P w base spare held fuel t [v] = some (d, p) := by
  obtain ⟨fuel, hf⟩ := h
  refine ⟨fuel, ?_⟩
  cases v <;> simp_all [Value.cells, Value.oneCell']
theorem ints_in {H : Type} {enc : TypeId × Value → H} {w : World} {base : Nat} {spare : Nat → Bool} {held : Bool} {v : Value} {d : DataW H} {p : List MemPlace} {r : Reach} {b0 : Nat} (hv : Value.okWide Try.prog w r b0 36 v) (h : DataW.Trod enc Try.prog w base spare held 36 v d p) :
    ∃ (A : Option Addr) (c : Nat) (l : List Int), v = .slice A l.length c ∧ IntsAt w A l ∧ l.length ≤ c ∧ c ≤ maxLen := by
  obtain ⟨A, n, c, rfl⟩ := okWide_slice Try.underlying36 hv
  obtain ⟨fuel, hf⟩ := ocells_of rfl h
  obtain ⟨A, c, l, e, h⟩ := ints_of_ hf
  cases e
  exact ⟨_, _, l, rfl, h⟩
end Go.Proofs.Ytkbmenpggiojeaa
