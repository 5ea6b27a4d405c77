/-
  Words for memory: a slice that reads as a list, element by element.
-/
import Derived.WalkKit
import Derived.WalkSpells
import Derived.WalkLawsBesides
import Derived.Deep.QuietTactic
import Derived.BigQuiet
import Derived.Lib.Hide
import Derived.Deep.DeepFit
import Derived.Deep.DeepMust
namespace Go.Proofs.Ytkbmenpggiojeaa
open Go.RowKit
set_option linter.unusedSimpArgs false
set_option linter.unusedVariables false

/-- A reading of an element: the cells 'vs' read in the world as 'x'. -/
abbrev Reading (α : Type) := World → α → List Value → Prop

/-- The slice at A, of as many elements as l has, of k cells each, reads as l. -/
def SlAt {α : Type} (E : Reading α) (k : Nat) (w : World) (A : Option Addr) (l : List α) : Prop :=
  l ≠ [] → ∃ b off, A = some ⟨b, off, none⟩ ∧ b < w.heap.size ∧ ∀ i x, l[i]? = some x → ∃ vs : List Value, vs.length = k ∧ E w x vs ∧ ∀ j v, vs[j]? = some v → w.cell? ⟨b, off + i * k + j, none⟩ = some v

/-- A reading stays where no block that was there has turned. -/
def Stays {α : Type} (E : Reading α) : Prop := ∀ w w' x vs, Below w.heap.size w w' → E w x vs → E w' x vs

theorem SlAt.below {α : Type} {E : Reading α} {k : Nat} {w w' : World} {A : Option Addr} {l : List α} (h : SlAt E k w A l) (hE : Stays E) (hb : Below w.heap.size w w') : SlAt E k w' A l := by
  intro hne
  obtain ⟨b, off, hA, hlt, hc⟩ := h hne
  refine ⟨b, off, hA, Nat.lt_of_lt_of_le hlt hb.size, fun i x hx => ?_⟩
  obtain ⟨vs, hk, he, hv⟩ := hc i x hx
  exact ⟨vs, hk, hE _ _ _ _ hb he, fun j v hj => (hb.cell (p := ⟨b, _, none⟩) hlt).trans (hv j v hj)⟩

theorem SlAt.nil {α : Type} {E : Reading α} {k : Nat} {w : World} {A : Option Addr} : SlAt E k w A [] := fun h => absurd rfl h

theorem SlAt.at {α : Type} {E : Reading α} {k : Nat} {w : World} {A : Option Addr} {l : List α} (h : SlAt E k w A l) {i : Nat} (hi : i < l.length) :
    ∃ b off x vs, A = some ⟨b, off, none⟩ ∧ b < w.heap.size ∧ l[i]? = some x ∧ vs.length = k ∧ E w x vs ∧ ∀ j v, vs[j]? = some v → w.cell? ⟨b, off + i * k + j, none⟩ = some v := by
  obtain ⟨b, off, hA, hlt, hc⟩ := h (by rintro rfl; simp at hi)
  obtain ⟨vs, h1, h2, h3⟩ := hc i l[i] (List.getElem?_eq_getElem hi)
  exact ⟨b, off, l[i], vs, hA, hlt, List.getElem?_eq_getElem hi, h1, h2, h3⟩

/-- Numbers. -/
def IntE : Reading Int := fun _ x vs => vs = [.int .i64 x]
theorem IntE.stays : Stays IntE := fun _ _ _ _ _ h => h
abbrev IntsAt := SlAt IntE 1

theorem IntsAt.at {w : World} {A : Option Addr} {l : List Int} (h : IntsAt w A l) {k : Nat} (hk : k < l.length) :
    ∃ b off x, A = some ⟨b, off, none⟩ ∧ b < w.heap.size ∧ l[k]? = some x ∧ w.cell? ⟨b, off + k, none⟩ = some (.int .i64 x) := by
  obtain ⟨b, off, x, vs, hA, hlt, hx, _, hE, hc⟩ := SlAt.at h hk
  obtain rfl : vs = [.int .i64 x] := hE
  exact ⟨b, off, x, hA, hlt, hx, by simpa using hc 0 _ rfl⟩
theorem IntsAt.more {w : World} {b off : Nat} {l : List Int} (h : IntsAt w (some ⟨b, off, none⟩) l) {k : Nat} (hk : k < l.length) :
    ∃ x, l[k]? = some x ∧ w.cell? ⟨b, off + k, none⟩ = some (.int .i64 x) := by
  obtain ⟨b, off, x, hA, _, h1, h2⟩ := IntsAt.at h hk
  cases hA
  exact ⟨x, h1, h2⟩

/-- Old cells and old marks read as before. -/
theorem bcell {W w1 : World} (hb : Below W.heap.size W w1) : (∀ b o, b < W.heap.size → w1.cell? ⟨b, o, none⟩ = W.cell? ⟨b, o, none⟩) ∧ (∀ b o, b < W.heap.size → w1.frozen? ⟨b, o, none⟩ = W.frozen? ⟨b, o, none⟩) :=
  ⟨fun b o h => hb.cell (p := ⟨b, o, none⟩) h, fun b o h => hb.frozen (p := ⟨b, o, none⟩) h⟩

theorem ret_bool {a b : Bool} (h : a = b) : Ending.returned (.bool a) = .returned (.bool b) := by rw [h]
theorem ret_int {k : IntKind} {a b : Int} (h : a = b) : Ending.returned (.int k a) = .returned (.int k b) := by rw [h]

/-- The contract of a function that only reads and answers yes or no. -/
def Says (Q : Prop) (w : World) (e : Ending) (w' : World) : Prop := ∃ r : Bool, e = .returned (.bool r) ∧ (r = true ↔ Q) ∧ w = w'
theorem Says.no {Q : Prop} {w w' : World} (h : ¬ Q) (hw : w = w') : Says Q w (.returned (.bool false)) w' := ⟨false, rfl, by simp [h], hw⟩
theorem Says.yes {Q : Prop} {w w' : World} (h : Q) (hw : w = w') : Says Q w (.returned (.bool true)) w' := ⟨true, rfl, by simp [h], hw⟩
theorem Says.no1 {Q : Prop} {w w' : World} {e : Ending} (h : Says Q w e w') : (e = .returned (.bool false) ∧ Hid (¬ Q) ∧ w = w') ∨ (e = .returned (.bool true) ∧ Hid Q ∧ w = w') := by
  obtain ⟨r, rfl, hr, rfl⟩ := h
  cases r
  · exact .inl ⟨rfl, (by simpa using hr : ¬ Q), rfl⟩
  · exact .inr ⟨rfl, hr.1 rfl, rfl⟩
theorem Says.yes1 {Q : Prop} {w w' : World} {e : Ending} (h : Says Q w e w') : (e = .returned (.bool true) ∧ Hid Q ∧ w = w') ∨ (e = .returned (.bool false) ∧ Hid (¬ Q) ∧ w = w') := h.no1.symm


/-- The contract of a function that answers yes or no and leaves what there was. -/
def Tells (Q : Prop) (w : World) (e : Ending) (w' : World) : Prop := ∃ r : Bool, e = .returned (.bool r) ∧ (r = true ↔ Q) ∧ Below w.heap.size w w'
theorem Tells.no {Q : Prop} {w w' : World} (h : ¬ Q) (hw : Below w.heap.size w w') : Tells Q w (.returned (.bool false)) w' := ⟨false, rfl, by simp [h], hw⟩
theorem Tells.yes {Q : Prop} {w w' : World} (h : Q) (hw : Below w.heap.size w w') : Tells Q w (.returned (.bool true)) w' := ⟨true, rfl, by simp [h], hw⟩
theorem Tells.no1 {Q : Prop} {w w' : World} {e : Ending} (h : Tells Q w e w') : (e = .returned (.bool false) ∧ Hid (¬ Q) ∧ Below w.heap.size w w') ∨ (e = .returned (.bool true) ∧ Hid Q ∧ Below w.heap.size w w') := by
  obtain ⟨r, rfl, hr, hb⟩ := h
  cases r
  · exact .inl ⟨rfl, (by simpa using hr : ¬ Q), hb⟩
  · exact .inr ⟨rfl, hr.1 rfl, hb⟩
theorem Tells.yes1 {Q : Prop} {w w' : World} {e : Ending} (h : Tells Q w e w') : (e = .returned (.bool true) ∧ Hid Q ∧ Below w.heap.size w w') ∨ (e = .returned (.bool false) ∧ Hid (¬ Q) ∧ Below w.heap.size w w') := h.no1.symm
theorem _root_.Go.RowKit.Below.draws {B : Nat} {a w : World} (h : Below B a w) (n : Nat) : Below B a (w.drewN n) := ⟨h.os, h.tape, h.output, h.size, h.block⟩
theorem _root_.Go.RowKit.Below.newAt {B : Nat} {a w : World} (h : Below B a w) (hB : B ≤ w.heap.size) (o : Obj) : Below B a (w.alloc o) := h.alloc hB o
theorem Below.new (w : World) (o : Obj) : Below w.heap.size w (w.alloc o) := (Below.refl _ _).alloc (Nat.le_refl _) o
end Go.Proofs.Ytkbmenpggiojeaa
