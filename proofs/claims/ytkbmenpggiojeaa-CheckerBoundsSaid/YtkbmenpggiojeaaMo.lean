/-
  Lists of the call's own, element by element; what lies in blocks of the call's own.
-/
import Derived.Test.YtkbmenpggiojeaaKf
import Derived.Test.YtkbmenpggiojeaaKp
import Derived.Maps.AppendAt
namespace Go.Proofs.Ytkbmenpggiojeaa
open Go.RowKit
set_option linter.unusedSimpArgs false
set_option linter.unusedVariables false

/-- From block n on there is new memory alone. -/
structure Fro (n : Nat) (w W : World) : Prop where
  b : Below n w W
  z : n ≤ W.heap.size
theorem Fro.refl {n : Nat} {w : World} (h : n ≤ w.heap.size) : Fro n w w := ⟨Below.refl _ _, h⟩
theorem Fro.here (w : World) : Fro w.heap.size w w := ⟨Below.refl _ _, Nat.le_refl _⟩
theorem Fro.next {n : Nat} {w W W' : World} (h : Fro n w W) (hb : Below W.heap.size W W') : Fro n w W' := ⟨h.b.trans (hb.mono h.z), Nat.le_trans h.z hb.size⟩
theorem Fro.trans {n : Nat} {w W W' : World} (h : Fro n w W) (hb : Fro n W W') : Fro n w W' := ⟨h.b.trans hb.b, hb.z⟩
theorem Fro.alloc {n : Nat} {w W : World} (h : Fro n w W) (o : Obj) : Fro n w (W.alloc o) := ⟨h.b.alloc h.z o, Nat.le_trans h.z (by simp)⟩
theorem Fro.drew {n : Nat} {w W : World} (h : Fro n w W) : Fro n w W.drew := ⟨h.b.drew, h.z⟩
theorem Fro.draws {n : Nat} {w W : World} (h : Fro n w W) (q : Nat) : Fro n w (W.drewN q) := ⟨h.b.draws q, h.z⟩
theorem Fro.grown {n : Nat} {w W W' : World} {row : Option Nat} (h : Fro n w W) (hg : W.grownBy W' row) (hr : ∀ j, row = some j → n ≤ j) : Fro n w W' := ⟨h.b.grown hg h.z hr, Nat.le_trans h.z hg.size⟩
theorem Fro.setCell {n : Nat} {w W : World} (h : Fro n w W) {g i : Nat} (hg : n ≤ g) (u : Value) : Fro n w (W.setCell ⟨g, i, none⟩ u) := ⟨h.b.setCell hg u, by simpa using h.z⟩
theorem Fro.mono {n m : Nat} {w W : World} (h : Fro n w W) (hm : m ≤ n) : Fro m w W := ⟨h.b.mono hm, Nat.le_trans hm h.z⟩

/-- A list of values lies in a block's first cells. -/
structure HasAt (b : Nat) (l : List Value) (w : World) : Prop where
  c : ∀ i u, l[i]? = some u → w.cell? ⟨b, i, none⟩ = some u
  z : b < w.heap.size
theorem HasAt.fro {b n : Nat} {l : List Value} {w w' : World} (h : HasAt b l w) (hb : Fro n w w') (hn : b < n) : HasAt b l w' := ⟨fun i u hi => (hb.b.cell (p := ⟨b, i, none⟩) hn).trans (h.c i u hi), Nat.lt_of_lt_of_le hn hb.z⟩
theorem HasAt.below {b : Nat} {l : List Value} {w w' : World} (h : HasAt b l w) (hb : Below w.heap.size w w') : HasAt b l w' := ⟨fun i u hi => old_cell hb (h.c i u hi) h.z, Nat.lt_of_lt_of_le h.z hb.size⟩
theorem HasAt.new (w : World) (T : TypeId) (l : List Value) {b : Nat} (h : b = w.heap.size) : HasAt b l (w.alloc (.cells l.toArray T)) := ⟨fun i u hi => (new_cell w T l b i h).trans hi, by subst h; simp⟩
theorem HasAt.alloc {b : Nat} {l : List Value} {w : World} (h : HasAt b l w) (o : Obj) : HasAt b l (w.alloc o) := h.below (Below.new w o)
theorem HasAt.grown {b : Nat} {l : List Value} {w w' : World} {row : Option Nat} (h : HasAt b l w) (hg : w.grownBy w' row) (hb : some b ≠ row) : HasAt b l w' :=
  ⟨fun i u hi => hg.cell (h.c i u hi) hb, Nat.lt_of_lt_of_le h.z hg.size⟩
theorem HasAt.drew {b : Nat} {l : List Value} {w : World} (h : HasAt b l w) : HasAt b l w.drew := ⟨h.c, h.z⟩

abbrev auCells (au : Au) (p : AuP) : List Value := [.slice p.A1 au.al.length p.c1, .int .i64 au.n, .slice p.A2 au.mr.length p.c2, .slice p.A3 au.ed.length p.c3]
/-- A list of the call's own, in a row beyond block B. -/
def Own {α : Type} (enc : α → List Value) (k T B : Nat) (l : List α) (v : Value) (w : World) : Prop := w.ownsRow B T k v l.length (l.flatMap enc)
section
variable {α : Type} {enc : α → List Value} {k T B : Nat} {l : List α} {v : Value} {w w' : World}
theorem Own.nil (w : World) : Own enc k T B [] (.slice none 0 0) w := World.ownsRow_nil ..
theorem Own.form (h : Own enc k T B l v w) : ∃ A c, v = .slice A l.length c := own_form h
theorem Own.lt (h : Own enc k T B l v w) : ∀ j, v.ownBlock = some j → B ≤ j ∧ j < w.heap.size := World.ownsRow.lt h
theorem Own.alloc (h : Own enc k T B l v w) (o : Obj) : Own enc k T B l v (w.alloc o) := World.ownsRow.alloc h o
theorem Own.drew (h : Own enc k T B l v w) : Own enc k T B l v w.drew := World.ownsRow.drew h
theorem Own.kept {row : Option Nat} (h : Own enc k T B l v w) (hg : w.grownBy w' row) (hne : v.ownBlock = none ∨ v.ownBlock ≠ row) : Own enc k T B l v w' := World.ownsRow.kept h hg hne
theorem Own.below {B' : Nat} (h : Own enc k T B l v w) (hb : Below B' w w') (hB : w.heap.size ≤ B') : Own enc k T B l v w' := by
  refine ⟨h.1, ?_⟩
  rcases h.2 with h | ⟨g, cap, cur, r1, r2, r3, r4⟩
  · exact .inl h
  · have hg := (Array.getElem?_eq_some_iff.1 r3).1
    exact .inr ⟨g, cap, cur, r1, r2, (hb.block g (by omega)).trans r3, r4⟩
theorem Own.base {B' : Nat} (h : Own enc k T B l v w) (hB : B' ≤ B) : Own enc k T B' l v w := by
  refine ⟨h.1, ?_⟩
  rcases h.2 with h | ⟨g, cap, cur, r1, r2, r3⟩
  · exact .inl h
  · exact .inr ⟨g, cap, cur, r1, Nat.le_trans hB r2, r3⟩
theorem Own.reads {A : Option Addr} {c : Nat} (hk : ∀ x, (enc x).length = k) (h : Own enc k T B l (.slice A l.length c) w) : SlAt (fun _ x vs => vs = enc x) k w A l := by
  obtain ⟨A', c', e, hr⟩ := SlAt.of_own hk h
  cases e; exact hr
theorem Fro.push {w0 : World} (hb : Fro B w0 w) (ho : Own enc k T B l v w) (hg : w.grownBy w' v.ownBlock) : Fro B w0 w' := hb.grown hg fun j hj => (ho.lt j hj).1
end

/-- 'append' of one element that has just been laid, onto a list of the call's own. -/
theorem wpList_push {P : Program} {α : Type} {enc : α → List Value} {k T B : Nat} {l : List α} {v : Value} {w : World} {ops : Array Oper} {rest : List Oper} {o : Oper} {a : Act} {Q : Exit → Act → World → Prop} (hgd : o.guard = none) (s x : Operand) (t : TypeId)
    (ho : o.op = .call { callee := .builtin .append, args := #[s, x], argTypes := #[t, t] }) (hown : Own enc k T B l v w)
    (ht : P.underlying t = some (.slice T)) (z : Value) (bytes : Nat) (hi : (P.info? T).map (fun i => (i.zero, i.size, i.bytes)) = some (some z, k, bytes))
    (hzs : z.cells.size = k) (hk : 0 < k) (hs : a.eval s = v) (y : α) (g : Nat) (hx : a.eval x = .slice (some ⟨g, 0, none⟩) 1 1) (hy : (enc y).length = k) (hc : ∀ j u, (enc y)[j]? = some u → w.cell? ⟨g, j, none⟩ = some u) (h1 : ∀ u ∈ enc y, u.oneCell' = true)
    (hl : l.length ≤ 1048576) (hby : bytes ≤ 4096) (hB : B ≤ w.heap.size)
    (h : ∀ A' c' w', Own enc k T B (l ++ [y]) (.slice A' (l.length + 1) c') w' → w.grownBy w' v.ownBlock → ((Value.slice A' (l.length + 1) c').ownBlock = v.ownBlock ∨ (Value.slice A' (l.length + 1) c').ownBlock = some w.heap.size) → wpList P ops Q rest (a.put o.dst (.slice A' (l.length + 1) c')) w') :
    wpList P ops Q (o :: rest) a w := by
  obtain ⟨i0, hi0, hz, hsize, hb⟩ := info_parts hi
  refine wpList_append_own_at w hgd s x t ho B T i0 z k bytes ht hi0 hz hsize hb hzs hk v l.length (l.flatMap enc) hs hown ⟨g, 0, none⟩ 1 1 (enc y) hx (by omega) (fun j u hj => ?_) h1 (by simp only [maxLen]; omega) (by have := Nat.mul_le_mul (show l.length + 1 ≤ 1048577 by omega) hby; omega) hB ?_
  · have := hc j u hj
    unfold Addr.add
    split
    · rename_i h0; subst h0; exact this
    · simpa using this
  · intro v' w' ho' hg _ hat
    obtain ⟨A', c', rfl⟩ := own_form ho'
    exact h A' c' w' (by unfold Own; rw [List.flatMap_append, List.length_append]; simpa using ho') hg hat

/-- The one element that 'append' has just laid. -/
theorem one_cell (w : World) (T : TypeId) (cs : List Value) (g : Nat) (hg : g = w.heap.size) : ∀ j u, cs[j]? = some u → (w.alloc (.cells cs.toArray T)).cell? ⟨g, j, none⟩ = some u := fun j u hj => (new_cell w T cs g j hg).trans hj

def encI (x : Int) : List Value := [.int .i64 x]
abbrev OwnI := Own encI 1 3
theorem intInfo : (Try.prog.info? 3).map (fun i => (i.zero, i.size, i.bytes)) = some (some (.int .i64 0), 1, 8) := by kernel_rfl
theorem encI_one (y : Int) : ∀ u ∈ encI y, u.oneCell' = true := fun u hu => by simp [encI] at hu; subst hu; rfl
theorem OwnI.ints {B : Nat} {l : List Int} {A : Option Addr} {c : Nat} {w : World} (h : OwnI B l (.slice A l.length c) w) : IntsAt w A l := Own.reads (fun _ => rfl) h

/-- What a function gives that makes a list of numbers. -/
def GivesI (l : List Int) (w : World) (e : Ending) (w' : World) : Prop := ∃ v, e = .returned v ∧ Hid (OwnI w.heap.size l v w') ∧ Below w.heap.size w w'
end Go.Proofs.Ytkbmenpggiojeaa
