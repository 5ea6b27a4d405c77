/-
  Words for memory: a block of the call's own that is known whole; rows of the call's own that grow; make and append as steps of a walk.
-/
import Derived.Test.YtkbmenpggiojeaaKa
import Derived.Maps.AppendAt
import Derived.Deep.AppendLies
import Derived.Deep.RegionLaw
import Derived.RegionTactic
import Derived.Deep.RegionHeld3
import Derived.OwnWalk
namespace Go.Proofs.Ytkbmenpggiojeaa
open Go.RowKit
set_option linter.unusedSimpArgs false
set_option linter.unusedVariables false

def BlkAt (w : World) (g : Nat) (T : TypeId) (cs : List Value) : Prop := w.heap[g]? = some (.cells cs.toArray T (0, 0))
section
variable {w w' : World} {g : Nat} {T : TypeId} {cs : List Value}
theorem BlkAt.lt (h : BlkAt w g T cs) : g < w.heap.size := (Array.getElem?_eq_some_iff.1 h).1
theorem BlkAt.cell (h : BlkAt w g T cs) (i : Nat) : w.cell? ⟨g, i, none⟩ = cs[i]? := by rw [cell_of_row w g i cs.toArray T (0, 0) h]; simp
theorem BlkAt.free (h : BlkAt w g T cs) (i : Nat) : w.frozen? ⟨g, i, none⟩ = false := frozen_of_row w g i cs.toArray T h
theorem BlkAt.new (w : World) (T : TypeId) (cs : List Value) : BlkAt (w.alloc (.cells cs.toArray T)) w.heap.size T cs := heap_alloc_new w _
theorem BlkAt.below {B : Nat} (h : BlkAt w g T cs) (hb : Below B w w') (hg : g < B) : BlkAt w' g T cs := (hb.block g hg).trans h
theorem BlkAt.alloc (h : BlkAt w g T cs) (o : Obj) : BlkAt (w.alloc o) g T cs := h.below (Below.new w o) h.lt
theorem BlkAt.draws (h : BlkAt w g T cs) (n : Nat) : BlkAt (w.drewN n) g T cs := h
theorem BlkAt.grown {row : Option Nat} (h : BlkAt w g T cs) (hb : w.grownBy w' row) (hg : some g ≠ row) : BlkAt w' g T cs := (hb.block g h.lt hg).trans h
theorem BlkAt.far (h : BlkAt w g T cs) {p : Addr} (hp : g ≠ p.block) (u : Value) : BlkAt (w.setCell p u) g T cs := (Below.heap_setCell w p u g hp).trans h
theorem BlkAt.set_ (h : BlkAt w g T cs) (i : Nat) (u : Value) : BlkAt (w.setCell ⟨g, i, none⟩ u) g T (cs.set i u) := by
  unfold BlkAt at h ⊢
  simp [World.setCell, Array.getElem?_modify, h]
end

/-- 'make([]T, n)' at a type of one cell. -/
theorem make_run {P : Program} (t e : TypeId) (z : Value) (bytes : Nat) (ht : P.underlying t = some (.slice e)) (hi : (P.info? e).map (fun i => (i.zero, i.size, i.bytes)) = some (some z, 1, bytes)) (hz : z.cells = #[z])
    (n : Nat) (hb : bytes * n ≤ 281474976710656) (hn : n ≤ 9223372036854775807) (u : World) :
    (Instr.makeSlice t (.int .i64 (n : Int)) (.int .i64 (n : Int))).run P u = .ok (.slice (some ⟨u.heap.size, 0, none⟩) n n) (u.alloc (.cells (List.replicate n z).toArray e)) := by
  obtain ⟨i0, hi0, h1, h2, h3⟩ := info_parts hi
  have h := run_make (P := P) u t e i0 z ht hi0 h1 .i64 .i64 (n : Int) (n : Int) (by omega) (Int.le_refl _) (by rw [h3]; exact Int.ofNat_le.2 hb) (by omega)
  have hm : madeCells #[z] n = (List.replicate n z).toArray := by rw [← toList_madeCells_one]
  rw [hz, h2] at h
  simp only [Int.toNat_natCast, Nat.mul_one, hm] at h
  exact h

theorem own_form {w : World} {base size n : Nat} {e : TypeId} {v : Value} {xs : List Value} (h : w.ownsRow base e size v n xs) : ∃ A c, v = .slice A n c := by
  rcases h.2 with ⟨rfl, rfl⟩ | ⟨g, cap, cur, rfl, _⟩
  · exact ⟨none, 0, rfl⟩
  · exact ⟨_, _, rfl⟩
theorem own_ne {w : World} {base size n : Nat} {e : TypeId} {v : Value} {xs : List Value} (h : w.ownsRow base e size v n xs) {bo : Nat} (hb : bo < base) : some bo ≠ v.ownBlock := fun e => by have := (h.lt bo e.symm).1; omega
theorem own_keeps {w w1 : World} {base size n : Nat} {e : TypeId} {v : Value} {xs : List Value} (h : w.ownsRow base e size v n xs) {bo : Nat} (hb : bo < base) (hg : w.grownBy w1 v.ownBlock) (hlt : bo < w.heap.size) (i : Nat) :
    w1.cell? ⟨bo, i, none⟩ = w.cell? ⟨bo, i, none⟩ ∧ w1.frozen? ⟨bo, i, none⟩ = w.frozen? ⟨bo, i, none⟩ :=
  ⟨World.cell?_of_block (a := ⟨bo, i, none⟩) (hg.block bo hlt (own_ne h hb)), World.frozen?_of_block (a := ⟨bo, i, none⟩) (hg.block bo hlt (own_ne h hb))⟩

theorem own_cell {w0 w w1 : World} {v : Value} (hg : w.grownBy w1 v.ownBlock) {B : Nat} (hB : Below B w0 w) {base size n : Nat} {e : TypeId} {xs : List Value} (h : w.ownsRow base e size v n xs) {bo : Nat} (hb : bo < base) (hlt : bo < B) (hsz : bo < w0.heap.size) (i : Nat) :
    w1.cell? ⟨bo, i, none⟩ = w0.cell? ⟨bo, i, none⟩ ∧ w1.frozen? ⟨bo, i, none⟩ = w0.frozen? ⟨bo, i, none⟩ := by
  obtain ⟨h1, h2⟩ := own_keeps h hb hg (Nat.lt_of_lt_of_le hsz hB.size) i
  exact ⟨h1.trans (hB.cell (p := ⟨bo, i, none⟩) hlt), h2.trans (hB.frozen (p := ⟨bo, i, none⟩) hlt)⟩

theorem new_cells {W : World} {cs : List Value} {T : TypeId} {g : Nat} (hg : g = W.heap.size) (j : Nat) (u : Value) (hj : cs[j]? = some u) : (W.alloc (.cells cs.toArray T)).cell? (Addr.add ⟨g, 0, none⟩ j) = some u := by
  subst hg
  have h := (BlkAt.new W T cs).cell j
  rw [hj] at h
  unfold Addr.add
  split
  · rename_i h0; subst h0; exact h
  · simpa using h

/-- A builtin append of cells that lie somewhere, onto a row of the call's own: as one step of a region that draws. -/
theorem step_append_at {P : Program} {w : World} {ops : Array Oper} {o : Oper} {a : Act} {K : Act → World → Prop} {Q : Exit → Act → World → Prop} {E : Prop} (hgd : o.guard = none) (s x : Operand) (t : TypeId)
    (ho : o.op = .call { callee := .builtin .append, args := #[s, x], argTypes := #[t, t] })
    (base : Nat) (e : TypeId) (z : Value) (size bytes : Nat) (ht : P.underlying t = some (.slice e)) (hi : (P.info? e).map (fun i => (i.zero, i.size, i.bytes)) = some (some z, size, bytes))
    (hzs : z.cells.size = size) (hsz : 0 < size)
    (v : Value) (n : Nat) (xs : List Value) (hs : a.eval s = v) (hown : w.ownsRow base e size v n xs)
    (ad : Addr) (m c : Nat) (news : List Value) (hx : a.eval x = .slice (some ad) m c) (hl : news.length = m * size) (hnews : ∀ j u, news[j]? = some u → w.cell? (ad.add j) = some u) (h1 : ∀ u ∈ news, u.oneCell' = true)
    (h63 : n + m ≤ maxLen) (hbytes : (n + m) * bytes ≤ 140737488355328) (hbase : base ≤ w.heap.size)
    (h : ∀ A' c' w', w'.ownsRow base e size (.slice A' (n + m) c') (n + m) (xs ++ news) → w.grownBy w' v.ownBlock → ((Value.slice A' (n + m) c').ownBlock = v.ownBlock ∨ (Value.slice A' (n + m) c').ownBlock = some w.heap.size) → K (a.put o.dst (.slice A' (n + m) c')) w') :
    if Region.wanted o (yielded ops a.tmps) = true then Oper.wp P o a w K Q else E := by
  obtain ⟨i0, hi0, hz, hsize, hby⟩ := info_parts hi
  have hw : Region.wanted o (yielded ops a.tmps) = true := by simp [Region.wanted, hgd]
  rw [if_pos hw]
  obtain ⟨v', w', hrun, h2, h3, _, h5⟩ := run_append_own_at (P := P) w base t o.type e i0 z size bytes ht hi0 hz hsize hby hzs hsz v n xs hown ad m c news hl hnews h1 h63 hbytes hbase
  unfold Oper.wp execOp
  simp only [ho, resolve, invoke, builtin, Sem.run_bind, Sem.run_pure, Result.andThen_ok, List.map_toArray, List.map_cons, List.map_nil, hs, hx, hrun]
  obtain ⟨A', c', rfl⟩ := own_form h2
  exact h A' c' w' h2 h3 h5

/-- Rows of the call's own, one for each number below n, gathered in a block. -/
structure Gathers (T E size : Nat) (w : World) (bo base n : Nat) (len : Nat → Nat) (xs : Nat → List Value) : Prop where
  ex : ∃ vs : List Value, BlkAt w bo T vs ∧ vs.length = n ∧ (∀ i v, vs[i]? = some v → w.ownsRow base E size v (len i) (xs i)) ∧
    (∀ (i j : Nat) vi vj (g : Nat), i ≠ j → vs[i]? = some vi → vs[j]? = some vj → vi.ownBlock = some g → vj.ownBlock ≠ some g)

theorem Gathers.below {T E size : Nat} {w w' : World} {bo base n B : Nat} {len : Nat → Nat} {xs : Nat → List Value} (h : Gathers T E size w bo base n len xs) (hb : Below B w w') (hB : w.heap.size ≤ B) : Gathers T E size w' bo base n len xs := by
  obtain ⟨vs, h1, h2, h3, h4⟩ := h.ex
  refine ⟨vs, h1.below hb (Nat.lt_of_lt_of_le h1.lt hB), h2, fun i v hi => ?_, h4⟩
  have ho := h3 i v hi
  refine ⟨ho.1, ?_⟩
  rcases ho.2 with h | ⟨g, cap, cur, r1, r2, r3, r4⟩
  · exact .inl h
  · have hg := (Array.getElem?_eq_some_iff.1 r3).1
    exact .inr ⟨g, cap, cur, r1, r2, (hb.block g (by omega)).trans r3, r4⟩

/-- Row s has grown, and its new value has been stored. -/
theorem Gathers.step {T E size : Nat} {w w1 : World} {bo base n : Nat} {len : Nat → Nat} {xs : Nat → List Value} (h : Gathers T E size w bo base n len xs) (hbo : bo < base) {s : Nat} {v v' : Value} (hs : s < n)
    (hv : w.cell? ⟨bo, s, none⟩ = some v) {m : Nat} {ys : List Value} (h' : w1.ownsRow base E size v' m ys) (hg : w.grownBy w1 v.ownBlock) (hb : v'.ownBlock = v.ownBlock ∨ v'.ownBlock = some w.heap.size)
    {len' : Nat → Nat} {xs' : Nat → List Value} (hlen : len' s = m) (hxs : xs' s = ys) (hlen' : ∀ i, i ≠ s → len' i = len i) (hxs' : ∀ i, i ≠ s → xs' i = xs i) :
    Gathers T E size (w1.setCell ⟨bo, s, none⟩ v') bo base n len' xs' := by
  obtain ⟨vs, h1, h2, h3, h4⟩ := h.ex
  have hvs : vs[s]? = some v := by rw [← h1.cell, hv]
  have hne : ∀ (i : Nat) (u : Value), vs[i]? = some u → u.ownBlock ≠ some bo := fun i u hu e => by have := ((h3 i u hu).lt bo e).1; omega
  have hb1 : BlkAt w1 bo T vs := h1.grown hg (fun e => hne s v hvs e.symm)
  have hset : ∀ {u : Value} {k : Nat} {zs : List Value}, w1.ownsRow base E size u k zs → (w1.setCell ⟨bo, s, none⟩ v').ownsRow base E size u k zs := fun ho => ownsRow_setCell_below ho hbo _
  refine ⟨vs.set s v', hb1.set_ s v', by simpa using h2, fun i u hu => ?_, fun i j vi vj g hij hi hj => ?_⟩
  · by_cases e : i = s
    · subst e
      rw [List.getElem?_set] at hu
      simp only [if_true, h2, hs, Option.some.injEq] at hu
      subst hu
      rw [hlen, hxs]
      exact hset h'
    · rw [List.getElem?_set_ne (fun h => e h.symm)] at hu
      rw [hlen' i e, hxs' i e]
      refine hset ((h3 i u hu).kept hg ?_)
      cases hb : u.ownBlock with
      | none => exact .inl rfl
      | some g => exact .inr (fun h => h4 i s u v g e hu hvs hb h.symm)
  · have key : ∀ (j : Nat) (vj : Value), j ≠ s → vs[j]? = some vj → ∀ g, vj.ownBlock = some g → v'.ownBlock ≠ some g := fun j vj hj hvj g hg' hv' => by
      rcases hb with e | e
      · exact h4 j s vj v g hj hvj hvs hg' (by rw [← e, hv'])
      · rw [e] at hv'; cases hv'
        have := ((h3 j vj hvj).lt _ hg').2; omega
    intro hgi hgj
    by_cases ei : i = s
    · subst ei
      rw [List.getElem?_set] at hi
      simp only [if_true, h2, hs, Option.some.injEq] at hi
      subst hi
      rw [List.getElem?_set_ne hij] at hj
      exact key j vj (fun h => hij h.symm) hj g hgj hgi
    · rw [List.getElem?_set_ne (fun h => ei h.symm)] at hi
      by_cases ej : j = s
      · subst ej
        rw [List.getElem?_set] at hj
        simp only [if_true, h2, hs, Option.some.injEq] at hj
        subst hj
        exact key i vi ei hi g hgi hgj
      · rw [List.getElem?_set_ne (fun h => ej h.symm)] at hj
        exact h4 i j vi vj g hij hi hj hgi hgj

theorem Gathers.made {T E size : Nat} (w : World) (n base : Nat) :
    Gathers T E size (w.alloc (.cells (List.replicate n (.slice none 0 0)).toArray T)) w.heap.size base n (fun _ => 0) (fun _ => []) := by
  refine ⟨List.replicate n (.slice none 0 0), BlkAt.new w T _, by simp, fun i v hi => ?_, fun i j vi vj g hij hi hj hg => ?_⟩
  · have : v = .slice none 0 0 := by
      have := List.mem_of_getElem? hi
      simpa using (List.eq_of_mem_replicate this)
    subst this
    exact ⟨by simp, .inl ⟨rfl, rfl⟩⟩
  · have : vi = .slice none 0 0 := List.eq_of_mem_replicate (List.mem_of_getElem? hi)
    subst this
    simp [Value.ownBlock] at hg

/-- The row that lies at number s. -/
theorem Gathers.row {T E size : Nat} {w : World} {bo base n : Nat} {len : Nat → Nat} {xs : Nat → List Value} (h : Gathers T E size w bo base n len xs) {s : Nat} (hs : s < n) :
    ∃ v, w.cell? ⟨bo, s, none⟩ = some v ∧ w.frozen? ⟨bo, s, none⟩ = false ∧ w.ownsRow base E size v (len s) (xs s) := by
  obtain ⟨vs, h1, h2, h3, _⟩ := h.ex
  have hv : vs[s]? = some vs[s] := List.getElem?_eq_getElem (by omega)
  exact ⟨vs[s], by rw [h1.cell, hv], h1.free s, h3 s _ hv⟩
end Go.Proofs.Ytkbmenpggiojeaa
