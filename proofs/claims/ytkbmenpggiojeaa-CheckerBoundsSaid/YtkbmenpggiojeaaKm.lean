/-
  Words for memory: a map of the call's own whose keys are arrays of numbers, as a function.
-/
import Derived.Test.YtkbmenpggiojeaaProg
import Derived.Test.YtkbmenpggiojeaaKa
import Derived.Maps.Own
import Derived.Maps.OwnOps
namespace Go.Proofs.Ytkbmenpggiojeaa
open Go.RowKit
set_option linter.unusedSimpArgs false
set_option linter.unusedVariables false

variable {κ : Type} [DecidableEq κ]

structure KeyOk (P : Program) (T : TypeId) (D : TypeDesc) (key : κ → Value) : Prop where
  und : P.underlying T = some D
  eq : ∀ x y w, (Op.equal T (key x) (key y)).run P w = .ok (decide (x = y)) w
  chk : ∀ em x w, (Instr.checkKey em 10000 T (key x)).run P w = .ok () w
  stay : ∀ x w, (Instr.keyThatStays (key x) (key x)).run P w = .ok (key x) w
  now : ∀ x y, Instr.sameNow D (key x) (key y) = none
  inj : ∀ x y, key x = key y → x = y

def entryOf (key : κ → Value) (x : κ × Int × Nat) : MapEntry := ⟨key x.1, .int .i64 x.2.1, x.2.2⟩
def valOf (l : List (κ × Int × Nat)) (x : κ) : Option Int := (l.find? fun e => decide (e.1 = x)).map (·.2.1)

def MapAt (key : κ → Value) (w : World) (b : Nat) (f : κ → Option Int) : Prop :=
  ∃ (l : List (κ × Int × Nat)) (clock : Nat), w.heap[b]? = some (.map (l.map (entryOf key)).toArray clock) ∧ ∀ x, f x = valOf l x

theorem MapAt.made (key : κ → Value) (w : World) : MapAt key (w.alloc (.map #[] 0)) w.heap.size (fun _ => none) :=
  ⟨[], 0, (MapKept.heap_alloc w _).1, fun _ => rfl⟩
theorem MapAt.congr {key : κ → Value} {w : World} {b : Nat} {f g : κ → Option Int} (h : MapAt key w b f) (hg : ∀ x, g x = f x) : MapAt key w b g := by
  obtain ⟨l, c, h1, h2⟩ := h
  exact ⟨l, c, h1, fun x => (hg x).trans (h2 x)⟩
theorem MapAt.lt {key : κ → Value} {w : World} {b : Nat} {f : κ → Option Int} (h : MapAt key w b f) : b < w.heap.size := by
  obtain ⟨l, c, hb, _⟩ := h
  exact (Array.getElem?_eq_some_iff.1 hb).1
theorem MapAt.below {key : κ → Value} {w w' : World} {b B : Nat} {f : κ → Option Int} (h : MapAt key w b f) (hb : Below B w w') (hlt : b < B) : MapAt key w' b f := by
  obtain ⟨l, c, h1, h2⟩ := h
  exact ⟨l, c, (hb.block b hlt).trans h1, h2⟩
theorem MapAt.alloc {key : κ → Value} {w : World} {b : Nat} {f : κ → Option Int} (h : MapAt key w b f) (o : Obj) : MapAt key (w.alloc o) b f :=
  h.below (Below.new w o) h.lt

theorem findAsking_run {P : Program} {T : TypeId} {D : TypeDesc} {key : κ → Value} (K : KeyOk P T D key) (x : κ) (w : World) : ∀ (l : List (κ × Int × Nat)) (i : Nat),
    (Instr.findAsking T (key x) (l.map (entryOf key)) i).run P w = .ok ((l.findIdx? (fun e => decide (e.1 = x))).bind fun j => (l[j]?).map fun e => (i + j, Value.int .i64 e.2.1)) w := by
  intro l
  induction l with
  | nil => intro i; simp [Instr.findAsking]
  | cons e l ih =>
    intro i
    simp only [List.map_cons, Instr.findAsking, entryOf, List.findIdx?_cons]
    have hq : (Op.equal T (key x) (key e.1)).run P w = .ok (decide (e.1 = x)) w := by rw [K.eq]; congr 1; simp [eq_comm]
    by_cases h : e.1 = x
    · rw [Sem.run_bind, hq]
      simp [Result.andThen, h]
    · simp only [Sem.run_bind, hq, Result.andThen, h, decide_false]
      rw [show (if (false : Bool) = true then (pure (some (i, Value.int IntKind.i64 e.2.1)) : Sem _) else Instr.findAsking T (key x) (l.map (entryOf key)) (i + 1)) = Instr.findAsking T (key x) (l.map (entryOf key)) (i + 1) from by simp]
      rw [ih]
      cases h2 : l.findIdx? (fun e => decide (e.1 = x)) with
      | none => simp
      | some j => simp [Nat.add_assoc, Nat.add_comm 1 j]

theorem valOf_none {l : List (κ × Int × Nat)} {x : κ} (h : l.findIdx? (fun e => decide (e.1 = x)) = none) : valOf l x = none := by
  have := List.findIdx?_eq_none_iff.1 h
  simp only [valOf, Option.map_eq_none_iff]
  exact List.find?_eq_none.2 (fun e he => by simpa using this e he)
theorem valOf_some {l : List (κ × Int × Nat)} {x : κ} {j : Nat} (h : l.findIdx? (fun e => decide (e.1 = x)) = some j) : ∃ e, l[j]? = some e ∧ e.1 = x ∧ valOf l x = some e.2.1 ∧ j < l.length := by
  obtain ⟨hj, h1, h2⟩ := List.findIdx?_eq_some_iff_getElem.1 h
  refine ⟨l[j], List.getElem?_eq_getElem hj, by simpa using h1, ?_, hj⟩
  have h3 : l.find? (fun e => decide (e.1 = x)) = some l[j] := by
    rw [List.find?_eq_some_iff_getElem]
    exact ⟨h1, j, hj, rfl, fun k hk => by simpa using h2 k hk⟩
  simp [valOf, h3]

theorem findKey_run {P : Program} {T : TypeId} {D : TypeDesc} {key : κ → Value} (K : KeyOk P T D key) (x : κ) (w : World) (l : List (κ × Int × Nat)) :
    (Instr.findKey T (key x) (l.map (entryOf key))).run P w = .ok ((l.findIdx? (fun e => decide (e.1 = x))).bind fun j => (l[j]?).map fun e => (j, Value.int .i64 e.2.1)) w := by
  cases l with
  | nil => simp [Instr.findKey, run_underlying K.und, Instr.findNow]
  | cons e l =>
    have := findAsking_run K x w (e :: l) 0
    simp only [Nat.zero_add] at this
    have hn : Instr.findNow D (key x) ((e :: l).map (entryOf key)) 0 = none := by simp [Instr.findNow, entryOf, K.now]
    simp only [Instr.findKey, Sem.run_bind, run_underlying K.und, Result.andThen, hn]
    exact this

/-- 'v, ok := m[k]'. -/
theorem MapAt.look {P : Program} {M T E : TypeId} {D : TypeDesc} {key : κ → Value} (K : KeyOk P T D key) (hM : P.underlying M = some (.map T E)) (hz : ∀ w, (zeroValue E).run P w = .ok (.int .i64 0) w)
    {w : World} {b : Nat} {f : κ → Option Int} (h : MapAt key w b f) (x : κ) :
    (Instr.lookup M (.map (some b)) (key x) true).run P w = .ok (.tuple #[.int .i64 ((f x).getD 0), .bool (f x).isSome]) w := by
  obtain ⟨l, c, hb, hf⟩ := h
  have hk := findKey_run K x w l
  cases hj : l.findIdx? (fun e => decide (e.1 = x)) with
  | none =>
    rw [hj] at hk
    simp only [Option.bind_none] at hk
    simp [Instr.lookup, run_underlying hM, MapKept.run_getObj_map hb, K.chk, hk, hz, hf, valOf_none hj, Result.andThen]
  | some j =>
    obtain ⟨e, he, h1, h2, h3⟩ := valOf_some hj
    rw [hj] at hk
    simp only [Option.bind_some, he, Option.map_some] at hk
    simp [Instr.lookup, run_underlying hM, MapKept.run_getObj_map hb, K.chk, hk, hf, h2, Result.andThen]

theorem find_modify {l : List (κ × Int × Nat)} {x : κ} {j : Nat} {e : κ × Int × Nat} (hj : l.findIdx? (fun e => decide (e.1 = x)) = some j) (he : l[j]? = some e) (v : Int) (y : κ) :
    valOf (l.set j (e.1, v, e.2.2)) y = if y = x then some v else valOf l y := by
  induction l generalizing j with
  | nil => simp at hj
  | cons a l ih =>
    rw [List.findIdx?_cons] at hj
    by_cases ha : a.1 = x
    · simp only [ha, decide_true, if_true, Option.some.injEq] at hj
      subst hj
      simp only [List.getElem?_cons_zero, Option.some.injEq] at he
      subst he
      by_cases hy : y = x
      · subst hy; simp [valOf, ha]
      · have : ¬ a.1 = y := fun h => hy (by rw [← h, ha])
        simp [valOf, this, hy]
    · simp only [ha, decide_false, Bool.false_eq_true, if_false, Option.map_eq_some_iff] at hj
      obtain ⟨j', hj', rfl⟩ := hj
      have := ih hj' (by simpa using he)
      by_cases hy : a.1 = y
      · subst hy; simp [valOf, ha]
      · simp only [valOf, List.set_cons_succ, List.find?_cons, hy, decide_false] at this ⊢
        exact this
theorem find_push {l : List (κ × Int × Nat)} {x : κ} (hj : l.findIdx? (fun e => decide (e.1 = x)) = none) (v : Int) (n : Nat) (y : κ) :
    valOf (l ++ [(x, v, n)]) y = if y = x then some v else valOf l y := by
  by_cases hy : y = x
  · subst hy
    have := List.findIdx?_eq_none_iff.1 hj
    have h2 : l.find? (fun e => decide (e.1 = y)) = none := List.find?_eq_none.2 (fun e he => by simpa using this e he)
    simp [valOf, List.find?_append, h2]
  · have : ¬ x = y := fun h => hy h.symm
    simp [valOf, List.find?_append, this, hy]

/-- 'm[k] = v'. -/
theorem MapAt.store {P : Program} {M T E : TypeId} {D : TypeDesc} {key : κ → Value} (K : KeyOk P T D key) (hM : P.underlying M = some (.map T E))
    {w : World} {b : Nat} {f : κ → Option Int} (h : MapAt key w b f) (x : κ) (v : Int) :
    ∃ w', (Instr.mapUpdate M (.map (some b)) (key x) (.int .i64 v)).run P w = .ok () w' ∧ MapAt key w' b (fun y => if y = x then some v else f y) ∧ w.grownBy w' (some b) := by
  obtain ⟨l, c, hb, hf⟩ := h
  have hk := findKey_run K x w l
  cases hj : l.findIdx? (fun e => decide (e.1 = x)) with
  | none =>
    rw [hj] at hk
    simp only [Option.bind_none] at hk
    refine ⟨ChangeMaps.setBlock w b (.map ((l ++ [(x, v, c)]).map (entryOf key)).toArray (c + 1)), ?_, ⟨l ++ [(x, v, c)], c + 1, ChangeMaps.heap_setBlock_same hb _, fun y => by rw [find_push hj]; simp only [hf]⟩,
      ⟨rfl, rfl, rfl, by simp [ChangeMaps.setBlock], fun i _ hi => ChangeMaps.heap_setBlock_other hb _ (fun e => hi (by rw [e]))⟩⟩
    simp [Instr.mapUpdate, run_underlying hM, MapKept.run_getObj_map hb, K.chk, hk, MapKept.run_setObj_map _ hb, Result.andThen, ChangeMaps.setBlock, entryOf]
  | some j =>
    obtain ⟨e, he, h1, h2, h3⟩ := valOf_some hj
    rw [hj] at hk
    simp only [Option.bind_some, he, Option.map_some] at hk
    refine ⟨ChangeMaps.setBlock w b (.map ((l.set j (e.1, v, e.2.2)).map (entryOf key)).toArray c), ?_, ⟨l.set j (e.1, v, e.2.2), c, ChangeMaps.heap_setBlock_same hb _, fun y => by rw [find_modify hj he]; simp only [hf]⟩,
      ⟨rfl, rfl, rfl, by simp [ChangeMaps.setBlock], fun i _ hi => ChangeMaps.heap_setBlock_other hb _ (fun e => hi (by rw [e]))⟩⟩
    have hm : (l.map (entryOf key)).modify j (fun e' => { key := key x, val := .int .i64 v, born := e'.born }) = (l.set j (x, v, e.2.2)).map (entryOf key) := by
      apply List.ext_getElem?
      intro i
      rw [List.getElem?_modify]
      simp only [List.getElem?_map, List.getElem?_set]
      by_cases hij : j = i
      · subst hij
        rw [he]
        simp [h3, entryOf]
      · simp [hij]
    simp [Instr.mapUpdate, run_underlying hM, MapKept.run_getObj_map hb, K.chk, hk, he, entryOf, h1, K.stay, MapKept.run_setObj_map _ hb, Result.andThen, ChangeMaps.setBlock]
    exact congrArg (fun q => w.heap.setIfInBounds b (Obj.map (List.toArray q) c)) (by rw [hm, List.map_set]; rfl)

theorem wpList_mapUpdate_at {P : Program} (w : World) {ops : Array Oper} {rest : List Oper} {o : Oper} {a : Act} {Q : Exit → Act → World → Prop}
    (hg : o.guard = none) (m x v : Operand) (M T E : TypeId) (hop : o.op = Op.mapUpdate M m x v) (D : TypeDesc) (key : κ → Value) (K : KeyOk P T D key) (hM : P.underlying M = some (.map T E))
    (b : Nat) (f : κ → Option Int) (y : κ) (z : Int) (hm : a.eval m = .map (some b)) (h : MapAt key w b f) (hx : a.eval x = key y) (hv : a.eval v = .int .i64 z)
    (hK : ∀ w', MapAt key w' b (fun u => if u = y then some z else f u) → w.grownBy w' (some b) → wpList P ops Q rest (a.put o.dst undef) w') :
    wpList P ops Q (o :: rest) a w := by
  refine wpList_plain hg fun K' hK' => ?_
  obtain ⟨w', hrun, r1, r2⟩ := h.store K hM y z
  unfold Oper.wp
  simp [execOp, hop, hm, hx, hv, hrun, Result.andThen]
  exact hK' _ _ (hK w' r1 r2)

def key2 (x : Int × Int) : Value := .agg #[.int .i64 x.1, .int .i64 x.2]
def key3 (x : Int × Int × Int) : Value := .agg #[.int .i64 x.1, .int .i64 x.2.1, .int .i64 x.2.2]
end Go.Proofs.Ytkbmenpggiojeaa
