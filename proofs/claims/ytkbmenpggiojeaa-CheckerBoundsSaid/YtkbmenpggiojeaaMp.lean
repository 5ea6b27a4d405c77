/-
  Described plants.
-/
import Derived.Test.YtkbmenpggiojeaaMn
import Derived.Deep.RegionHeld3
import Derived.Deep.MidRow
namespace Go.Proofs.Ytkbmenpggiojeaa
open Go.RowKit
set_option linter.unusedSimpArgs false
set_option linter.unusedVariables false

abbrev plCells (s : Int) (g : Gr) (f : B5) : List Value := [.int .u8 s, .int .u8 g.s, .int .u8 g.m, .int .u8 g.r0.x0, .int .u8 g.r0.x1, .int .u8 g.r0.x2, .int .u8 g.r0.x3, .int .u8 g.r0.x4, .int .u8 g.r1.x0, .int .u8 g.r1.x1, .int .u8 g.r1.x2, .int .u8 g.r1.x3, .int .u8 g.r1.x4, .int .u8 g.r2.x0, .int .u8 g.r2.x1, .int .u8 g.r2.x2, .int .u8 g.r2.x3, .int .u8 g.r2.x4, .int .u8 g.r3.x0, .int .u8 g.r3.x1, .int .u8 g.r3.x2, .int .u8 g.r3.x3, .int .u8 g.r3.x4, .int .u8 g.r4.x0, .int .u8 g.r4.x1, .int .u8 g.r4.x2, .int .u8 g.r4.x3, .int .u8 g.r4.x4, .int .u8 f.x0, .int .u8 f.x1, .int .u8 f.x2, .int .u8 f.x3, .int .u8 f.x4]
theorem HasAt.range {b o : Nat} {l cs : List Value} {w : World} (h : HasAt b l w) (hs : ∀ (j : Nat) v, cs[j]? = some v → l[o + j]? = some v) : w.rangeAt b o cs := fun j v hv => h.c _ _ (hs j v hv)
theorem pl1 (s : Int) (g : Gr) (f : B5) : ∀ (j : Nat) v, g.cells[j]? = some v → (plCells s g f)[1 + j]? = some v := fun j v hv => by
  have hj := (List.getElem?_eq_some_iff.1 hv).1
  show (Value.int .u8 s :: (g.cells ++ f.cells))[1 + j]? = _
  rw [Nat.add_comm, List.getElem?_cons_succ, List.getElem?_append_left hj]; exact hv
theorem pl28 (s : Int) (g : Gr) (f : B5) : ∀ (j : Nat) v, f.cells[j]? = some v → (plCells s g f)[28 + j]? = some v := fun j v hv => by
  show ((Value.int .u8 s :: g.cells) ++ f.cells)[28 + j]? = _
  rw [List.getElem?_append_right (show 28 ≤ 28 + j by omega)]
  have : 28 + j - 28 = j := by omega
  show f.cells[28 + j - 28]? = _
  rw [this]; exact hv
theorem Own.cap {α : Type} {enc : α → List Value} {k T B : Nat} {l : List α} {A : Option Addr} {c : Nat} {w : World} (h : Own enc k T B l (.slice A l.length c) w) : l.length ≤ c := by
  rcases h.2 with ⟨h1, h2⟩ | ⟨g, cap, cur, h1, _, _, h2, _⟩
  · omega
  · cases h1; exact h2
/-- What a described plant gives. -/
structure PlantIn (w : World) (evs : List Ev) (A : Option Addr) (au : Au) (p : AuP) : Prop where
  l : evs.length = 5
  flt : FltOk evs
  fit : Fits evs au
  n : au.n ≤ 5
  ed : au.ed.length ≤ 25
  mr : au.mr.length ≤ 5
  ev : EvsAt w A evs
  at_ : Au.At w au p
theorem PlantIn.below {w w' : World} {evs : List Ev} {A : Option Addr} {au : Au} {p : AuP} (h : PlantIn w evs A au p) (hb : Below w.heap.size w w') : PlantIn w' evs A au p :=
  ⟨h.l, h.flt, h.fit, h.n, h.ed, h.mr, h.ev.below EvE.stays hb, h.at_.below hb⟩
def GivesPl (w : World) (e : Ending) (w' : World) : Prop := ∃ (evs : List Ev) (A : Option Addr) (c : Nat) (au : Au) (p : AuP), e = .returned (.tuple #[.slice A 5 c, au.val p]) ∧ 5 ≤ c ∧ Hid (PlantIn w' evs A au p) ∧ Below w.heap.size w w'

set_option maxRecDepth 100000 in
set_option maxHeartbeats 8000000 in
theorem make42_c (s : Int) (g : Gr) (f : B5) (w : World) (hs : 0 ≤ s ∧ s < 256) (hg : g.Ok) (hf : f.Ok) :
    Calls Try.prog 10 #[.agg (plCells s g f).toArray] w (GivesPl w) := by
  have W0 : Hid (Fro (w.heap.size + 1) ((w.alloc (.cells #[.int .u8 s, .int .u8 g.s, .int .u8 g.m, .int .u8 g.r0.x0, .int .u8 g.r0.x1, .int .u8 g.r0.x2, .int .u8 g.r0.x3, .int .u8 g.r0.x4, .int .u8 g.r1.x0, .int .u8 g.r1.x1, .int .u8 g.r1.x2, .int .u8 g.r1.x3, .int .u8 g.r1.x4, .int .u8 g.r2.x0, .int .u8 g.r2.x1, .int .u8 g.r2.x2, .int .u8 g.r2.x3, .int .u8 g.r2.x4, .int .u8 g.r3.x0, .int .u8 g.r3.x1, .int .u8 g.r3.x2, .int .u8 g.r3.x3, .int .u8 g.r3.x4, .int .u8 g.r4.x0, .int .u8 g.r4.x1, .int .u8 g.r4.x2, .int .u8 g.r4.x3, .int .u8 g.r4.x4, .int .u8 f.x0, .int .u8 f.x1, .int .u8 f.x2, .int .u8 f.x3, .int .u8 f.x4] 29)).alloc (.cells #[.slice none 0 0, .int .i64 0, .slice none 0 0, .slice none 0 0] 39)) ((w.alloc (.cells #[.int .u8 s, .int .u8 g.s, .int .u8 g.m, .int .u8 g.r0.x0, .int .u8 g.r0.x1, .int .u8 g.r0.x2, .int .u8 g.r0.x3, .int .u8 g.r0.x4, .int .u8 g.r1.x0, .int .u8 g.r1.x1, .int .u8 g.r1.x2, .int .u8 g.r1.x3, .int .u8 g.r1.x4, .int .u8 g.r2.x0, .int .u8 g.r2.x1, .int .u8 g.r2.x2, .int .u8 g.r2.x3, .int .u8 g.r2.x4, .int .u8 g.r3.x0, .int .u8 g.r3.x1, .int .u8 g.r3.x2, .int .u8 g.r3.x3, .int .u8 g.r3.x4, .int .u8 g.r4.x0, .int .u8 g.r4.x1, .int .u8 g.r4.x2, .int .u8 g.r4.x3, .int .u8 g.r4.x4, .int .u8 f.x0, .int .u8 f.x1, .int .u8 f.x2, .int .u8 f.x3, .int .u8 f.x4] 29)).alloc (.cells #[.slice none 0 0, .int .i64 0, .slice none 0 0, .slice none 0 0] 39))) := Fro.refl (by simp)
  have B0 : Hid (Below w.heap.size w ((w.alloc (.cells #[.int .u8 s, .int .u8 g.s, .int .u8 g.m, .int .u8 g.r0.x0, .int .u8 g.r0.x1, .int .u8 g.r0.x2, .int .u8 g.r0.x3, .int .u8 g.r0.x4, .int .u8 g.r1.x0, .int .u8 g.r1.x1, .int .u8 g.r1.x2, .int .u8 g.r1.x3, .int .u8 g.r1.x4, .int .u8 g.r2.x0, .int .u8 g.r2.x1, .int .u8 g.r2.x2, .int .u8 g.r2.x3, .int .u8 g.r2.x4, .int .u8 g.r3.x0, .int .u8 g.r3.x1, .int .u8 g.r3.x2, .int .u8 g.r3.x3, .int .u8 g.r3.x4, .int .u8 g.r4.x0, .int .u8 g.r4.x1, .int .u8 g.r4.x2, .int .u8 g.r4.x3, .int .u8 g.r4.x4, .int .u8 f.x0, .int .u8 f.x1, .int .u8 f.x2, .int .u8 f.x3, .int .u8 f.x4] 29)).alloc (.cells #[.slice none 0 0, .int .i64 0, .slice none 0 0, .slice none 0 0] 39))) := (Below.new _ _).alloc (by simp) _
  have C0 : Hid (HasAt w.heap.size (plCells s g f) ((w.alloc (.cells #[.int .u8 s, .int .u8 g.s, .int .u8 g.m, .int .u8 g.r0.x0, .int .u8 g.r0.x1, .int .u8 g.r0.x2, .int .u8 g.r0.x3, .int .u8 g.r0.x4, .int .u8 g.r1.x0, .int .u8 g.r1.x1, .int .u8 g.r1.x2, .int .u8 g.r1.x3, .int .u8 g.r1.x4, .int .u8 g.r2.x0, .int .u8 g.r2.x1, .int .u8 g.r2.x2, .int .u8 g.r2.x3, .int .u8 g.r2.x4, .int .u8 g.r3.x0, .int .u8 g.r3.x1, .int .u8 g.r3.x2, .int .u8 g.r3.x3, .int .u8 g.r3.x4, .int .u8 g.r4.x0, .int .u8 g.r4.x1, .int .u8 g.r4.x2, .int .u8 g.r4.x3, .int .u8 g.r4.x4, .int .u8 f.x0, .int .u8 f.x1, .int .u8 f.x2, .int .u8 f.x3, .int .u8 f.x4] 29)).alloc (.cells #[.slice none 0 0, .int .i64 0, .slice none 0 0, .slice none 0 0] 39))) := (HasAt.new w _ _ rfl).alloc _
  have R0 : Hid (BlkAt ((w.alloc (.cells #[.int .u8 s, .int .u8 g.s, .int .u8 g.m, .int .u8 g.r0.x0, .int .u8 g.r0.x1, .int .u8 g.r0.x2, .int .u8 g.r0.x3, .int .u8 g.r0.x4, .int .u8 g.r1.x0, .int .u8 g.r1.x1, .int .u8 g.r1.x2, .int .u8 g.r1.x3, .int .u8 g.r1.x4, .int .u8 g.r2.x0, .int .u8 g.r2.x1, .int .u8 g.r2.x2, .int .u8 g.r2.x3, .int .u8 g.r2.x4, .int .u8 g.r3.x0, .int .u8 g.r3.x1, .int .u8 g.r3.x2, .int .u8 g.r3.x3, .int .u8 g.r3.x4, .int .u8 g.r4.x0, .int .u8 g.r4.x1, .int .u8 g.r4.x2, .int .u8 g.r4.x3, .int .u8 g.r4.x4, .int .u8 f.x0, .int .u8 f.x1, .int .u8 f.x2, .int .u8 f.x3, .int .u8 f.x4] 29)).alloc (.cells #[.slice none 0 0, .int .i64 0, .slice none 0 0, .slice none 0 0] 39)) (w.heap.size + 1) 39 [.slice none 0 0, .int .i64 0, .slice none 0 0, .slice none 0 0]) := by
    have := BlkAt.new (w.alloc (.cells #[.int .u8 s, .int .u8 g.s, .int .u8 g.m, .int .u8 g.r0.x0, .int .u8 g.r0.x1, .int .u8 g.r0.x2, .int .u8 g.r0.x3, .int .u8 g.r0.x4, .int .u8 g.r1.x0, .int .u8 g.r1.x1, .int .u8 g.r1.x2, .int .u8 g.r1.x3, .int .u8 g.r1.x4, .int .u8 g.r2.x0, .int .u8 g.r2.x1, .int .u8 g.r2.x2, .int .u8 g.r2.x3, .int .u8 g.r2.x4, .int .u8 g.r3.x0, .int .u8 g.r3.x1, .int .u8 g.r3.x2, .int .u8 g.r3.x3, .int .u8 g.r3.x4, .int .u8 g.r4.x0, .int .u8 g.r4.x1, .int .u8 g.r4.x2, .int .u8 g.r4.x3, .int .u8 g.r4.x4, .int .u8 f.x0, .int .u8 f.x1, .int .u8 f.x2, .int .u8 f.x3, .int .u8 f.x4] 29)) 39 [.slice none 0 0, .int .i64 0, .slice none 0 0, .slice none 0 0]
    simpa [Hid] using this
  have HG := Lib.hid hg
  have HFL := Lib.hid hf
  have HS := Lib.hid hs
  clear hg hf hs
  go_enter Try.func10, Try.ntmps10
  go_wp2_with fail
  have HZ0 : Hid (w.heap.size + 2 ≤ ((w.alloc (.cells #[.int .u8 s, .int .u8 g.s, .int .u8 g.m, .int .u8 g.r0.x0, .int .u8 g.r0.x1, .int .u8 g.r0.x2, .int .u8 g.r0.x3, .int .u8 g.r0.x4, .int .u8 g.r1.x0, .int .u8 g.r1.x1, .int .u8 g.r1.x2, .int .u8 g.r1.x3, .int .u8 g.r1.x4, .int .u8 g.r2.x0, .int .u8 g.r2.x1, .int .u8 g.r2.x2, .int .u8 g.r2.x3, .int .u8 g.r2.x4, .int .u8 g.r3.x0, .int .u8 g.r3.x1, .int .u8 g.r3.x2, .int .u8 g.r3.x3, .int .u8 g.r3.x4, .int .u8 g.r4.x0, .int .u8 g.r4.x1, .int .u8 g.r4.x2, .int .u8 g.r4.x3, .int .u8 g.r4.x4, .int .u8 f.x0, .int .u8 f.x1, .int .u8 f.x2, .int .u8 f.x3, .int .u8 f.x4] 29)).alloc (.cells #[.slice none 0 0, .int .i64 0, .slice none 0 0, .slice none 0 0] 39)).heap.size) := by unfold Hid; simp
  generalize hW : ((w.alloc (.cells #[.int .u8 s, .int .u8 g.s, .int .u8 g.m, .int .u8 g.r0.x0, .int .u8 g.r0.x1, .int .u8 g.r0.x2, .int .u8 g.r0.x3, .int .u8 g.r0.x4, .int .u8 g.r1.x0, .int .u8 g.r1.x1, .int .u8 g.r1.x2, .int .u8 g.r1.x3, .int .u8 g.r1.x4, .int .u8 g.r2.x0, .int .u8 g.r2.x1, .int .u8 g.r2.x2, .int .u8 g.r2.x3, .int .u8 g.r2.x4, .int .u8 g.r3.x0, .int .u8 g.r3.x1, .int .u8 g.r3.x2, .int .u8 g.r3.x3, .int .u8 g.r3.x4, .int .u8 g.r4.x0, .int .u8 g.r4.x1, .int .u8 g.r4.x2, .int .u8 g.r4.x3, .int .u8 g.r4.x4, .int .u8 f.x0, .int .u8 f.x1, .int .u8 f.x2, .int .u8 f.x3, .int .u8 f.x4] 29)).alloc (.cells #[.slice none 0 0, .int .i64 0, .slice none 0 0, .slice none 0 0] 39)) = W at *
  clear hW
  have HZ : Hid (w.heap.size + 2 ≤ W.drew.heap.size) := HZ0.out
  have WD : Hid (Fro (w.heap.size + 1) W W.drew) := W0.out.drew
  have RD : Hid (BlkAt W.drew (w.heap.size + 1) 39 [.slice none 0 0, .int .i64 0, .slice none 0 0, .slice none 0 0]) := R0.out
  generalize hv0 : Value.agg #[.int .u8 s, .int .u8 g.s, .int .u8 g.m, .int .u8 g.r0.x0, .int .u8 g.r0.x1, .int .u8 g.r0.x2, .int .u8 g.r0.x3, .int .u8 g.r0.x4, .int .u8 g.r1.x0, .int .u8 g.r1.x1, .int .u8 g.r1.x2, .int .u8 g.r1.x3, .int .u8 g.r1.x4, .int .u8 g.r2.x0, .int .u8 g.r2.x1, .int .u8 g.r2.x2, .int .u8 g.r2.x3, .int .u8 g.r2.x4, .int .u8 g.r3.x0, .int .u8 g.r3.x1, .int .u8 g.r3.x2, .int .u8 g.r3.x3, .int .u8 g.r3.x4, .int .u8 g.r4.x0, .int .u8 g.r4.x1, .int .u8 g.r4.x2, .int .u8 g.r4.x3, .int .u8 g.r4.x4, .int .u8 f.x0, .int .u8 f.x1, .int .u8 f.x2, .int .u8 f.x3, .int .u8 f.x4] = v0
  clear hv0
  refine wp_region_held_drew (S := (fun V => Fro (w.heap.size + 1) W V)) (by kernel_rfl) ?_ (fun hHeld => ?_)
  · exact WD.out
  refine wpAnyH_take (i := 0) (v := ?_) rfl (by kernel_rfl) (by kernel_rfl) (by kernel_rfl) (fun _ _ _ h => h) (Or.inl ⟨?_, ?_⟩) hHeld ?_
  rotate_left
  · kernel_rfl
  · intro V hSw
    clear hSw
    first | (go_simp; done) | (go_simp; with_reducible rfl)
  try simp only [List.getElem_toArray, List.getElem_cons_zero, List.getElem_cons_succ, Act.put, List.setIfInBounds_toArray, List.set_cons_zero, List.set_cons_succ]
  refine wpAnyH_take (i := 1) (v := _) rfl (by kernel_rfl) (by kernel_rfl) (by kernel_rfl) (fun _ _ _ h => h) (yieldsIf_load_mid (by kernel_rfl) 27 (.tmp 4) rfl w.heap.size 28 rfl f.cells _ (fun V hSw => (C0.out.fro (show Fro (w.heap.size + 1) W V from hSw) (Nat.lt_succ_self _)).range (pl28 s g f)) Try.underlying27 rfl (by kernel_rfl)) hHeld ?_
  try simp only [List.getElem_toArray, List.getElem_cons_zero, List.getElem_cons_succ, Act.put, List.setIfInBounds_toArray, List.set_cons_zero, List.set_cons_succ]
  refine wpAnyH_take (i := 3) (v := ?_) rfl (by kernel_rfl) (by kernel_rfl) (by kernel_rfl) (fun _ _ _ h => h) (Or.inl ⟨?_, ?_⟩) hHeld ?_
  rotate_left
  · kernel_rfl
  · intro V hSw
    clear hSw
    first | (go_simp; done) | (go_simp; with_reducible rfl)
  try simp only [List.getElem_toArray, List.getElem_cons_zero, List.getElem_cons_succ, Act.put, List.setIfInBounds_toArray, List.set_cons_zero, List.set_cons_succ]
  refine wpAnyH_take (i := 4) (v := ?_) rfl (by kernel_rfl) (by kernel_rfl) (by kernel_rfl) (fun _ _ _ h => h) (Or.inl ⟨?_, ?_⟩) hHeld ?_
  rotate_left
  · kernel_rfl
  · intro V hSw
    have h := C0.out.fro (show Fro (w.heap.size + 1) W V from hSw) (Nat.lt_succ_self _)
    have a0 := h.c 0 _ rfl
    clear h
    clear hSw
    first | (go_simp; done) | (go_simp; with_reducible rfl)
  try simp only [List.getElem_toArray, List.getElem_cons_zero, List.getElem_cons_succ, Act.put, List.setIfInBounds_toArray, List.set_cons_zero, List.set_cons_succ]
  refine wpAnyH_take (i := 6) (v := ?_) rfl (by kernel_rfl) (by kernel_rfl) (by kernel_rfl) (fun _ _ _ h => h) (Or.inl ⟨?_, ?_⟩) hHeld ?_
  rotate_left
  · kernel_rfl
  · intro V hSw
    clear hSw
    first | (go_simp; done) | (go_simp; with_reducible rfl)
  try simp only [List.getElem_toArray, List.getElem_cons_zero, List.getElem_cons_succ, Act.put, List.setIfInBounds_toArray, List.set_cons_zero, List.set_cons_succ]
  refine wpAnyH_take (i := 7) (v := _) rfl (by kernel_rfl) (by kernel_rfl) (by kernel_rfl) (fun _ _ _ h => h) (yieldsIf_load_mid (by kernel_rfl) 26 (.tmp 10) rfl w.heap.size 1 rfl g.cells _ (fun V hSw => (C0.out.fro (show Fro (w.heap.size + 1) W V from hSw) (Nat.lt_succ_self _)).range (pl1 s g f)) Try.underlying26 rfl (by kernel_rfl)) hHeld ?_
  try simp only [List.getElem_toArray, List.getElem_cons_zero, List.getElem_cons_succ, Act.put, List.setIfInBounds_toArray, List.set_cons_zero, List.set_cons_succ]
  refine wpAnyH_ready (rs := [2]) (by kernel_rfl) (by simp) ?_
  refine AllReadyH.cons rfl (fun K hK => ?_) AllReadyH.nil
  go_simp
  refine (flagEvents_c f HFL.out _).mono ?_
  rintro e w2 ⟨evs, AE, cE, rfl, hl, hE, hb⟩
  have R1 := Lib.hid (WD.out.next hb)
  have R1B : Hid (BlkAt w2 (w.heap.size + 1) 39 [.slice none 0 0, .int .i64 0, .slice none 0 0, .slice none 0 0]) := RD.out.below hb RD.out.lt
  have R1Z := Lib.hid hb.size
  have E1 : Hid (Own Ev.cells 5 116 (w.heap.size + 2) evs (.slice AE evs.length cE) w2) := hE.out.base HZ.out
  have HL1 := Lib.hid hl
  clear hb hE hl
  refine hK.out _ _ ?_ (fun hHeld => ?_)
  · exact R1.out
  clear hK K
  try simp only [List.getElem_toArray, List.getElem_cons_zero, List.getElem_cons_succ, Act.put, List.setIfInBounds_toArray, List.set_cons_zero, List.set_cons_succ]
  refine wpAnyH_ready (rs := [5]) (by kernel_rfl) (by simp) ?_
  refine AllReadyH.cons rfl (fun K hK => ?_) AllReadyH.nil
  go_simp
  refine (setEvents_c s _ HS.out.1 HS.out.2).mono ?_
  rintro e w2 ⟨al, v, rfl, h5, ho, hb⟩
  obtain ⟨AA, cA, rfl⟩ := ho.out.form
  have R2 := Lib.hid (R1.out.next hb)
  have R2B : Hid (BlkAt w2 (w.heap.size + 1) 39 [.slice none 0 0, .int .i64 0, .slice none 0 0, .slice none 0 0]) := R1B.out.below hb R1B.out.lt
  have R2Z := Lib.hid hb.size
  have E2 := Lib.hid (E1.out.below hb (Nat.le_refl _))
  have O2 := Lib.hid ho.out
  have H5 := Lib.hid h5
  clear hb ho h5
  refine hK.out _ _ ?_ (fun hHeld => ?_)
  · exact R2.out
  clear hK K
  try simp only [List.getElem_toArray, List.getElem_cons_zero, List.getElem_cons_succ, Act.put, List.setIfInBounds_toArray, List.set_cons_zero, List.set_cons_succ]
  refine wpAnyH_ready (rs := [8]) (by kernel_rfl) (by simp) ?_
  refine AllReadyH.cons rfl (fun K hK => ?_) AllReadyH.nil
  go_simp
  refine (make3_c AA cA al g _ O2.out.ints H5.out (fun e => Own.none O2.out e) HG.out).mono ?_
  rintro e w2 ⟨au, p, rfl, hr, ha, hn, hed, hmr, hat, hb⟩
  have R3 := Lib.hid (R2.out.next hb)
  have R3B : Hid (BlkAt w2 (w.heap.size + 1) 39 [.slice none 0 0, .int .i64 0, .slice none 0 0, .slice none 0 0]) := R2B.out.below hb R2B.out.lt
  have E3 := Lib.hid (E2.out.below hb (Nat.le_refl _))
  have FI : Hid (Fits evs au) := ⟨hr, fun x hx => by rw [ha] at hx; have := (H5.out.rg x hx).2; rw [HL1.out.1]; omega⟩
  have HAO := Lib.hid hat.out
  have HB := Lib.hid (And.intro hn (And.intro hed hmr))
  have HZ3 := Lib.hid (Nat.le_trans HZ.out (Nat.le_trans R1Z.out R2Z.out))
  clear hb hr ha hn hed hmr hat
  refine hK.out _ _ ?_ (fun hHeld => ?_)
  · exact R3.out
  clear hK K
  try simp only [List.getElem_toArray, List.getElem_cons_zero, List.getElem_cons_succ, Act.put, List.setIfInBounds_toArray, List.set_cons_zero, List.set_cons_succ]
  refine wpAnyH_take (i := 9) (v := ?_) rfl (by kernel_rfl) (by kernel_rfl) (by kernel_rfl) (fun _ _ _ h => h) (Or.inl ⟨?_, ?_⟩) hHeld ?_
  rotate_left
  · kernel_rfl
  · intro V hSw
    clear hSw
    first | (go_simp; done) | (go_simp; with_reducible rfl)
  try simp only [List.getElem_toArray, List.getElem_cons_zero, List.getElem_cons_succ, Act.put, List.setIfInBounds_toArray, List.set_cons_zero, List.set_cons_succ]
  have r0 := R3B.out.cell 0
  have r1 := R3B.out.cell 1
  have r2 := R3B.out.cell 2
  have r3 := R3B.out.cell 3
  have f0 := R3B.out.free 0
  have f1 := R3B.out.free 1
  have f2 := R3B.out.free 2
  have f3 := R3B.out.free 3
  refine wpAnyH_ready (rs := [10]) (by kernel_rfl) (by simp) ?_
  refine AllReadyH.cons rfl (fun K hK => ?_) AllReadyH.nil
  go_simp
  refine hK.out _ _ ?_ (fun hHeld => ?_)
  · exact ((((R3.out.setCell (Nat.le_refl _) _).setCell (Nat.le_refl _) _).setCell (Nat.le_refl _) _).setCell (Nat.le_refl _) _)
  clear hK K
  try simp only [List.getElem_toArray, List.getElem_cons_zero, List.getElem_cons_succ, Act.put, List.setIfInBounds_toArray, List.set_cons_zero, List.set_cons_succ]
  refine wpAnyH_done (by kernel_rfl) ?_ _
  go_wp2
  refine bodyPost_ret (v := .tuple #[.slice AE 5 cE, au.val p]) (by simp [results, Try.results10, go_sem, *]) rfl ?_
  have FF : Fro (w.heap.size + 1) W ((((w2.setCell ⟨w.heap.size + 1, 0, none⟩ (.slice p.A1 au.al.length p.c1)).setCell ⟨w.heap.size + 1, 1, none⟩ (.int .i64 au.n)).setCell ⟨w.heap.size + 1, 2, none⟩ (.slice p.A2 au.mr.length p.c2)).setCell ⟨w.heap.size + 1, 3, none⟩ (.slice p.A3 au.ed.length p.c3)) := ((((R3.out.setCell (Nat.le_refl _) _).setCell (Nat.le_refl _) _).setCell (Nat.le_refl _) _).setCell (Nat.le_refl _) _)
  have st : ∀ {α : Type} {enc : α → List Value} {kk TT B : Nat} {l : List α} {v : Value} (V : World) (j : Nat) (u : Value), w.heap.size + 2 ≤ B → Own enc kk TT B l v V → Own enc kk TT B l v (V.setCell ⟨w.heap.size + 1, j, none⟩ u) := fun V j u hB h => ownsRow_setCell_below h (show w.heap.size + 1 < _ by omega) u
  have hz3 := HZ3.out
  have sm := HAO.out.sm
  refine ⟨evs, AE, cE, au, p, rfl, by have := Own.cap E3.out; have := HL1.out.1; omega, ⟨HL1.out.1, HL1.out.2, FI.out, HB.out.1, HB.out.2.1, HB.out.2.2, Own.reads (fun _ => rfl) (st _ _ _ (Nat.le_refl _) (st _ _ _ (Nat.le_refl _) (st _ _ _ (Nat.le_refl _) (st _ _ _ (Nat.le_refl _) E3.out)))), OwnI.ints (st _ _ _ hz3 (st _ _ _ hz3 (st _ _ _ hz3 (st _ _ _ hz3 HAO.out.al)))), OwnI.ints (st _ _ _ hz3 (st _ _ _ hz3 (st _ _ _ hz3 (st _ _ _ hz3 HAO.out.mr)))), Own.reads (fun _ => rfl) (st _ _ _ hz3 (st _ _ _ hz3 (st _ _ _ hz3 (st _ _ _ hz3 HAO.out.ed)))), by omega, by omega, by omega⟩, B0.out.trans (FF.b.mono (by omega))⟩
end Go.Proofs.Ytkbmenpggiojeaa
