/-
  The chapter's examples: events and plants.
-/
import Derived.Test.YtkbmenpggiojeaaLg
import Derived.Test.YtkbmenpggiojeaaLd
import Derived.Test.YtkbmenpggiojeaaKt
namespace Go.Proofs.Ytkbmenpggiojeaa
open Go.RowKit
set_option linter.unusedSimpArgs false
set_option linter.unusedVariables false

def evF : List Ev := [⟨⟨#[102]⟩, false, false, false, 1⟩, ⟨⟨#[111]⟩, false, true, false, 0⟩]
def auF : Bool → Au
  | false => ⟨[0, 1], 2, [], [⟨0, 0, 1⟩, ⟨1, 1, 1⟩]⟩
  | true => ⟨[0, 1], 2, [], [⟨0, 0, 1⟩, ⟨0, 1, 0⟩, ⟨1, 1, 1⟩]⟩

/-- A block that holds the cells of a list reads as the list. -/
theorem SlAt.blk {α : Type} {enc : α → List Value} {k : Nat} (hk : ∀ x, (enc x).length = k) {w : World} {g : Nat} {T : TypeId} (l : List α) (h : BlkAt w g T (l.flatMap enc)) : SlAt (fun _ x vs => vs = enc x) k w (some ⟨g, 0, none⟩) l :=
  fun _ => ⟨g, 0, rfl, h.lt, fun i x hx => ⟨enc x, hk x, rfl, fun j u hj => by
    have hj' : j < k := by rw [← hk x]; exact (List.getElem?_eq_some_iff.1 hj).1
    rw [Nat.zero_add, h.cell, flat_get hk l i j x hx hj', hj]⟩⟩
theorem BlkAt.newAt {W : World} {T : TypeId} {cs : List Value} {g : Nat} (hg : g = W.heap.size) {o : Obj} (ho : o = .cells cs.toArray T) : BlkAt (W.alloc o) g T cs := by subst hg; subst ho; exact BlkAt.new W T cs
theorem flat_ints (l : List Int) : l.flatMap (fun x => [Value.int .i64 x]) = l.map (Value.int .i64) := by
  induction l with
  | nil => rfl
  | cons a l ih => rw [List.flatMap_cons, ih]; rfl
theorem IntsAt.blk {w : World} {g : Nat} {T : TypeId} (l : List Int) (h : BlkAt w g T (l.map (Value.int .i64))) : IntsAt w (some ⟨g, 0, none⟩) l :=
  SlAt.blk (enc := fun x => [.int .i64 x]) (fun _ => rfl) l (by rw [flat_ints]; exact h)

def GivesF (b : Bool) (w : World) (e : Ending) (w' : World) : Prop := ∃ AE cE p, e = .returned (.tuple #[.slice AE 2 cE, (auF b).val p]) ∧ Hid (EvsAt w' AE evF) ∧ Hid (Au.At w' (auF b) p) ∧ Below w.heap.size w w'

set_option maxRecDepth 100000 in
set_option maxHeartbeats 1000000 in
theorem faultF_c (w : World) : Calls Try.prog 32 #[.bool false] w (GivesF false w) := by
  go_enter Try.func32, Try.ntmps32
  go_wp2_with fail
  go_region
  go_wp2
  refine bodyPost_ret (v := .tuple #[.slice (some ⟨w.heap.size + 1, 0, none⟩) 2 2, (auF false).val ⟨some ⟨w.heap.size + 1 + 1, 0, none⟩, 2, none, 0, some ⟨w.heap.size + 1 + 1 + 1, 0, none⟩, 2⟩]) (by simp [results, Try.results32, go_sem, auF]) rfl ?_
  refine ⟨some ⟨w.heap.size + 1, 0, none⟩, 2, ⟨some ⟨w.heap.size + 1 + 1, 0, none⟩, 2, none, 0, some ⟨w.heap.size + 1 + 1 + 1, 0, none⟩, 2⟩, rfl, Lib.hid (SlAt.blk (enc := Ev.cells) (fun _ => rfl) (T := 116) evF ?_), Lib.hid ⟨IntsAt.blk (T := 3) [0, 1] ?_, SlAt.nil, SlAt.blk (enc := Ed.cells) (T := 73) (fun _ => rfl) (auF false).ed ?_, by simp [auF], by simp [auF], by simp [auF]⟩, ((((((Below.new w _).alloc (by simp) _).alloc (by simp; omega) _).alloc (by simp; omega) _).alloc (by simp; omega) _)).drew⟩
  · exact ((((BlkAt.newAt (by simp) rfl).alloc _).alloc _).alloc _)
  · exact (((BlkAt.newAt (by simp) rfl).alloc _).alloc _)
  · exact ((BlkAt.newAt (by simp) rfl).alloc _)
set_option maxRecDepth 100000 in
set_option maxHeartbeats 1000000 in
theorem faultT_c (w : World) : Calls Try.prog 32 #[.bool true] w (GivesF true w) := by
  go_enter Try.func32, Try.ntmps32
  go_wp2_with fail
  go_region
  go_wp2
  refine bodyPost_ret (v := .tuple #[.slice (some ⟨w.heap.size + 1, 0, none⟩) 2 2, (auF true).val ⟨some ⟨w.heap.size + 1 + 1, 0, none⟩, 2, none, 0, some ⟨w.heap.size + 1 + 1 + 1 + 1 + 1, 0, none⟩, 3⟩]) (by simp [results, Try.results32, go_sem, auF]) rfl ?_
  refine ⟨some ⟨w.heap.size + 1, 0, none⟩, 2, ⟨some ⟨w.heap.size + 1 + 1, 0, none⟩, 2, none, 0, some ⟨w.heap.size + 1 + 1 + 1 + 1 + 1, 0, none⟩, 3⟩, rfl, Lib.hid (SlAt.blk (enc := Ev.cells) (fun _ => rfl) (T := 116) evF ?_), Lib.hid ⟨IntsAt.blk (T := 3) [0, 1] ?_, SlAt.nil, SlAt.blk (enc := Ed.cells) (T := 73) (fun _ => rfl) (auF true).ed ?_, by simp [auF], by simp [auF], by simp [auF]⟩, (((((((Below.new w _).alloc (by simp) _).alloc (by simp; omega) _).alloc (by simp; omega) _).alloc (by simp; omega) _)).alloc (by simp; omega) _).drew⟩
  · exact (((((BlkAt.newAt (by simp) rfl).alloc _).alloc _).alloc _).alloc _)
  · exact ((((BlkAt.newAt (by simp) rfl).alloc _).alloc _).alloc _)
  · exact (BlkAt.newAt (by simp) rfl)
end Go.Proofs.Ytkbmenpggiojeaa
