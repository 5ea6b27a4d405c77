/-
  A right problem.
-/
import Derived.Test.YtkbmenpggiojeaaKj
namespace Go.Proofs.Ytkbmenpggiojeaa
open Go.RowKit
set_option linter.unusedSimpArgs false
set_option linter.unusedVariables false

structure PrRight (au : Au) (forb unc : List Int) : Prop where
  ha : au.Right
  hf : setOk forb au.n forb.length
  hu : setOk unc 32 unc.length

set_option maxHeartbeats 400000 in
theorem problem_c (au : Au) (forb unc : List Int) (p : PrP) (w : World) (hp : PrAt w au forb unc p) :
    Calls Try.prog 66 #[prVal au forb unc p] w (Tells (PrRight au forb unc) w) := by
  have HA := Lib.hid (Automaton_c au p.a (w.alloc (.cells (prCells au forb unc p) 78)) (hp.au.below (Below.new _ _)))
  obtain ⟨al, m, mr, ed⟩ := au
  obtain ⟨⟨A1, c1, A2, c2, A3, c3⟩, AF, cF, AU, cU⟩ := p
  have HP := Lib.hid hp
  have lf : forb.length ≤ 140737488355328 := hp.lf
  have lu : unc.length ≤ 140737488355328 := hp.lu
  clear hp
  dsimp only [prVal, prCells, Au.val] at *
  go_enter Try.func66, Try.ntmps66
  go_wp2_with fail
  refine HA.out.mono ?_
  intro e w1 hs
  rcases hs.no1 with ⟨rfl, S, hb⟩ | ⟨rfl, S, hb⟩
  · go_wp2
    go_ret
    exact Tells.no (fun h => S.out h.ha) ((Below.new _ _).trans (hb.mono (by simp)))
  have q1 : w1.cell? ⟨w.heap.size, 1, none⟩ = some (.int .i64 m) := old_cell hb (new_cell w _ [_, _, _, _, _, _] _ 1 rfl) (by simp)
  have q4 : w1.cell? ⟨w.heap.size, 4, none⟩ = some (.slice AF forb.length cF) := old_cell hb (new_cell w _ [_, _, _, _, _, _] _ 4 rfl) (by simp)
  have q5 : w1.cell? ⟨w.heap.size, 5, none⟩ = some (.slice AU unc.length cU) := old_cell hb (new_cell w _ [_, _, _, _, _, _] _ 5 rfl) (by simp)
  have BW : Hid (Below w.heap.size w w1) := (Below.new _ _).trans (hb.mono (by simp))
  clear hb
  go_wp2_with fail
  refine (set_c AF cF forb m _ (HP.out.hf.below IntE.stays BW.out) (by unfold maxLen; omega)).mono ?_
  intro e w2 hs
  rcases hs.no1 with ⟨rfl, S2, rfl⟩ | ⟨rfl, S2, rfl⟩
  · go_wp2
    go_ret
    exact Tells.no (fun h => S2.out h.hf) BW.out
  go_wp2_with fail
  refine (set_c AU cU unc 32 _ (HP.out.hu.below IntE.stays BW.out) (by unfold maxLen; omega)).mono ?_
  rintro e w2 ⟨r, rfl, hr, rfl⟩
  have HR := Lib.hid hr
  clear hr
  go_wp2
  go_ret
  exact ⟨r, rfl, by rw [HR.out]; exact ⟨fun h => ⟨S.out, S2.out, h⟩, fun h => h.hu⟩, BW.out⟩
end Go.Proofs.Ytkbmenpggiojeaa
