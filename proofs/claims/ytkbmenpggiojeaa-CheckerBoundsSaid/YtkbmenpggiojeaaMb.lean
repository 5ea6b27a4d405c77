/-
  The chapter's examples, decided: what the certificates, the bounds and the lassos prove.
-/
import Derived.Test.YtkbmenpggiojeaaMa
namespace Go.Proofs.Ytkbmenpggiojeaa
open Go.RowKit
set_option linter.unusedSimpArgs false
set_option linter.unusedVariables false

theorem nat_lt2 {i : Nat} (h : i < 2) : i = 0 ∨ i = 1 := by omega
theorem nat_lt3 {i : Nat} (h : i < 3) : i = 0 ∨ i = 1 ∨ i = 2 := by omega
theorem setOk_nil (n : Int) : setOk [] n 0 := fun i x h => absurd h (by omega)
theorem setOk_one {a n : Int} (h : 0 ≤ a) (h1 : a < n) : setOk [a] n 1 := fun i x hi hx => by
  obtain rfl : i = 0 := by omega
  simp at hx; subst hx
  exact ⟨h, h1, fun y h => absurd h (by omega)⟩
theorem setOk_two {a b n : Int} (h : 0 ≤ a) (h1 : b < n) (h2 : a < b) : setOk [a, b] n 2 := fun i x hi hx => by
  rcases nat_lt2 hi with rfl | rfl
  · simp at hx; subst hx
    exact ⟨h, by omega, fun y h => absurd h (by omega)⟩
  · simp at hx; subst hx
    exact ⟨by omega, h1, fun y _ hy => by simp at hy; omega⟩

def auK : Au := ⟨[0], 2, [1], [⟨0, 0, 1⟩]⟩
def rmK : List Rm := [⟨0, 2, 2, 0⟩, ⟨1, 1, 1, -1⟩]
theorem auK_right : auK.Right := by
  refine ⟨setOk_one (by omega) (by omega), by decide, by decide, setOk_one (by decide) (by decide), fun i hi x hx => ?_⟩
  obtain rfl : i = 0 := by simp [auK] at hi; omega
  simp [auK] at hx; subst hx
  simp [auK]
theorem auF_right (b : Bool) : (auF b).Right := by
  cases b
  · refine ⟨setOk_two (by omega) (by omega) (by omega), by decide, by decide, setOk_nil _, fun i hi x hx => ?_⟩
    rcases nat_lt2 hi with rfl | rfl
    · simp [auF] at hx; subst hx; simp [auF]
    · simp [auF] at hx; subst hx; simp [auF]
  · refine ⟨setOk_two (by omega) (by omega) (by omega), by decide, by decide, setOk_nil _, fun i hi x hx => ?_⟩
    rcases nat_lt3 hi with rfl | rfl | rfl
    · simp [auF] at hx; subst hx; simp [auF]
    · simp [auF] at hx; subst hx; simp [auF]
    · simp [auF] at hx; subst hx; simp [auF]
theorem keptK : KeptOk auK [1] [0] [] [] rmK := by
  refine ⟨⟨auK_right, setOk_one (by decide) (by decide), setOk_one (by decide) (by decide)⟩, rfl, ⟨setOk_nil _, rfl, fun j hj r hr => ?_⟩, fun k i d h => by simp at h, fun r hr => ?_⟩
  · rcases nat_lt2 hj with rfl | rfl
    · simp [rmK] at hr; subst hr; simp [auK]
    · simp [rmK] at hr; subst hr; simp [auK, rmK]
  · simp [rmK] at hr
    rcases hr with rfl | rfl
    · exact .inr (.inl ⟨rfl, by simp, ⟨0, 0, 1⟩, by simp [outOf, auK], rfl, ⟨1, 1, 1, -1⟩, by simp [rmK], rfl, by simp⟩)
    · exact .inl ⟨rfl, rfl, by simp⟩
theorem keptK1 : ¬ KeptOk auK [1] [0] [] [] [⟨0, 2, 2, 0⟩] := fun h => by
  have := h.dv.len
  simp [auK] at this
theorem plantF (b : Bool) : PlantOk 2 (auF b) 1 := ⟨auF_right b, by omega, by omega, fun x hx => by cases b <;> (simp [auF] at hx; omega)⟩
def paF : List Pa := [⟨0, 0, -1⟩, ⟨1, 0, 0⟩]
theorem boundF : BoundOk evF (auF false) 1 1 paF := by
  refine ⟨plantF false, by decide, by omega, fun k p hp => ?_, by simp [ranksOf, paF, pkey], fun p hp => ?_⟩
  · have hk : k < 2 := (List.getElem?_eq_some_iff.1 hp).1
    rcases nat_lt2 hk with rfl | rfl
    · simp [paF] at hp; subst hp; exact ⟨⟨by simp, by simp [auF], by simp, by simp [auF], by simp⟩, by simp [ranksOf, paF]⟩
    · simp [paF] at hp; subst hp; exact ⟨⟨by simp, by simp [auF], by simp, by simp [auF], by simp⟩, by simp [ranksOf, paF, pkey]⟩
  · simp [paF] at hp
    rcases hp with rfl | rfl
    · refine ⟨fun x hx => ?_, fun x hx => ?_, fun x hx y hy => ?_⟩
      · simp [outOf, auF] at hx; subst hx
        intro _
        exact ⟨fun _ => ⟨0, by simp [ranksOf, paF, pkey], by omega⟩, fun h => absurd ⟨rfl, rfl, rfl⟩ h⟩
      · simp [outOf, auF] at hx; subst hx
        intro _ h; exact absurd rfl h
      · simp [outOf, auF] at hx; subst hx
        intro _ h; exact absurd h (by simp [evAt, evF])
    · refine ⟨fun x hx => ?_, fun x hx => ?_, fun x hx y hy => ?_⟩
      · simp [outOf, auF] at hx; subst hx
        intro h; exact absurd h (by simp [evAt, evF])
      · simp [outOf, auF] at hx; subst hx
        intro _ h; exact absurd rfl h
      · simp [outOf, auF] at hx hy; subst hx; subst hy
        intro h; simp at h
theorem boundF0 : ¬ BoundOk evF (auF false) 1 0 paF := fun h => by
  have := (h.pr ⟨0, 0, -1⟩ (by simp [paF])).m1 ⟨0, 0, 1⟩ (by simp [outOf, auF])
  obtain ⟨r, hr, hlt⟩ := (this rfl).1 ⟨rfl, rfl, rfl⟩
  simp [ranksOf, paF, pkey] at hr
  omega
def lsF : Ls := ⟨[0], [1], [], [1]⟩
theorem lassoF : LassoOk evF (auF true) 1 lsF :=
  ⟨plantF true, by decide, by simp [lsF], by decide, by decide, by decide, by decide, ⟨0, by simp [lsF], rfl⟩, by simp [faultyP, lsF], fun ⟨x, hx, he⟩ => by simp [lsF] at hx; subst hx; simp [evAt, evF] at he, by decide, by decide⟩
theorem lassoF0 : ¬ LassoOk evF (auF false) 1 lsF := fun h => by
  have := h.y1
  revert this
  decide
end Go.Proofs.Ytkbmenpggiojeaa
