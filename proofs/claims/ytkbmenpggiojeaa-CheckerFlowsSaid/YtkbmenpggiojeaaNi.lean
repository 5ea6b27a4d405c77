/-
  The law's own proof of the kept states (chapter 46): the places.
-/
import Derived.Test.YtkbmenpggiojeaaNh
import Derived.RegionTactic
import Derived.BigRegion
namespace Go.Proofs.Ytkbmenpggiojeaa
open Go.RowKit
set_option linter.unusedSimpArgs false
set_option linter.unusedVariables false
set_option maxRecDepth 100000

/-- The places of the first k numbers of a list. -/
structure PlUp (n : Nat) (l : List Int) (k : Nat) (kp : List Int) : Prop where
  ln : kp.length = n
  at_ : ∀ i : Nat, i < n → (∃ j : Nat, j < k ∧ kp[i]? = some (j : Int) ∧ l[j]? = some (i : Int)) ∨ kp[i]? = some (-1) ∧ ∀ j, j < k → l[j]? ≠ some (i : Int)
theorem PlUp.step {n : Nat} {l kp : List Int} {k x : Nat} (h : PlUp n l k kp) (hx : l[k]? = some (x : Int)) (hn : x < n) : PlUp n l (k + 1) (kp.set x k) := by
  refine ⟨by rw [List.length_set]; exact h.ln, fun i hi => ?_⟩
  by_cases e : i = x
  · subst e
    exact .inl ⟨k, by omega, by rw [List.getElem?_set_self (by have := h.ln; omega)], hx⟩
  · rw [List.getElem?_set_ne (by omega)]
    rcases h.at_ i hi with ⟨j, h1, h2⟩ | ⟨h1, h2⟩
    · exact .inl ⟨j, by omega, h2⟩
    · refine .inr ⟨h1, fun j hj hc => ?_⟩
      by_cases e2 : j = k
      · subst e2; rw [hx] at hc; have : (x : Int) = i := by simpa using hc
        omega
      · exact h2 j (by omega) hc
theorem PlUp.fin {n : Nat} {l kp : List Int} (h : PlUp n l l.length kp) (hi : incr l) : PlOf n l kp := by
  refine ⟨h.ln, fun i hn => ?_, hi⟩
  rcases h.at_ i hn with ⟨j, _, h2⟩ | ⟨h1, h2⟩
  · exact .inl ⟨j, h2⟩
  · refine .inr ⟨h1, fun hm => ?_⟩
    obtain ⟨j, hj, e⟩ := List.mem_iff_getElem.1 hm
    exact h2 j hj (by rw [List.getElem?_eq_getElem hj, e])

/-- Two lists of the call's own, beside what lay there. -/
structure ProvS (V wx : World) (gk gr n : Nat) (kp rp : List Int) : Prop where
  bk : BlkAt wx gk 3 (kp.map (.int .i64))
  br : BlkAt wx gr 3 (rp.map (.int .i64))
  ne : gk ≠ gr
  lk : V.heap.size ≤ gk
  lr : V.heap.size ≤ gr
  below : Below V.heap.size V wx
theorem ProvS.setK {V wx : World} {gk gr n : Nat} {kp rp : List Int} (D : ProvS V wx gk gr n kp rp) (i : Nat) (x : Int) : ProvS V (wx.setCell ⟨gk, i, none⟩ (.int .i64 x)) gk gr n (kp.set i x) rp := by
  obtain ⟨hk, hr, hn, l1, l2, hb⟩ := D
  refine ⟨?_, hr.far (by simp only; omega) _, hn, l1, l2, hb.setCell (by simp only; omega) _⟩
  have := hk.set_ i (.int .i64 x)
  rwa [← List.map_set] at this
theorem ProvS.setR {V wx : World} {gk gr n : Nat} {kp rp : List Int} (D : ProvS V wx gk gr n kp rp) (i : Nat) (x : Int) : ProvS V (wx.setCell ⟨gr, i, none⟩ (.int .i64 x)) gk gr n kp (rp.set i x) := by
  obtain ⟨hk, hr, hn, l1, l2, hb⟩ := D
  refine ⟨hk.far (by simp only; omega) _, ?_, hn, l1, l2, hb.setCell (by simp only; omega) _⟩
  have := hr.set_ i (.int .i64 x)
  rwa [← List.map_set] at this
theorem ProvS.kcell {V wx : World} {gk gr n : Nat} {kp rp : List Int} (D : ProvS V wx gk gr n kp rp) {i : Nat} {x : Int} (h : kp[i]? = some x) : wx.cell? ⟨gk, i, none⟩ = some (.int .i64 x) := by
  rw [D.bk.cell, List.getElem?_map, h]; rfl
theorem ProvS.rcell {V wx : World} {gk gr n : Nat} {kp rp : List Int} (D : ProvS V wx gk gr n kp rp) {i : Nat} {x : Int} (h : rp[i]? = some x) : wx.cell? ⟨gr, i, none⟩ = some (.int .i64 x) := by
  rw [D.br.cell, List.getElem?_map, h]; rfl
theorem heap2 (w : World) (o0 o1 : Obj) : ((w.alloc o0).alloc o1).drew.heap[w.heap.size]? = some o0 ∧ ((w.alloc o0).alloc o1).drew.heap[w.heap.size + 1]? = some o1 := by
  refine ⟨?_, ?_⟩
  · show ((w.heap.push o0).push o1)[w.heap.size]? = _
    rw [Array.getElem?_push, if_neg (by simp only [Array.size_push]; omega), Array.getElem?_push, if_pos rfl]
  · show ((w.heap.push o0).push o1)[w.heap.size + 1]? = _
    rw [Array.getElem?_push, if_pos (by simp only [Array.size_push])]
end Go.Proofs.Ytkbmenpggiojeaa
