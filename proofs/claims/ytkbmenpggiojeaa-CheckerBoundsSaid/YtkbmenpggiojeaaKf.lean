/-
  The edges of each state, as a slice of slices.
-/
import Derived.Test.YtkbmenpggiojeaaKo
import Derived.Test.YtkbmenpggiojeaaKc
namespace Go.Proofs.Ytkbmenpggiojeaa
open Go.RowKit
set_option linter.unusedSimpArgs false
set_option linter.unusedVariables false

/-- A slice that reads as a list. -/
def RowE {α : Type} (E : Reading α) (k : Nat) : Reading (List α) := fun w x vs => ∃ A c, vs = [.slice A x.length c] ∧ x.length ≤ 140737488355328 ∧ SlAt E k w A x
theorem RowE.stays {α : Type} {E : Reading α} {k : Nat} (h : Stays E) : Stays (RowE E k) := fun _ _ _ _ hb ⟨A, c, h1, h2, h3⟩ => ⟨A, c, h1, h2, h3.below h hb⟩
abbrev RowsAt {α : Type} (E : Reading α) (k : Nat) := SlAt (RowE E k) 1

theorem RowsAt.at {α : Type} {E : Reading α} {k : Nat} {w : World} {A : Option Addr} {l : List (List α)} (h : RowsAt E k w A l) {i : Nat} (hi : i < l.length) :
    ∃ b off x A' c', A = some ⟨b, off, none⟩ ∧ b < w.heap.size ∧ l[i]? = some x ∧ w.cell? ⟨b, off + i, none⟩ = some (.slice A' x.length c') ∧ x.length ≤ 140737488355328 ∧ SlAt E k w A' x := by
  obtain ⟨b, off, x, vs, hA, hlt, hx, _, ⟨A', c', rfl, h1, h2⟩, hc⟩ := SlAt.at h hi
  exact ⟨b, off, x, A', c', hA, hlt, hx, by simpa using hc 0 _ rfl, h1, h2⟩

def Ed.cells (x : Ed) : List Value := [.int .i64 x.src, .int .i64 x.ev, .int .i64 x.dst]
theorem flat_get {α : Type} {enc : α → List Value} {k : Nat} (hk : ∀ x, (enc x).length = k) : ∀ (l : List α) (i j : Nat) (x : α), l[i]? = some x → j < k → (l.flatMap enc)[i * k + j]? = (enc x)[j]? := by
  intro l
  induction l with
  | nil => intro i j x h; simp at h
  | cons a l ih =>
    intro i j x h hj
    rw [List.flatMap_cons]
    cases i with
    | zero =>
      simp only [List.getElem?_cons_zero, Option.some.injEq] at h
      subst h
      rw [Nat.zero_mul, Nat.zero_add, List.getElem?_append_left (by rw [hk]; exact hj)]
    | succ i =>
      simp only [List.getElem?_cons_succ] at h
      rw [List.getElem?_append_right (by rw [hk, Nat.succ_mul]; omega), hk, show (i + 1) * k + j - k = i * k + j from by rw [Nat.succ_mul]; omega]
      exact ih i j x h hj
theorem flat_len {α : Type} {enc : α → List Value} {k : Nat} (hk : ∀ x, (enc x).length = k) (l : List α) : (l.flatMap enc).length = l.length * k := by
  induction l with
  | nil => simp
  | cons a l ih => rw [List.flatMap_cons, List.length_append, hk, ih, List.length_cons, Nat.succ_mul]; omega

/-- A row of the call's own, read. -/
theorem SlAt.of_own {α : Type} {enc : α → List Value} {k : Nat} (hk : ∀ x, (enc x).length = k) {w : World} {base : Nat} {e : TypeId} {v : Value} {l : List α} (h : w.ownsRow base e k v l.length (l.flatMap enc)) :
    ∃ A c, v = .slice A l.length c ∧ SlAt (fun _ x vs => vs = enc x) k w A l := by
  rcases h.2 with ⟨rfl, h0⟩ | ⟨g, cap, cur, rfl, r1, r2, r3⟩
  · have : l = [] := List.eq_nil_of_length_eq_zero h0
    subst this
    exact ⟨none, 0, rfl, SlAt.nil⟩
  · refine ⟨some ⟨g, 0, none⟩, cap, rfl, fun _ => ⟨g, 0, rfl, (Array.getElem?_eq_some_iff.1 r2).1, fun i x hx => ⟨enc x, hk x, rfl, fun j u hj => ?_⟩⟩⟩
    have hi := (List.getElem?_eq_some_iff.1 hx).1
    have hj' : j < k := by rw [← hk x]; exact (List.getElem?_eq_some_iff.1 hj).1
    have hlt : i * k + j < l.length * k := by
      have : (i + 1) * k ≤ l.length * k := Nat.mul_le_mul_right k hi
      rw [Nat.succ_mul] at this; omega
    rw [Nat.zero_add, h.cellAt _ hlt, flat_get hk l i j x hx hj', hj]

def outOf (l : List Ed) (i : Nat) : List Ed := l.filter fun x => decide (x.src = (i : Int))
def outs (l : List Ed) (n : Nat) : List (List Ed) := (List.range n).map (outOf l)
theorem outOf_snoc (l : List Ed) (x : Ed) (i : Nat) : outOf (l ++ [x]) i = if x.src = (i : Int) then outOf l i ++ [x] else outOf l i := by
  by_cases h : x.src = (i : Int) <;> simp [outOf, h]
theorem outOf_len (l : List Ed) (i : Nat) : (outOf l i).length ≤ l.length := List.length_filter_le _ _

abbrev OutG (w : World) (bo base n : Nat) (l : List Ed) : Prop := Gathers 37 73 3 w bo base n (fun i => (outOf l i).length) (fun i => (outOf l i).flatMap Ed.cells)
theorem OutG.rows {w : World} {bo base n : Nat} {l : List Ed} (h : OutG w bo base n l) (hl : l.length ≤ 140737488355328) : RowsAt EdE 3 w (some ⟨bo, 0, none⟩) (outs l n) := by
  intro hne
  obtain ⟨vs, h1, h2, h3, _⟩ := h.ex
  refine ⟨bo, 0, rfl, h1.lt, fun i x hx => ?_⟩
  have hi : i < n := by have := (List.getElem?_eq_some_iff.1 hx).1; simpa [outs] using this
  have hx' : x = outOf l i := by simp [outs, hi] at hx; exact hx.symm
  subst hx'
  have hv : vs[i]? = some vs[i] := List.getElem?_eq_getElem (by omega)
  obtain ⟨A, c, he, hs⟩ := SlAt.of_own (k := 3) (enc := Ed.cells) (fun _ => rfl) (h3 i _ hv)
  refine ⟨[vs[i]], rfl, ⟨A, c, by rw [he], Nat.le_trans (outOf_len l i) hl, hs⟩, fun j u hj => ?_⟩
  cases j with
  | zero => simp only [List.getElem?_cons_zero, Option.some.injEq] at hj; rw [← hj, Nat.mul_one, Nat.add_zero, Nat.zero_add, h1.cell, hv]
  | succ j => simp at hj

theorem OutG.next {w w1 : World} {bo base n : Nat} {l : List Ed} (h : OutG w bo base n l) (hbo : bo < base) {s : Nat} (hs : s < n) {v : Value} (hv : w.cell? ⟨bo, s, none⟩ = some v) {ev dst : Int} {A' : Option Addr} {c' : Nat}
    (h' : w1.ownsRow base 73 3 (.slice A' ((outOf l s).length + 1) c') ((outOf l s).length + 1) ((outOf l s).flatMap Ed.cells ++ Ed.cells ⟨s, ev, dst⟩)) (hg : w.grownBy w1 v.ownBlock)
    (hb : (Value.slice A' ((outOf l s).length + 1) c').ownBlock = v.ownBlock ∨ (Value.slice A' ((outOf l s).length + 1) c').ownBlock = some w.heap.size) :
    OutG (w1.setCell ⟨bo, s, none⟩ (.slice A' ((outOf l s).length + 1) c')) bo base n (l ++ [⟨s, ev, dst⟩]) := by
  have hne : ∀ i, i ≠ s → ¬ ((s : Int) = (i : Int)) := fun i h e => h (by omega)
  refine Gathers.step h hbo hs hv h' hg hb ?_ ?_ ?_ ?_
  · simp [outOf_snoc]
  · simp [outOf_snoc]
  · intro i hi
    simp only [outOf_snoc]
    rw [if_neg (hne i hi)]
  · intro i hi
    simp only [outOf_snoc]
    rw [if_neg (hne i hi)]

/-- What 'outgoing' returns. -/
def Outs (n : Nat) (l : List Ed) (w : World) (e : Ending) (w' : World) : Prop := ∃ bo, e = .returned (.slice (some ⟨bo, 0, none⟩) n n) ∧ w.heap.size ≤ bo ∧ RowsAt EdE 3 w' (some ⟨bo, 0, none⟩) (outs l n) ∧ Below w.heap.size w w'

theorem rowInfo : (Try.prog.info? 37).map (fun i => (i.zero, i.size, i.bytes)) = some (some (.slice none 0 0), 1, 24) := by kernel_rfl
theorem edInfo : (Try.prog.info? 73).map (fun i => (i.zero, i.size, i.bytes)) = some (some (.agg #[.int .i64 0, .int .i64 0, .int .i64 0]), 3, 24) := by kernel_rfl

set_option maxHeartbeats 1000000 in
theorem outgoing_c (n : Nat) (al mr : List Int) (ed : List Ed) (p : AuP) (w : World) (hn : n ≤ 4096) (h3 : EdsAt w p.A3 ed) (l3 : ed.length ≤ 1000000) (hr : ∀ x, x ∈ ed → 0 ≤ x.src ∧ x.src < n) :
    Calls Try.prog 37 #[Au.val ⟨al, n, mr, ed⟩ p] w (Outs n ed w) := by
  obtain ⟨A1, c1, A2, c2, A3, c3⟩ := p
  dsimp only [Au.val] at *
  have G3 := Lib.hid h3
  have HR := Lib.hid hr
  clear h3 hr
  have hmk := make_run (P := Try.prog) 95 37 (.slice none 0 0) 24 Try.underlying95 rowInfo rfl n (by omega) (by omega)
  go_enter Try.func37, Try.ntmps37
  go_wp2
  go_loopw [12] (fun i wr => ∃ k : Nat, k ≤ ed.length ∧ i = .int .i64 k ∧ Hid (Below w.heap.size w wr) ∧ Hid (OutG wr (w.heap.size + 1) (w.heap.size + 2) n (ed.take k)) ∧ w.heap.size + 1 < wr.heap.size) (fun i _ => ed.length - (intOf i).toNat)
  case atStart => exact ⟨0, by omega, rfl, ((Below.new _ _).alloc (by simp) _), Lib.hid (by
    have := Gathers.made (T := 37) (E := 73) (size := 3) (w.alloc (.cells #[.slice A1 al.length c1, .int .i64 n, .slice A2 mr.length c2, .slice A3 ed.length c3] 39)) n (w.heap.size + 2)
    simp only [World.size_alloc] at this
    exact this), by simp⟩
  case round =>
    obtain ⟨k, hk, rfl, BW, HG, hsz⟩ := hrel
    by_cases hlt : k < ed.length
    · obtain ⟨b, off, x, hA3, hb, hx, e0, e1, e2⟩ := EdsAt.at (G3.out.below EdE.stays BW.out) hlt
      have hs := HR.out x (List.mem_of_getElem? hx)
      obtain ⟨src, ev, dst⟩ := x
      obtain ⟨s, rfl⟩ := Int.eq_ofNat_of_zero_le hs.1
      have hsn : s < n := by have := hs.2; simp only at this; omega
      clear hs
      subst hA3
      dsimp only at e0 e1 e2
      obtain ⟨v, hv, hfz, hown⟩ := HG.out.row hsn
      have HO := Lib.hid hown
      clear hown
      have hsz2 : w.heap.size < wr.heap.size := by omega
      have hlen := outOf_len (ed.take k) s
      have hlen2 : (ed.take k).length ≤ k := List.length_take_le _ _
      go_wp2
      have hne : ¬ w.heap.size + 1 = wr.heap.size := by omega
      have hne2 : ¬ wr.heap.size = w.heap.size + 1 := by omega
      go_region_law (
        (
           refine step_append_at rfl (.tmp 23) (.tmp 25) 37 rfl (w.heap.size + 2) 73 _ 3 24 Try.underlying37 edInfo rfl (by decide) v _ _ rfl ((HO.out.alloc _).alloc _) ⟨wr.heap.size + 1, 0, none⟩ 1 1 (Ed.cells ⟨(s : Int), ev, dst⟩) rfl rfl ?_ ?_ ?_ ?_ ?_ ?_
           (exact new_cells (by simp))
           (intro u hu; simp [Ed.cells] at hu; rcases hu with rfl | rfl | rfl <;> rfl)
           (simp only [maxLen]; omega)
           (omega)
           (simp; omega)
           intro A' c' w1 ho hg hb'
           have q := own_cell (w0 := wr) (B := wr.heap.size) (bo := w.heap.size + 1) (v := v) hg (((Below.new wr _).alloc (by simp) _).drew) ((HO.out.alloc _).alloc _) (by omega) (by omega) (by omega) s
           rw [hv, hfz] at q
           obtain ⟨q1, q2⟩ := q
           have hx' := fun j => World.cell?_of_block (a := ⟨wr.heap.size, j, none⟩) (hg.block wr.heap.size (by simp; omega) (fun e => Nat.lt_irrefl _ (HO.out.lt _ e.symm).2))
           have q3 : w1.cell? ⟨wr.heap.size, 0, none⟩ = some (.int .i64 (s : Int)) := (hx' 0).trans (((BlkAt.new wr 73 (Ed.cells ⟨s, ev, dst⟩)).alloc _).cell 0)
           have q4 : w1.cell? ⟨wr.heap.size, 1, none⟩ = some (.int .i64 ev) := (hx' 1).trans (((BlkAt.new wr 73 (Ed.cells ⟨s, ev, dst⟩)).alloc _).cell 1)
           have q5 : w1.cell? ⟨wr.heap.size, 2, none⟩ = some (.int .i64 dst) := (hx' 2).trans (((BlkAt.new wr 73 (Ed.cells ⟨s, ev, dst⟩)).alloc _).cell 2)
           clear hx'
           have HO1 := Lib.hid ho
           have HG1 := Lib.hid hg
           have HB1 := Lib.hid hb'
           clear ho hg hb'))
      all_goals
        go_wp2
        go_roundw
        case rel =>
          refine ⟨k + 1, by omega, by go_num, ((((BW.out.alloc (by omega) _).alloc (by simp; omega) _).drew).grown HG1.out (by simp; omega) (fun j hj => by have := (HO.out.lt j hj).1; omega)).setCell (by simp) _, ?_, ?_⟩
          · have := OutG.next (HG.out.below (((Below.new wr _).alloc (by simp) _).drew) (Nat.le_refl _)) (by omega) hsn (by rw [(((Below.new wr _).alloc (by simp) _).drew).cell (p := ⟨w.heap.size + 1, s, none⟩) hsz]; exact hv) HO1.out HG1.out HB1.out
            rw [List.take_add_one, hx]
            exact this
          · have := HG1.out.size
            simp at this ⊢
            omega
        case measure => simp [intOf]; omega
    · obtain rfl : k = ed.length := by omega
      go_wp2
      go_ret
      exact ⟨w.heap.size + 1, rfl, by omega, OutG.rows (by have := HG.out; rw [List.take_length] at this; exact this) (by omega), BW.out⟩
end Go.Proofs.Ytkbmenpggiojeaa
