/-
  The reference's small functions on automata: has, Step, index, Empty.
-/
import Derived.Test.YtkbmenpggiojeaaMo
import Derived.Test.YtkbmenpggiojeaaMd
import Derived.Test.YtkbmenpggiojeaaLe
import Derived.OwnWalk
namespace Go.Proofs.Ytkbmenpggiojeaa
open Go.RowKit
set_option linter.unusedSimpArgs false
set_option linter.unusedVariables false

theorem rhas_c (A : Option Addr) (c : Nat) (l : List Int) (x : Int) (w : World) (h : IntsAt w A l) (hl : l.length ≤ 140737488355328) :
    Calls Try.prog 103 #[.slice A l.length c, .int .i64 x] w (Says (x ∈ l) w) := by
  go_enter Try.func103, Try.ntmps103
  go_wp2
  go_loop [5] (fun i => ∃ k : Nat, k ≤ l.length ∧ i = .int .i64 k ∧ Hid (∀ j y, j < k → l[j]? = some y → y ≠ x)) (fun i => l.length - (intOf i).toNat)
  case atStart => exact ⟨0, by omega, rfl, fun i x h => absurd h (by omega)⟩
  case round =>
    obtain ⟨k, hk, rfl, H⟩ := hrel
    by_cases hlt : k < l.length
    · obtain ⟨b, off, y, rfl, _, hy, hcy⟩ := IntsAt.at h hlt
      by_cases hyx : y = x
      · have HM := Lib.hid (List.mem_of_getElem? hy)
        have hyx' : (y == x) = true := by simpa using hyx
        have HYX := Lib.hid hyx
        clear hy hyx
        go_wp2
        go_ret
        exact Says.yes (HYX.out ▸ HM.out) rfl
      · have hyx' : (y == x) = false := by simpa using hyx
        have HYX := Lib.hid hyx
        have HY := Lib.hid hy
        clear hyx hy
        go_wp2
        go_round
        case rel => exact ⟨k + 1, by omega, by go_num, fun j z hj hz => by
          by_cases e : j = k
          · subst e; rw [HY.out] at hz; cases hz; exact HYX.out
          · exact H.out j z (by omega) hz⟩
        case measure => simp [intOf]; omega
    · obtain rfl : k = l.length := by omega
      go_wp2
      go_ret
      exact Says.no (notIn_all H.out) rfl

set_option maxHeartbeats 400000 in
theorem rstep_c (a : Au) (p : AuP) (s ev : Int) (w : World) (h3 : EdsAt w p.A3 a.ed) (l3 : a.ed.length ≤ 140737488355328) :
    Calls Try.prog 104 #[a.val p, .int .i64 s, .int .i64 ev] w (Ret (.int .i64 (nextV a.ed s ev)) w) := by
  obtain ⟨al, n, mr, ed⟩ := a
  obtain ⟨A1, c1, A2, c2, A3, c3⟩ := p
  dsimp only [Au.val] at *
  have B0 := Lib.hid (Below.new w (.cells #[.slice A1 al.length c1, .int .i64 n, .slice A2 mr.length c2, .slice A3 ed.length c3] 39))
  have HE := Lib.hid (h3.below EdE.stays B0.out)
  have q3 : (w.alloc (.cells #[.slice A1 al.length c1, .int .i64 n, .slice A2 mr.length c2, .slice A3 ed.length c3] 39)).cell? ⟨w.heap.size, 3, none⟩ = some (.slice A3 ed.length c3) := new_cell w _ [_, _, _, _] _ 3 rfl
  clear h3
  go_enter Try.func104, Try.ntmps104
  go_wp2_with fail
  generalize hW : w.alloc (.cells #[.slice A1 al.length c1, .int .i64 n, .slice A2 mr.length c2, .slice A3 ed.length c3] 39) = W at *
  clear hW
  go_loop [7] (fun i => ∃ k : Nat, k ≤ ed.length ∧ i = .int .i64 k ∧ Hid (∀ j y, j < k → ed[j]? = some y → ¬ (y.src = s ∧ y.ev = ev))) (fun i => ed.length - (intOf i).toNat)
  case atStart => exact ⟨0, by omega, rfl, fun i x h => absurd h (by omega)⟩
  case round =>
    obtain ⟨k, hk, rfl, H⟩ := hrel
    by_cases hlt : k < ed.length
    · obtain ⟨b, off, x, rfl, _, hx, hc0, hc1, hc2⟩ := EdsAt.at HE.out hlt
      obtain ⟨src, e', dst⟩ := x
      dsimp only at hc0 hc1 hc2
      have HX := Lib.hid hx
      clear hx
      by_cases h1 : src = s
      · have h1' : (src == s) = true := by simpa using h1
        have H1 := Lib.hid h1
        clear h1
        by_cases h2 : e' = ev
        · have h2' : (e' == ev) = true := by simpa using h2
          have H2 := Lib.hid h2
          clear h2
          go_wp2
          go_ret
          exact ⟨ret_int (nextV_hit H.out HX.out H1.out H2.out).symm, B0.out⟩
        · have h2' : (e' == ev) = false := by simpa using h2
          have H2 := Lib.hid h2
          clear h2
          go_wp2
          go_round
          case rel => exact ⟨k + 1, by omega, by go_num, fun j z hj hz => by
            by_cases e : j = k
            · subst e; rw [HX.out] at hz; cases hz; exact fun h => H2.out h.2
            · exact H.out j z (by omega) hz⟩
          case measure => simp [intOf]; omega
      · have h1' : (src == s) = false := by simpa using h1
        have H1 := Lib.hid h1
        clear h1
        go_wp2
        go_round
        case rel => exact ⟨k + 1, by omega, by go_num, fun j z hj hz => by
          by_cases e : j = k
          · subst e; rw [HX.out] at hz; cases hz; exact fun h => H1.out h.1
          · exact H.out j z (by omega) hz⟩
        case measure => simp [intOf]; omega
    · obtain rfl : k = ed.length := by omega
      go_wp2
      go_ret
      exact ⟨ret_int (nextV_miss H.out).symm, B0.out⟩


/-- Where a number is in a list, or -1. -/
def idxV (l : List Int) (x : Int) : Int := match l.findIdx? (fun y => decide (y = x)) with
  | some j => (j : Int)
  | none => -1
theorem idxV_hit {l : List Int} {x : Int} {k : Nat} (h : ∀ j y, j < k → l[j]? = some y → y ≠ x) (hx : l[k]? = some x) : idxV l x = (k : Int) := by
  have : l.findIdx? (fun y => decide (y = x)) = some k := by
    rw [List.findIdx?_eq_some_iff_getElem]
    obtain ⟨hk, hg⟩ := List.getElem?_eq_some_iff.1 hx
    refine ⟨hk, by simp [hg], fun j hj => ?_⟩
    have := h j l[j] hj (List.getElem?_eq_getElem _)
    simpa using this
  simp [idxV, this]
theorem idxV_miss {l : List Int} {x : Int} (h : ∀ j y, j < l.length → l[j]? = some y → y ≠ x) : idxV l x = -1 := by
  have : l.findIdx? (fun y => decide (y = x)) = none := by
    rw [List.findIdx?_eq_none_iff]
    intro y hy
    obtain ⟨t, ht, hy⟩ := List.mem_iff_getElem.1 hy
    have := h t y ht (by rw [List.getElem?_eq_getElem ht, hy])
    simpa using this
  simp [idxV, this]
theorem idxV_in {l : List Int} {x : Int} (h : x ∈ l) : ∃ j : Nat, idxV l x = (j : Int) ∧ l[j]? = some x := by
  unfold idxV
  cases hf : l.findIdx? (fun y => decide (y = x)) with
  | none =>
    rw [List.findIdx?_eq_none_iff] at hf
    have := hf x h
    simp at this
  | some j =>
    rw [List.findIdx?_eq_some_iff_getElem] at hf
    obtain ⟨hj, h1, _⟩ := hf
    exact ⟨j, rfl, by rw [List.getElem?_eq_getElem hj]; simpa using h1⟩

theorem index_c (A : Option Addr) (c : Nat) (l : List Int) (x : Int) (w : World) (h : IntsAt w A l) (hl : l.length ≤ 140737488355328) :
    Calls Try.prog 105 #[.slice A l.length c, .int .i64 x] w (fun e w' => e = .returned (.int .i64 (idxV l x)) ∧ w = w') := by
  go_enter Try.func105, Try.ntmps105
  go_wp2
  go_loop [5] (fun i => ∃ k : Nat, k ≤ l.length ∧ i = .int .i64 k ∧ Hid (∀ j y, j < k → l[j]? = some y → y ≠ x)) (fun i => l.length - (intOf i).toNat)
  case atStart => exact ⟨0, by omega, rfl, fun i x h => absurd h (by omega)⟩
  case round =>
    obtain ⟨k, hk, rfl, H⟩ := hrel
    by_cases hlt : k < l.length
    · obtain ⟨b, off, y, rfl, _, hy, hcy⟩ := IntsAt.at h hlt
      have HY := Lib.hid hy
      clear hy
      by_cases hyx : y = x
      · have hyx' : (y == x) = true := by simpa using hyx
        have HYX := Lib.hid hyx
        clear hyx
        go_wp2
        go_ret
        exact ⟨ret_int (idxV_hit H.out (HYX.out ▸ HY.out)).symm, rfl⟩
      · have hyx' : (y == x) = false := by simpa using hyx
        have HYX := Lib.hid hyx
        clear hyx
        go_wp2
        go_round
        case rel => exact ⟨k + 1, by omega, by go_num, fun j z hj hz => by
          by_cases e : j = k
          · subst e; rw [HY.out] at hz; cases hz; exact HYX.out
          · exact H.out j z (by omega) hz⟩
        case measure => simp [intOf]; omega
    · obtain rfl : k = l.length := by omega
      go_wp2
      go_ret
      exact ⟨ret_int (idxV_miss H.out).symm, rfl⟩

/-- What a function gives that makes an automaton: its alphabet, marks and edges lie in memory of its own. -/
structure AuOwn (B : Nat) (a : Au) (p : AuP) (w : World) : Prop where
  al : OwnI B a.al (.slice p.A1 a.al.length p.c1) w
  mr : OwnI B a.mr (.slice p.A2 a.mr.length p.c2) w
  ed : Own Ed.cells 3 73 B a.ed (.slice p.A3 a.ed.length p.c3) w
  d1 : ∀ g, (Value.slice p.A1 a.al.length p.c1).ownBlock = some g → (Value.slice p.A2 a.mr.length p.c2).ownBlock ≠ some g
  d2 : ∀ g, (Value.slice p.A1 a.al.length p.c1).ownBlock = some g → (Value.slice p.A3 a.ed.length p.c3).ownBlock ≠ some g
  d3 : ∀ g, (Value.slice p.A2 a.mr.length p.c2).ownBlock = some g → (Value.slice p.A3 a.ed.length p.c3).ownBlock ≠ some g
  sm : a.al.length ≤ 1048576 ∧ a.mr.length ≤ 1048576 ∧ a.ed.length ≤ 1048576
theorem AuOwn.at {B : Nat} {a : Au} {p : AuP} {w : World} (h : AuOwn B a p w) : Au.At w a p :=
  ⟨h.al.ints, h.mr.ints, Own.reads (fun _ => rfl) h.ed, by have := h.sm; omega, by have := h.sm; omega, by have := h.sm; omega⟩
def GivesAu (a : Au) (w : World) (e : Ending) (w' : World) : Prop := ∃ p, e = .returned (a.val p) ∧ Hid (AuOwn w.heap.size a p w') ∧ Below w.heap.size w w'

theorem flat_encI (l : List Int) : l.flatMap encI = l.map (Value.int .i64) := by
  induction l with
  | nil => rfl
  | cons a l ih => rw [List.flatMap_cons, ih]; rfl
/-- What Empty gives. -/
def GivesEm (l : List Int) (w : World) (e : Ending) (w' : World) : Prop := ∃ A c, e = .returned (.agg #[.slice A l.length c, .int .i64 0, .slice none 0 0, .slice none 0 0]) ∧ Hid (OwnI w.heap.size l (.slice A l.length c) w') ∧ Below w.heap.size w w'
set_option maxRecDepth 100000 in
set_option maxHeartbeats 400000 in
theorem Empty_c (A : Option Addr) (c : Nat) (l : List Int) (w : World) (h : IntsAt w A l) (hl : l.length ≤ 1048576) (hn : A = none → l = [] ∧ c = 0) :
    Calls Try.prog 74 #[.slice A l.length c] w (GivesEm l w) := by
  have O0 : Hid (World.ownsRow ((w.alloc (.cells #[.slice none 0 0, .int .i64 0, .slice none 0 0, .slice none 0 0] 39)).alloc (.cells #[] 3)) (w.heap.size + 1) 3 1 (.slice (some ⟨w.heap.size + 1, 0, none⟩) 0 0) 0 []) := ⟨rfl, .inr ⟨w.heap.size + 1, 0, #[], rfl, by omega, by have := heap_alloc_new (w.alloc (.cells #[.slice none 0 0, .int .i64 0, .slice none 0 0, .slice none 0 0] 39)) (.cells #[] 3); simpa using this, Nat.le_refl _, by simp, rfl, rfl⟩⟩
  have B0 : Hid (Fro w.heap.size w ((w.alloc (.cells #[.slice none 0 0, .int .i64 0, .slice none 0 0, .slice none 0 0] 39)).alloc (.cells #[] 3))) := ((Fro.here w).alloc _).alloc _
  cases A with
  | none =>
    obtain ⟨rfl, rfl⟩ := hn rfl
    simp only [List.length_nil]
    clear h hn
    go_enter Try.func74, Try.ntmps74
    go_wp2
    refine bodyPost_ret (v := .agg #[.slice (some ⟨w.heap.size + 1, 0, none⟩) 0 0, .int .i64 0, .slice none 0 0, .slice none 0 0]) (by simp [results, Try.results74, go_sem]) rfl ?_
    have B1 : Fro w.heap.size w ((w.alloc (.cells #[.slice (some ⟨w.heap.size + 1, 0, none⟩) 0 0, .int .i64 0, .slice none 0 0, .slice none 0 0] 39)).alloc (.cells #[] 3)) := ((Fro.here w).alloc _).alloc _
    exact ⟨some ⟨w.heap.size + 1, 0, none⟩, 0, rfl, ⟨rfl, .inr ⟨w.heap.size + 1, 0, #[], rfl, by omega, by have := heap_alloc_new (w.alloc (.cells #[.slice (some ⟨w.heap.size + 1, 0, none⟩) 0 0, .int .i64 0, .slice none 0 0, .slice none 0 0] 39)) (.cells #[] 3); simpa using this, Nat.le_refl _, by simp, rfl, rfl⟩⟩, B1.b⟩
  | some a =>
    have HA := Lib.hid h
    clear h hn
    obtain ⟨i0, hi0, hz0, hz1, hz2⟩ := info_parts intInfo
    go_enter Try.func74, Try.ntmps74
    go_wp2_with (at_builtin; refine wpList_append_own_at _ rfl _ _ 36 rfl (w.heap.size + 1) 3 i0 (.int .i64 0) 1 8 Try.underlying36 hi0 hz0 hz1 hz2 rfl (by decide) _ _ _ rfl O0.out a l.length c (l.map (Value.int .i64)) rfl (by simp) (IntsAt.cells (HA.out.below IntE.stays B0.out.b)) (by simp [Value.oneCell']) (by simp only [maxLen]; simp; omega) (by simp; omega) (by simp) ?_)
    intro v1 w1 ho1 hg1 hnn hv1
    clear hnn
    obtain ⟨A1, c1, rfl⟩ := own_form ho1
    have hg : ((w.alloc (.cells #[.slice none 0 0, .int .i64 0, .slice none 0 0, .slice none 0 0] 39)).alloc (.cells #[] 3)).grownBy w1 (some (w.heap.size + 1)) := hg1
    have HO : Hid (OwnI (w.heap.size + 1) l (.slice A1 l.length c1) w1) := by unfold Hid OwnI Own; rw [flat_encI]; exact ho1
    have BR : BlkAt w1 w.heap.size 39 [.slice none 0 0, .int .i64 0, .slice none 0 0, .slice none 0 0] := ((BlkAt.new w _ _).alloc _).grown hg (by simp)
    have HB := Lib.hid BR
    have c0 : w1.cell? ⟨w.heap.size, 0, none⟩ = some (.slice none 0 0) := BR.cell 0
    have c1' : w1.cell? ⟨w.heap.size, 1, none⟩ = some (.int .i64 0) := BR.cell 1
    have c2 : w1.cell? ⟨w.heap.size, 2, none⟩ = some (.slice none 0 0) := BR.cell 2
    have c3 : w1.cell? ⟨w.heap.size, 3, none⟩ = some (.slice none 0 0) := BR.cell 3
    have f0 := BR.free 0
    have f1 := BR.free 1
    have f2 := BR.free 2
    have f3 := BR.free 3
    have BF := Lib.hid (B0.out.grown hg (fun j hj => by cases hj; omega))
    clear BR hg hg1 hv1 ho1
    go_wp2
    refine bodyPost_ret (v := .agg #[.slice A1 l.length c1, .int .i64 0, .slice none 0 0, .slice none 0 0]) (by simp [results, Try.results74, go_sem, *]) rfl ?_
    have st : ∀ (W : World) (i : Nat) (u : Value), OwnI (w.heap.size + 1) l (.slice A1 l.length c1) W → OwnI (w.heap.size + 1) l (.slice A1 l.length c1) (W.setCell ⟨w.heap.size, i, none⟩ u) := fun W i u h => ownsRow_setCell_below h (Nat.lt_succ_self _) u
    exact ⟨A1, c1, rfl, ((st _ _ _ (st _ _ _ (st _ _ _ (st _ _ _ HO.out)))).base (by omega)), ((((BF.out.setCell (Nat.le_refl _) _).setCell (Nat.le_refl _) _).setCell (Nat.le_refl _) _).setCell (Nat.le_refl _) _).b⟩
end Go.Proofs.Ytkbmenpggiojeaa
