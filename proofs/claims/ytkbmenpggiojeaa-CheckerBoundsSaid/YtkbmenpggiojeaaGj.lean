/-
  CheckerBounds: the law's walk.
-/
import Derived.Test.YtkbmenpggiojeaaGf
import Derived.Test.YtkbmenpggiojeaaGg
import Derived.Deep.RegionLaw
namespace Go.Proofs.Ytkbmenpggiojeaa
open Go.RowKit
set_option linter.unusedSimpArgs false
set_option linter.unusedVariables false

theorem cells_put : ∀ {l : List Pa} {k i : Nat} {x y : Pa} {u : Value} (hx : l[k]? = some x) (hy : Pa.cells y = (Pa.cells x).set i u) (hi : i < 3), (l.flatMap Pa.cells).set (k * 3 + i) u = (l.set k y).flatMap Pa.cells
  | [], k, _, _, _, _, hx, _, _ => by simp at hx
  | a :: l, 0, i, x, y, u, hx, hy, hi => by
    simp at hx; subst hx
    rw [List.flatMap_cons, List.set_cons_zero, List.flatMap_cons, hy, List.set_append_left _ _ (by simp [Pa.cells]; omega)]
    simp
  | a :: l, k + 1, i, x, y, u, hx, hy, hi => by
    have ih := cells_put (l := l) (k := k) (by simpa using hx) hy hi
    rw [List.flatMap_cons, List.set_cons_succ, List.flatMap_cons, ← ih, List.set_append_right _ _ (by simp [Pa.cells]; omega)]
    congr 2
    simp [Pa.cells]; omega
theorem OwnP.put {B g c L : Nat} {l : List Pa} {w : World} (h : OwnP B l (.slice (some ⟨g, 0, none⟩) L c) w) (hL : l.length = L) {k i : Nat} {x y : Pa} {u : Value} (hx : l[k]? = some x) (hy : Pa.cells y = (Pa.cells x).set i u) (hi : i < 3) :
    OwnP B (l.set k y) (.slice (some ⟨g, 0, none⟩) L c) (w.setCell ⟨g, k * 3 + i, none⟩ u) := by
  subst hL
  have := (World.ownsRow.stored h (k * 3 + i) u).1
  rw [cells_put hx hy hi] at this
  unfold OwnP Own
  rw [List.length_set]
  exact this
theorem flatMap_take {α : Type} {enc : α → List Value} {k : Nat} (hk : ∀ x, (enc x).length = k) : ∀ (l : List α) (n : Nat), (l.flatMap enc).take (n * k) = (l.take n).flatMap enc
  | [], n => by simp
  | a :: l, 0 => by simp
  | a :: l, n + 1 => by
    have ih := flatMap_take hk l n
    rw [List.flatMap_cons, List.take_succ_cons, List.flatMap_cons, ← ih, List.take_append, hk]
    rw [List.take_of_length_le (by rw [hk, Nat.succ_mul]; omega)]
    congr 2
    rw [Nat.succ_mul]; omega
theorem ownFirst {α : Type} {enc : α → List Value} {k T B g c L : Nat} {l : List α} {w : World} (hk : ∀ x, (enc x).length = k) (h : Own enc k T B l (.slice (some ⟨g, 0, none⟩) L c) w) (hL : l.length = L) {n : Nat} (hn : n ≤ L) : Own enc k T B (l.take n) (.slice (some ⟨g, 0, none⟩) n c) w := by
  subst hL
  have hlen : (l.take n).length = n := by simp; omega
  refine ⟨by rw [hlen, ← flatMap_take hk, List.length_take, h.1]; exact Nat.min_eq_left (Nat.mul_le_mul_right _ hn), ?_⟩
  rcases h.2 with ⟨h', _⟩ | ⟨g', cap, cur, h', hb, hg, hnc, hcm, hcs, htake⟩
  · simp at h'
  · refine .inr ⟨g', cap, cur, ?_, hb, hg, by omega, hcm, hcs, ?_⟩
    · simp only [Value.slice.injEq] at h' ⊢
      exact ⟨h'.1, hlen.symm, h'.2.2⟩
    · rw [hlen, ← flatMap_take hk, ← htake, List.take_take, Nat.min_eq_left (Nat.mul_le_mul_right _ hn)]
theorem ownTail {α : Type} {enc : α → List Value} {k T B g c L : Nat} {l : List α} {w : World} (hk : ∀ x, (enc x).length = k) (h : Own enc k T B l (.slice (some ⟨g, 0, none⟩) L c) w) (hL : l.length = L) {n : Nat} (hn : n ≤ L) : ∀ j u, ((l.drop n).flatMap enc)[j]? = some u → w.cell? ⟨g, n * k + j, none⟩ = some u := by
  intro j u hu
  subst hL
  have e : l.flatMap enc = (l.take n).flatMap enc ++ (l.drop n).flatMap enc := by rw [← List.flatMap_append, List.take_append_drop]
  have hl1 : ((l.take n).flatMap enc).length = n * k := by rw [← flatMap_take hk, List.length_take, h.1]; exact Nat.min_eq_left (Nat.mul_le_mul_right _ hn)
  have hj := (List.getElem?_eq_some_iff.1 hu).1
  have hlt : n * k + j < l.length * k := by
    have := h.1
    rw [e, List.length_append, hl1] at this
    omega
  rw [World.ownsRow.cellAt h _ hlt, e, List.getElem?_append_right (by omega), hl1, Nat.add_sub_cancel_left]
  exact hu

set_option maxRecDepth 100000 in
set_option maxHeartbeats 8000000 in
theorem bounds_c (s : Int) (g : Gr) (f : B5) (kd at_ by_ : Int) (AL : Option Addr) (cL : Nat) (lp : List Pa) (w : World) (hs : 0 ≤ s ∧ s < 256) (hg : g.Ok) (hf : f.Ok)
    (hk0 : 0 ≤ kd) (hk1 : kd < 256) (ha0 : 0 ≤ at_) (ha1 : at_ < 256) (hb0 : -128 ≤ by_) (hb1 : by_ < 128) (hL : PasAt w AL lp) (nL : lp.length ≤ maxLen) :
    Calls Try.prog 3 #[.agg (plCells s g f).toArray, .agg #[.int .u8 kd, .int .u8 at_, .int .i8 by_], .slice AL lp.length cL] w (Yes true w) := by
  have W0 : Hid (Fro w.heap.size w ((w.alloc (.cells (plCells s g f).toArray 29)).alloc (.cells #[.int .u8 kd, .int .u8 at_, .int .i8 by_] 32))) := ((Fro.here w).alloc _).alloc _
  have C1 : Hid (HasAt w.heap.size (plCells s g f) ((w.alloc (.cells (plCells s g f).toArray 29)).alloc (.cells #[.int .u8 kd, .int .u8 at_, .int .i8 by_] 32))) := (HasAt.new w _ _ rfl).alloc _
  have C2 : Hid (HasAt (w.heap.size + 1) [.int .u8 kd, .int .u8 at_, .int .i8 by_] ((w.alloc (.cells (plCells s g f).toArray 29)).alloc (.cells #[.int .u8 kd, .int .u8 at_, .int .i8 by_] 32))) := HasAt.new _ _ _ (by simp)
  have HG := Lib.hid hg
  have HFL := Lib.hid hf
  have HS := Lib.hid hs
  have HLP := Lib.hid hL
  clear hg hf hs hL
  unfold maxLen at nL
  go_enter Try.func3, Try.ntmps3
  go_wp2_with fail
  generalize hW : ((w.alloc (.cells (plCells s g f).toArray 29)).alloc (.cells #[.int .u8 kd, .int .u8 at_, .int .i8 by_] 32)) = W at *
  clear hW
  refine (known_c _).mono ?_
  rintro e w1 ⟨rfl, hb⟩
  have R1 := Lib.hid (W0.out.next hb)
  have D1 := Lib.hid (C1.out.below hb)
  have D2 := Lib.hid (C2.out.below hb)
  clear hb W0 C1 C2
  by_cases hl6 : lp.length ≤ 6
  rotate_left
  · go_wp2_with fail
    all_goals first
      | (exfalso; omega)
      | (refine (known_c _).mono ?_; rintro e w5 ⟨rfl, hb⟩; have R5 := Lib.hid (R1.out.next hb); clear hb; go_wp2; go_ret; exact ⟨rfl, R5.out.b⟩)
  go_wp2_with (refine wpList_load_mid rfl 29 (.tmp 3) rfl w.heap.size 0 rfl (plCells s g f) _ (D1.out.range (fun j v hv => by rw [Nat.zero_add]; exact hv)) Try.underlying29 rfl (by kernel_rfl) ?_)
  refine (make42_c s g f w1 HS.out HG.out HFL.out).mono ?_
  rintro e w2 ⟨evs, AE, cE, au, p, rfl, hcE, hP, hb⟩
  have R2 := Lib.hid (R1.out.next hb)
  have E2 := Lib.hid (D2.out.below hb)
  have P2 := Lib.hid hP.out
  clear hb D1 D2 hP
  have W4 : Hid (Fro w.heap.size w (w2.alloc (.cells (auCells au p).toArray 39))) := R2.out.alloc _
  have E4 : Hid (HasAt (w.heap.size + 1) [.int .u8 kd, .int .u8 at_, .int .i8 by_] (w2.alloc (.cells (auCells au p).toArray 39))) := E2.out.alloc _
  have A4 : Hid (HasAt w2.heap.size (auCells au p) (w2.alloc (.cells (auCells au p).toArray 39))) := HasAt.new w2 _ _ rfl
  have P4 : Hid (PlantIn (w2.alloc (.cells (auCells au p).toArray 39)) evs AE au p) := P2.out.below (Below.new _ _)
  obtain ⟨al, n, mr, ed⟩ := au
  obtain ⟨A1, c1, A2, c2, A3, c3⟩ := p
  dsimp only [Au.val, auCells] at *
  go_upto_region 4 with fail
  generalize hW : w2.alloc (.cells #[.slice A1 al.length c1, .int .i64 n, .slice A2 mr.length c2, .slice A3 ed.length c3] 39) = V4 at *
  clear hW R2 E2 P2
  have FL : Hid (∀ V, Fro V4.heap.size V4 V → PasAt V AL lp) := fun V hb => HLP.out.below PaE.stays (W4.out.next hb.b).b
  have FP : Hid (∀ V, Fro V4.heap.size V4 V → PlantIn V evs AE ⟨al, n, mr, ed⟩ ⟨A1, c1, A2, c2, A3, c3⟩) := fun V hb => P4.out.below hb.b
  have BC : Hid (∀ V cl bound A c (l : List Pa) (L : Nat), l.length = L → Fro V4.heap.size V4 V → PasAt V A l → l.length ≤ 140737488355328 → Calls Try.prog 11 #[.slice AE 5 cE, .agg #[.slice A1 al.length c1, .int .i64 n, .slice A2 mr.length c2, .slice A3 ed.length c3], .int .i64 cl, .int .i64 bound, .slice A L c] V (Tells (BoundOk evs ⟨al, n, mr, ed⟩ cl bound l) V)) := fun V cl bound A c l L hLL hb hp hl => by
    subst hLL
    have h := Bound_c AE cE evs ⟨al, n, mr, ed⟩ ⟨A1, c1, A2, c2, A3, c3⟩ cl bound A c l V (FP.out V hb).ev (FP.out V hb).at_ hp (by rw [P4.out.l]; omega) hl (by have := P4.out.ed; simp only at this ⊢; omega)
    rw [P4.out.l] at h
    exact h
  have IC : Hid (∀ V bound A c (l : List Pa) (L : Nat), l.length = L → 0 ≤ bound → n ≠ 0 → Fro V4.heap.size V4 V → PasAt V A l → l.length ≤ 140737488355328 → Calls Try.prog 12 #[.slice AE 5 cE, .agg #[.slice A1 al.length c1, .int .i64 n, .slice A2 mr.length c2, .slice A3 ed.length c3], .int .i64 1, .int .i64 bound, .slice A L c] V (Tells (BoundOk evs ⟨al, n, mr, ed⟩ 1 bound l) V)) := fun V bound A c l L hLL h0 hn hb hp hl => by
    subst hLL
    have h := isBound_c AE cE evs ⟨al, n, mr, ed⟩ ⟨A1, c1, A2, c2, A3, c3⟩ bound A c l V (FP.out V hb).ev (FP.out V hb).at_ (by rw [P4.out.l]; omega) (by have := P4.out.ed; simp only at this ⊢; omega) (fun y hy => P4.out.fit.edge hy) h0 hp hl
    rw [P4.out.l] at h
    have eB := bound_iff P4.out.fit P4.out.flt (bound := bound) (l := l) hn h0
    exact h.mono fun e w' ⟨r, he, hr, hb'⟩ => ⟨r, he, hr.trans eB.symm, hb'⟩
  have PC : Hid (∀ V, Fro V4.heap.size V4 V → 0 < n → Calls Try.prog 13 #[.slice AE 5 cE, .agg #[.slice A1 al.length c1, .int .i64 n, .slice A2 mr.length c2, .slice A3 ed.length c3], .int .i64 1] V (GivesPs evs ed n V)) := fun V hb hn => by
    have h := pairs_c AE cE evs ⟨al, n, mr, ed⟩ ⟨A1, c1, A2, c2, A3, c3⟩ V (FP.out V hb).ev (FP.out V hb).at_ (by rw [P4.out.l]; omega) (by have := P4.out.ed; simp only at this ⊢; omega) (fun y hy => P4.out.fit.edge hy) hn P4.out.n (fun y hy => (P4.out.fit.ha.dst0 hy).2.2)
    rw [P4.out.l] at h
    exact h
  have HN0 : Hid (0 ≤ n) := P4.out.fit.ha.n0
  have BF : Hid (∀ V, Fro V4.heap.size V4 V → Below w.heap.size w V) := fun V hb => (W4.out.next hb.b).b
  have WW := Lib.hid (Fro.here V4)
  have WD := Lib.hid (Fro.here V4).drew
  have g0 := A4.out.c 0 _ rfl
  have g1 := A4.out.c 1 _ rfl
  have g2 := A4.out.c 2 _ rfl
  have g3 := A4.out.c 3 _ rfl
  have hl63 : Hid (lp.length ≤ 140737488355328) := by simp only [Hid]; omega
  clear W4
  by_cases hn : n = 0
  · have NB : Hid (¬ BoundOk evs ⟨al, n, mr, ed⟩ 1 1 lp) := fun h => h.n0 hn
    subst hn
    go_wp2_with fail
    refine (BC.out _ _ _ _ _ _ _ rfl WW.out (FL.out _ WW.out) hl63.out).mono ?_
    intro e w5 h5
    obtain ⟨rfl, hb⟩ := h5.no2 NB.out
    have R5 := Lib.hid (WW.out.next hb)
    clear hb h5
    go_wp2
    go_ret
    exact ⟨rfl, BF.out _ R5.out⟩
  have hn' : (n == 0) = false := by simp; exact hn
  have hpos : Hid (0 < n) := by have := HN0.out; simp only [Hid]; omega
  have hnz := Lib.hid hn
  clear hn
  obtain ⟨b, hbq⟩ : ∃ b : Bool, b = true ↔ BoundOk evs ⟨al, n, mr, ed⟩ 1 2 lp := by
    by_cases h : BoundOk evs ⟨al, n, mr, ed⟩ 1 2 lp
    · exact ⟨true, by simp [h]⟩
    · exact ⟨false, by simp [h]⟩
  have BQ := Lib.hid hbq
  clear hbq
  have C1 : Hid (∀ V, Fro V4.heap.size V4 V → Calls Try.prog 11 #[.slice AE 5 cE, .agg #[.slice A1 al.length c1, .int .i64 n, .slice A2 mr.length c2, .slice A3 ed.length c3], .int .i64 1, .int .i64 2, .slice AL lp.length cL] V (Yes b V)) := fun V hb =>
    (BC.out V 1 2 AL cL lp _ rfl hb (FL.out V hb) hl63.out).mono fun e w' ⟨r, he, hr, hb'⟩ => ⟨by rw [he]; congr 2; rw [Bool.eq_iff_iff, hr, BQ.out], hb'⟩
  have C2 : Hid (∀ V, Fro V4.heap.size V4 V → Calls Try.prog 12 #[.slice AE 5 cE, .agg #[.slice A1 al.length c1, .int .i64 n, .slice A2 mr.length c2, .slice A3 ed.length c3], .int .i64 1, .int .i64 2, .slice AL lp.length cL] V (Yes b V)) := fun V hb =>
    (IC.out V 2 AL cL lp _ rfl (by omega) hnz.out hb (FL.out V hb) hl63.out).mono fun e w' ⟨r, he, hr, hb'⟩ => ⟨by rw [he]; congr 2; rw [Bool.eq_iff_iff, hr, BQ.out], hb'⟩
  have C3 : Hid (∀ V, Fro V4.heap.size V4 V → Calls Try.prog 11 #[.slice AE 5 cE, .agg #[.slice A1 al.length c1, .int .i64 n, .slice A2 mr.length c2, .slice A3 ed.length c3], .int .i64 0, .int .i64 2, .slice AL lp.length cL] V (Yes false V)) := fun V hb =>
    (BC.out V 0 2 AL cL lp _ rfl hb (FL.out V hb) hl63.out).mono fun e w' h => h.no2 (fun h => by have := h.pl.c1; omega)
  have C4 : Hid (∀ V, Fro V4.heap.size V4 V → Calls Try.prog 11 #[.slice AE 5 cE, .agg #[.slice A1 al.length c1, .int .i64 n, .slice A2 mr.length c2, .slice A3 ed.length c3], .int .i64 1, .int .i64 (-1), .slice AL lp.length cL] V (Yes false V)) := fun V hb =>
    (BC.out V 1 (-1) AL cL lp _ rfl hb (FL.out V hb) hl63.out).mono fun e w' h => h.no2 (fun h => by have := h.b0; omega)
  go_wp2_with fail
  clear g0 g1 g2 g3
  refine wp_region_held_drew (S := (fun V => Fro V4.heap.size V4 V)) (by kernel_rfl) ?_ (fun hHeld => ?_)
  · exact WD.out
  refine wpAnyH_take (i := 0) (v := ?_) rfl (by kernel_rfl) (by kernel_rfl) (by kernel_rfl) (fun _ _ _ h => h) (Or.inl ⟨?_, ?_⟩) hHeld ?_
  rotate_left
  · kernel_rfl
  · intro V hSw
    clear hSw
    first | (go_simp; done) | (go_simp; with_reducible rfl)
  try simp only [List.getElem_toArray, List.getElem_cons_zero, List.getElem_cons_succ, Act.put, List.setIfInBounds_toArray, List.set_cons_zero, List.set_cons_succ]
  refine wpAnyH_take (i := 1) (v := ?_) rfl (by kernel_rfl) (by kernel_rfl) (by kernel_rfl) (fun _ _ _ h => h) (Or.inl ⟨?_, ?_⟩) hHeld ?_
  rotate_left
  · kernel_rfl
  · intro V hSw
    have h := A4.out.below (show Fro V4.heap.size V4 V from hSw).b
    have a0 := h.c 0 _ rfl
    have a1 := h.c 1 _ rfl
    have a2 := h.c 2 _ rfl
    have a3 := h.c 3 _ rfl
    clear h
    clear hSw
    first | (go_simp; done) | (go_simp; with_reducible rfl)
  try simp only [List.getElem_toArray, List.getElem_cons_zero, List.getElem_cons_succ, Act.put, List.setIfInBounds_toArray, List.set_cons_zero, List.set_cons_succ]
  refine wpAnyH_take (i := 2) (v := ?_) rfl (by kernel_rfl) (by kernel_rfl) (by kernel_rfl) (fun _ _ _ h => h) (Or.inl ⟨?_, ?_⟩) hHeld ?_
  rotate_left
  · kernel_rfl
  · intro V hSw
    clear hSw
    first | (go_simp; done) | (go_simp; with_reducible rfl)
  try simp only [List.getElem_toArray, List.getElem_cons_zero, List.getElem_cons_succ, Act.put, List.setIfInBounds_toArray, List.set_cons_zero, List.set_cons_succ]
  refine wpAnyH_take (i := 4) (v := ?_) rfl (by kernel_rfl) (by kernel_rfl) (by kernel_rfl) (fun _ _ _ h => h) (Or.inl ⟨?_, ?_⟩) hHeld ?_
  rotate_left
  · kernel_rfl
  · intro V hSw
    clear hSw
    first | (go_simp; done) | (go_simp; with_reducible rfl)
  try simp only [List.getElem_toArray, List.getElem_cons_zero, List.getElem_cons_succ, Act.put, List.setIfInBounds_toArray, List.set_cons_zero, List.set_cons_succ]
  refine wpAnyH_take (i := 5) (v := ?_) rfl (by kernel_rfl) (by kernel_rfl) (by kernel_rfl) (fun _ _ _ h => h) (Or.inl ⟨?_, ?_⟩) hHeld ?_
  rotate_left
  · kernel_rfl
  · intro V hSw
    have h := A4.out.below (show Fro V4.heap.size V4 V from hSw).b
    have a0 := h.c 0 _ rfl
    have a1 := h.c 1 _ rfl
    have a2 := h.c 2 _ rfl
    have a3 := h.c 3 _ rfl
    clear h
    clear hSw
    first | (go_simp; done) | (go_simp; with_reducible rfl)
  try simp only [List.getElem_toArray, List.getElem_cons_zero, List.getElem_cons_succ, Act.put, List.setIfInBounds_toArray, List.set_cons_zero, List.set_cons_succ]
  refine wpAnyH_take (i := 6) (v := ?_) rfl (by kernel_rfl) (by kernel_rfl) (by kernel_rfl) (fun _ _ _ h => h) (Or.inl ⟨?_, ?_⟩) hHeld ?_
  rotate_left
  · kernel_rfl
  · intro V hSw
    clear hSw
    first | (go_simp; done) | (go_simp; with_reducible rfl)
  try simp only [List.getElem_toArray, List.getElem_cons_zero, List.getElem_cons_succ, Act.put, List.setIfInBounds_toArray, List.set_cons_zero, List.set_cons_succ]
  refine wpAnyH_ready (rs := [3]) (by kernel_rfl) (by simp) ?_
  refine AllReadyH.cons rfl (fun K hK => ?_) AllReadyH.nil
  go_simp
  refine (C1.out _ WD.out).mono ?_
  rintro e w5 ⟨rfl, hb⟩
  have R1 := Lib.hid (WD.out.next hb)
  clear hb
  refine hK.out _ _ ?_ (fun hHeld => ?_)
  · exact R1.out
  clear hK K
  try simp only [List.getElem_toArray, List.getElem_cons_zero, List.getElem_cons_succ, Act.put, List.setIfInBounds_toArray, List.set_cons_zero, List.set_cons_succ]
  refine wpAnyH_ready (rs := [7]) (by kernel_rfl) (by simp) ?_
  refine AllReadyH.cons rfl (fun K hK => ?_) AllReadyH.nil
  go_simp
  refine (C2.out _ R1.out).mono ?_
  rintro e w5 ⟨rfl, hb⟩
  have R2 := Lib.hid (R1.out.next hb)
  clear hb
  refine hK.out _ _ ?_ (fun hHeld => ?_)
  · exact R2.out
  clear hK K
  try simp only [List.getElem_toArray, List.getElem_cons_zero, List.getElem_cons_succ, Act.put, List.setIfInBounds_toArray, List.set_cons_zero, List.set_cons_succ]
  refine wpAnyH_take (i := 8) (v := ?_) rfl (by kernel_rfl) (by kernel_rfl) (by kernel_rfl) (fun _ _ _ h => h) (Or.inl ⟨?_, ?_⟩) hHeld ?_
  rotate_left
  · kernel_rfl
  · intro V hSw
    clear hSw
    first | (go_simp; done) | (go_simp; with_reducible rfl)
  try simp only [List.getElem_toArray, List.getElem_cons_zero, List.getElem_cons_succ, Act.put, List.setIfInBounds_toArray, List.set_cons_zero, List.set_cons_succ]
  refine wpAnyH_take (i := 9) (v := ?_) rfl (by kernel_rfl) (by kernel_rfl) (by kernel_rfl) (fun _ _ _ h => h) (Or.inl ⟨?_, ?_⟩) hHeld ?_
  rotate_left
  · kernel_rfl
  · intro V hSw
    clear hSw
    first | (go_simp; done) | (go_simp; with_reducible rfl)
  try simp only [List.getElem_toArray, List.getElem_cons_zero, List.getElem_cons_succ, Act.put, List.setIfInBounds_toArray, List.set_cons_zero, List.set_cons_succ]
  refine wpAnyH_take (i := 10) (v := ?_) rfl (by kernel_rfl) (by kernel_rfl) (by kernel_rfl) (fun _ _ _ h => h) (Or.inl ⟨?_, ?_⟩) hHeld ?_
  rotate_left
  · kernel_rfl
  · intro V hSw
    clear hSw
    first | (go_simp; done) | (go_simp; with_reducible rfl)
  try simp only [List.getElem_toArray, List.getElem_cons_zero, List.getElem_cons_succ, Act.put, List.setIfInBounds_toArray, List.set_cons_zero, List.set_cons_succ]
  refine wpAnyH_take (i := 11) (v := ?_) rfl (by kernel_rfl) (by kernel_rfl) (by kernel_rfl) (fun _ _ _ h => h) (Or.inl ⟨?_, ?_⟩) hHeld ?_
  rotate_left
  · kernel_rfl
  · intro V hSw
    have h := A4.out.below (show Fro V4.heap.size V4 V from hSw).b
    have a0 := h.c 0 _ rfl
    have a1 := h.c 1 _ rfl
    have a2 := h.c 2 _ rfl
    have a3 := h.c 3 _ rfl
    clear h
    clear hSw
    first | (go_simp; done) | (go_simp; with_reducible rfl)
  try simp only [List.getElem_toArray, List.getElem_cons_zero, List.getElem_cons_succ, Act.put, List.setIfInBounds_toArray, List.set_cons_zero, List.set_cons_succ]
  refine wpAnyH_take (i := 12) (v := ?_) rfl (by kernel_rfl) (by kernel_rfl) (by kernel_rfl) (fun _ _ _ h => h) (Or.inl ⟨?_, ?_⟩) hHeld ?_
  rotate_left
  · kernel_rfl
  · intro V hSw
    clear hSw
    first | (go_simp; done) | (go_simp; with_reducible rfl)
  try simp only [List.getElem_toArray, List.getElem_cons_zero, List.getElem_cons_succ, Act.put, List.setIfInBounds_toArray, List.set_cons_zero, List.set_cons_succ]
  refine wpAnyH_ready (rs := [13]) (by kernel_rfl) (by simp) ?_
  refine AllReadyH.cons rfl (fun K hK => ?_) AllReadyH.nil
  go_simp
  refine (C3.out _ R2.out).mono ?_
  rintro e w5 ⟨rfl, hb⟩
  have R3 := Lib.hid (R2.out.next hb)
  clear hb
  refine hK.out _ _ ?_ (fun hHeld => ?_)
  · exact R3.out
  clear hK K
  try simp only [List.getElem_toArray, List.getElem_cons_zero, List.getElem_cons_succ, Act.put, List.setIfInBounds_toArray, List.set_cons_zero, List.set_cons_succ]
  refine wpAnyH_take (i := 14) (v := ?_) rfl (by kernel_rfl) (by kernel_rfl) (by kernel_rfl) (fun _ _ _ h => h) (Or.inl ⟨?_, ?_⟩) hHeld ?_
  rotate_left
  · kernel_rfl
  · intro V hSw
    clear hSw
    first | (go_simp; done) | (go_simp; with_reducible rfl)
  try simp only [List.getElem_toArray, List.getElem_cons_zero, List.getElem_cons_succ, Act.put, List.setIfInBounds_toArray, List.set_cons_zero, List.set_cons_succ]
  refine wpAnyH_take (i := 15) (v := ?_) rfl (by kernel_rfl) (by kernel_rfl) (by kernel_rfl) (fun _ _ _ h => h) (Or.inl ⟨?_, ?_⟩) hHeld ?_
  rotate_left
  · kernel_rfl
  · intro V hSw
    clear hSw
    first | (go_simp; done) | (go_simp; with_reducible rfl)
  try simp only [List.getElem_toArray, List.getElem_cons_zero, List.getElem_cons_succ, Act.put, List.setIfInBounds_toArray, List.set_cons_zero, List.set_cons_succ]
  refine wpAnyH_take (i := 16) (v := ?_) rfl (by kernel_rfl) (by kernel_rfl) (by kernel_rfl) (fun _ _ _ h => h) (Or.inl ⟨?_, ?_⟩) hHeld ?_
  rotate_left
  · kernel_rfl
  · intro V hSw
    clear hSw
    first | (go_simp; done) | (go_simp; with_reducible rfl)
  try simp only [List.getElem_toArray, List.getElem_cons_zero, List.getElem_cons_succ, Act.put, List.setIfInBounds_toArray, List.set_cons_zero, List.set_cons_succ]
  refine wpAnyH_take (i := 17) (v := ?_) rfl (by kernel_rfl) (by kernel_rfl) (by kernel_rfl) (fun _ _ _ h => h) (Or.inl ⟨?_, ?_⟩) hHeld ?_
  rotate_left
  · kernel_rfl
  · intro V hSw
    have h := A4.out.below (show Fro V4.heap.size V4 V from hSw).b
    have a0 := h.c 0 _ rfl
    have a1 := h.c 1 _ rfl
    have a2 := h.c 2 _ rfl
    have a3 := h.c 3 _ rfl
    clear h
    clear hSw
    first | (go_simp; done) | (go_simp; with_reducible rfl)
  try simp only [List.getElem_toArray, List.getElem_cons_zero, List.getElem_cons_succ, Act.put, List.setIfInBounds_toArray, List.set_cons_zero, List.set_cons_succ]
  refine wpAnyH_take (i := 18) (v := ?_) rfl (by kernel_rfl) (by kernel_rfl) (by kernel_rfl) (fun _ _ _ h => h) (Or.inl ⟨?_, ?_⟩) hHeld ?_
  rotate_left
  · kernel_rfl
  · intro V hSw
    clear hSw
    first | (go_simp; done) | (go_simp; with_reducible rfl)
  try simp only [List.getElem_toArray, List.getElem_cons_zero, List.getElem_cons_succ, Act.put, List.setIfInBounds_toArray, List.set_cons_zero, List.set_cons_succ]
  refine wpAnyH_ready (rs := [19]) (by kernel_rfl) (by simp) ?_
  refine AllReadyH.cons rfl (fun K hK => ?_) AllReadyH.nil
  go_simp
  refine (C4.out _ R3.out).mono ?_
  rintro e w5 ⟨rfl, hb⟩
  have R4 := Lib.hid (R3.out.next hb)
  clear hb
  refine hK.out _ _ ?_ (fun hHeld => ?_)
  · exact R4.out
  clear hK K
  try simp only [List.getElem_toArray, List.getElem_cons_zero, List.getElem_cons_succ, Act.put, List.setIfInBounds_toArray, List.set_cons_zero, List.set_cons_succ]
  refine wpAnyH_take (i := 20) (v := ?_) rfl (by kernel_rfl) (by kernel_rfl) (by kernel_rfl) (fun _ _ _ h => h) (Or.inl ⟨?_, ?_⟩) hHeld ?_
  rotate_left
  · kernel_rfl
  · intro V hSw
    clear hSw
    first | (go_simp; done) | (go_simp; with_reducible rfl)
  try simp only [List.getElem_toArray, List.getElem_cons_zero, List.getElem_cons_succ, Act.put, List.setIfInBounds_toArray, List.set_cons_zero, List.set_cons_succ]
  refine wpAnyH_done (by kernel_rfl) ?_ _
  try simp only [bne_self_eq_false, Bool.false_or, Bool.or_false]
  have h4 := A4.out.below R4.out.b
  have a0 := h4.c 0 _ rfl
  have a1 := h4.c 1 _ rfl
  have a2 := h4.c 2 _ rfl
  have a3 := h4.c 3 _ rfl
  go_wp2_with fail
  refine (PC.out _ R4.out hpos.out).mono ?_
  rintro e w6 ⟨v, bound, ok, rfl, hb, hok⟩
  have R6 := Lib.hid (R4.out.next hb)
  have HOK := Lib.hid hok
  clear hb hok a0 a1 a2 a3 h4
  cases ok with
  | false =>
    go_wp2
    go_ret
    exact ⟨rfl, BF.out _ R6.out⟩
  | true =>
    obtain ⟨la, HO, HR⟩ := HOK.out rfl
    have h50 : la.length ≤ 50 := HR.out.2.1.un.len P4.out.n (fun x hx => (HR.out.2.1.in_ x hx).1)
    have hla0 : 0 < la.length := HR.out.1
    obtain ⟨ga, ca, rfl, hga0, hgz0⟩ := ownP_form HO.out hla0
    have GA : Hid (V4.heap.size ≤ ga) := Nat.le_trans R4.out.z hga0
    have HB6' : w5.heap.size ≤ ga := hga0
    obtain ⟨B6, hB6⟩ : ∃ B6, B6 = w5.heap.size := ⟨_, rfl⟩
    rw [← hB6] at HO HB6'
    have HB6 := Lib.hid HB6'
    clear HB6'
    obtain ⟨L, hL⟩ : ∃ L, la.length = L := ⟨_, rfl⟩
    have HL := Lib.hid hL
    have BY : Hid (BoundOk evs ⟨al, n, mr, ed⟩ 1 bound la) := (bound_iff P4.out.fit P4.out.flt hnz.out HR.out.2.1.b0).2 HR.out.2.2
    have hbd0 := HR.out.2.1.b0
    have hbd1 := HR.out.2.1.b1
    have BN : Hid (0 < bound → ¬ BoundOk evs ⟨al, n, mr, ed⟩ 1 (bound - 1) la) := fun h hh => HR.out.2.1.least h ((bound_iff P4.out.fit P4.out.flt hnz.out (by omega)).1 hh)
    have h63 : Hid (la.length ≤ 140737488355328) := by simp only [Hid]; omega
    have INP : Hid (∀ x, x ∈ la → InP n x ∧ -1 ≤ x.rk ∧ x.rk ≤ 60) := HR.out.2.1.in_
    rw [hL] at h50 hla0 HO ⊢
    clear HOK hgz0 hB6 hga0 HR hL C1 C2 C3 C4 BQ R1 R2 R3 R4 WW WD HLP FL PC
    go_upto_region 11 with fail
    go_cut [81] (fun v wx => v = .bool false ∧ Hid (Fro V4.heap.size V4 wx) ∧ Hid (OwnP B6 la (.slice (some ⟨ga, 0, none⟩) L ca) wx))
    case first =>
      have h4 := A4.out.below R6.out.b
      have a0 := h4.c 0 _ rfl
      have a1 := h4.c 1 _ rfl
      have a2 := h4.c 2 _ rfl
      have a3 := h4.c 3 _ rfl
      go_wp2_with fail
      refine (BC.out _ _ _ _ _ la _ HL.out R6.out (OwnP.pasL HO.out HL.out) h63.out).mono ?_
      intro e w7 h7
      obtain ⟨rfl, hb⟩ := h7.yes2 BY.out
      have R7 := Lib.hid (R6.out.next hb)
      have O7 := Lib.hid (HO.out.below hb (Nat.le_refl _))
      clear hb h7 a0 a1 a2 a3 h4
      have h4 := A4.out.below R7.out.b
      have a0 := h4.c 0 _ rfl
      have a1 := h4.c 1 _ rfl
      have a2 := h4.c 2 _ rfl
      have a3 := h4.c 3 _ rfl
      by_cases hp : 0 < bound
      · have NO := Lib.hid (BN.out hp)
        go_wp2_with fail
        refine (BC.out _ _ _ _ _ la _ HL.out R7.out (OwnP.pasL O7.out HL.out) h63.out).mono ?_
        intro e w8 h8
        obtain ⟨rfl, hb⟩ := h8.no2 NO.out
        have R8 := Lib.hid (R7.out.next hb)
        have O8 := Lib.hid (O7.out.below hb (Nat.le_refl _))
        clear hb h8 a0 a1 a2 a3 h4
        go_wp2_with fail
        go_meet
        exact ⟨rfl, R8.out, O8.out⟩
      · go_wp2_with fail
        go_meet
        exact ⟨rfl, R7.out, O7.out⟩
    case rest =>
      obtain ⟨rfl, RC, OC⟩ := hcut
      clear R6 HO BY BN
      have e4 := E4.out.below RC.out.b
      have x0 := e4.c 0 _ rfl
      have x1 := e4.c 1 _ rfl
      obtain ⟨kx, hkx⟩ : ∃ kx : Nat, at_.tmod (L : Int) = (kx : Int) := ⟨(at_ % (L : Int)).toNat, by rw [Int.tmod_eq_emod_of_nonneg ha0, Int.toNat_of_nonneg (Int.emod_nonneg _ (by omega))]⟩
      have hkL : kx < L := by have := Int.emod_lt_of_pos at_ (b := (L : Int)) (by omega); rw [Int.tmod_eq_emod_of_nonneg ha0] at hkx; omega
      obtain ⟨q, hq⟩ : ∃ q : Int, kd.tmod 4 = q := ⟨_, rfl⟩
      have hq4 : q = 0 ∨ q = 1 ∨ q = 2 ∨ q = 3 := by rw [Int.tmod_eq_emod_of_nonneg hk0] at hq; omega
      have HQ4 := Lib.hid hq4
      clear hq4
      go_upto_block 0 with fail
      clear hq hkx x0 x1
      obtain ⟨x, hx⟩ : ∃ x, la[kx]? = some x := ⟨_, List.getElem?_eq_getElem (by rw [HL.out]; exact hkL)⟩
      have HX := Lib.hid hx
      have xin := INP.out x (List.mem_of_getElem? hx)
      have hn5 := P4.out.n
      simp only at hn5
      obtain ⟨bb, off, hAL, hgz, p0, p1, p2⟩ := PasAt.get (OwnP.pasL OC.out HL.out) hx
      cases hAL
      obtain ⟨xf, xs, xr⟩ := x
      dsimp only [InP] at p0 p1 p2 xin
      rw [Nat.zero_add] at p0 p1 p2
      obtain ⟨⟨i0, i1, i2, i3⟩, i4, i5⟩ := xin
      have x2 := e4.c 2 _ rfl
      have FZ : Hid (∀ j, wc.frozen? ⟨ga, j, none⟩ = false) := fun j => by
        have h := OC.out
        unfold OwnP Own at h
        rw [← HL.out] at h
        exact World.ownsRow.frozenAt h j
      have hL63 : Hid (L ≤ 140737488355328) := by simp only [Hid]; omega
      clear hx e4
      go_cut [9] (fun v wx => ∃ (l' : List Pa) (A : Option Addr) (c : Nat), v = .slice A l'.length c ∧ Hid (PasAt wx A l') ∧ Hid (l'.length ≤ 140737488355328) ∧ Hid (Fro V4.heap.size V4 wx))
      case first =>
        rcases HQ4.out with rfl | rfl | rfl | rfl
        · have fz := FZ.out (kx * 3)
          have hw : IntKind.i64.wrap (xf + by_) = xf + by_ := IntWalk.i64_in _ (by omega)
          have O9 : Hid (OwnP B6 (la.set kx ⟨xf + by_, xs, xr⟩) (.slice (some ⟨ga, 0, none⟩) L ca) (wc.setCell ⟨ga, kx * 3, none⟩ (.int .i64 (xf + by_))).drew) := Own.drew (OwnP.put OC.out HL.out (i := 0) HX.out rfl (by decide))
          have L9 : Hid ((la.set kx ⟨xf + by_, xs, xr⟩).length = L) := by rw [Hid, List.length_set]; exact HL.out
          have R9 : Hid (Fro V4.heap.size V4 (wc.setCell ⟨ga, kx * 3, none⟩ (.int .i64 (xf + by_))).drew) := (RC.out.setCell GA.out _).drew
          go_upto_region 17 with fail
          go_region
          go_wp2_with fail
          go_meet
          exact ⟨la.set kx ⟨xf + by_, xs, xr⟩, some ⟨ga, 0, none⟩, ca, by rw [L9.out], OwnP.pasL O9.out L9.out, by rw [L9.out]; exact hL63.out, R9.out⟩
        · have fz := FZ.out (kx * 3 + 1)
          have hw : IntKind.i64.wrap (xs + by_) = xs + by_ := IntWalk.i64_in _ (by omega)
          have O9 : Hid (OwnP B6 (la.set kx ⟨xf, xs + by_, xr⟩) (.slice (some ⟨ga, 0, none⟩) L ca) (wc.setCell ⟨ga, kx * 3 + 1, none⟩ (.int .i64 (xs + by_))).drew) := Own.drew (OwnP.put OC.out HL.out (i := 1) HX.out rfl (by decide))
          have L9 : Hid ((la.set kx ⟨xf, xs + by_, xr⟩).length = L) := by rw [Hid, List.length_set]; exact HL.out
          have R9 : Hid (Fro V4.heap.size V4 (wc.setCell ⟨ga, kx * 3 + 1, none⟩ (.int .i64 (xs + by_))).drew) := (RC.out.setCell GA.out _).drew
          go_upto_region 19 with fail
          go_region
          go_wp2_with fail
          go_meet
          exact ⟨la.set kx ⟨xf, xs + by_, xr⟩, some ⟨ga, 0, none⟩, ca, by rw [L9.out], OwnP.pasL O9.out L9.out, by rw [L9.out]; exact hL63.out, R9.out⟩
        · have fz := FZ.out (kx * 3 + 2)
          have hw : IntKind.i64.wrap (xr + by_) = xr + by_ := IntWalk.i64_in _ (by omega)
          have O9 : Hid (OwnP B6 (la.set kx ⟨xf, xs, xr + by_⟩) (.slice (some ⟨ga, 0, none⟩) L ca) (wc.setCell ⟨ga, kx * 3 + 2, none⟩ (.int .i64 (xr + by_))).drew) := Own.drew (OwnP.put OC.out HL.out (i := 2) HX.out rfl (by decide))
          have L9 : Hid ((la.set kx ⟨xf, xs, xr + by_⟩).length = L) := by rw [Hid, List.length_set]; exact HL.out
          have R9 : Hid (Fro V4.heap.size V4 (wc.setCell ⟨ga, kx * 3 + 2, none⟩ (.int .i64 (xr + by_))).drew) := (RC.out.setCell GA.out _).drew
          go_upto_region 21 with fail
          go_region
          go_wp2_with fail
          go_meet
          exact ⟨la.set kx ⟨xf, xs, xr + by_⟩, some ⟨ga, 0, none⟩, ca, by rw [L9.out], OwnP.pasL O9.out L9.out, by rw [L9.out]; exact hL63.out, R9.out⟩
        · have hk3 : ∀ x : Pa, (Pa.cells x).length = 3 := fun _ => rfl
          have hcap : L ≤ ca := by
            have h := OC.out
            rw [← HL.out] at h
            have := Own.cap h
            rw [HL.out] at this
            exact this
          obtain ⟨A, hA, hnews⟩ : ∃ A : Addr, (if ca = kx + 1 then some (⟨ga, 0, none⟩ : Addr) else some ⟨ga, (kx + 1) * 3, none⟩) = some A ∧ Hid (∀ j u, ((la.drop (kx + 1)).flatMap Pa.cells)[j]? = some u → wc.drew.cell? (A.add j) = some u) := by
            by_cases h : ca = kx + 1
            · refine ⟨⟨ga, 0, none⟩, by simp [h], fun j u hu => ?_⟩
              rw [List.drop_of_length_le (by rw [HL.out]; omega)] at hu
              simp at hu
            · refine ⟨⟨ga, (kx + 1) * 3, none⟩, by simp [h], fun j u hu => ?_⟩
              have := ownTail hk3 OC.out HL.out (n := kx + 1) (by omega) j u hu
              rw [Addr.add_lit]
              exact this
          have F1 : Hid (wc.drew.ownsRow B6 46 3 (.slice (some ⟨ga, 0, none⟩) kx ca) kx ((la.take kx).flatMap Pa.cells)) := by
            have h := ownFirst hk3 OC.out HL.out (n := kx) (by omega)
            unfold Own at h
            rw [show (la.take kx).length = kx by rw [List.length_take, HL.out]; omega] at h
            exact h
          have s1 : Hid (((la.drop (kx + 1)).flatMap Pa.cells).length = (L - (kx + 1)) * 3) := by
            have h : ∀ l : List Pa, (l.flatMap Pa.cells).length = l.length * 3 := fun l => by
              induction l with
              | nil => rfl
              | cons a r ih => rw [List.flatMap_cons, List.length_append, ih, hk3, List.length_cons]; omega
            rw [Hid, h, List.length_drop, HL.out]
          have s2 : Hid (∀ u ∈ (la.drop (kx + 1)).flatMap Pa.cells, u.oneCell' = true) := by
            intro u hu
            obtain ⟨x, _, hx⟩ := List.mem_flatMap.1 hu
            exact paOne x u hx
          have s3 : Hid (kx + (L - (kx + 1)) ≤ maxLen) := by simp only [Hid, maxLen]; omega
          have s4 : Hid ((kx + (L - (kx + 1))) * 24 ≤ 140737488355328) := by simp only [Hid]; omega
          have s5 : Hid (B6 ≤ wc.drew.heap.size) := by have := HB6.out; show B6 ≤ wc.heap.size; omega
          have hic : kx ≤ ca := by omega
          have hwr : IntKind.i64.wrap ((kx : Int) + 1) = (kx : Int) + 1 := by rw [IntKind.wrap_i64]; omega
          have hp0 : (0 : Int) ≤ (kx : Int) + 1 := by omega
          have hp1 : (kx : Int) + 1 ≤ (L : Int) := by omega
          have hp2 : ((kx : Int) + 1).toNat = kx + 1 := by omega
          have R9 := Lib.hid RC.out.drew
          have hL1 : Hid (kx + (L - (kx + 1)) ≤ 140737488355328) := by simp only [Hid]; omega
          have hL2 : Hid (kx + (L - (kx + 1)) = (la.take kx ++ la.drop (kx + 1)).length) := by rw [Hid, List.length_append, List.length_take, List.length_drop, HL.out]; omega
          clear hk3 p0 p1 p2
          go_upto_region 15 with fail
          go_region_law ((refine step_append_at rfl (.tmp 93) (.tmp 97) 33 rfl B6 46 _ 3 24 Try.underlying33 paInfo rfl (by decide) (.slice (some ⟨ga, 0, none⟩) kx ca) kx ((la.take kx).flatMap Pa.cells) (by simp [Act.eval, Act.put]) F1.out A (L - (kx + 1)) (ca - (kx + 1)) ((la.drop (kx + 1)).flatMap Pa.cells) (by simp [Act.eval, Act.put]) s1.out hnews.out s2.out s3.out s4.out s5.out ?_); intro A' c' w9 ho hg hat; have HO9 := Lib.hid ho; have HG9 := Lib.hid hg; clear ho hg hat)
          go_wp2_with fail
          have O9 : Hid (OwnP B6 (la.take kx ++ la.drop (kx + 1)) (.slice A' (kx + (L - (kx + 1))) c') w9) := by
            simp only [Hid]
            unfold OwnP Own
            rw [← hL2.out, List.flatMap_append]
            exact HO9.out
          go_meet
          exact ⟨la.take kx ++ la.drop (kx + 1), A', c', by rw [hL2.out], OwnP.pasL O9.out hL2.out.symm, by rw [← hL2.out]; exact hL1.out, R9.out.grown HG9.out (fun j hj => by simp only [Value.ownBlock, Option.some.injEq] at hj; rw [← hj]; exact GA.out)⟩
      case rest =>
        clear p0 p1 p2 x2 i0 i1 i2 i3 i4 i5 FZ HX OC RC
        obtain ⟨l2, A, c, rfl, PA, LL, R⟩ := hcut
        obtain ⟨b2, hbq⟩ : ∃ b2 : Bool, b2 = true ↔ BoundOk evs ⟨al, n, mr, ed⟩ 1 bound l2 := by
          by_cases h : BoundOk evs ⟨al, n, mr, ed⟩ 1 bound l2
          · exact ⟨true, by simp [h]⟩
          · exact ⟨false, by simp [h]⟩
        have BQ := Lib.hid hbq
        clear hbq
        have SP : Hid (∀ V, Fro wc.heap.size wc V → PasAt V A l2) := fun V hb => PA.out.below PaE.stays hb.b
        have SV : Hid (∀ V, Fro wc.heap.size wc V → Fro V4.heap.size V4 V) := fun V hb => R.out.next hb.b
        have C1 : Hid (∀ V, Fro wc.heap.size wc V → Calls Try.prog 11 #[.slice AE 5 cE, .agg #[.slice A1 al.length c1, .int .i64 n, .slice A2 mr.length c2, .slice A3 ed.length c3], .int .i64 1, .int .i64 bound, .slice A l2.length c] V (Yes b2 V)) := fun V hb =>
          (BC.out V 1 bound A c l2 _ rfl (SV.out V hb) (SP.out V hb) LL.out).mono fun e w' ⟨r, he, hr, hb'⟩ => ⟨by rw [he]; congr 2; rw [Bool.eq_iff_iff, hr, BQ.out], hb'⟩
        have C2 : Hid (∀ V, Fro wc.heap.size wc V → Calls Try.prog 12 #[.slice AE 5 cE, .agg #[.slice A1 al.length c1, .int .i64 n, .slice A2 mr.length c2, .slice A3 ed.length c3], .int .i64 1, .int .i64 bound, .slice A l2.length c] V (Yes b2 V)) := fun V hb =>
          (IC.out V bound A c l2 _ rfl hbd0 hnz.out (SV.out V hb) (SP.out V hb) LL.out).mono fun e w' ⟨r, he, hr, hb'⟩ => ⟨by rw [he]; congr 2; rw [Bool.eq_iff_iff, hr, BQ.out], hb'⟩
        have A5 : Hid (HasAt w2.heap.size [.slice A1 al.length c1, .int .i64 n, .slice A2 mr.length c2, .slice A3 ed.length c3] wc) := A4.out.below R.out.b
        have WD := Lib.hid (Fro.here wc).drew
        go_wp2_with fail
        refine wp_region_held_drew (S := (fun V => Fro wc.heap.size wc V)) (by kernel_rfl) ?_ (fun hHeld => ?_)
        · exact WD.out
        refine wpAnyH_take (i := 0) (v := ?_) rfl (by kernel_rfl) (by kernel_rfl) (by kernel_rfl) (fun _ _ _ h => h) (Or.inl ⟨?_, ?_⟩) hHeld ?_
        rotate_left
        · kernel_rfl
        · intro V hSw
          clear hSw
          first | (go_simp; done) | (go_simp; with_reducible rfl)
        try simp only [List.getElem_toArray, List.getElem_cons_zero, List.getElem_cons_succ, Act.put, List.setIfInBounds_toArray, List.set_cons_zero, List.set_cons_succ]
        refine wpAnyH_take (i := 1) (v := ?_) rfl (by kernel_rfl) (by kernel_rfl) (by kernel_rfl) (fun _ _ _ h => h) (Or.inl ⟨?_, ?_⟩) hHeld ?_
        rotate_left
        · kernel_rfl
        · intro V hSw
          have h := A5.out.below (show Fro wc.heap.size wc V from hSw).b
          have a0 := h.c 0 _ rfl
          have a1 := h.c 1 _ rfl
          have a2 := h.c 2 _ rfl
          have a3 := h.c 3 _ rfl
          clear h
          clear hSw
          first | (go_simp; done) | (go_simp; with_reducible rfl)
        try simp only [List.getElem_toArray, List.getElem_cons_zero, List.getElem_cons_succ, Act.put, List.setIfInBounds_toArray, List.set_cons_zero, List.set_cons_succ]
        refine wpAnyH_take (i := 2) (v := ?_) rfl (by kernel_rfl) (by kernel_rfl) (by kernel_rfl) (fun _ _ _ h => h) (Or.inl ⟨?_, ?_⟩) hHeld ?_
        rotate_left
        · kernel_rfl
        · intro V hSw
          clear hSw
          first | (go_simp; done) | (go_simp; with_reducible rfl)
        try simp only [List.getElem_toArray, List.getElem_cons_zero, List.getElem_cons_succ, Act.put, List.setIfInBounds_toArray, List.set_cons_zero, List.set_cons_succ]
        refine wpAnyH_take (i := 3) (v := ?_) rfl (by kernel_rfl) (by kernel_rfl) (by kernel_rfl) (fun _ _ _ h => h) (Or.inl ⟨?_, ?_⟩) hHeld ?_
        rotate_left
        · kernel_rfl
        · intro V hSw
          clear hSw
          first | (go_simp; done) | (go_simp; with_reducible rfl)
        try simp only [List.getElem_toArray, List.getElem_cons_zero, List.getElem_cons_succ, Act.put, List.setIfInBounds_toArray, List.set_cons_zero, List.set_cons_succ]
        refine wpAnyH_take (i := 5) (v := ?_) rfl (by kernel_rfl) (by kernel_rfl) (by kernel_rfl) (fun _ _ _ h => h) (Or.inl ⟨?_, ?_⟩) hHeld ?_
        rotate_left
        · kernel_rfl
        · intro V hSw
          clear hSw
          first | (go_simp; done) | (go_simp; with_reducible rfl)
        try simp only [List.getElem_toArray, List.getElem_cons_zero, List.getElem_cons_succ, Act.put, List.setIfInBounds_toArray, List.set_cons_zero, List.set_cons_succ]
        refine wpAnyH_take (i := 6) (v := ?_) rfl (by kernel_rfl) (by kernel_rfl) (by kernel_rfl) (fun _ _ _ h => h) (Or.inl ⟨?_, ?_⟩) hHeld ?_
        rotate_left
        · kernel_rfl
        · intro V hSw
          have h := A5.out.below (show Fro wc.heap.size wc V from hSw).b
          have a0 := h.c 0 _ rfl
          have a1 := h.c 1 _ rfl
          have a2 := h.c 2 _ rfl
          have a3 := h.c 3 _ rfl
          clear h
          clear hSw
          first | (go_simp; done) | (go_simp; with_reducible rfl)
        try simp only [List.getElem_toArray, List.getElem_cons_zero, List.getElem_cons_succ, Act.put, List.setIfInBounds_toArray, List.set_cons_zero, List.set_cons_succ]
        refine wpAnyH_take (i := 7) (v := ?_) rfl (by kernel_rfl) (by kernel_rfl) (by kernel_rfl) (fun _ _ _ h => h) (Or.inl ⟨?_, ?_⟩) hHeld ?_
        rotate_left
        · kernel_rfl
        · intro V hSw
          clear hSw
          first | (go_simp; done) | (go_simp; with_reducible rfl)
        try simp only [List.getElem_toArray, List.getElem_cons_zero, List.getElem_cons_succ, Act.put, List.setIfInBounds_toArray, List.set_cons_zero, List.set_cons_succ]
        refine wpAnyH_take (i := 8) (v := ?_) rfl (by kernel_rfl) (by kernel_rfl) (by kernel_rfl) (fun _ _ _ h => h) (Or.inl ⟨?_, ?_⟩) hHeld ?_
        rotate_left
        · kernel_rfl
        · intro V hSw
          clear hSw
          first | (go_simp; done) | (go_simp; with_reducible rfl)
        try simp only [List.getElem_toArray, List.getElem_cons_zero, List.getElem_cons_succ, Act.put, List.setIfInBounds_toArray, List.set_cons_zero, List.set_cons_succ]
        refine wpAnyH_ready (rs := [4]) (by kernel_rfl) (by simp) ?_
        refine AllReadyH.cons rfl (fun K hK => ?_) AllReadyH.nil
        go_simp
        refine (C1.out _ WD.out).mono ?_
        rintro e w5 ⟨rfl, hb⟩
        have R1 := Lib.hid (WD.out.next hb)
        clear hb
        refine hK.out _ _ ?_ (fun hHeld => ?_)
        · exact R1.out
        clear hK K
        try simp only [List.getElem_toArray, List.getElem_cons_zero, List.getElem_cons_succ, Act.put, List.setIfInBounds_toArray, List.set_cons_zero, List.set_cons_succ]
        refine wpAnyH_ready (rs := [9]) (by kernel_rfl) (by simp) ?_
        refine AllReadyH.cons rfl (fun K hK => ?_) AllReadyH.nil
        go_simp
        refine (C2.out _ R1.out).mono ?_
        rintro e w5 ⟨rfl, hb⟩
        have R2 := Lib.hid (R1.out.next hb)
        clear hb
        refine hK.out _ _ ?_ (fun hHeld => ?_)
        · exact R2.out
        clear hK K
        try simp only [List.getElem_toArray, List.getElem_cons_zero, List.getElem_cons_succ, Act.put, List.setIfInBounds_toArray, List.set_cons_zero, List.set_cons_succ]
        refine wpAnyH_take (i := 10) (v := ?_) rfl (by kernel_rfl) (by kernel_rfl) (by kernel_rfl) (fun _ _ _ h => h) (Or.inl ⟨?_, ?_⟩) hHeld ?_
        rotate_left
        · kernel_rfl
        · intro V hSw
          clear hSw
          first | (go_simp; done) | (go_simp; with_reducible rfl)
        try simp only [List.getElem_toArray, List.getElem_cons_zero, List.getElem_cons_succ, Act.put, List.setIfInBounds_toArray, List.set_cons_zero, List.set_cons_succ]
        refine wpAnyH_take (i := 11) (v := ?_) rfl (by kernel_rfl) (by kernel_rfl) (by kernel_rfl) (fun _ _ _ h => h) (Or.inl ⟨?_, ?_⟩) hHeld ?_
        rotate_left
        · kernel_rfl
        · intro V hSw
          clear hSw
          first | (go_simp; done) | (go_simp; with_reducible rfl)
        try simp only [List.getElem_toArray, List.getElem_cons_zero, List.getElem_cons_succ, Act.put, List.setIfInBounds_toArray, List.set_cons_zero, List.set_cons_succ]
        refine wpAnyH_done (by kernel_rfl) ?_ _
        go_wp2
        go_ret
        exact ⟨rfl, BF.out _ (SV.out _ R2.out)⟩
end Go.Proofs.Ytkbmenpggiojeaa
