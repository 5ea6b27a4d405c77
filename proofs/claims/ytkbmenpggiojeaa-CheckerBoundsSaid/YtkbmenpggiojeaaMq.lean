/-
  CheckerLassos: the law's walk.
-/
import Derived.Test.YtkbmenpggiojeaaMp
import Derived.Test.YtkbmenpggiojeaaMc
import Derived.Test.YtkbmenpggiojeaaMg
namespace Go.Proofs.Ytkbmenpggiojeaa
open Go.RowKit
set_option linter.unusedSimpArgs false
set_option linter.unusedVariables false

theorem SlAt.first {α : Type} {E : Reading α} {k : Nat} {w : World} {A : Option Addr} {l : List α} (h : SlAt E k w A l) (n : Nat) : SlAt E k w A (l.take n) := by
  intro hne
  have hl : l ≠ [] := by rintro rfl; simp at hne
  obtain ⟨b, off, hA, hlt, hc⟩ := h hl
  refine ⟨b, off, hA, hlt, fun i x hx => hc i x ?_⟩
  rw [List.getElem?_take] at hx
  split at hx
  · exact hx
  · cases hx
theorem noLasso {evs : List Ev} {cl : Int} {l : Ls} (h : evs.length ≤ 1) : ¬ LassoOk evs ⟨[4], 1, [], []⟩ cl l := fun hl => by
  have := hl.pl.hev 4 (by simp)
  omega

set_option maxRecDepth 100000 in
set_option maxHeartbeats 8000000 in
theorem lassos_c (s : Int) (g : Gr) (f : B5) (l : Ls) (q : LsP) (cl : Int) (w : World) (hs : 0 ≤ s ∧ s < 256) (hg : g.Ok) (hf : f.Ok)
    (h1 : IntsAt w q.A1 l.fa) (h2 : IntsAt w q.A2 l.fc) (h3 : IntsAt w q.A3 l.no) (h4 : IntsAt w q.A4 l.nc) (n1 : l.fa.length ≤ maxLen) (n2 : l.fc.length ≤ maxLen) (n3 : l.no.length ≤ maxLen) (n4 : l.nc.length ≤ maxLen) :
    Calls Try.prog 5 #[.agg (plCells s g f).toArray, l.val q, .int .i64 cl] w (Yes true w) := by
  have W0 : Hid (Fro w.heap.size w ((w.alloc (.cells (plCells s g f).toArray 29)).alloc (.cells (lsCells l q).toArray 49))) := ((Fro.here w).alloc _).alloc _
  have C1 : Hid (HasAt w.heap.size (plCells s g f) ((w.alloc (.cells (plCells s g f).toArray 29)).alloc (.cells (lsCells l q).toArray 49))) := (HasAt.new w _ _ rfl).alloc _
  have C2 : Hid (HasAt (w.heap.size + 1) (lsCells l q) ((w.alloc (.cells (plCells s g f).toArray 29)).alloc (.cells (lsCells l q).toArray 49))) := HasAt.new _ _ _ (by simp)
  have HG := Lib.hid hg
  have HFL := Lib.hid hf
  have HS := Lib.hid hs
  have H1 := Lib.hid h1
  have H2 := Lib.hid h2
  have H3 := Lib.hid h3
  have H4 := Lib.hid h4
  clear hg hf hs h1 h2 h3 h4
  unfold maxLen at n1 n2 n3 n4
  obtain ⟨fa, fc, no, nc⟩ := l
  obtain ⟨Q1, d1, Q2, d2, Q3, d3, Q4, d4⟩ := q
  dsimp only [Ls.val, lsCells] at *
  go_enter Try.func5, Try.ntmps5
  go_wp2_with fail
  generalize hW : ((w.alloc (.cells (plCells s g f).toArray 29)).alloc (.cells #[.slice Q1 fa.length d1, .slice Q2 fc.length d2, .slice Q3 no.length d3, .slice Q4 nc.length d4] 49)) = W at *
  clear hW
  refine (known_c _).mono ?_
  rintro e w1 ⟨rfl, hb⟩
  have R1 := Lib.hid (W0.out.next hb)
  have D1 := Lib.hid (C1.out.below hb)
  have D2 := Lib.hid (C2.out.below hb)
  clear hb W0 C1 C2
  have r0 := D2.out.c 0 _ rfl
  have r1 := D2.out.c 1 _ rfl
  have r2 := D2.out.c 2 _ rfl
  have r3 := D2.out.c 3 _ rfl
  by_cases hL : fa.length ≤ 5 ∧ fc.length ≤ 5 ∧ no.length ≤ 5 ∧ nc.length ≤ 5
  · obtain ⟨l1, l2, l3, l4⟩ := hL
    go_wp2_with (refine wpList_load_mid rfl 29 (.tmp 3) rfl w.heap.size 0 rfl (plCells s g f) _ (D1.out.range (fun j v hv => by rw [Nat.zero_add]; exact hv)) Try.underlying29 rfl (by kernel_rfl) ?_)
    refine (make42_c s g f w1 HS.out HG.out HFL.out).mono ?_
    rintro e w2 ⟨evs, AE, cE, au, p, rfl, hcE, hP, hb⟩
    have R2 := Lib.hid (R1.out.next hb)
    have E2 := Lib.hid (D2.out.below hb)
    have P2 := Lib.hid hP.out
    clear hb D1 D2 r0 r1 r2 r3 hP
    obtain ⟨bE, oE, rfl, hx1, hx2⟩ := P2.out.ev (by intro h; have := P2.out.l; rw [h] at this; simp at this)
    clear hx1 hx2
    have h1c : (1 : Int) ≤ (cE : Int) := by omega
    have W4 : Hid (Fro w.heap.size w (w2.alloc (.cells (auCells au p).toArray 39))) := R2.out.alloc _
    have E4 : Hid (HasAt (w.heap.size + 1) [.slice Q1 fa.length d1, .slice Q2 fc.length d2, .slice Q3 no.length d3, .slice Q4 nc.length d4] (w2.alloc (.cells (auCells au p).toArray 39))) := E2.out.alloc _
    have A4 : Hid (HasAt w2.heap.size (auCells au p) (w2.alloc (.cells (auCells au p).toArray 39))) := HasAt.new w2 _ _ rfl
    have P4 : Hid (PlantIn (w2.alloc (.cells (auCells au p).toArray 39)) evs (some ⟨bE, oE, none⟩) au p) := P2.out.below (Below.new _ _)
    obtain ⟨al, n, mr, ed⟩ := au
    obtain ⟨A1, c1, A2, c2, A3, c3⟩ := p
    dsimp only [Au.val, auCells] at *
    go_wp2_with fail
    generalize hW : w2.alloc (.cells #[.slice A1 al.length c1, .int .i64 n, .slice A2 mr.length c2, .slice A3 ed.length c3] 39) = V4 at *
    clear hW R2 E2 P2
    have FL : Hid (∀ V, Fro V4.heap.size V4 V → Ls.At V ⟨fa, fc, no, nc⟩ ⟨Q1, d1, Q2, d2, Q3, d3, Q4, d4⟩) := fun V hb =>
      have h := (W4.out.next hb.b).b
      ⟨H1.out.below IntE.stays h, H2.out.below IntE.stays h, H3.out.below IntE.stays h, H4.out.below IntE.stays h, by simp only; omega, by simp only; omega, by simp only; omega, by simp only; omega⟩
    have FP : Hid (∀ V, Fro V4.heap.size V4 V → PlantIn V evs (some ⟨bE, oE, none⟩) ⟨al, n, mr, ed⟩ ⟨A1, c1, A2, c2, A3, c3⟩) := fun V hb => P4.out.below hb.b
    obtain ⟨b, hbq⟩ : ∃ b : Bool, b = true ↔ LassoOk evs ⟨al, n, mr, ed⟩ cl ⟨fa, fc, no, nc⟩ := by
      by_cases h : LassoOk evs ⟨al, n, mr, ed⟩ cl ⟨fa, fc, no, nc⟩
      · exact ⟨true, by simp [h]⟩
      · exact ⟨false, by simp [h]⟩
    have BQ := Lib.hid hbq
    clear hbq
    have LC : Hid (∀ V, Fro V4.heap.size V4 V → Calls Try.prog 14 #[.slice (some ⟨bE, oE, none⟩) 5 cE, .agg #[.slice A1 al.length c1, .int .i64 n, .slice A2 mr.length c2, .slice A3 ed.length c3], .int .i64 cl, .agg #[.slice Q1 fa.length d1, .slice Q2 fc.length d2, .slice Q3 no.length d3, .slice Q4 nc.length d4]] V (Yes b V)) := fun V hb => by
      have h := Lasso_c (some ⟨bE, oE, none⟩) cE evs ⟨al, n, mr, ed⟩ ⟨A1, c1, A2, c2, A3, c3⟩ cl ⟨fa, fc, no, nc⟩ ⟨Q1, d1, Q2, d2, Q3, d3, Q4, d4⟩ V (FP.out V hb).ev (FP.out V hb).at_ (FL.out V hb) (by rw [P4.out.l]; omega)
      rw [P4.out.l] at h
      exact h.mono fun e w' ⟨r, he, hr, hb'⟩ => ⟨by rw [he]; congr 2; rw [Bool.eq_iff_iff, hr, BQ.out], hb'⟩
    have IC : Hid (∀ V, Fro V4.heap.size V4 V → Calls Try.prog 15 #[.slice (some ⟨bE, oE, none⟩) 5 cE, .agg #[.slice A1 al.length c1, .int .i64 n, .slice A2 mr.length c2, .slice A3 ed.length c3], .int .i64 cl, .agg #[.slice Q1 fa.length d1, .slice Q2 fc.length d2, .slice Q3 no.length d3, .slice Q4 nc.length d4]] V (Yes b V)) := fun V hb => by
      have h := isLasso_c (some ⟨bE, oE, none⟩) cE evs ⟨al, n, mr, ed⟩ ⟨A1, c1, A2, c2, A3, c3⟩ cl ⟨fa, fc, no, nc⟩ ⟨Q1, d1, Q2, d2, Q3, d3, Q4, d4⟩ V (FP.out V hb).ev (FP.out V hb).at_ (FL.out V hb) (by rw [P4.out.l]; omega) P4.out.fit
      rw [P4.out.l] at h
      exact h.mono fun e w' ⟨r, he, hr, hb'⟩ => ⟨by rw [he]; congr 2; rw [Bool.eq_iff_iff, hr, BQ.out]; exact (isLasso_iff P4.out.fit).symm, hb'⟩
    have NC : Hid (∀ V g', Fro V4.heap.size V4 V → IntsAt V (some ⟨g', 0, none⟩) [4] → Calls Try.prog 14 #[.slice (some ⟨bE, oE, none⟩) 1 cE, .agg #[.slice (some ⟨g', 0, none⟩) 1 1, .int .i64 1, .slice none 0 0, .slice none 0 0], .int .i64 cl, .agg #[.slice Q1 fa.length d1, .slice Q2 fc.length d2, .slice Q3 no.length d3, .slice Q4 nc.length d4]] V (Yes false V)) := fun V g' hb hg => by
      have h := Lasso_c (some ⟨bE, oE, none⟩) cE (evs.take 1) ⟨[4], 1, [], []⟩ ⟨some ⟨g', 0, none⟩, 1, none, 0, none, 0⟩ cl ⟨fa, fc, no, nc⟩ ⟨Q1, d1, Q2, d2, Q3, d3, Q4, d4⟩ V ((FP.out V hb).ev.first 1) ⟨hg, SlAt.nil, SlAt.nil, by simp, by simp, by simp⟩ (FL.out V hb) (by simp; omega)
      have e1 : (evs.take 1).length = 1 := by simp [P4.out.l]
      rw [e1] at h
      exact h.mono fun e w' h => h.no2 (noLasso (by omega))
    have WW := Lib.hid (Fro.here V4)
    have WD := Lib.hid (Fro.here V4).drew
    have BF : Hid (∀ V, Fro V4.heap.size V4 V → Below w.heap.size w V) := fun V hb => (W4.out.next hb.b).b
    clear FL FP P4 BQ W4 H1 H2 H3 H4

    refine wp_region_held_drew (S := (fun V => Fro V4.heap.size V4 V)) (by kernel_rfl) ?_ (fun hHeld => ?_)
    · exact WD.out
    refine wpAnyH_take (i := 0) (v := ?_) rfl (by kernel_rfl) (by kernel_rfl) (by kernel_rfl) (fun _ _ _ h => h) (Or.inl ⟨?_, ?_⟩) hHeld ?_
    rotate_left
    · kernel_rfl
    · intro V hSw
      clear hSw
      first | (go_simp; done) | (go_simp; with_reducible rfl)
    try simp only [List.getElem_toArray, List.getElem_cons_zero, List.getElem_cons_succ, Act.put, List.setIfInBounds_toArray, List.set_cons_zero, List.set_cons_succ]
    refine wpAnyH_take (i := 1) (v := ?_) rfl (by kernel_rfl) (by kernel_rfl) (by kernel_rfl) (fun _ _ _ h => h) (Or.inl ⟨?_, ?_⟩) hHeld ?_
    rotate_left
    · kernel_rfl
    · intro V hSw
      have h := A4.out.below (show Fro V4.heap.size V4 V from hSw).b
      have a0 := h.c 0 _ rfl
      have a1 := h.c 1 _ rfl
      have a2 := h.c 2 _ rfl
      have a3 := h.c 3 _ rfl
      clear h
      clear hSw
      first | (go_simp; done) | (go_simp; with_reducible rfl)
    try simp only [List.getElem_toArray, List.getElem_cons_zero, List.getElem_cons_succ, Act.put, List.setIfInBounds_toArray, List.set_cons_zero, List.set_cons_succ]
    refine wpAnyH_take (i := 2) (v := ?_) rfl (by kernel_rfl) (by kernel_rfl) (by kernel_rfl) (fun _ _ _ h => h) (Or.inl ⟨?_, ?_⟩) hHeld ?_
    rotate_left
    · kernel_rfl
    · intro V hSw
      clear hSw
      first | (go_simp; done) | (go_simp; with_reducible rfl)
    try simp only [List.getElem_toArray, List.getElem_cons_zero, List.getElem_cons_succ, Act.put, List.setIfInBounds_toArray, List.set_cons_zero, List.set_cons_succ]
    refine wpAnyH_take (i := 3) (v := ?_) rfl (by kernel_rfl) (by kernel_rfl) (by kernel_rfl) (fun _ _ _ h => h) (Or.inl ⟨?_, ?_⟩) hHeld ?_
    rotate_left
    · kernel_rfl
    · intro V hSw
      have h := E4.out.below (show Fro V4.heap.size V4 V from hSw).b
      have a0 := h.c 0 _ rfl
      have a1 := h.c 1 _ rfl
      have a2 := h.c 2 _ rfl
      have a3 := h.c 3 _ rfl
      clear h
      clear hSw
      first | (go_simp; done) | (go_simp; with_reducible rfl)
    try simp only [List.getElem_toArray, List.getElem_cons_zero, List.getElem_cons_succ, Act.put, List.setIfInBounds_toArray, List.set_cons_zero, List.set_cons_succ]
    refine wpAnyH_take (i := 5) (v := ?_) rfl (by kernel_rfl) (by kernel_rfl) (by kernel_rfl) (fun _ _ _ h => h) (Or.inl ⟨?_, ?_⟩) hHeld ?_
    rotate_left
    · kernel_rfl
    · intro V hSw
      clear hSw
      first | (go_simp; done) | (go_simp; with_reducible rfl)
    try simp only [List.getElem_toArray, List.getElem_cons_zero, List.getElem_cons_succ, Act.put, List.setIfInBounds_toArray, List.set_cons_zero, List.set_cons_succ]
    refine wpAnyH_take (i := 6) (v := ?_) rfl (by kernel_rfl) (by kernel_rfl) (by kernel_rfl) (fun _ _ _ h => h) (Or.inl ⟨?_, ?_⟩) hHeld ?_
    rotate_left
    · kernel_rfl
    · intro V hSw
      have h := A4.out.below (show Fro V4.heap.size V4 V from hSw).b
      have a0 := h.c 0 _ rfl
      have a1 := h.c 1 _ rfl
      have a2 := h.c 2 _ rfl
      have a3 := h.c 3 _ rfl
      clear h
      clear hSw
      first | (go_simp; done) | (go_simp; with_reducible rfl)
    try simp only [List.getElem_toArray, List.getElem_cons_zero, List.getElem_cons_succ, Act.put, List.setIfInBounds_toArray, List.set_cons_zero, List.set_cons_succ]
    refine wpAnyH_take (i := 7) (v := ?_) rfl (by kernel_rfl) (by kernel_rfl) (by kernel_rfl) (fun _ _ _ h => h) (Or.inl ⟨?_, ?_⟩) hHeld ?_
    rotate_left
    · kernel_rfl
    · intro V hSw
      clear hSw
      first | (go_simp; done) | (go_simp; with_reducible rfl)
    try simp only [List.getElem_toArray, List.getElem_cons_zero, List.getElem_cons_succ, Act.put, List.setIfInBounds_toArray, List.set_cons_zero, List.set_cons_succ]
    refine wpAnyH_take (i := 8) (v := ?_) rfl (by kernel_rfl) (by kernel_rfl) (by kernel_rfl) (fun _ _ _ h => h) (Or.inl ⟨?_, ?_⟩) hHeld ?_
    rotate_left
    · kernel_rfl
    · intro V hSw
      have h := E4.out.below (show Fro V4.heap.size V4 V from hSw).b
      have a0 := h.c 0 _ rfl
      have a1 := h.c 1 _ rfl
      have a2 := h.c 2 _ rfl
      have a3 := h.c 3 _ rfl
      clear h
      clear hSw
      first | (go_simp; done) | (go_simp; with_reducible rfl)
    try simp only [List.getElem_toArray, List.getElem_cons_zero, List.getElem_cons_succ, Act.put, List.setIfInBounds_toArray, List.set_cons_zero, List.set_cons_succ]
    refine wpAnyH_ready (rs := [4]) (by kernel_rfl) (by simp) ?_
    refine AllReadyH.cons rfl (fun K hK => ?_) AllReadyH.nil
    go_simp
    refine (LC.out _ WD.out).mono ?_
    rintro e w5 ⟨rfl, hb⟩
    have R1 := Lib.hid (WD.out.next hb)
    clear hb
    refine hK.out _ _ ?_ (fun hHeld => ?_)
    · exact R1.out
    clear hK K
    try simp only [List.getElem_toArray, List.getElem_cons_zero, List.getElem_cons_succ, Act.put, List.setIfInBounds_toArray, List.set_cons_zero, List.set_cons_succ]
    refine wpAnyH_ready (rs := [9]) (by kernel_rfl) (by simp) ?_
    refine AllReadyH.cons rfl (fun K hK => ?_) AllReadyH.nil
    go_simp
    refine (IC.out _ R1.out).mono ?_
    rintro e w5 ⟨rfl, hb⟩
    have R2 := Lib.hid (R1.out.next hb)
    clear hb
    refine hK.out _ _ ?_ (fun hHeld => ?_)
    · exact R2.out
    clear hK K
    try simp only [List.getElem_toArray, List.getElem_cons_zero, List.getElem_cons_succ, Act.put, List.setIfInBounds_toArray, List.set_cons_zero, List.set_cons_succ]
    refine wpAnyH_take (i := 10) (v := ?_) rfl (by kernel_rfl) (by kernel_rfl) (by kernel_rfl) (fun _ _ _ h => h) (Or.inl ⟨?_, ?_⟩) hHeld ?_
    rotate_left
    · kernel_rfl
    · intro V hSw
      clear hSw
      first | (go_simp; done) | (go_simp; with_reducible rfl)
    try simp only [List.getElem_toArray, List.getElem_cons_zero, List.getElem_cons_succ, Act.put, List.setIfInBounds_toArray, List.set_cons_zero, List.set_cons_succ]
    refine wpAnyH_take (i := 11) (v := ?_) rfl (by kernel_rfl) (by kernel_rfl) (by kernel_rfl) (fun _ _ _ h => h) (Or.inl ⟨?_, ?_⟩) hHeld ?_
    rotate_left
    · kernel_rfl
    · intro V hSw
      clear hSw
      first | (go_simp; done) | (go_simp; with_reducible rfl)
    try simp only [List.getElem_toArray, List.getElem_cons_zero, List.getElem_cons_succ, Act.put, List.setIfInBounds_toArray, List.set_cons_zero, List.set_cons_succ]
    refine wpAnyH_take (i := 12) (v := ?_) rfl (by kernel_rfl) (by kernel_rfl) (by kernel_rfl) (fun _ _ _ h => h) (Or.inl ⟨?_, ?_⟩) hHeld ?_
    rotate_left
    · kernel_rfl
    · intro V hSw
      clear hSw
      first | (go_simp; done) | (go_simp; with_reducible rfl)
    try simp only [List.getElem_toArray, List.getElem_cons_zero, List.getElem_cons_succ, Act.put, List.setIfInBounds_toArray, List.set_cons_zero, List.set_cons_succ]
    refine wpAnyH_take (i := 13) (v := ?_) rfl (by kernel_rfl) (by kernel_rfl) (by kernel_rfl) (fun _ _ _ h => h) (Or.inl ⟨?_, ?_⟩) hHeld ?_
    rotate_left
    · kernel_rfl
    · intro V hSw
      clear hSw
      first | (go_simp; done) | (go_simp; with_reducible rfl)
    try simp only [List.getElem_toArray, List.getElem_cons_zero, List.getElem_cons_succ, Act.put, List.setIfInBounds_toArray, List.set_cons_zero, List.set_cons_succ]
    refine wpAnyH_take (i := 16) (v := ?_) rfl (by kernel_rfl) (by kernel_rfl) (by kernel_rfl) (fun _ _ _ h => h) (Or.inl ⟨?_, ?_⟩) hHeld ?_
    rotate_left
    · kernel_rfl
    · intro V hSw
      clear hSw
      first | (go_simp; done) | (go_simp; with_reducible rfl)
    try simp only [List.getElem_toArray, List.getElem_cons_zero, List.getElem_cons_succ, Act.put, List.setIfInBounds_toArray, List.set_cons_zero, List.set_cons_succ]
    refine wpAnyH_take (i := 17) (v := ?_) rfl (by kernel_rfl) (by kernel_rfl) (by kernel_rfl) (fun _ _ _ h => h) (Or.inl ⟨?_, ?_⟩) hHeld ?_
    rotate_left
    · kernel_rfl
    · intro V hSw
      have h := E4.out.below (show Fro V4.heap.size V4 V from hSw).b
      have a0 := h.c 0 _ rfl
      have a1 := h.c 1 _ rfl
      have a2 := h.c 2 _ rfl
      have a3 := h.c 3 _ rfl
      clear h
      clear hSw
      first | (go_simp; done) | (go_simp; with_reducible rfl)
    try simp only [List.getElem_toArray, List.getElem_cons_zero, List.getElem_cons_succ, Act.put, List.setIfInBounds_toArray, List.set_cons_zero, List.set_cons_succ]
    have I3 : Hid (IntsAt (w5.alloc (.cells #[.int .i64 4] 3)) (some ⟨w5.heap.size, 0, none⟩) [4]) := OwnI.ints (B := 0) (c := 1) ⟨rfl, .inr ⟨w5.heap.size, 1, #[.int .i64 4], rfl, Nat.zero_le _, heap_alloc_new w5 _, Nat.le_refl _, by decide, rfl, rfl⟩⟩
    have R3 : Hid (Fro V4.heap.size V4 (w5.alloc (.cells #[.int .i64 4] 3))) := R2.out.alloc _
    refine wpAnyH_ready (rs := [14]) (by kernel_rfl) (by simp) ?_
    refine AllReadyH.cons rfl (fun K hK => ?_) AllReadyH.nil
    go_simp
    refine hK.out _ _ ?_ (fun hHeld => ?_)
    · exact R3.out
    clear hK K
    try simp only [List.getElem_toArray, List.getElem_cons_zero, List.getElem_cons_succ, Act.put, List.setIfInBounds_toArray, List.set_cons_zero, List.set_cons_succ]
    refine wpAnyH_take (i := 15) (v := ?_) rfl (by kernel_rfl) (by kernel_rfl) (by kernel_rfl) (fun _ _ _ h => h) (Or.inl ⟨?_, ?_⟩) hHeld ?_
    rotate_left
    · kernel_rfl
    · intro V hSw
      clear hSw
      first | (go_simp; done) | (go_simp; with_reducible rfl)
    try simp only [List.getElem_toArray, List.getElem_cons_zero, List.getElem_cons_succ, Act.put, List.setIfInBounds_toArray, List.set_cons_zero, List.set_cons_succ]
    refine wpAnyH_ready (rs := [18]) (by kernel_rfl) (by simp) ?_
    refine AllReadyH.cons rfl (fun K hK => ?_) AllReadyH.nil
    go_simp
    refine (NC.out _ _ R3.out I3.out).mono ?_
    rintro e w5 ⟨rfl, hb⟩
    have R4 := Lib.hid (R3.out.next hb)
    clear hb
    refine hK.out _ _ ?_ (fun hHeld => ?_)
    · exact R4.out
    clear hK K
    try simp only [List.getElem_toArray, List.getElem_cons_zero, List.getElem_cons_succ, Act.put, List.setIfInBounds_toArray, List.set_cons_zero, List.set_cons_succ]
    refine wpAnyH_take (i := 19) (v := ?_) rfl (by kernel_rfl) (by kernel_rfl) (by kernel_rfl) (fun _ _ _ h => h) (Or.inl ⟨?_, ?_⟩) hHeld ?_
    rotate_left
    · kernel_rfl
    · intro V hSw
      clear hSw
      first | (go_simp; done) | (go_simp; with_reducible rfl)
    try simp only [List.getElem_toArray, List.getElem_cons_zero, List.getElem_cons_succ, Act.put, List.setIfInBounds_toArray, List.set_cons_zero, List.set_cons_succ]
    refine wpAnyH_take (i := 20) (v := ?_) rfl (by kernel_rfl) (by kernel_rfl) (by kernel_rfl) (fun _ _ _ h => h) (Or.inl ⟨?_, ?_⟩) hHeld ?_
    rotate_left
    · kernel_rfl
    · intro V hSw
      clear hSw
      first | (go_simp; done) | (go_simp; with_reducible rfl)
    try simp only [List.getElem_toArray, List.getElem_cons_zero, List.getElem_cons_succ, Act.put, List.setIfInBounds_toArray, List.set_cons_zero, List.set_cons_succ]
    refine wpAnyH_take (i := 21) (v := ?_) rfl (by kernel_rfl) (by kernel_rfl) (by kernel_rfl) (fun _ _ _ h => h) (Or.inl ⟨?_, ?_⟩) hHeld ?_
    rotate_left
    · kernel_rfl
    · intro V hSw
      clear hSw
      first | (go_simp; done) | (go_simp; with_reducible rfl)
    try simp only [List.getElem_toArray, List.getElem_cons_zero, List.getElem_cons_succ, Act.put, List.setIfInBounds_toArray, List.set_cons_zero, List.set_cons_succ]
    refine wpAnyH_done (by kernel_rfl) ?_ _
    go_wp2
    go_ret
    exact ⟨rfl, BF.out _ R4.out⟩
  · go_wp2_with fail
    all_goals first
      | (exfalso; omega)
      | (refine (known_c _).mono ?_; rintro e w5 ⟨rfl, hb⟩; have R5 := Lib.hid (R1.out.next hb); clear hb; go_wp2; go_ret; exact ⟨rfl, R5.out.b⟩)
end Go.Proofs.Ytkbmenpggiojeaa
