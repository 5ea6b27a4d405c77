/-
  CheckerNeither: the law's walk.
-/
import Derived.Test.YtkbmenpggiojeaaGf
import Derived.Test.YtkbmenpggiojeaaGg
namespace Go.Proofs.Ytkbmenpggiojeaa
open Go.RowKit
set_option linter.unusedSimpArgs false
set_option linter.unusedVariables false

set_option maxRecDepth 100000 in
set_option maxHeartbeats 8000000 in
theorem neither_c (s : Int) (g : Gr) (f : B5) (l : Ls) (q : LsP) (w : World) (hs : 0 ≤ s ∧ s < 256) (hg : g.Ok) (hf : f.Ok)
    (h1 : IntsAt w q.A1 l.fa) (h2 : IntsAt w q.A2 l.fc) (h3 : IntsAt w q.A3 l.no) (h4 : IntsAt w q.A4 l.nc) (n1 : l.fa.length ≤ maxLen) (n2 : l.fc.length ≤ maxLen) (n3 : l.no.length ≤ maxLen) (n4 : l.nc.length ≤ maxLen) :
    Calls Try.prog 4 #[.agg (plCells s g f).toArray, l.val q] w (Yes true w) := by
  have W0 : Hid (Fro w.heap.size w ((w.alloc (.cells (plCells s g f).toArray 29)).alloc (.cells (lsCells l q).toArray 49))) := ((Fro.here w).alloc _).alloc _
  have C1 : Hid (HasAt w.heap.size (plCells s g f) ((w.alloc (.cells (plCells s g f).toArray 29)).alloc (.cells (lsCells l q).toArray 49))) := (HasAt.new w _ _ rfl).alloc _
  have C2 : Hid (HasAt (w.heap.size + 1) (lsCells l q) ((w.alloc (.cells (plCells s g f).toArray 29)).alloc (.cells (lsCells l q).toArray 49))) := HasAt.new _ _ _ (by simp)
  have HG := Lib.hid hg
  have HFL := Lib.hid hf
  have HS := Lib.hid hs
  have H1 := Lib.hid h1
  have H2 := Lib.hid h2
  have H3 := Lib.hid h3
  have H4 := Lib.hid h4
  clear hg hf hs h1 h2 h3 h4
  unfold maxLen at n1 n2 n3 n4
  obtain ⟨fa, fc, no, nc⟩ := l
  obtain ⟨Q1, d1, Q2, d2, Q3, d3, Q4, d4⟩ := q
  dsimp only [Ls.val, lsCells] at *
  go_enter Try.func4, Try.ntmps4
  go_wp2_with fail
  generalize hW : ((w.alloc (.cells (plCells s g f).toArray 29)).alloc (.cells #[.slice Q1 fa.length d1, .slice Q2 fc.length d2, .slice Q3 no.length d3, .slice Q4 nc.length d4] 49)) = W at *
  clear hW
  refine (known_c _).mono ?_
  rintro e w1 ⟨rfl, hb⟩
  have R1 := Lib.hid (W0.out.next hb)
  have D1 := Lib.hid (C1.out.below hb)
  have D2 := Lib.hid (C2.out.below hb)
  clear hb W0 C1 C2
  have r0 := D2.out.c 0 _ rfl
  have r1 := D2.out.c 1 _ rfl
  have r2 := D2.out.c 2 _ rfl
  have r3 := D2.out.c 3 _ rfl
  by_cases hL : fa.length ≤ 5 ∧ fc.length ≤ 5 ∧ no.length ≤ 5 ∧ nc.length ≤ 5
  · obtain ⟨l1, l2, l3, l4⟩ := hL
    go_wp2_with (refine wpList_load_mid rfl 29 (.tmp 2) rfl w.heap.size 0 rfl (plCells s g f) _ (D1.out.range (fun j v hv => by rw [Nat.zero_add]; exact hv)) Try.underlying29 rfl (by kernel_rfl) ?_)
    refine (make42_c s g f w1 HS.out HG.out HFL.out).mono ?_
    rintro e w2 ⟨evs, AE, cE, au, p, rfl, hcE, hP, hb⟩
    have R2 := Lib.hid (R1.out.next hb)
    have E2 := Lib.hid (D2.out.below hb)
    have P2 := Lib.hid hP.out
    clear hb D1 D2 r0 r1 r2 r3 hP
    have W4 : Hid (Fro w.heap.size w (w2.alloc (.cells (auCells au p).toArray 39))) := R2.out.alloc _
    have E4 : Hid (HasAt (w.heap.size + 1) [.slice Q1 fa.length d1, .slice Q2 fc.length d2, .slice Q3 no.length d3, .slice Q4 nc.length d4] (w2.alloc (.cells (auCells au p).toArray 39))) := E2.out.alloc _
    have A4 : Hid (HasAt w2.heap.size (auCells au p) (w2.alloc (.cells (auCells au p).toArray 39))) := HasAt.new w2 _ _ rfl
    have P4 : Hid (PlantIn (w2.alloc (.cells (auCells au p).toArray 39)) evs AE au p) := P2.out.below (Below.new _ _)
    obtain ⟨al, n, mr, ed⟩ := au
    obtain ⟨A1, c1, A2, c2, A3, c3⟩ := p
    dsimp only [Au.val, auCells] at *
    go_upto_region 4 with fail
    generalize hW : w2.alloc (.cells #[.slice A1 al.length c1, .int .i64 n, .slice A2 mr.length c2, .slice A3 ed.length c3] 39) = V4 at *
    clear hW R2 E2 P2
    have FL : Hid (∀ V, Fro V4.heap.size V4 V → Ls.At V ⟨fa, fc, no, nc⟩ ⟨Q1, d1, Q2, d2, Q3, d3, Q4, d4⟩) := fun V hb =>
      have h := (W4.out.next hb.b).b
      ⟨H1.out.below IntE.stays h, H2.out.below IntE.stays h, H3.out.below IntE.stays h, H4.out.below IntE.stays h, by simp only; omega, by simp only; omega, by simp only; omega, by simp only; omega⟩
    have FP : Hid (∀ V, Fro V4.heap.size V4 V → PlantIn V evs AE ⟨al, n, mr, ed⟩ ⟨A1, c1, A2, c2, A3, c3⟩) := fun V hb => P4.out.below hb.b
    have LC : Hid (∀ V, Fro V4.heap.size V4 V → ¬ LassoOk evs ⟨al, n, mr, ed⟩ 1 ⟨fa, fc, no, nc⟩ → Calls Try.prog 14 #[.slice AE 5 cE, .agg #[.slice A1 al.length c1, .int .i64 n, .slice A2 mr.length c2, .slice A3 ed.length c3], .int .i64 1, .agg #[.slice Q1 fa.length d1, .slice Q2 fc.length d2, .slice Q3 no.length d3, .slice Q4 nc.length d4]] V (Yes false V)) := fun V hb hn => by
      have h := Lasso_c AE cE evs ⟨al, n, mr, ed⟩ ⟨A1, c1, A2, c2, A3, c3⟩ 1 ⟨fa, fc, no, nc⟩ ⟨Q1, d1, Q2, d2, Q3, d3, Q4, d4⟩ V (FP.out V hb).ev (FP.out V hb).at_ (FL.out V hb) (by rw [P4.out.l]; omega)
      rw [P4.out.l] at h
      exact h.mono fun e w' h => h.no2 hn
    have PC : Hid (∀ V, Fro V4.heap.size V4 V → 0 < n → Calls Try.prog 13 #[.slice AE 5 cE, .agg #[.slice A1 al.length c1, .int .i64 n, .slice A2 mr.length c2, .slice A3 ed.length c3], .int .i64 1] V (GivesPs evs ed n V)) := fun V hb hn => by
      have h := pairs_c AE cE evs ⟨al, n, mr, ed⟩ ⟨A1, c1, A2, c2, A3, c3⟩ V (FP.out V hb).ev (FP.out V hb).at_ (by rw [P4.out.l]; omega) (by have := P4.out.ed; simp only at this ⊢; omega) (fun y hy => P4.out.fit.edge hy) hn P4.out.n (fun y hy => (P4.out.fit.ha.dst0 hy).2.2)
      rw [P4.out.l] at h
      exact h
    have HN0 : Hid (0 ≤ n) := P4.out.fit.ha.n0
    have BF : Hid (∀ V, Fro V4.heap.size V4 V → Below w.heap.size w V) := fun V hb => (W4.out.next hb.b).b
    have WW := Lib.hid (Fro.here V4)
    have g0 := A4.out.c 0 _ rfl
    have g1 := A4.out.c 1 _ rfl
    have g2 := A4.out.c 2 _ rfl
    have g3 := A4.out.c 3 _ rfl
    have e0 := E4.out.c 0 _ rfl
    have e1 := E4.out.c 1 _ rfl
    have e2 := E4.out.c 2 _ rfl
    have e3 := E4.out.c 3 _ rfl
    clear W4 H1 H2 H3 H4
    by_cases hn : n = 0
    · have NL : Hid (¬ LassoOk evs ⟨al, n, mr, ed⟩ 1 ⟨fa, fc, no, nc⟩) := fun h => h.n0 hn
      subst hn
      go_wp2_with fail
      refine (LC.out _ WW.out NL.out).mono ?_
      rintro e w5 ⟨rfl, hb⟩
      have R5 := Lib.hid (WW.out.next hb)
      clear hb
      go_wp2
      go_ret
      exact ⟨rfl, BF.out _ R5.out⟩
    · have hn' : (n == 0) = false := by simp; exact hn
      have hpos : Hid (0 < n) := by have := HN0.out; simp only [Hid]; omega
      clear hn
      go_wp2_with fail
      refine (PC.out _ WW.out hpos.out).mono ?_
      rintro e w5 ⟨v, bound, ok, rfl, hb, hok⟩
      have R5 := Lib.hid (WW.out.next hb)
      have A5 := Lib.hid (A4.out.below hb)
      have E5 := Lib.hid (E4.out.below hb)
      have HOK := Lib.hid hok
      clear hb hok g0 g1 g2 g3 e0 e1 e2 e3
      cases ok with
      | false =>
        go_wp2
        go_ret
        exact ⟨rfl, BF.out _ R5.out⟩
      | true =>
        obtain ⟨lp, HO, HR⟩ := HOK.out rfl
        obtain ⟨AL, cL, rfl⟩ := HO.out.form
        have NL : Hid (¬ LassoOk evs ⟨al, n, mr, ed⟩ 1 ⟨fa, fc, no, nc⟩) := IsB.noLasso P4.out.fit P4.out.flt HR.out.2.2 _
        have hL50 : Hid (lp.length ≤ 140737488355328) := by
          have := HR.out.2.1.un.len P4.out.n (fun x hx => (HR.out.2.1.in_ x hx).1)
          simp only [Hid]; omega
        have BC := Lib.hid (Bound_c AE cE evs ⟨al, n, mr, ed⟩ ⟨A1, c1, A2, c2, A3, c3⟩ 1 bound AL cL lp w5 (FP.out _ R5.out).ev (FP.out _ R5.out).at_ (Own.reads (fun _ => rfl) HO.out) (by rw [P4.out.l]; omega) hL50.out (by have := P4.out.ed; simp only at this ⊢; omega))
        have BY : Hid (BoundOk evs ⟨al, n, mr, ed⟩ 1 bound lp) := (bound_iff P4.out.fit P4.out.flt (by simp only; have := hpos.out; omega) HR.out.2.1.b0).2 HR.out.2.2
        have EV5 := Lib.hid P4.out.l
        have a0 := A5.out.c 0 _ rfl
        have a1 := A5.out.c 1 _ rfl
        have a2 := A5.out.c 2 _ rfl
        have a3 := A5.out.c 3 _ rfl
        clear HOK HO HR hL50
        go_wp2_with fail
        rw [← EV5.out]
        refine BC.out.mono ?_
        intro e w6 h6
        obtain ⟨rfl, hb⟩ := h6.yes2 BY.out
        have R6 := Lib.hid (R5.out.next hb)
        have A6 := Lib.hid (A5.out.below hb)
        have E6 := Lib.hid (E5.out.below hb)
        clear hb h6 a0 a1 a2 a3
        have a0 := A6.out.c 0 _ rfl
        have a1 := A6.out.c 1 _ rfl
        have a2 := A6.out.c 2 _ rfl
        have a3 := A6.out.c 3 _ rfl
        have e0 := E6.out.c 0 _ rfl
        have e1 := E6.out.c 1 _ rfl
        have e2 := E6.out.c 2 _ rfl
        have e3 := E6.out.c 3 _ rfl
        go_wp2_with fail
        rw [EV5.out]
        refine (LC.out _ R6.out NL.out).mono ?_
        rintro e w7 ⟨rfl, hb⟩
        have R7 := Lib.hid (R6.out.next hb)
        clear hb
        go_wp2
        go_ret
        exact ⟨rfl, BF.out _ R7.out⟩
  · go_wp2_with fail
    all_goals first
      | (exfalso; omega)
      | (refine (known_c _).mono ?_; rintro e w5 ⟨rfl, hb⟩; have R5 := Lib.hid (R1.out.next hb); clear hb; go_wp2; go_ret; exact ⟨rfl, R5.out.b⟩)
end Go.Proofs.Ytkbmenpggiojeaa
