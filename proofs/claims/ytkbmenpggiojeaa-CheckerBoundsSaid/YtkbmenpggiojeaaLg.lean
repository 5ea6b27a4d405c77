/-
  The checker's look at a lasso.
-/
import Derived.Test.YtkbmenpggiojeaaLf
import Derived.Test.YtkbmenpggiojeaaKd
namespace Go.Proofs.Ytkbmenpggiojeaa
open Go.RowKit
set_option linter.unusedSimpArgs false
set_option linter.unusedVariables false

theorem toV_edge {ed : List Ed} {s e : Int} (h : toV (stepOf ed) s e ≠ -1) : ∃ x, x ∈ ed ∧ x.src = s ∧ x.ev = e ∧ x.dst = toV (stepOf ed) s e := by
  unfold toV stepOf at *
  cases hf : ed.reverse.find? (fun x => decide ((x.src, x.ev) = (s, e))) with
  | none => rw [hf] at h; simp at h
  | some x =>
    have h1 := List.mem_of_find?_eq_some hf
    have h2 := List.find?_some hf
    simp at h1 h2
    exact ⟨x, h1, h2.1, h2.2, by simp⟩
theorem PlantOk.evs {nev : Nat} {au : Au} {cl : Int} (h : PlantOk nev au cl) {x : Ed} (hx : x ∈ au.ed) : 0 ≤ x.ev ∧ x.ev < nev := by
  obtain ⟨j, hj, rfl⟩ := List.mem_iff_getElem.1 hx
  have h1 := (h.ha.ed j hj _ (List.getElem?_eq_getElem hj)).2.2.2.2.1
  refine ⟨?_, h.hev _ h1⟩
  obtain ⟨t, ht, he⟩ := List.mem_iff_getElem.1 h1
  have := h.ha.al t _ ht (List.getElem?_eq_getElem ht)
  rw [he] at this; exact this.1
theorem follow_in {nev : Nat} {au : Au} {cl : Int} (h : PlantOk nev au cl) : ∀ (l : List Int) (s : Int), followV (stepOf au.ed) s l ≠ -1 → ∀ x, x ∈ l → 0 ≤ x ∧ x < nev
  | [], _, _, x, hx => by simp at hx
  | e :: r, s, hf, x, hx => by
    simp only [followV] at hf
    by_cases hz : toV (stepOf au.ed) s e = -1
    · rw [if_pos hz] at hf; exact absurd rfl hf
    · rw [if_neg hz] at hf
      simp only [List.mem_cons] at hx
      rcases hx with rfl | hx
      · obtain ⟨y, hy, _, h2, _⟩ := toV_edge hz
        rw [← h2]; exact h.evs hy
      · exact follow_in h r _ hf x hx

/-- The four lists of a lasso: faulty, its cycle, normal, its cycle. -/
structure Ls where
  fa : List Int
  fc : List Int
  no : List Int
  nc : List Int
structure LsP where
  A1 : Option Addr
  c1 : Nat
  A2 : Option Addr
  c2 : Nat
  A3 : Option Addr
  c3 : Nat
  A4 : Option Addr
  c4 : Nat
abbrev Ls.val (l : Ls) (p : LsP) : Value := .agg #[.slice p.A1 l.fa.length p.c1, .slice p.A2 l.fc.length p.c2, .slice p.A3 l.no.length p.c3, .slice p.A4 l.nc.length p.c4]
structure Ls.At (w : World) (l : Ls) (p : LsP) : Prop where
  h1 : IntsAt w p.A1 l.fa
  h2 : IntsAt w p.A2 l.fc
  h3 : IntsAt w p.A3 l.no
  h4 : IntsAt w p.A4 l.nc
  n1 : l.fa.length ≤ 1048576
  n2 : l.fc.length ≤ 1048576
  n3 : l.no.length ≤ 1048576
  n4 : l.nc.length ≤ 1048576
theorem Ls.At.below {w w' : World} {l : Ls} {p : LsP} (h : Ls.At w l p) (hb : Below w.heap.size w w') : Ls.At w' l p :=
  ⟨h.h1.below IntE.stays hb, h.h2.below IntE.stays hb, h.h3.below IntE.stays hb, h.h4.below IntE.stays hb, h.n1, h.n2, h.n3, h.n4⟩

structure LassoOk (evs : List Ev) (au : Au) (class_ : Int) (l : Ls) : Prop where
  pl : PlantOk evs.length au class_
  n0 : au.n ≠ 0
  c0 : l.fc ≠ []
  x0 : followV (stepOf au.ed) 0 l.fa ≠ -1
  y0 : followV (stepOf au.ed) 0 l.no ≠ -1
  x1 : followV (stepOf au.ed) (followV (stepOf au.ed) 0 l.fa) l.fc = followV (stepOf au.ed) 0 l.fa
  y1 : followV (stepOf au.ed) (followV (stepOf au.ed) 0 l.no) l.nc = followV (stepOf au.ed) 0 l.no
  f1 : faultyP evs class_ l.fa
  f2 : ¬ faultyP evs class_ l.no
  f3 : ¬ faultyP evs class_ l.nc
  s1 : seen evs l.fa = seen evs l.no
  s2 : seen evs l.fc = seen evs l.nc

/-- The block of a lasso, and its lists. -/
structure LsMem (b : Nat) (l : Ls) (p : LsP) (w : World) : Prop where
  c0 : w.cell? ⟨b, 0, none⟩ = some (.slice p.A1 l.fa.length p.c1)
  c1 : w.cell? ⟨b, 1, none⟩ = some (.slice p.A2 l.fc.length p.c2)
  c2 : w.cell? ⟨b, 2, none⟩ = some (.slice p.A3 l.no.length p.c3)
  c3 : w.cell? ⟨b, 3, none⟩ = some (.slice p.A4 l.nc.length p.c4)
  z : b < w.heap.size
  ls : Ls.At w l p
theorem LsMem.below {b : Nat} {l : Ls} {p : LsP} {w w' : World} (h : LsMem b l p w) (hb : Below w.heap.size w w') : LsMem b l p w' :=
  ⟨old_cell hb h.c0 h.z, old_cell hb h.c1 h.z, old_cell hb h.c2 h.z, old_cell hb h.c3 h.z, Nat.lt_of_lt_of_le h.z hb.size, h.ls.below hb⟩

theorem follow_q (b : Nat) (f : Int × Int → Option Int) (s : Int) (A : Option Addr) (c : Nat) (l : List Int) (w : World) (h : MapAt key2 w b f) (hA : IntsAt w A l) (hl : l.length ≤ 140737488355328) (n : Nat) :
    Calls Try.prog 43 #[.map (some b), .int .i64 s, .slice A l.length c] (w.drewN n) fun e w'' => e = .returned (.int .i64 (followV f s l)) ∧ ∃ m, w'' = w.drewN m :=
  Calls.quiet_of_same ((follow_c b f s A c l (w.drewN n) (h.below ((Below.refl _ _).draws n) h.lt) (hA.below IntE.stays ((Below.refl _ _).draws n)) hl).mono fun _ _ ⟨h1, h2⟩ => ⟨h1, h2.symm⟩)

set_option maxRecDepth 100000 in
set_option maxHeartbeats 4000000 in
theorem Lasso_c (AE : Option Addr) (cE : Nat) (evs : List Ev) (au : Au) (p : AuP) (class_ : Int) (l : Ls) (q : LsP) (w : World)
    (hE : EvsAt w AE evs) (hp : Au.At w au p) (hL : Ls.At w l q) (lev : evs.length ≤ 140737488355328) :
    Calls Try.prog 14 #[.slice AE evs.length cE, au.val p, .int .i64 class_, l.val q] w (Tells (LassoOk evs au class_ l) w) := by
  have BX := Lib.hid (Below.new w (.cells #[.slice p.A1 au.al.length p.c1, .int .i64 au.n, .slice p.A2 au.mr.length p.c2, .slice p.A3 au.ed.length p.c3] 39))
  have B0 := Lib.hid (BX.out.alloc (by simp) (.cells #[.slice q.A1 l.fa.length q.c1, .slice q.A2 l.fc.length q.c2, .slice q.A3 l.no.length q.c3, .slice q.A4 l.nc.length q.c4] 49))
  have HA := Lib.hid (plant_c evs.length AE cE au p class_ _ (hp.below B0.out) lev)
  have HE := Lib.hid hE
  have HP := Lib.hid hp
  have HL := Lib.hid hL
  clear hE hp hL BX
  have ln1 := HL.out.n1
  have ln2 := HL.out.n2
  have ln3 := HL.out.n3
  have ln4 := HL.out.n4
  obtain ⟨al, m, mr, ed⟩ := au
  obtain ⟨A1, c1, A2, c2, A3, c3⟩ := p
  obtain ⟨fa, fc, no, nc⟩ := l
  obtain ⟨Q1, d1, Q2, d2, Q3, d3, Q4, d4⟩ := q
  dsimp only [Au.val, Ls.val] at *
  go_enter Try.func14, Try.ntmps14
  go_wp2_with fail
  refine HA.out.mono ?_
  intro e w1 hs
  rcases hs.no1 with ⟨rfl, S, hb⟩ | ⟨rfl, S, hb⟩
  · go_wp2
    go_ret
    exact Tells.no (fun h => S.out h.pl) (B0.out.trans (hb.mono B0.out.size))
  clear HA hs
  have hcell : ∀ (i : Nat) (u : Value), [Value.slice A1 al.length c1, .int .i64 m, .slice A2 mr.length c2, .slice A3 ed.length c3][i]? = some u → w1.cell? ⟨w.heap.size, i, none⟩ = some u := fun i u h =>
    old_cell hb (old_cell (Below.new _ _) ((new_cell w _ [_, _, _, _] _ i rfl).trans h) (by simp)) (by simp; omega)
  have hcel2 : ∀ (i : Nat) (u : Value), [Value.slice Q1 fa.length d1, .slice Q2 fc.length d2, .slice Q3 no.length d3, .slice Q4 nc.length d4][i]? = some u → w1.cell? ⟨w.heap.size + 1, i, none⟩ = some u := fun i u h => by
    have := (new_cell (w.alloc (.cells #[.slice A1 al.length c1, .int .i64 m, .slice A2 mr.length c2, .slice A3 ed.length c3] 39)) 49 [.slice Q1 fa.length d1, .slice Q2 fc.length d2, .slice Q3 no.length d3, .slice Q4 nc.length d4] (w.heap.size + 1) i (by simp)).trans h
    exact old_cell hb this (by simp)
  have q0 := hcell 0 _ rfl
  have q1 := hcell 1 _ rfl
  have q2 := hcell 2 _ rfl
  have q3 := hcell 3 _ rfl
  have r0 := hcel2 0 _ rfl
  have r1 := hcel2 1 _ rfl
  have r2 := hcel2 2 _ rfl
  have r3 := hcel2 3 _ rfl
  have BW1 : Hid (Below w.heap.size w w1) := B0.out.trans (hb.mono B0.out.size)
  have z0 : w.heap.size < w1.heap.size := Nat.lt_of_lt_of_le (by simp; omega) hb.size
  have z1 : w.heap.size + 1 < w1.heap.size := Nat.lt_of_lt_of_le (by simp) hb.size
  clear hb B0 hcell hcel2
  by_cases hn0 : m = 0
  · subst hn0
    go_wp2
    go_ret
    exact Tells.no (fun h => h.n0 rfl) BW1.out
  have hn0' : (m == 0) = false := by simpa using hn0
  by_cases hfc : fc = []
  · subst hfc
    simp only [List.length_nil] at r1 ⊢
    go_wp2
    go_ret
    exact Tells.no (fun h => h.c0 rfl) BW1.out
  have hfl : ((fc.length : Int) == 0) = false := by
    have := List.length_pos_iff.2 hfc
    rw [beq_eq_false_iff_ne]; omega
  have HN0 := Lib.hid hn0
  have HFC := Lib.hid hfc
  clear hn0 hfc
  go_wp2_with fail
  refine (steps_c ⟨al, m, mr, ed⟩ ⟨A1, c1, A2, c2, A3, c3⟩ w1 (HP.out.ed.below EdE.stays BW1.out) HP.out.led).mono ?_
  rintro e w2 ⟨bm, rfl, _, hm, hb⟩
  have HM := Lib.hid hm
  have BW2 : Hid (Below w.heap.size w w2) := BW1.out.trans (hb.mono BW1.out.size)
  have r0 := old_cell hb r0 z1
  have r1 := old_cell hb r1 z1
  have r2 := old_cell hb r2 z1
  have r3 := old_cell hb r3 z1
  have z2 := Nat.lt_of_lt_of_le z1 hb.size
  clear hm hb q0 q1 q2 q3 z0 z1
  have HI := Lib.hid (HL.out.below BW2.out)
  have F1 := Lib.hid (fun s n => follow_q bm (stepOf ed) s Q1 d1 fa w2 HM.out HI.out.h1 (by omega) n)
  have F3 := Lib.hid (fun s n => follow_q bm (stepOf ed) s Q3 d3 no w2 HM.out HI.out.h3 (by omega) n)
  go_wp2_with fail
  go_quiet (first | (go_at_call 43; with_reducible exact F1.out _ _) | (go_at_call 43; with_reducible exact F3.out _ _))
  have BQ := Lib.hid ((Below.refl w2.heap.size w2).draws nq)
  have BW3 : Hid (Below w.heap.size w (w2.drewN nq)) := BW2.out.draws nq
  have M0 : Hid (LsMem (w.heap.size + 1) ⟨fa, fc, no, nc⟩ ⟨Q1, d1, Q2, d2, Q3, d3, Q4, d4⟩ (w2.drewN nq)) := ⟨old_cell BQ.out r0 z2, old_cell BQ.out r1 z2, old_cell BQ.out r2 z2, old_cell BQ.out r3 z2, Nat.lt_of_lt_of_le z2 BQ.out.size, HI.out.below BQ.out⟩
  have HM3 : Hid (MapAt key2 (w2.drewN nq) bm (stepOf ed)) := HM.out.below BQ.out HM.out.lt
  generalize hW : w2.drewN nq = W at *
  clear hW BQ HM HI F1 F3 r0 r1 r2 r3 z2 BW1 BW2
  generalize hX : followV (stepOf ed) 0 fa = X at *
  generalize hY : followV (stepOf ed) 0 no = Y at *
  have HX := Lib.hid hX
  have HY := Lib.hid hY
  clear hX hY
  by_cases hx : X = -1
  · subst hx
    go_wp2
    go_ret
    exact Tells.no (fun h => h.x0 HX.out) BW3.out
  have hx' : (X == -1) = false := by simpa using hx
  by_cases hy : Y = -1
  · subst hy
    go_wp2
    go_ret
    exact Tells.no (fun h => h.y0 HY.out) BW3.out
  have hy' : (Y == -1) = false := by simpa using hy
  have HX0 := Lib.hid hx
  have HY0 := Lib.hid hy
  clear hx hy
  have r1 := M0.out.c1
  have r3 := M0.out.c3
  have zz := M0.out.z
  go_wp2_with fail
  refine (follow_c bm (stepOf ed) X Q2 d2 fc W HM3.out M0.out.ls.h2 (by omega)).mono ?_
  rintro e w4 ⟨rfl, rfl⟩
  generalize hX2 : followV (stepOf ed) X fc = X2 at *
  have HX2 := Lib.hid hX2
  clear hX2
  by_cases hx2 : ¬ X2 = X
  · have hx2' : (X2 == X) = false := by simpa using hx2
    go_wp2
    go_ret
    exact Tells.no (fun h => hx2 (by have := h.x1; simp only at this; rw [HX.out, HX2.out] at this; exact this)) BW3.out
  obtain rfl := Classical.not_not.1 hx2
  clear hx2
  go_wp2_with fail
  refine (follow_c bm (stepOf ed) Y Q4 d4 nc W HM3.out M0.out.ls.h4 (by omega)).mono ?_
  rintro e w4 ⟨rfl, rfl⟩
  generalize hY2 : followV (stepOf ed) Y nc = Y2 at *
  have HY2 := Lib.hid hY2
  clear hY2
  by_cases hy2 : ¬ Y2 = Y
  · have hy2' : (Y2 == Y) = false := by simpa using hy2
    go_wp2
    go_ret
    exact Tells.no (fun h => hy2 (by have := h.y1; simp only at this; rw [HY.out, HY2.out] at this; exact this)) BW3.out
  obtain rfl := Classical.not_not.1 hy2
  clear hy2
  have I1 : Hid (InEvs evs fa) := follow_in S.out fa 0 (by simp only; rw [HX.out]; exact HX0.out)
  have I2 : Hid (InEvs evs fc) := follow_in S.out fc _ (by simp only; rw [HX2.out]; exact HX0.out)
  have I3 : Hid (InEvs evs no) := follow_in S.out no 0 (by simp only; rw [HY.out]; exact HY0.out)
  have I4 : Hid (InEvs evs nc) := follow_in S.out nc _ (by simp only; rw [HY2.out]; exact HY0.out)
  have r0 := M0.out.c0
  have r2 := M0.out.c2
  go_wp2_with fail
  refine (faulty_c AE cE evs class_ Q1 d1 fa W (HE.out.below EvE.stays BW3.out) lev M0.out.ls.h1 (by omega) I1.out).mono ?_
  intro e w4 hs
  rcases hs.no1 with ⟨rfl, G1, hb⟩ | ⟨rfl, G1, hb⟩
  · go_wp2
    go_ret
    exact Tells.no (fun h => G1.out h.f1) (BW3.out.trans (hb.mono BW3.out.size))
  clear hs
  have BW4 := Lib.hid (BW3.out.trans (hb.mono BW3.out.size))
  have M1 := Lib.hid (M0.out.below hb)
  have r0 := M1.out.c0
  have r1 := M1.out.c1
  have r2 := M1.out.c2
  have r3 := M1.out.c3
  have zz := M1.out.z
  clear hb
  go_wp2_with fail
  refine (faulty_c AE cE evs class_ Q3 d3 no w4 (HE.out.below EvE.stays BW4.out) lev M1.out.ls.h3 (by omega) I3.out).mono ?_
  intro e w5 hs
  rcases hs.yes1 with ⟨rfl, G2, hb⟩ | ⟨rfl, G2, hb⟩
  · go_wp2
    go_ret
    exact Tells.no (fun h => h.f2 G2.out) (BW4.out.trans (hb.mono BW4.out.size))
  clear hs
  have BW5 := Lib.hid (BW4.out.trans (hb.mono BW4.out.size))
  have M2 := Lib.hid (M1.out.below hb)
  have r0 := M2.out.c0
  have r1 := M2.out.c1
  have r2 := M2.out.c2
  have r3 := M2.out.c3
  have zz := M2.out.z
  clear hb
  go_wp2_with fail
  refine (faulty_c AE cE evs class_ Q4 d4 nc w5 (HE.out.below EvE.stays BW5.out) lev M2.out.ls.h4 (by omega) I4.out).mono ?_
  intro e w6 hs
  rcases hs.yes1 with ⟨rfl, G3, hb⟩ | ⟨rfl, G3, hb⟩
  · go_wp2
    go_ret
    exact Tells.no (fun h => h.f3 G3.out) (BW5.out.trans (hb.mono BW5.out.size))
  clear hs
  have BW6 := Lib.hid (BW5.out.trans (hb.mono BW5.out.size))
  have M3 := Lib.hid (M2.out.below hb)
  have r0 := M3.out.c0
  have r1 := M3.out.c1
  have r2 := M3.out.c2
  have r3 := M3.out.c3
  have zz := M3.out.z
  clear hb
  go_wp2_with fail
  refine (alikeW_c AE cE evs Q1 Q3 d1 d3 fa no w6 (HE.out.below EvE.stays BW6.out) lev M3.out.ls.h1 ln1 I1.out M3.out.ls.h3 ln3 I3.out).mono ?_
  intro e w7 hs
  rcases hs.no1 with ⟨rfl, G4, hb⟩ | ⟨rfl, G4, hb⟩
  · go_wp2
    go_ret
    exact Tells.no (fun h => G4.out h.s1) (BW6.out.trans (hb.mono BW6.out.size))
  clear hs
  have BW7 := Lib.hid (BW6.out.trans (hb.mono BW6.out.size))
  have M4 := Lib.hid (M3.out.below hb)
  have r0 := M4.out.c0
  have r1 := M4.out.c1
  have r2 := M4.out.c2
  have r3 := M4.out.c3
  have zz := M4.out.z
  clear hb
  go_wp2_with fail
  refine (alikeW_c AE cE evs Q2 Q4 d2 d4 fc nc w7 (HE.out.below EvE.stays BW7.out) lev M4.out.ls.h2 ln2 I2.out M4.out.ls.h4 ln4 I4.out).mono ?_
  intro e w8 hs
  rcases hs.no1 with ⟨rfl, G5, hb⟩ | ⟨rfl, G5, hb⟩
  · go_wp2
    go_ret
    exact Tells.no (fun h => G5.out h.s2) (BW7.out.trans (hb.mono BW7.out.size))
  clear hs
  go_wp2
  go_ret
  exact Tells.yes ⟨S.out, HN0.out, HFC.out, by simp only; rw [HX.out]; exact HX0.out, by simp only; rw [HY.out]; exact HY0.out, by simp only; rw [HX.out, HX2.out], by simp only; rw [HY.out, HY2.out], G1.out, G2.out, G3.out, G4.out, G5.out⟩ (BW7.out.trans (hb.mono BW7.out.size))
end Go.Proofs.Ytkbmenpggiojeaa
