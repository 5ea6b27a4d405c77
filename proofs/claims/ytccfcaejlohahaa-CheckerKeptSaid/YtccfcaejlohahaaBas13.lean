/-
  The checker's look at a lasso.
  Plain laws: words in a right automaton.
  Plain laws: the states that are found, and the canonical automaton.
  The states that are found.
  The law's own proof of a kept state (chapter 46).
  The law's own proof of a removed state (chapter 46).
  The plain law: what chapter 46 asks of a kept and of a removed state is what the checker asks.
  The law's own proof of the kept states (chapter 46): the places.
-/
import Derived.Test.YtccfcaejlohahaaBas12
import Derived.Test.YtccfcaejlohahaaBas09
import Derived.Test.YtccfcaejlohahaaBas01
import Derived.Test.YtccfcaejlohahaaBas04
import Derived.StillTailTactics
import Derived.Deep.QuietTactic
import Derived.BigQuiet
import Derived.Test.YtccfcaejlohahaaBas03
import Derived.RegionTactic
import Derived.BigRegion
set_option linter.unusedSimpArgs false
set_option linter.unusedVariables false
namespace Go.Proofs.Ytccfcaejlohahaa
open Go.RowKit
set_option maxRecDepth 100000
theorem PlantOk.evs {nev : Nat} {au : Au} {cl : Int} (h : PlantOk nev au cl) {x : Ed} (hx : x ∈ au.ed) : 0 ≤ x.ev ∧ x.ev < nev := by
 obtain ⟨j,hj,rfl⟩ := List.mem_iff_getElem.1 hx
 have h1 := (h.ha.ed j hj _ (List.getElem?_eq_getElem hj)).2.2.2.2.1
 refine ⟨?_,h.hev _ h1⟩
 obtain ⟨t,ht,he⟩ := List.mem_iff_getElem.1 h1
 have := h.ha.al t _ ht (List.getElem?_eq_getElem ht)
 rw [he] at this; exact this.1
theorem follow_in {nev : Nat} {au : Au} {cl : Int} (h : PlantOk nev au cl) : ∀ (l : List Int) (s : Int),followV (stepOf au.ed) s l ≠ -1 → ∀ x,x ∈ l → 0 ≤ x ∧ x < nev
 | [],_,_,x,hx => by simp at hx
 | e :: r,s,hf,x,hx => by
   simp only [followV] at hf
   by_cases hz : toV (stepOf au.ed) s e = -1
   · rw [if_pos hz] at hf; exact absurd rfl hf
   · rw [if_neg hz] at hf
     simp only [List.mem_cons] at hx
     rcases hx with rfl | hx
     · obtain ⟨y,hy,_,h2,_⟩ := toV_edge hz
       rw [← h2]; exact h.evs hy
     · exact follow_in h r _ hf x hx

structure Ls where
 fa : List Int
 fc : List Int
 no : List Int
 nc : List Int
structure LsP where
 A1 : Option Addr
 c1 : Nat
 A2 : Option Addr
 c2 : Nat
 A3 : Option Addr
 c3 : Nat
 A4 : Option Addr
 c4 : Nat
abbrev Ls.val (l : Ls) (p : LsP) : Value := .agg #[.slice p.A1 l.fa.length p.c1,.slice p.A2 l.fc.length p.c2,.slice p.A3 l.no.length p.c3,.slice p.A4 l.nc.length p.c4]
structure Ls.At (w : World) (l : Ls) (p : LsP) : Prop where
 h1 : IntsAt w p.A1 l.fa
 h2 : IntsAt w p.A2 l.fc
 h3 : IntsAt w p.A3 l.no
 h4 : IntsAt w p.A4 l.nc
 n1 : l.fa.length ≤ 1048576
 n2 : l.fc.length ≤ 1048576
 n3 : l.no.length ≤ 1048576
 n4 : l.nc.length ≤ 1048576
theorem Ls.At.below {w w' : World} {l : Ls} {p : LsP} (h : Ls.At w l p) (hb : Below w.heap.size w w') : Ls.At w' l p :=
 ⟨h.h1.below IntE.stays hb,h.h2.below IntE.stays hb,h.h3.below IntE.stays hb,h.h4.below IntE.stays hb,h.n1,h.n2,h.n3,h.n4⟩

structure LassoOk (evs : List Ev) (au : Au) (class_ : Int) (l : Ls) : Prop where
 pl : PlantOk evs.length au class_
 n0 : au.n ≠ 0
 c0 : l.fc ≠ []
 x0 : followV (stepOf au.ed) 0 l.fa ≠ -1
 y0 : followV (stepOf au.ed) 0 l.no ≠ -1
 x1 : followV (stepOf au.ed) (followV (stepOf au.ed) 0 l.fa) l.fc = followV (stepOf au.ed) 0 l.fa
 y1 : followV (stepOf au.ed) (followV (stepOf au.ed) 0 l.no) l.nc = followV (stepOf au.ed) 0 l.no
 f1 : faultyP evs class_ l.fa
 f2 : ¬ faultyP evs class_ l.no
 f3 : ¬ faultyP evs class_ l.nc
 s1 : seen evs l.fa = seen evs l.no
 s2 : seen evs l.fc = seen evs l.nc

structure LsMem (b : Nat) (l : Ls) (p : LsP) (w : World) : Prop where
 c0 : w.cell? ⟨b,0,none⟩ = some (.slice p.A1 l.fa.length p.c1)
 c1 : w.cell? ⟨b,1,none⟩ = some (.slice p.A2 l.fc.length p.c2)
 c2 : w.cell? ⟨b,2,none⟩ = some (.slice p.A3 l.no.length p.c3)
 c3 : w.cell? ⟨b,3,none⟩ = some (.slice p.A4 l.nc.length p.c4)
 z : b < w.heap.size
 ls : Ls.At w l p
theorem LsMem.below {b : Nat} {l : Ls} {p : LsP} {w w' : World} (h : LsMem b l p w) (hb : Below w.heap.size w w') : LsMem b l p w' :=
 ⟨old_cell hb h.c0 h.z,old_cell hb h.c1 h.z,old_cell hb h.c2 h.z,old_cell hb h.c3 h.z,Nat.lt_of_lt_of_le h.z hb.size,h.ls.below hb⟩

theorem follow_q (b : Nat) (f : Int × Int → Option Int) (s : Int) (A : Option Addr) (c : Nat) (l : List Int) (w : World) (h : MapAt key2 w b f) (hA : IntsAt w A l) (hl : l.length ≤ 140737488355328) (n : Nat) :
 Calls Try.prog 44 #[.map (some b),.int .i64 s,.slice A l.length c] (w.drewN n) fun e w'' => e = .returned (.int .i64 (followV f s l)) ∧ ∃ m,w'' = w.drewN m :=
 Calls.quiet_of_same ((follow_c b f s A c l (w.drewN n) (h.below ((Below.refl _ _).draws n) h.lt) (hA.below IntE.stays ((Below.refl _ _).draws n)) hl).mono fun _ _ ⟨h1,h2⟩ => ⟨h1,h2.symm⟩)

set_option maxRecDepth 100000 in
set_option maxHeartbeats 4000000 in
theorem Lasso_c (AE : Option Addr) (cE : Nat) (evs : List Ev) (au : Au) (p : AuP) (class_ : Int) (l : Ls) (q : LsP) (w : World)
 (hE : EvsAt w AE evs) (hp : Au.At w au p) (hL : Ls.At w l q) (lev : evs.length ≤ 140737488355328) :
 Calls Try.prog 16 #[.slice AE evs.length cE,au.val p,.int .i64 class_,l.val q] w (Tells (LassoOk evs au class_ l) w) := by
 have BX := Lib.hid (Below.new w (.cells #[.slice p.A1 au.al.length p.c1,.int .i64 au.n,.slice p.A2 au.mr.length p.c2,.slice p.A3 au.ed.length p.c3] 39))
 have B0 := Lib.hid (BX.out.alloc (by simp) (.cells #[.slice q.A1 l.fa.length q.c1,.slice q.A2 l.fc.length q.c2,.slice q.A3 l.no.length q.c3,.slice q.A4 l.nc.length q.c4] 75))
 have HA := Lib.hid (plant_c evs.length AE cE au p class_ _ (hp.below B0.out) lev)
 have HE := Lib.hid hE
 have HP := Lib.hid hp
 have HL := Lib.hid hL
 clear hE hp hL BX
 have ln1 := HL.out.n1
 have ln2 := HL.out.n2
 have ln3 := HL.out.n3
 have ln4 := HL.out.n4
 obtain ⟨al,m,mr,ed⟩ := au
 obtain ⟨A1,c1,A2,c2,A3,c3⟩ := p
 obtain ⟨fa,fc,no,nc⟩ := l
 obtain ⟨Q1,d1,Q2,d2,Q3,d3,Q4,d4⟩ := q
 dsimp only [Au.val,Ls.val] at *
 go_enter Try.func16,Try.ntmps16
 go_wp2_with fail
 refine HA.out.mono ?_
 intro e w1 hs
 rcases hs.no1 with ⟨rfl,S,hb⟩ | ⟨rfl,S,hb⟩
 · go_wp2
   go_ret
   exact Tells.no (fun h => S.out h.pl) (B0.out.trans (hb.mono B0.out.size))
 clear HA hs
 have hcell : ∀ (i : Nat) (u : Value),[Value.slice A1 al.length c1,.int .i64 m,.slice A2 mr.length c2,.slice A3 ed.length c3][i]? = some u → w1.cell? ⟨w.heap.size,i,none⟩ = some u := fun i u h =>
  old_cell hb (old_cell (Below.new _ _) ((new_cell w _ [_,_,_,_] _ i rfl).trans h) (by simp)) (by simp; omega)
 have hcel2 : ∀ (i : Nat) (u : Value),[Value.slice Q1 fa.length d1,.slice Q2 fc.length d2,.slice Q3 no.length d3,.slice Q4 nc.length d4][i]? = some u → w1.cell? ⟨w.heap.size + 1,i,none⟩ = some u := fun i u h => by
  have := (new_cell (w.alloc (.cells #[.slice A1 al.length c1,.int .i64 m,.slice A2 mr.length c2,.slice A3 ed.length c3] 39)) 75 [.slice Q1 fa.length d1,.slice Q2 fc.length d2,.slice Q3 no.length d3,.slice Q4 nc.length d4] (w.heap.size + 1) i (by simp)).trans h
  exact old_cell hb this (by simp)
 have q0 := hcell 0 _ rfl
 have q1 := hcell 1 _ rfl
 have q2 := hcell 2 _ rfl
 have q3 := hcell 3 _ rfl
 have r0 := hcel2 0 _ rfl
 have r1 := hcel2 1 _ rfl
 have r2 := hcel2 2 _ rfl
 have r3 := hcel2 3 _ rfl
 have BW1 : Hid (Below w.heap.size w w1) := B0.out.trans (hb.mono B0.out.size)
 have z0 : w.heap.size < w1.heap.size := Nat.lt_of_lt_of_le (by simp; omega) hb.size
 have z1 : w.heap.size + 1 < w1.heap.size := Nat.lt_of_lt_of_le (by simp) hb.size
 clear hb B0 hcell hcel2
 by_cases hn0 : m = 0
 · subst hn0
   go_wp2
   go_ret
   exact Tells.no (fun h => h.n0 rfl) BW1.out
 have hn0' : (m == 0) = false := by simpa using hn0
 by_cases hfc : fc = []
 · subst hfc
   simp only [List.length_nil] at r1 ⊢
   go_wp2
   go_ret
   exact Tells.no (fun h => h.c0 rfl) BW1.out
 have hfl : ((fc.length : Int) == 0) = false := by
  have := List.length_pos_iff.2 hfc
  rw [beq_eq_false_iff_ne]; omega
 have HN0 := Lib.hid hn0
 have HFC := Lib.hid hfc
 clear hn0 hfc
 go_wp2_with fail
 refine (steps_c ⟨al,m,mr,ed⟩ ⟨A1,c1,A2,c2,A3,c3⟩ w1 (HP.out.ed.below EdE.stays BW1.out) HP.out.led).mono ?_
 rintro e w2 ⟨bm,rfl,_,hm,hb⟩
 have HM := Lib.hid hm
 have BW2 : Hid (Below w.heap.size w w2) := BW1.out.trans (hb.mono BW1.out.size)
 have r0 := old_cell hb r0 z1
 have r1 := old_cell hb r1 z1
 have r2 := old_cell hb r2 z1
 have r3 := old_cell hb r3 z1
 have z2 := Nat.lt_of_lt_of_le z1 hb.size
 clear hm hb q0 q1 q2 q3 z0 z1
 have HI := Lib.hid (HL.out.below BW2.out)
 have F1 := Lib.hid (fun s n => follow_q bm (stepOf ed) s Q1 d1 fa w2 HM.out HI.out.h1 (by omega) n)
 have F3 := Lib.hid (fun s n => follow_q bm (stepOf ed) s Q3 d3 no w2 HM.out HI.out.h3 (by omega) n)
 go_wp2_with fail
 go_quiet (first | (go_at_call 44; with_reducible exact F1.out _ _) | (go_at_call 44; with_reducible exact F3.out _ _))
 have BQ := Lib.hid ((Below.refl w2.heap.size w2).draws nq)
 have BW3 : Hid (Below w.heap.size w (w2.drewN nq)) := BW2.out.draws nq
 have M0 : Hid (LsMem (w.heap.size + 1) ⟨fa,fc,no,nc⟩ ⟨Q1,d1,Q2,d2,Q3,d3,Q4,d4⟩ (w2.drewN nq)) := ⟨old_cell BQ.out r0 z2,old_cell BQ.out r1 z2,old_cell BQ.out r2 z2,old_cell BQ.out r3 z2,Nat.lt_of_lt_of_le z2 BQ.out.size,HI.out.below BQ.out⟩
 have HM3 : Hid (MapAt key2 (w2.drewN nq) bm (stepOf ed)) := HM.out.below BQ.out HM.out.lt
 generalize hW : w2.drewN nq = W at *
 clear hW BQ HM HI F1 F3 r0 r1 r2 r3 z2 BW1 BW2
 generalize hX : followV (stepOf ed) 0 fa = X at *
 generalize hY : followV (stepOf ed) 0 no = Y at *
 have HX := Lib.hid hX
 have HY := Lib.hid hY
 clear hX hY
 by_cases hx : X = -1
 · subst hx
   go_wp2
   go_ret
   exact Tells.no (fun h => h.x0 HX.out) BW3.out
 have hx' : (X == -1) = false := by simpa using hx
 by_cases hy : Y = -1
 · subst hy
   go_wp2
   go_ret
   exact Tells.no (fun h => h.y0 HY.out) BW3.out
 have hy' : (Y == -1) = false := by simpa using hy
 have HX0 := Lib.hid hx
 have HY0 := Lib.hid hy
 clear hx hy
 have r1 := M0.out.c1
 have r3 := M0.out.c3
 have zz := M0.out.z
 go_wp2_with fail
 refine (follow_c bm (stepOf ed) X Q2 d2 fc W HM3.out M0.out.ls.h2 (by omega)).mono ?_
 rintro e w4 ⟨rfl,rfl⟩
 generalize hX2 : followV (stepOf ed) X fc = X2 at *
 have HX2 := Lib.hid hX2
 clear hX2
 by_cases hx2 : ¬ X2 = X
 · have hx2' : (X2 == X) = false := by simpa using hx2
   go_wp2
   go_ret
   exact Tells.no (fun h => hx2 (by have := h.x1; simp only at this; rw [HX.out,HX2.out] at this; exact this)) BW3.out
 obtain rfl := Classical.not_not.1 hx2
 clear hx2
 go_wp2_with fail
 refine (follow_c bm (stepOf ed) Y Q4 d4 nc W HM3.out M0.out.ls.h4 (by omega)).mono ?_
 rintro e w4 ⟨rfl,rfl⟩
 generalize hY2 : followV (stepOf ed) Y nc = Y2 at *
 have HY2 := Lib.hid hY2
 clear hY2
 by_cases hy2 : ¬ Y2 = Y
 · have hy2' : (Y2 == Y) = false := by simpa using hy2
   go_wp2
   go_ret
   exact Tells.no (fun h => hy2 (by have := h.y1; simp only at this; rw [HY.out,HY2.out] at this; exact this)) BW3.out
 obtain rfl := Classical.not_not.1 hy2
 clear hy2
 have I1 : Hid (InEvs evs fa) := follow_in S.out fa 0 (by simp only; rw [HX.out]; exact HX0.out)
 have I2 : Hid (InEvs evs fc) := follow_in S.out fc _ (by simp only; rw [HX2.out]; exact HX0.out)
 have I3 : Hid (InEvs evs no) := follow_in S.out no 0 (by simp only; rw [HY.out]; exact HY0.out)
 have I4 : Hid (InEvs evs nc) := follow_in S.out nc _ (by simp only; rw [HY2.out]; exact HY0.out)
 have r0 := M0.out.c0
 have r2 := M0.out.c2
 go_wp2_with fail
 refine (faulty_c AE cE evs class_ Q1 d1 fa W (HE.out.below EvE.stays BW3.out) lev M0.out.ls.h1 (by omega) I1.out).mono ?_
 intro e w4 hs
 rcases hs.no1 with ⟨rfl,G1,hb⟩ | ⟨rfl,G1,hb⟩
 · go_wp2
   go_ret
   exact Tells.no (fun h => G1.out h.f1) (BW3.out.trans (hb.mono BW3.out.size))
 clear hs
 have BW4 := Lib.hid (BW3.out.trans (hb.mono BW3.out.size))
 have M1 := Lib.hid (M0.out.below hb)
 have r0 := M1.out.c0
 have r1 := M1.out.c1
 have r2 := M1.out.c2
 have r3 := M1.out.c3
 have zz := M1.out.z
 clear hb
 go_wp2_with fail
 refine (faulty_c AE cE evs class_ Q3 d3 no w4 (HE.out.below EvE.stays BW4.out) lev M1.out.ls.h3 (by omega) I3.out).mono ?_
 intro e w5 hs
 rcases hs.yes1 with ⟨rfl,G2,hb⟩ | ⟨rfl,G2,hb⟩
 · go_wp2
   go_ret
   exact Tells.no (fun h => h.f2 G2.out) (BW4.out.trans (hb.mono BW4.out.size))
 clear hs
 have BW5 := Lib.hid (BW4.out.trans (hb.mono BW4.out.size))
 have M2 := Lib.hid (M1.out.below hb)
 have r0 := M2.out.c0
 have r1 := M2.out.c1
 have r2 := M2.out.c2
 have r3 := M2.out.c3
 have zz := M2.out.z
 clear hb
 go_wp2_with fail
 refine (faulty_c AE cE evs class_ Q4 d4 nc w5 (HE.out.below EvE.stays BW5.out) lev M2.out.ls.h4 (by omega) I4.out).mono ?_
 intro e w6 hs
 rcases hs.yes1 with ⟨rfl,G3,hb⟩ | ⟨rfl,G3,hb⟩
 · go_wp2
   go_ret
   exact Tells.no (fun h => h.f3 G3.out) (BW5.out.trans (hb.mono BW5.out.size))
 clear hs
 have BW6 := Lib.hid (BW5.out.trans (hb.mono BW5.out.size))
 have M3 := Lib.hid (M2.out.below hb)
 have r0 := M3.out.c0
 have r1 := M3.out.c1
 have r2 := M3.out.c2
 have r3 := M3.out.c3
 have zz := M3.out.z
 clear hb
 go_wp2_with fail
 refine (alikeW_c AE cE evs Q1 Q3 d1 d3 fa no w6 (HE.out.below EvE.stays BW6.out) lev M3.out.ls.h1 ln1 I1.out M3.out.ls.h3 ln3 I3.out).mono ?_
 intro e w7 hs
 rcases hs.no1 with ⟨rfl,G4,hb⟩ | ⟨rfl,G4,hb⟩
 · go_wp2
   go_ret
   exact Tells.no (fun h => G4.out h.s1) (BW6.out.trans (hb.mono BW6.out.size))
 clear hs
 have BW7 := Lib.hid (BW6.out.trans (hb.mono BW6.out.size))
 have M4 := Lib.hid (M3.out.below hb)
 have r0 := M4.out.c0
 have r1 := M4.out.c1
 have r2 := M4.out.c2
 have r3 := M4.out.c3
 have zz := M4.out.z
 clear hb
 go_wp2_with fail
 refine (alikeW_c AE cE evs Q2 Q4 d2 d4 fc nc w7 (HE.out.below EvE.stays BW7.out) lev M4.out.ls.h2 ln2 I2.out M4.out.ls.h4 ln4 I4.out).mono ?_
 intro e w8 hs
 rcases hs.no1 with ⟨rfl,G5,hb⟩ | ⟨rfl,G5,hb⟩
 · go_wp2
   go_ret
   exact Tells.no (fun h => G5.out h.s2) (BW7.out.trans (hb.mono BW7.out.size))
 clear hs
 go_wp2
 go_ret
 exact Tells.yes ⟨S.out,HN0.out,HFC.out,by simp only; rw [HX.out]; exact HX0.out,by simp only; rw [HY.out]; exact HY0.out,by simp only; rw [HX.out,HX2.out],by simp only; rw [HY.out,HY2.out],G1.out,G2.out,G3.out,G4.out,G5.out⟩ (BW7.out.trans (hb.mono BW7.out.size))
structure Fits (evs : List Ev) (au : Au) : Prop where
 ha : au.Right
 hev : ∀ x,x ∈ au.al → x < evs.length
theorem Fits.edge {evs : List Ev} {au : Au} (h : Fits evs au) {x : Ed} (hx : x ∈ au.ed) : 0 ≤ x.ev ∧ x.ev < evs.length := by
 obtain ⟨j,hj,rfl⟩ := List.mem_iff_getElem.1 hx
 have h1 := (h.ha.ed j hj _ (List.getElem?_eq_getElem hj)).2.2.2.2.1
 refine ⟨?_,h.hev _ h1⟩
 obtain ⟨t,ht,he⟩ := List.mem_iff_getElem.1 h1
 have := h.ha.al t _ ht (List.getElem?_eq_getElem ht)
 rw [he] at this; exact this.1
def obsV (evs : List Ev) (k : Nat) : List Int := ((List.range k).filter fun (i : Nat) => (evAt evs (i : Int)).obs).map fun (i : Nat) => (i : Int)
abbrev lsCells (l : Ls) (p : LsP) : List Value := [.slice p.A1 l.fa.length p.c1,.slice p.A2 l.fc.length p.c2,.slice p.A3 l.no.length p.c3,.slice p.A4 l.nc.length p.c4]
structure IsLassoP (evs : List Ev) (au : Au) (class_ : Int) (l : Ls) : Prop where
 k1 : 1 ≤ class_
 k4 : class_ ≤ 4
 n0 : au.n ≠ 0
 c0 : l.fc ≠ []
 x0 : 0 ≤ runV au.ed 0 l.fa
 y0 : 0 ≤ runV au.ed 0 l.no
 x1 : runV au.ed (runV au.ed 0 l.fa) l.fc = runV au.ed 0 l.fa
 y1 : runV au.ed (runV au.ed 0 l.no) l.nc = runV au.ed 0 l.no
 f1 : faultyP evs class_ l.fa
 f2 : ¬ faultyP evs class_ l.no
 f3 : ¬ faultyP evs class_ l.nc
 s1 : projV (obsV evs evs.length) l.fa = projV (obsV evs evs.length) l.no
 s2 : projV (obsV evs evs.length) l.fc = projV (obsV evs evs.length) l.nc


theorem phas_c (A : Option Addr) (c : Nat) (l : List Int) (x : Int) (w : World) (h : IntsAt w A l) (hl : l.length ≤ 140737488355328) :
 Calls Try.prog 88 #[.slice A l.length c,.int .i64 x] w (Says (x ∈ l) w) := by
 go_enter Try.func88,Try.ntmps88
 go_wp2
 go_loop [5] (fun i => ∃ k : Nat,k ≤ l.length ∧ i = .int .i64 k ∧ Hid (∀ j y,j < k → l[j]? = some y → y ≠ x)) (fun i => l.length - (intOf i).toNat)
 case atStart => exact ⟨0,by omega,rfl,fun i x h => absurd h (by omega)⟩
 case round =>
  obtain ⟨k,hk,rfl,H⟩ := hrel
  by_cases hlt : k < l.length
  · obtain ⟨b,off,y,rfl,_,hy,hcy⟩ := IntsAt.at h hlt
    by_cases hyx : y = x
    · have HM := Lib.hid (List.mem_of_getElem? hy)
      have hyx' : (y == x) = true := by simpa using hyx
      have HYX := Lib.hid hyx
      clear hy hyx
      go_wp2
      go_ret
      exact Says.yes (HYX.out ▸ HM.out) rfl
    · have hyx' : (y == x) = false := by simpa using hyx
      have HYX := Lib.hid hyx
      have HY := Lib.hid hy
      clear hyx hy
      go_wp2
      go_round
      case rel => exact ⟨k + 1,by omega,by go_num,fun j z hj hz => by
       by_cases e : j = k
       · subst e; rw [HY.out] at hz; cases hz; exact HYX.out
       · exact H.out j z (by omega) hz⟩
      case measure => simp [intOf]; omega
  · obtain rfl : k = l.length := by omega
    go_wp2
    go_ret
    exact Says.no (notIn_all H.out) rfl


abbrev tpCells (au : Au) (forb unc : List Int) (p : PrP) (tk : Int) : List Value := [.slice p.a.A1 au.al.length p.a.c1,.int .i64 au.n,.slice p.a.A2 au.mr.length p.a.c2,.slice p.a.A3 au.ed.length p.a.c3,.slice p.AF forb.length p.cF,.slice p.AU unc.length p.cU,.slice none 0 0,.int .i64 tk]
abbrev ceList (kept dist : List Int) (rms : List Rm) (p : CeP) : List Value := [.slice p.AK kept.length p.cK,.slice p.AD dist.length p.cD,.slice p.AR rms.length p.cR]
def outBad (kp unc : List Int) (x : Int) (y : Ed) : Prop := y.src = x ∧ kp.getD y.dst.toNat 0 < 0 ∧ y.ev ∈ unc
def nearB (kp dist : List Int) (x d : Int) (y : Ed) : Prop := y.src = x ∧ 0 ≤ kp.getD y.dst.toNat 0 ∧ dist.getD (kp.getD y.dst.toNat 0).toNat 0 < d
structure Keeps46 (au : Au) (forb unc dist kp : List Int) (x d : Int) : Prop where
 a : ∀ y,y ∈ au.ed → ¬ outBad kp unc x y
 f : ¬ x ∈ forb
 d0 : 0 ≤ d
 r : d = 0 ∧ x ∈ au.mr ∨ 0 < d ∧ ∃ y,y ∈ au.ed ∧ nearB kp dist x d y
structure KpOk (n : Nat) (m : Nat) (kp : List Int) : Prop where
 l : kp.length = n
 r : ∀ (i : Nat) (v : Int),kp[i]? = some v → v = -1 ∨ 0 ≤ v ∧ v < m

set_option maxHeartbeats 4000000 in
theorem keeps46_c (au : Au) (forb unc : List Int) (p : PrP) (kept dist : List Int) (rms : List Rm) (cp : CeP) (KA : Option Addr) (kc : Nat) (kp : List Int) (i : Nat) (x d : Int) (w : World) (hp : PrAt w au forb unc p) (hc : CeAt w kept dist rms cp)
 (hr : au.Right) (hk : IntsAt w KA kp) (ho : KpOk au.n.toNat kept.length kp) (hd : dist.length = kept.length) (hx : kept[i]? = some x) (hdi : dist[i]? = some d) (tk : Int) (hT : ∀ y,y ∈ au.ed → y.ev ≠ tk) :
 Calls Try.prog 64 #[.agg (tpCells au forb unc p tk).toArray,.agg (ceList kept dist rms cp).toArray,.slice KA kp.length kc,.int .i64 i] w (Tells (Keeps46 au forb unc dist kp x d) w) := by
 have HT := Lib.hid hT
 clear hT
 have W0 : Hid (Fro w.heap.size w ((w.alloc (.cells (tpCells au forb unc p tk).toArray 41)).alloc (.cells (ceList kept dist rms cp).toArray 47))) := ((Fro.here w).alloc _).alloc _
 have C1 : Hid (HasAt w.heap.size (tpCells au forb unc p tk) ((w.alloc (.cells (tpCells au forb unc p tk).toArray 41)).alloc (.cells (ceList kept dist rms cp).toArray 47))) := (HasAt.new w _ _ rfl).alloc _
 have C2 : Hid (HasAt (w.heap.size + 1) (ceList kept dist rms cp) ((w.alloc (.cells (tpCells au forb unc p tk).toArray 41)).alloc (.cells (ceList kept dist rms cp).toArray 47))) := HasAt.new _ _ _ (by simp)
 have HP := Lib.hid hp
 have HC := Lib.hid hc
 have HR := Lib.hid hr
 have HK := Lib.hid hk
 have HO := Lib.hid ho
 have HX := Lib.hid hx
 have HD := Lib.hid hdi
 have HDL := Lib.hid hd
 have il := (List.getElem?_eq_some_iff.1 hx).1
 have il2 := (List.getElem?_eq_some_iff.1 hdi).1
 have lk := hc.lk
 have ld := hc.ld
 have lF := hp.lf
 have lU := hp.lu
 have le := hp.au.led
 clear hp hc hr hk ho hx hdi hd
 obtain ⟨al,n,mr,ed⟩ := au
 obtain ⟨⟨A1,c1,A2,c2,A3,c3⟩,AF,cF,AU,cU⟩ := p
 obtain ⟨AK,cK,AD,cD,AR,cR⟩ := cp
 dsimp only [tpCells,ceList] at *
 go_enter Try.func64,Try.ntmps64
 go_wp2_with fail
 generalize hW : ((w.alloc (.cells #[.slice A1 al.length c1,.int .i64 n,.slice A2 mr.length c2,.slice A3 ed.length c3,.slice AF forb.length cF,.slice AU unc.length cU,.slice none 0 0,.int .i64 tk] 41)).alloc (.cells #[.slice AK kept.length cK,.slice AD dist.length cD,.slice AR rms.length cR] 47)) = W at *
 clear hW
 obtain ⟨bK,oK,hAK,hbK,hcK⟩ := IntsAt.found (HC.out.below W0.out.b).hk HX.out
 obtain ⟨bD,oD,hAD,hbD,hcD⟩ := IntsAt.found (HC.out.below W0.out.b).hd HD.out
 dsimp only at hAK hAD
 subst hAK; subst hAD
 have q0 := C2.out.c 0 _ rfl
 have q1 := C2.out.c 1 _ rfl
 go_quiet (fail)
 have WD : Hid (Fro w.heap.size w (W.drewN nq)) := W0.out.draws nq
 have D1 := Lib.hid (C1.out.below ((Below.refl _ W).draws nq))
 have D2 := Lib.hid (C2.out.below ((Below.refl _ W).draws nq))
 generalize hW : W.drewN nq = V at *
 clear hW C1 C2 q0 q1 hcK hcD hbK hbD W0
 have q3 := D1.out.c 3 _ rfl
 have hz0 := D1.out.z
 go_wp2_with fail
 go_loopw [11,12,13,31] (fun s1 s2 s3 j wr => ∃ (k : Nat) (b : Bool),j = .int .i64 k ∧ k ≤ ed.length ∧ s1 = .bool false ∧ s2 = .bool false ∧ s3 = .bool b ∧ Hid (Fro V.heap.size V wr) ∧ Hid (b = true ↔ ∃ m y,m < k ∧ ed[m]? = some y ∧ nearB kp dist x d y) ∧ Hid (∀ m y,m < k → ed[m]? = some y → ¬ outBad kp unc x y)) (fun _ _ _ j _ => ed.length - (intOf j).toNat)
 case atStart => exact ⟨0,false,rfl,by omega,rfl,rfl,rfl,Fro.here V,by simp [Hid],fun m y h => absurd h (by omega)⟩
 case round =>
  obtain ⟨k,b,rfl,hk,rfl,rfl,rfl,BW,HB,HA⟩ := hrel
  have E1 := Lib.hid (D1.out.below BW.out.b)
  have E2 := Lib.hid (D2.out.below BW.out.b)
  have WF := Lib.hid (WD.out.next BW.out.b)
  clear q3 hz0
  have q3 := E1.out.c 3 _ rfl
  have q2 := E1.out.c 2 _ rfl
  have q4 := E1.out.c 4 _ rfl
  have q5 := E1.out.c 5 _ rfl
  have q6 := E1.out.c 6 _ rfl
  have q7 := E1.out.c 7 _ rfl
  have r1 := E2.out.c 1 _ rfl
  have hz0 := E1.out.z
  have hz1 := E2.out.z
  by_cases hlt : k < ed.length
  · obtain ⟨bE,oE,y,hA3,hbE,hy,e0,e1,e2⟩ := EdsAt.at ((HP.out.below WF.out.b).au.ed) hlt
    have HE := Lib.hid (HR.out.ed k hlt y hy)
    obtain ⟨src,ev,dst⟩ := y
    dsimp only at hA3 e0 e1 e2
    subst hA3
    have HY := Lib.hid hy
    clear hy
    have BN : Hid (Fro V.heap.size V (wr.alloc (.cells #[.int .i64 src,.int .i64 ev,.int .i64 dst] 68))) := BW.out.alloc _
    have step : ∀ b' : Bool,(b' = true ↔ b = true ∨ nearB kp dist x d ⟨src,ev,dst⟩) → (b' = true ↔ ∃ m y,m < k + 1 ∧ ed[m]? = some y ∧ nearB kp dist x d y) := fun b' h => by
     rw [h,HB.out]
     constructor
     · rintro (⟨m,y,h1,h2,h3⟩ | h)
       · exact ⟨m,y,by omega,h2,h3⟩
       · exact ⟨k,_,by omega,HY.out,h⟩
     · rintro ⟨m,y,h1,h2,h3⟩
       by_cases e : m = k
       · subst e; rw [HY.out] at h2; cases h2; exact .inr h3
       · exact .inl ⟨m,y,by omega,h2,h3⟩
    have stepA : ¬ outBad kp unc x ⟨src,ev,dst⟩ → ∀ m y,m < k + 1 → ed[m]? = some y → ¬ outBad kp unc x y := fun h m y h1 h2 => by
     by_cases e : m = k
     · subst e; rw [HY.out] at h2; cases h2; exact h
     · exact HA.out m y (by omega) h2
    have HST := Lib.hid step
    have HSA := Lib.hid stepA
    clear step stepA
    by_cases hs : src = x
    · have hs' : (src != x) = false := by simpa using hs
      have hs2 : (src == x) = true := by simpa using hs
      have HSX := Lib.hid hs
      clear hs
      obtain ⟨d0,d1,hev⟩ : 0 ≤ dst ∧ dst < n ∧ 0 ≤ ev := by
       have h := HE.out
       obtain ⟨t,ht,he⟩ := List.mem_iff_getElem.1 h.2.2.2.2.1
       have := HR.out.al t _ ht (List.getElem?_eq_getElem ht)
       rw [he] at this
       exact ⟨h.2.2.1,h.2.2.2.1,this.1⟩
      obtain ⟨dn,rfl⟩ := Int.eq_ofNat_of_zero_le d0
      have hev1 : (ev == tk) = false := by rw [beq_eq_false_iff_ne]; exact HT.out _ (List.mem_of_getElem? HY.out)
      have hdl : dn < kp.length := by have := HO.out.l; omega
      obtain ⟨bP,oP,v,hKA,_,hv,hcv⟩ := IntsAt.at (HK.out.below IntE.stays WF.out.b) hdl
      subst hKA
      have hvr := HO.out.r dn v hv
      have HGV := Lib.hid (show kp.getD (Int.toNat (dn : Int)) 0 = v by rw [Int.toNat_natCast,List.getD_eq_getElem?_getD,hv]; rfl)
      clear hv
      by_cases hv0 : v < 0
      · have hin : decide (0 ≤ v) = false := by simpa using hv0
        have NN : Hid (¬ nearB kp dist x d ⟨src,ev,(dn : Int)⟩) := fun h => by have := h.2.1; simp only at this; rw [HGV.out] at this; omega
        go_wp2_with fail
        refine (phas_c AU cU unc ev _ ((HP.out.below (WF.out.alloc _).b).hu) (by omega)).mono ?_
        intro e w3 hss; rcases hss.yes1 with ⟨rfl,S,rfl⟩ | ⟨rfl,S,rfl⟩
        · clear hss
          go_wp2
          go_ret
          exact Tells.no (fun h => h.a _ (List.mem_of_getElem? HY.out) ⟨HSX.out,by simp only; rw [HGV.out]; exact hv0,S.out⟩) (WF.out.alloc _).b
        · clear hss
          have NB : Hid (¬ outBad kp unc x ⟨src,ev,(dn : Int)⟩) := fun h => S.out h.2.2
          cases b
          all_goals
           go_wp2_with fail
           go_quiet (fail)
           go_wp2
           go_roundw
           case rel => exact ⟨k + 1,_,by go_num,by omega,rfl,rfl,rfl,BN.out.draws _,HST.out _ (by simp [NN.out]),HSA.out NB.out⟩
           case measure => simp [intOf]; omega
      · have hin : decide (0 ≤ v) = true := by simpa using hv0
        obtain ⟨vn,rfl⟩ := Int.eq_ofNat_of_zero_le (show 0 ≤ v by omega)
        have hvl : vn < dist.length := by have := HDL.out; omega
        obtain ⟨bD2,oD2,v2,hAD,_,hv2,hcv2⟩ := IntsAt.at ((HC.out.below WF.out.b).hd) hvl
        cases hAD
        have NB : Hid (¬ outBad kp unc x ⟨src,ev,(dn : Int)⟩) := fun h => by have := h.2.1; simp only at this; rw [HGV.out] at this; omega
        have NE : Hid (nearB kp dist x d ⟨src,ev,(dn : Int)⟩ ↔ v2 < d) := by
         have e1 : dist.getD (Int.toNat (vn : Int)) 0 = v2 := by rw [Int.toNat_natCast,List.getD_eq_getElem?_getD,hv2]; rfl
         constructor
         · intro h; have := h.2.2; simp only at this; rw [HGV.out,e1] at this; exact this
         · intro h; exact ⟨HSX.out,by simp only; rw [HGV.out]; omega,by simp only; rw [HGV.out,e1]; exact h⟩
        clear hv2
        go_wp2_with fail
        refine (phas_c none 0 [] ev _ SlAt.nil (by simp)).mono ?_
        intro e w3 hss; rcases hss.no1 with ⟨rfl,S,rfl⟩ | ⟨rfl,S,rfl⟩
        · clear hss
          cases b
          all_goals
           go_wp2_with fail
           go_quiet (fail)
           go_wp2
           go_roundw
           case rel => exact ⟨k + 1,_,by go_num,by omega,rfl,rfl,rfl,BN.out.draws _,HST.out _ (by simp [NE.out]),HSA.out NB.out⟩
           case measure => simp [intOf]; omega
        · exact absurd S.out (by simp)
    · have hs' : (src != x) = true := by simpa using hs
      have NN : Hid (¬ nearB kp dist x d ⟨src,ev,dst⟩) := fun h => hs h.1
      have NB : Hid (¬ outBad kp unc x ⟨src,ev,dst⟩) := fun h => hs h.1
      clear hs
      go_wp2
      go_roundw
      case rel => exact ⟨k + 1,b,by go_num,by omega,rfl,rfl,rfl,BN.out,HST.out _ (by simp [NN.out]),HSA.out NB.out⟩
      case measure => simp [intOf]; omega
  · obtain rfl : k = ed.length := by omega
    have HN : Hid (b = true ↔ ∃ y,y ∈ ed ∧ nearB kp dist x d y) := by
     rw [Hid,HB.out]
     constructor
     · rintro ⟨m,y,_,h2,h3⟩; exact ⟨y,List.mem_of_getElem? h2,h3⟩
     · rintro ⟨y,hy,h3⟩
       obtain ⟨m,hm,rfl⟩ := List.mem_iff_getElem.1 hy
       exact ⟨m,_,hm,List.getElem?_eq_getElem hm,h3⟩
    have HAL : Hid (∀ y,y ∈ ed → ¬ outBad kp unc x y) := fun y hy => by
     obtain ⟨m,hm,rfl⟩ := List.mem_iff_getElem.1 hy
     exact HA.out m _ hm (List.getElem?_eq_getElem hm)
    clear HB HA
    go_wp2_with fail
    refine (phas_c AF cF forb x _ ((HP.out.below WF.out.b).hf) (by omega)).mono ?_
    intro e w3 hss; rcases hss.yes1 with ⟨rfl,S,rfl⟩ | ⟨rfl,S,rfl⟩
    · clear hss
      go_wp2
      go_ret
      exact Tells.no (fun h => h.f S.out) WF.out.b
    clear hss
    by_cases hd0 : d < 0
    · go_wp2
      go_ret
      exact Tells.no (fun h => by have := h.d0; omega) WF.out.b
    by_cases hd1 : d = 0
    · subst hd1
      go_wp2_with fail
      refine (phas_c A2 c2 mr x _ ((HP.out.below WF.out.b).au.mr) (HP.out.au.lmk)).mono ?_
      intro e w3 hss; rcases hss.yes1 with ⟨rfl,S2,rfl⟩ | ⟨rfl,S2,rfl⟩
      · clear hss
        go_wp2
        go_ret
        exact Tells.yes ⟨HAL.out,S.out,by omega,.inl ⟨rfl,S2.out⟩⟩ WF.out.b
      · clear hss
        go_wp2
        go_ret
        exact Tells.no (fun h => by rcases h.r with h | h; · exact S2.out h.2
                                    · omega) WF.out.b
    · have hd2 : (d == 0) = false := by simpa using hd1
      have hd3 : decide (0 < d) = true := by simp; omega
      have HD1 := Lib.hid hd1
      have HD3 : Hid (0 < d) := by unfold Hid; omega
      clear hd1
      go_wp2
      go_ret
      exact ⟨b,rfl,by rw [HN.out]; exact ⟨fun h => ⟨HAL.out,S.out,by have := HD3.out; omega,.inr ⟨HD3.out,h⟩⟩,fun h => h.r.elim (fun h => absurd h.1 HD1.out) (fun h => h.2)⟩,WF.out.b⟩
def befP (rms : List Rm) (rp : List Int) (rank : Int) (y : Ed) : Prop := ∃ (k : Nat) (q : Rm),rp[y.dst.toNat]? = some (k : Int) ∧ rms[k]? = some q ∧ q.rank < rank
def witP (rms : List Rm) (rp : List Int) (rank : Int) (y : Ed) : Prop := ∃ (k : Nat) (q : Rm),rp[y.dst.toNat]? = some (k : Int) ∧ rms[k]? = some q ∧ q.rank = rank ∧ q.reason = 3
def allP (rms : List Rm) (rp : List Int) (r : Rm) (y : Ed) : Prop := y.src = r.st → befP rms rp r.rank y ∨ witP rms rp r.rank y
def oneP (rms : List Rm) (rp : List Int) (r : Rm) (y : Ed) : Prop := y.src = r.st ∧ befP rms rp r.rank y ∧ y.ev = r.ev
def Rem46 (au : Au) (forb unc : List Int) (rms : List Rm) (rp : List Int) (r : Rm) : Prop :=
 1 ≤ r.rank ∧ (r.reason = 1 ∧ r.ev = -1 ∧ r.st ∈ forb ∨ r.reason = 2 ∧ r.ev ∈ unc ∧ (∃ y,y ∈ au.ed ∧ oneP rms rp r y) ∨ r.reason = 3 ∧ r.ev = -1 ∧ r.st ∉ au.mr ∧ ∀ y,y ∈ au.ed → allP rms rp r y)

set_option maxHeartbeats 4000000 in
theorem removes46_c (au : Au) (forb unc : List Int) (p : PrP) (kept dist : List Int) (rms : List Rm) (cp : CeP) (RA : Option Addr) (rc : Nat) (rp : List Int) (i : Nat) (r : Rm) (w : World) (hp : PrAt w au forb unc p) (hc : CeAt w kept dist rms cp)
 (hr : au.Right) (hk : IntsAt w RA rp) (ho : KpOk au.n.toNat rms.length rp) (hx : rms[i]? = some r) (tk : Int) (hT : ∀ y,y ∈ au.ed → y.ev ≠ tk) :
 Calls Try.prog 65 #[.agg (tpCells au forb unc p tk).toArray,.agg (ceList kept dist rms cp).toArray,.slice RA rp.length rc,.int .i64 i] w (Tells (Rem46 au forb unc rms rp r) w) := by
 have HT := Lib.hid hT
 clear hT
 have W0 : Hid (Fro w.heap.size w ((w.alloc (.cells (tpCells au forb unc p tk).toArray 41)).alloc (.cells (ceList kept dist rms cp).toArray 47))) := ((Fro.here w).alloc _).alloc _
 have C1 : Hid (HasAt w.heap.size (tpCells au forb unc p tk) ((w.alloc (.cells (tpCells au forb unc p tk).toArray 41)).alloc (.cells (ceList kept dist rms cp).toArray 47))) := (HasAt.new w _ _ rfl).alloc _
 have C2 : Hid (HasAt (w.heap.size + 1) (ceList kept dist rms cp) ((w.alloc (.cells (tpCells au forb unc p tk).toArray 41)).alloc (.cells (ceList kept dist rms cp).toArray 47))) := HasAt.new _ _ _ (by simp)
 have HP := Lib.hid hp
 have HC := Lib.hid hc
 have HR := Lib.hid hr
 have HK := Lib.hid hk
 have HO := Lib.hid ho
 have HX := Lib.hid hx
 have il := (List.getElem?_eq_some_iff.1 hx).1
 have lr := hc.lr
 have lF := hp.lf
 have lU := hp.lu
 have le := hp.au.led
 clear hp hc hr hk ho hx
 obtain ⟨al,n,mr,ed⟩ := au
 obtain ⟨⟨A1,c1,A2,c2,A3,c3⟩,AF,cF,AU,cU⟩ := p
 obtain ⟨AK,cK,AD,cD,AR,cR⟩ := cp
 obtain ⟨st,rank,reason,ev⟩ := r
 dsimp only [tpCells,ceList] at *
 go_enter Try.func65,Try.ntmps65
 go_upto_region 1 with fail
 generalize hW : ((w.alloc (.cells #[.slice A1 al.length c1,.int .i64 n,.slice A2 mr.length c2,.slice A3 ed.length c3,.slice AF forb.length cF,.slice AU unc.length cU,.slice none 0 0,.int .i64 tk] 41)).alloc (.cells #[.slice AK kept.length cK,.slice AD dist.length cD,.slice AR rms.length cR] 47)) = W at *
 clear hW
 obtain ⟨bR,oR,hAR,hbR,hR0,hR1,hR2,hR3⟩ := RmsAt.get (HC.out.below W0.out.b).hr HX.out
 dsimp only at hAR hR0 hR1 hR2 hR3
 subst hAR
 have q3 := C1.out.c 3 _ rfl
 have q2 := C2.out.c 2 _ rfl
 have hz0 := C1.out.z
 have hz1 := C2.out.z
 have D1 : Hid (HasAt w.heap.size _ (W.alloc (.cells #[.int .i64 st,.int .i64 rank,.int .i64 reason,.int .i64 ev] 70))) := C1.out.alloc _
 have D2 : Hid (HasAt (w.heap.size + 1) _ (W.alloc (.cells #[.int .i64 st,.int .i64 rank,.int .i64 reason,.int .i64 ev] 70))) := C2.out.alloc _
 have D3 : Hid (HasAt W.heap.size [.int .i64 st,.int .i64 rank,.int .i64 reason,.int .i64 ev] (W.alloc (.cells #[.int .i64 st,.int .i64 rank,.int .i64 reason,.int .i64 ev] 70))) := HasAt.new _ _ _ rfl
 have WD : Hid (Fro w.heap.size w (W.alloc (.cells #[.int .i64 st,.int .i64 rank,.int .i64 reason,.int .i64 ev] 70))) := W0.out.alloc _
 by_cases hrk : rank < 1
 · go_wp2
   go_ret
   exact Tells.no (fun h => by have := h.1; simp only at this; omega) WD.out.b
 have HRK : Hid (1 ≤ rank) := by unfold Hid; omega
 go_wp2_with fail
 generalize hV : (W.alloc (.cells #[.int .i64 st,.int .i64 rank,.int .i64 reason,.int .i64 ev] 70)) = V at *
 clear hV
 generalize hB : W.heap.size = B at *
 clear hB q3 q2 hz0 hz1 hR0 hR1 hR2 hR3 C1 C2 W0 hbR
 go_loopw [10,11,12,30] (fun s1 s2 s3 j wr => ∃ (k : Nat) (a o : Bool),j = .int .i64 k ∧ k ≤ ed.length ∧ s1 = .bool a ∧ s2 = .bool true ∧ s3 = .bool o ∧ Hid (Fro V.heap.size V wr) ∧ Hid (a = true ↔ ∀ m y,m < k → ed[m]? = some y → allP rms rp ⟨st,rank,reason,ev⟩ y) ∧ Hid (o = true ↔ ∃ m y,m < k ∧ ed[m]? = some y ∧ oneP rms rp ⟨st,rank,reason,ev⟩ y)) (fun _ _ _ j _ => ed.length - (intOf j).toNat)
 case atStart => exact ⟨0,true,false,rfl,by omega,rfl,rfl,rfl,Fro.here V,by simp [Hid],by simp [Hid]⟩
 case round =>
  obtain ⟨k,a,o,rfl,hk,rfl,rfl,rfl,BW,HA,HB⟩ := hrel
  have E1 := Lib.hid (D1.out.below BW.out.b)
  have E2 := Lib.hid (D2.out.below BW.out.b)
  have E3 := Lib.hid (D3.out.below BW.out.b)
  have WF := Lib.hid (WD.out.next BW.out.b)
  have q1 := E1.out.c 1 _ rfl
  have q2 := E1.out.c 2 _ rfl
  have q3 := E1.out.c 3 _ rfl
  have q4 := E1.out.c 4 _ rfl
  have q5 := E1.out.c 5 _ rfl
  have q6 := E1.out.c 6 _ rfl
  have q7 := E1.out.c 7 _ rfl
  have r2 := E2.out.c 2 _ rfl
  have s0 := E3.out.c 0 _ rfl
  have s1 := E3.out.c 1 _ rfl
  have s2 := E3.out.c 2 _ rfl
  have s3 := E3.out.c 3 _ rfl
  have hz0 := E1.out.z
  have hz1 := E2.out.z
  have hz2 := E3.out.z
  by_cases hlt : k < ed.length
  · obtain ⟨bE,oE,y,hA3,hbE,hy,e0,e1,e2⟩ := EdsAt.at ((HP.out.below WF.out.b).au.ed) hlt
    have HE := Lib.hid (HR.out.ed k hlt y hy)
    obtain ⟨src,yev,dst⟩ := y
    dsimp only at hA3 e0 e1 e2
    subst hA3
    have HY := Lib.hid hy
    clear hy
    have BN : Hid (Fro V.heap.size V (wr.alloc (.cells #[.int .i64 src,.int .i64 yev,.int .i64 dst] 68))) := BW.out.alloc _
    have HSA : Hid (∀ a' : Bool,(a' = true ↔ a = true ∧ allP rms rp ⟨st,rank,reason,ev⟩ ⟨src,yev,dst⟩) → Hid (a' = true ↔ ∀ m y,m < k + 1 → ed[m]? = some y → allP rms rp ⟨st,rank,reason,ev⟩ y)) := fun a' h => by
     rw [Hid,h,HA.out]
     constructor
     · rintro ⟨h1,h2⟩ m y hm hy
       by_cases e : m = k
       · subst e; rw [HY.out] at hy; cases hy; exact h2
       · exact h1 m y (by omega) hy
     · exact fun h => ⟨fun m y hm hy => h m y (by omega) hy,h k _ (by omega) HY.out⟩
    have HSO : Hid (∀ o' : Bool,(o' = true ↔ o = true ∨ oneP rms rp ⟨st,rank,reason,ev⟩ ⟨src,yev,dst⟩) → Hid (o' = true ↔ ∃ m y,m < k + 1 ∧ ed[m]? = some y ∧ oneP rms rp ⟨st,rank,reason,ev⟩ y)) := fun o' h => by
     rw [Hid,h,HB.out]
     constructor
     · rintro (⟨m,y,h1,h2,h3⟩ | h)
       · exact ⟨m,y,by omega,h2,h3⟩
       · exact ⟨k,_,by omega,HY.out,h⟩
     · rintro ⟨m,y,h1,h2,h3⟩
       by_cases e : m = k
       · subst e; rw [HY.out] at h2; cases h2; exact .inr h3
       · exact .inl ⟨m,y,by omega,h2,h3⟩
    by_cases hs : src = st
    · have hs' : (src != st) = false := by simpa using hs
      have HS := Lib.hid hs
      clear hs
      obtain ⟨d0,d1⟩ : 0 ≤ dst ∧ dst < n := ⟨HE.out.2.2.1,HE.out.2.2.2.1⟩
      obtain ⟨dn,rfl⟩ := Int.eq_ofNat_of_zero_le d0
      have hdl : dn < rp.length := by have := HO.out.l; omega
      obtain ⟨bP,oP,v,hKA,_,hv,hcv⟩ := IntsAt.at (HK.out.below IntE.stays WF.out.b) hdl
      subst hKA
      have hvr := HO.out.r dn v hv
      have HV : Hid (rp[(dn : Int).toNat]? = some v) := by simpa [Hid] using hv
      clear hv
      by_cases hv0 : v < 0
      · have hin : decide (0 ≤ v) = false := by simpa using hv0
        have NA : Hid (¬ allP rms rp ⟨st,rank,reason,ev⟩ ⟨src,yev,(dn : Int)⟩) := fun h => by
         rcases h HS.out with ⟨k,q,h,_⟩ | ⟨k,q,h,_⟩ <;> (simp only at h; rw [HV.out] at h; cases h; omega)
        have NO : Hid (¬ oneP rms rp ⟨st,rank,reason,ev⟩ ⟨src,yev,(dn : Int)⟩) := fun h => by
         obtain ⟨_,⟨k,q,h,_⟩,_⟩ := h; simp only at h; rw [HV.out] at h; cases h; omega
        cases a <;> cases o
        all_goals
         go_wp2_with fail
         refine (phas_c none 0 [] yev _ SlAt.nil (by simp)).mono ?_
         intro e w3 hss; rcases hss.no1 with ⟨rfl,S,rfl⟩ | ⟨rfl,S,rfl⟩
         · clear hss
           go_wp2
           go_roundw
           case rel => exact ⟨k + 1,_,_,by go_num,by omega,rfl,rfl,rfl,BN.out,HSA.out _ (by simp [NA.out]),HSO.out _ (by simp [NO.out])⟩
           case measure => simp [intOf]; omega
         · exact absurd S.out (by simp)
      · have hin : decide (0 ≤ v) = true := by simpa using hv0
        obtain ⟨vn,rfl⟩ := Int.eq_ofNat_of_zero_le (show 0 ≤ v by omega)
        have hvl : vn < rms.length := by omega
        obtain ⟨q,hq⟩ : ∃ q,rms[vn]? = some q := ⟨_,List.getElem?_eq_getElem hvl⟩
        obtain ⟨bR2,oR2,hAR,_,t0,t1,t2,t3⟩ := RmsAt.get ((HC.out.below WF.out.b).hr) hq
        cases hAR
        obtain ⟨qst,qrank,qreason,qev⟩ := q
        dsimp only at t0 t1 t2 t3
        have HQ := Lib.hid hq
        clear hq hvr
        have EB : Hid (befP rms rp rank ⟨src,yev,(dn : Int)⟩ ↔ qrank < rank) := by
         constructor
         · rintro ⟨k,q,h,h1,h2⟩; simp only at h; rw [HV.out] at h; obtain rfl : vn = k := by
            have : (vn : Int) = k := by simpa using h
            omega
           rw [HQ.out] at h1; cases h1; exact h2
         · exact fun h => ⟨vn,_,HV.out,HQ.out,h⟩
        have EW : Hid (witP rms rp rank ⟨src,yev,(dn : Int)⟩ ↔ qrank = rank ∧ qreason = 3) := by
         constructor
         · rintro ⟨k,q,h,h1,h2⟩; simp only at h; rw [HV.out] at h; obtain rfl : vn = k := by
            have : (vn : Int) = k := by simpa using h
            omega
           rw [HQ.out] at h1; cases h1; exact h2
         · exact fun h => ⟨vn,_,HV.out,HQ.out,h⟩
        have EA : Hid (allP rms rp ⟨st,rank,reason,ev⟩ ⟨src,yev,(dn : Int)⟩ ↔ qrank < rank ∨ qrank = rank ∧ qreason = 3) := by
         rw [Hid,allP]; simp only; rw [EB.out,EW.out]; simp [HS.out]
        have EO : Hid (oneP rms rp ⟨st,rank,reason,ev⟩ ⟨src,yev,(dn : Int)⟩ ↔ qrank < rank ∧ yev = ev) := by
         rw [Hid,oneP]; simp only; rw [EB.out]; simp [HS.out]
        clear EB EW
        by_cases hbf : qrank < rank
        · have h1 : decide (qrank < rank) = true := by simpa using hbf
          have h2 : (qrank == rank) = false := by rw [beq_eq_false_iff_ne]; omega
          have YA : Hid (allP rms rp ⟨st,rank,reason,ev⟩ ⟨src,yev,(dn : Int)⟩) := EA.out.2 (.inl hbf)
          have YB : Hid (oneP rms rp ⟨st,rank,reason,ev⟩ ⟨src,yev,(dn : Int)⟩ ↔ yev = ev) := by rw [Hid,EO.out]; simp [hbf]
          clear EA EO
          by_cases hev : yev = ev
          · have hev' : (yev == ev) = true := by simpa using hev
            have YO : Hid (oneP rms rp ⟨st,rank,reason,ev⟩ ⟨src,yev,(dn : Int)⟩) := YB.out.2 hev
            clear hev
            go_wp2_with fail
            go_quiet (fail)
            go_wp2_with fail
            go_quiet (fail)
            cases a <;> cases o
            all_goals
             go_wp2
             go_roundw
             case rel => exact ⟨k + 1,_,_,by go_num,by omega,rfl,rfl,rfl,BN.out.draws _,HSA.out _ (by simp [YA.out]),HSO.out _ (by simp [YO.out])⟩
             case measure => simp [intOf]; omega
          · have hev' : (yev == ev) = false := by simpa using hev
            have YO : Hid (¬ oneP rms rp ⟨st,rank,reason,ev⟩ ⟨src,yev,(dn : Int)⟩) := fun h => hev (YB.out.1 h)
            clear hev
            go_wp2_with fail
            go_quiet (fail)
            go_wp2_with fail
            go_quiet (fail)
            cases a <;> cases o
            all_goals
             go_wp2
             go_roundw
             case rel => exact ⟨k + 1,_,_,by go_num,by omega,rfl,rfl,rfl,BN.out.draws _,HSA.out _ (by simp [YA.out]),HSO.out _ (by simp [YO.out])⟩
             case measure => simp [intOf]; omega
        · have h1 : decide (qrank < rank) = false := by simpa using hbf
          have NO : Hid (¬ oneP rms rp ⟨st,rank,reason,ev⟩ ⟨src,yev,(dn : Int)⟩) := fun h => hbf (EO.out.1 h).1
          have YB : Hid (allP rms rp ⟨st,rank,reason,ev⟩ ⟨src,yev,(dn : Int)⟩ ↔ qrank = rank ∧ qreason = 3) := by rw [Hid,EA.out]; simp [hbf]
          clear EA EO hbf
          by_cases heq : qrank = rank
          · have h2 : (qrank == rank) = true := by simpa using heq
            have HEQ := Lib.hid heq
            clear heq
            by_cases h3 : qreason = 3
            · have h3' : (qreason == 3) = true := by simpa using h3
              have YA : Hid (allP rms rp ⟨st,rank,reason,ev⟩ ⟨src,yev,(dn : Int)⟩) := YB.out.2 ⟨HEQ.out,h3⟩
              clear h3 YB
              go_wp2_with fail
              go_quiet (fail)
              go_wp2_with fail
              go_quiet (fail)
              cases a <;> cases o
              all_goals
               go_wp2_with fail
               refine (phas_c none 0 [] yev _ SlAt.nil (by simp)).mono ?_
               intro e w3 hss; rcases hss.no1 with ⟨rfl,S,rfl⟩ | ⟨rfl,S,rfl⟩
               · clear hss
                 go_wp2
                 go_roundw
                 case rel => exact ⟨k + 1,_,_,by go_num,by omega,rfl,rfl,rfl,BN.out.draws _,HSA.out _ (by simp [YA.out]),HSO.out _ (by simp [NO.out])⟩
                 case measure => simp [intOf]; omega
               · exact absurd S.out (by simp)
            · have h3' : (qreason == 3) = false := by simpa using h3
              have YA : Hid (¬ allP rms rp ⟨st,rank,reason,ev⟩ ⟨src,yev,(dn : Int)⟩) := fun h => h3 (YB.out.1 h).2
              clear h3 YB
              go_wp2_with fail
              go_quiet (fail)
              go_wp2_with fail
              go_quiet (fail)
              cases a <;> cases o
              all_goals
               go_wp2_with fail
               refine (phas_c none 0 [] yev _ SlAt.nil (by simp)).mono ?_
               intro e w3 hss; rcases hss.no1 with ⟨rfl,S,rfl⟩ | ⟨rfl,S,rfl⟩
               · clear hss
                 go_wp2
                 go_roundw
                 case rel => exact ⟨k + 1,_,_,by go_num,by omega,rfl,rfl,rfl,BN.out.draws _,HSA.out _ (by simp [YA.out]),HSO.out _ (by simp [NO.out])⟩
                 case measure => simp [intOf]; omega
               · exact absurd S.out (by simp)
          · have h2 : (qrank == rank) = false := by simpa using heq
            have YA : Hid (¬ allP rms rp ⟨st,rank,reason,ev⟩ ⟨src,yev,(dn : Int)⟩) := fun h => heq (YB.out.1 h).1
            clear heq YB
            go_wp2_with fail
            go_quiet (fail)
            go_wp2_with fail
            go_quiet (fail)
            cases a <;> cases o
            all_goals
             go_wp2_with fail
             refine (phas_c none 0 [] yev _ SlAt.nil (by simp)).mono ?_
             intro e w3 hss; rcases hss.no1 with ⟨rfl,S,rfl⟩ | ⟨rfl,S,rfl⟩
             · clear hss
               go_wp2
               go_roundw
               case rel => exact ⟨k + 1,_,_,by go_num,by omega,rfl,rfl,rfl,BN.out.draws _,HSA.out _ (by simp [YA.out]),HSO.out _ (by simp [NO.out])⟩
               case measure => simp [intOf]; omega
             · exact absurd S.out (by simp)
    · have hs' : (src != st) = true := by simpa using hs
      have NA : Hid (allP rms rp ⟨st,rank,reason,ev⟩ ⟨src,yev,dst⟩) := fun h => absurd h hs
      have NO : Hid (¬ oneP rms rp ⟨st,rank,reason,ev⟩ ⟨src,yev,dst⟩) := fun h => hs h.1
      clear hs
      go_wp2
      go_roundw
      case rel => exact ⟨k + 1,a,o,by go_num,by omega,rfl,rfl,rfl,BN.out,HSA.out _ (by simp [NA.out]),HSO.out _ (by simp [NO.out])⟩
      case measure => simp [intOf]; omega
  · obtain rfl : k = ed.length := by omega
    have HNA : Hid (a = true ↔ ∀ y,y ∈ ed → allP rms rp ⟨st,rank,reason,ev⟩ y) := by
     rw [Hid,HA.out]
     constructor
     · intro h y hy
       obtain ⟨m,hm,rfl⟩ := List.mem_iff_getElem.1 hy
       exact h m _ hm (List.getElem?_eq_getElem hm)
     · exact fun h m y _ hy => h y (List.mem_of_getElem? hy)
    have HNO : Hid (o = true ↔ ∃ y,y ∈ ed ∧ oneP rms rp ⟨st,rank,reason,ev⟩ y) := by
     rw [Hid,HB.out]
     constructor
     · rintro ⟨m,y,_,h2,h3⟩; exact ⟨y,List.mem_of_getElem? h2,h3⟩
     · rintro ⟨y,hy,h3⟩
       obtain ⟨m,hm,rfl⟩ := List.mem_iff_getElem.1 hy
       exact ⟨m,_,hm,List.getElem?_eq_getElem hm,h3⟩
    have HOE : Hid (ev = tk → o = false) := fun h => by
     cases o
     · rfl
     · obtain ⟨y,hy,_,_,h3⟩ := HNO.out.1 rfl
       exact absurd (h3.trans h) (HT.out y hy)
    clear HA HB
    by_cases c1 : reason = 1
    · subst c1
      by_cases he : ev = -1
      · subst he
        go_wp2_with fail
        refine (phas_c AF cF forb st _ ((HP.out.below WF.out.b).hf) (by omega)).mono ?_
        intro e w3 hss; rcases hss.no1 with ⟨rfl,S,rfl⟩ | ⟨rfl,S,rfl⟩
        · clear hss
          go_wp2
          go_ret
          exact Tells.no (fun h => by rcases h.2 with h | h | h <;> first | exact S.out h.2.2 | exact absurd h.1 (by simp)) WF.out.b
        · clear hss
          go_wp2
          go_ret
          exact Tells.yes ⟨HRK.out,.inl ⟨rfl,rfl,S.out⟩⟩ WF.out.b
      · have he' : (ev == -1) = false := by simpa using he
        have HE := Lib.hid he
        clear he
        go_wp2
        go_ret
        exact Tells.no (fun h => by rcases h.2 with h | h | h <;> first | exact HE.out h.2.1 | exact absurd h.1 (by simp)) WF.out.b
    have c1' : (reason == 1) = false := by simpa using c1
    have D1 := Lib.hid c1
    clear c1
    by_cases c2 : reason = 2
    · subst c2
      go_wp2_with fail
      refine (phas_c AU cU unc ev _ ((HP.out.below WF.out.b).hu) (by omega)).mono ?_
      intro e w3 hss; rcases hss.yes1 with ⟨rfl,S,rfl⟩ | ⟨rfl,S,rfl⟩
      · clear hss
        go_wp2
        go_ret
        exact ⟨o,rfl,by rw [HNO.out]; exact ⟨fun h => ⟨HRK.out,.inr (.inl ⟨rfl,S.out,h⟩)⟩,fun h => by rcases h.2 with h | h | h <;> first | exact h.2.2 | exact absurd h.1 (by simp)⟩,WF.out.b⟩
      · clear hss
        go_wp2
        go_ret
        exact Tells.no (fun h => by rcases h.2 with h | h | h <;> first | exact S.out h.2.1 | exact absurd h.1 (by simp)) WF.out.b
    have c2' : (reason == 2) = false := by simpa using c2
    have D2 := Lib.hid c2
    clear c2
    by_cases c4 : reason = 4
    · subst c4
      have NN : Hid (¬ Rem46 ⟨al,n,mr,ed⟩ forb unc rms rp ⟨st,rank,4,ev⟩) := fun h => by rcases h.2 with h | h | h <;> exact absurd h.1 (by simp)
      by_cases he : ev = tk
      · obtain rfl := HOE.out he
        subst he
        go_wp2
        go_ret
        exact Tells.no NN.out WF.out.b
      · have he' : (ev == tk) = false := by simpa using he
        clear he
        go_wp2
        go_ret
        exact Tells.no NN.out WF.out.b
    have c4' : (reason == 4) = false := by simpa using c4
    clear c4
    by_cases c3 : reason = 3
    · subst c3
      by_cases he : ev = -1
      · subst he
        cases a
        · go_wp2
          go_ret
          exact Tells.no (fun h => by rcases h.2 with h | h | h <;> first | exact absurd (HNA.out.2 h.2.2.2) (by simp) | exact absurd h.1 (by simp)) WF.out.b
        · go_wp2_with fail
          refine (phas_c A2 c2 mr st _ ((HP.out.below WF.out.b).au.mr) (HP.out.au.lmk)).mono ?_
          intro e w3 hss; rcases hss.no1 with ⟨rfl,S,rfl⟩ | ⟨rfl,S,rfl⟩
          · clear hss
            go_wp2
            go_ret
            exact Tells.yes ⟨HRK.out,.inr (.inr ⟨rfl,rfl,S.out,HNA.out.1 (by simp)⟩)⟩ WF.out.b
          · clear hss
            go_wp2
            go_ret
            exact Tells.no (fun h => by rcases h.2 with h | h | h <;> first | exact h.2.2.1 S.out | exact absurd h.1 (by simp)) WF.out.b
      · have he' : (ev == -1) = false := by simpa using he
        have HE := Lib.hid he
        clear he
        go_wp2
        go_ret
        exact Tells.no (fun h => by rcases h.2 with h | h | h <;> first | exact HE.out h.2.1 | exact absurd h.1 (by simp)) WF.out.b
    have c3' : (reason == 3) = false := by simpa using c3
    have D3 := Lib.hid c3
    clear c3
    go_wp2
    go_ret
    exact Tells.no (fun h => by rcases h.2 with h | h | h <;> first | exact D1.out h.1 | exact D2.out h.1 | exact D3.out h.1) WF.out.b
structure PlOf (n : Nat) (l kp : List Int) : Prop where
 ln : kp.length = n
 at_ : ∀ i : Nat,i < n → (∃ k : Nat,kp[i]? = some (k : Int) ∧ l[k]? = some (i : Int)) ∨ kp[i]? = some (-1) ∧ (i : Int) ∉ l
 inc : incr l

theorem PlOf.uniq {n : Nat} {l kp : List Int} (h : PlOf n l kp) {a b : Nat} {x : Int} (h1 : l[a]? = some x) (h2 : l[b]? = some x) : a = b := by
 rcases Nat.lt_trichotomy a b with e | e | e
 · have := h.inc a b _ _ e h1 h2; omega
 · exact e
 · have := h.inc b a _ _ e h2 h1; omega

theorem PlOf.ok {n : Nat} {l kp : List Int} (h : PlOf n l kp) : KpOk n l.length kp := by
 refine ⟨h.ln,fun i v hv => ?_⟩
 have hi : i < n := by have := (List.getElem?_eq_some_iff.1 hv).1; have := h.ln; omega
 rcases h.at_ i hi with ⟨k,h1,h2⟩ | ⟨h1,_⟩
 · rw [hv] at h1; cases h1
   have := (List.getElem?_eq_some_iff.1 h2).1
   exact .inr ⟨by omega,by omega⟩
 · rw [hv] at h1; cases h1; exact .inl rfl

theorem keeps46_iff {au : Au} {forb unc dist kept kp : List Int} {n x : Nat} {d : Int} (hk : PlOf n kept kp) (hd : dist.length = kept.length) (hes : ∀ y,y ∈ au.ed → 0 ≤ y.dst ∧ y.dst < n) :
 Keeps46 au forb unc dist kp x d ↔ keepsS forb unc au.mr kept dist (outOf au.ed x) x d := by
 have hb : ∀ y,y ∈ au.ed → (outBad kp unc x y ↔ y.src = (x : Int) ∧ y.dst ∉ kept ∧ y.ev ∈ unc) := fun y hm => by
  obtain ⟨g0,g1⟩ := hes y hm
  obtain ⟨src,ev,dst⟩ := y
  simp only at g0 g1
  obtain ⟨t,rfl⟩ := Int.eq_ofNat_of_zero_le g0
  unfold outBad
  simp only [Int.toNat_natCast,List.getD_eq_getElem?_getD]
  rcases hk.at_ t (by omega) with ⟨k,h1,h2⟩ | ⟨h1,h2⟩
  · rw [h1]; simp only [Option.getD_some]
    have := List.mem_of_getElem? h2
    constructor
    · rintro ⟨_,h,_⟩; omega
    · rintro ⟨_,h,_⟩; exact absurd this h
  · rw [h1]; simp [h2]
 have hn : ∀ y,y ∈ au.ed → (nearB kp dist x d y ↔ y.src = (x : Int) ∧ ∃ (k : Nat) (d1 : Int),kept[k]? = some y.dst ∧ dist[k]? = some d1 ∧ d1 < d) := fun y hm => by
  obtain ⟨g0,g1⟩ := hes y hm
  obtain ⟨src,ev,dst⟩ := y
  simp only at g0 g1
  obtain ⟨t,rfl⟩ := Int.eq_ofNat_of_zero_le g0
  unfold nearB
  simp only [Int.toNat_natCast,List.getD_eq_getElem?_getD]
  rcases hk.at_ t (by omega) with ⟨k,h1,h2⟩ | ⟨h1,h2⟩
  · rw [h1]; simp only [Option.getD_some,Int.toNat_natCast]
    have hkl : k < dist.length := by have := (List.getElem?_eq_some_iff.1 h2).1; omega
    rw [List.getElem?_eq_getElem hkl]; simp only [Option.getD_some]
    constructor
    · rintro ⟨h,_,h3⟩; exact ⟨h,k,_,h2,List.getElem?_eq_getElem hkl,h3⟩
    · rintro ⟨h,k',d1,e1,e2,e3⟩
      obtain rfl := hk.uniq e1 h2
      rw [List.getElem?_eq_getElem hkl] at e2; cases e2
      exact ⟨h,by omega,e3⟩
  · rw [h1]; simp only [Option.getD_some]
    constructor
    · rintro ⟨_,h,_⟩; omega
    · rintro ⟨_,k',d1,e1,_⟩; exact absurd (List.mem_of_getElem? e1) h2
 constructor
 · rintro ⟨h1,h2,h3,h4⟩
   refine ⟨h2,fun ⟨y,hy,e1,e2⟩ => ?_,fun e => ?_,fun e => ?_⟩
   · obtain ⟨hm,hs⟩ := mem_outOf.1 hy
     exact h1 y hm ((hb y hm).2 ⟨hs,e1,e2⟩)
   · rcases h4 with h | h
     · exact h.2
     · omega
   · rcases h4 with h | ⟨h,y,hm,hy⟩
     · exact absurd h.1 e
     · obtain ⟨hs,hh⟩ := (hn y hm).1 hy
       exact ⟨h,y,mem_outOf.2 ⟨hm,hs⟩,hh⟩
 · rintro ⟨h1,h2,h3,h4⟩
   refine ⟨fun y hm hy => ?_,h1,?_,?_⟩
   · obtain ⟨hs,e1,e2⟩ := (hb y hm).1 hy
     exact h2 ⟨y,mem_outOf.2 ⟨hm,hs⟩,e1,e2⟩
   · by_cases e : d = 0
     · omega
     · have := (h4 e).1; omega
   · by_cases e : d = 0
     · exact .inl ⟨e,h3 e⟩
     · obtain ⟨h,y,hy,hh⟩ := h4 e
       obtain ⟨hm,hs⟩ := mem_outOf.1 hy
       exact .inr ⟨h,y,hm,(hn y hm).2 ⟨hs,hh⟩⟩

theorem st_get {rms : List Rm} {k : Nat} {x : Int} : (rms.map (·.st))[k]? = some x ↔ ∃ q,rms[k]? = some q ∧ q.st = x := by simp [List.getElem?_map]

theorem rem46_iff {au : Au} {forb unc rp : List Int} {rms : List Rm} {n x : Nat} {r : Rm} (hk : PlOf n (rms.map (·.st)) rp) (hes : ∀ y,y ∈ au.ed → 0 ≤ y.dst ∧ y.dst < n) (hx : r.st = (x : Int)) :
 Rem46 au forb unc rms rp r ↔ 1 ≤ r.rank ∧ removesP forb unc au.mr rms (outOf au.ed x) r := by
 have key : ∀ (t : Nat) (P : Rm → Prop),t < n → ((∃ (k : Nat) (q : Rm),rp[t]? = some (k : Int) ∧ rms[k]? = some q ∧ P q) ↔ ∃ q,q ∈ rms ∧ q.st = (t : Int) ∧ P q) := fun t P ht => by
  constructor
  · rintro ⟨k,q,h1,h2,h3⟩
    rcases hk.at_ t ht with ⟨k',e1,e2⟩ | ⟨e1,_⟩
    · rw [h1] at e1
      obtain rfl : k = k' := by have : (k : Int) = k' := by simpa using e1
                                omega
      obtain ⟨q',e3,e4⟩ := st_get.1 e2
      rw [h2] at e3; cases e3
      exact ⟨q,List.mem_of_getElem? h2,e4,h3⟩
    · rw [h1] at e1; simp at e1
  · rintro ⟨q,hq,h1,h2⟩
    obtain ⟨m,hm,rfl⟩ := List.mem_iff_getElem.1 hq
    have hm' : (rms.map (·.st))[m]? = some (t : Int) := st_get.2 ⟨_,List.getElem?_eq_getElem hm,h1⟩
    rcases hk.at_ t ht with ⟨k',e1,e2⟩ | ⟨_,e2⟩
    · obtain rfl := hk.uniq e2 hm'
      exact ⟨_,_,e1,List.getElem?_eq_getElem hm,h2⟩
    · exact absurd (List.mem_of_getElem? hm') e2
 have hb : ∀ y,y ∈ au.ed → (befP rms rp r.rank y ↔ lowerP rms y.dst r.rank) := fun y hm => by
  obtain ⟨g0,g1⟩ := hes y hm
  obtain ⟨src,ev,dst⟩ := y
  simp only at g0 g1
  obtain ⟨t,rfl⟩ := Int.eq_ofNat_of_zero_le g0
  exact key t (fun q => q.rank < r.rank) (by omega)
 have hw : ∀ y,y ∈ au.ed → (witP rms rp r.rank y ↔ alikeP rms y.dst r.rank) := fun y hm => by
  obtain ⟨g0,g1⟩ := hes y hm
  obtain ⟨src,ev,dst⟩ := y
  simp only at g0 g1
  obtain ⟨t,rfl⟩ := Int.eq_ofNat_of_zero_le g0
  exact key t (fun q => q.rank = r.rank ∧ q.reason = 3) (by omega)
 have h1 : (∃ y,y ∈ au.ed ∧ oneP rms rp r y) ↔ ∃ y,y ∈ outOf au.ed x ∧ removes1P rms r y := by
  constructor
  · rintro ⟨y,hm,a,b,c⟩; exact ⟨y,mem_outOf.2 ⟨hm,by rw [a,hx]⟩,c,(hb y hm).1 b⟩
  · rintro ⟨y,hy,c,b⟩
    obtain ⟨hm,hs⟩ := mem_outOf.1 hy
    exact ⟨y,hm,by rw [hs,hx],(hb y hm).2 b,c⟩
 have h2 : (∀ y,y ∈ au.ed → allP rms rp r y) ↔ ¬ ∃ y,y ∈ outOf au.ed x ∧ removes2P rms r y := by
  constructor
  · rintro h ⟨y,hy,c,b⟩
    obtain ⟨hm,hs⟩ := mem_outOf.1 hy
    rcases h y hm (by rw [hs,hx]) with h | h
    · exact c ((hb y hm).1 h)
    · exact b ((hw y hm).1 h)
  · intro h y hm hs
    by_cases e : lowerP rms y.dst r.rank
    · exact .inl ((hb y hm).2 e)
    · by_cases e2 : alikeP rms y.dst r.rank
      · exact .inr ((hw y hm).2 e2)
      · exact absurd ⟨y,mem_outOf.2 ⟨hm,by rw [hs,hx]⟩,e,e2⟩ h
 unfold Rem46 removesP
 rw [h1,h2]
structure PlUp (n : Nat) (l : List Int) (k : Nat) (kp : List Int) : Prop where
 ln : kp.length = n
 at_ : ∀ i : Nat,i < n → (∃ j : Nat,j < k ∧ kp[i]? = some (j : Int) ∧ l[j]? = some (i : Int)) ∨ kp[i]? = some (-1) ∧ ∀ j,j < k → l[j]? ≠ some (i : Int)
theorem PlUp.step {n : Nat} {l kp : List Int} {k x : Nat} (h : PlUp n l k kp) (hx : l[k]? = some (x : Int)) (hn : x < n) : PlUp n l (k + 1) (kp.set x k) := by
 refine ⟨by rw [List.length_set]; exact h.ln,fun i hi => ?_⟩
 by_cases e : i = x
 · subst e
   exact .inl ⟨k,by omega,by rw [List.getElem?_set_self (by have := h.ln; omega)],hx⟩
 · rw [List.getElem?_set_ne (by omega)]
   rcases h.at_ i hi with ⟨j,h1,h2⟩ | ⟨h1,h2⟩
   · exact .inl ⟨j,by omega,h2⟩
   · refine .inr ⟨h1,fun j hj hc => ?_⟩
     by_cases e2 : j = k
     · subst e2; rw [hx] at hc; have : (x : Int) = i := by simpa using hc
       omega
     · exact h2 j (by omega) hc
theorem PlUp.fin {n : Nat} {l kp : List Int} (h : PlUp n l l.length kp) (hi : incr l) : PlOf n l kp := by
 refine ⟨h.ln,fun i hn => ?_,hi⟩
 rcases h.at_ i hn with ⟨j,_,h2⟩ | ⟨h1,h2⟩
 · exact .inl ⟨j,h2⟩
 · refine .inr ⟨h1,fun hm => ?_⟩
   obtain ⟨j,hj,e⟩ := List.mem_iff_getElem.1 hm
   exact h2 j hj (by rw [List.getElem?_eq_getElem hj,e])

structure ProvS (V wx : World) (gk gr n : Nat) (kp rp : List Int) : Prop where
 bk : BlkAt wx gk 3 (kp.map (.int .i64))
 br : BlkAt wx gr 3 (rp.map (.int .i64))
 ne : gk ≠ gr
 lk : V.heap.size ≤ gk
 lr : V.heap.size ≤ gr
 below : Below V.heap.size V wx
theorem ProvS.setK {V wx : World} {gk gr n : Nat} {kp rp : List Int} (D : ProvS V wx gk gr n kp rp) (i : Nat) (x : Int) : ProvS V (wx.setCell ⟨gk,i,none⟩ (.int .i64 x)) gk gr n (kp.set i x) rp := by
 obtain ⟨hk,hr,hn,l1,l2,hb⟩ := D
 refine ⟨?_,hr.far (by simp only; omega) _,hn,l1,l2,hb.setCell (by simp only; omega) _⟩
 have := hk.set_ i (.int .i64 x)
 rwa [← List.map_set] at this
theorem ProvS.setR {V wx : World} {gk gr n : Nat} {kp rp : List Int} (D : ProvS V wx gk gr n kp rp) (i : Nat) (x : Int) : ProvS V (wx.setCell ⟨gr,i,none⟩ (.int .i64 x)) gk gr n kp (rp.set i x) := by
 obtain ⟨hk,hr,hn,l1,l2,hb⟩ := D
 refine ⟨hk.far (by simp only; omega) _,?_,hn,l1,l2,hb.setCell (by simp only; omega) _⟩
 have := hr.set_ i (.int .i64 x)
 rwa [← List.map_set] at this
theorem ProvS.kcell {V wx : World} {gk gr n : Nat} {kp rp : List Int} (D : ProvS V wx gk gr n kp rp) {i : Nat} {x : Int} (h : kp[i]? = some x) : wx.cell? ⟨gk,i,none⟩ = some (.int .i64 x) := by
 rw [D.bk.cell,List.getElem?_map,h]; rfl
theorem ProvS.rcell {V wx : World} {gk gr n : Nat} {kp rp : List Int} (D : ProvS V wx gk gr n kp rp) {i : Nat} {x : Int} (h : rp[i]? = some x) : wx.cell? ⟨gr,i,none⟩ = some (.int .i64 x) := by
 rw [D.br.cell,List.getElem?_map,h]; rfl
theorem heap2 (w : World) (o0 o1 : Obj) : ((w.alloc o0).alloc o1).drew.heap[w.heap.size]? = some o0 ∧ ((w.alloc o0).alloc o1).drew.heap[w.heap.size + 1]? = some o1 := by
 refine ⟨?_,?_⟩
 · show ((w.heap.push o0).push o1)[w.heap.size]? = _
   rw [Array.getElem?_push,if_neg (by simp only [Array.size_push]; omega),Array.getElem?_push,if_pos rfl]
 · show ((w.heap.push o0).push o1)[w.heap.size + 1]? = _
   rw [Array.getElem?_push,if_pos (by simp only [Array.size_push])]
end Go.Proofs.Ytccfcaejlohahaa
