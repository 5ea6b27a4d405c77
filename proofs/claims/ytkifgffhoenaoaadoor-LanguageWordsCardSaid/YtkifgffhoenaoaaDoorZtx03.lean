/-
  overseerlaw09.LanguageWords.
  How the words of the laws read: lists of bytes.
-/
import Derived.Test.YtkifgffhoenaoaaDoorBas01
import Derived.Test.YtkifgffhoenaoaaDoorZtx02
import Derived.Deep.CutBlock
import Derived.Test.YtkifgffhoenaoaaDoorZtx01
namespace Go.Proofs.YtkifgffhoenaoaaDoor
open Go.RowKit
set_option linter.unusedSimpArgs false
set_option linter.unusedVariables false
set_option maxRecDepth 100000

def U8E : Reading Int := fun _ x vs => vs = [.int .u8 x] ∧ 0 ≤ x ∧ x < 256
theorem U8E.stays : Stays U8E := fun _ _ _ _ _ h => h
theorem cellAl {t : Nat} {u : Au} {b off m : Nat} {c1 : Nat} {A2 : Option Addr} {c2 : Nat} {A3 : Option Addr} {c3 : Nat} {V : World} {z : Int} (h : (eBox t u ⟨some ⟨b,off,none⟩,c1,A2,c2,A3,c3⟩).ok V) (hl : Lens u) (hz : u.al[m]? = some z) : V.cell? ⟨b,off + m,none⟩ = some (.int .i64 z) := by
 obtain ⟨z',h1,h2⟩ := IntsAt.more (eBox.at h hl).al (List.getElem?_eq_some_iff.1 hz).1
 rw [hz] at h1
 cases h1
 exact h2
theorem words_plain {a b u i d : Au} (ha : a.Right) (hb : b.Right) (hu : IsMin u (CoL a b (fun x y => x || y))) (hi : IsMin i (CoL a b (fun x y => x && y))) (hd : IsMin d (CoL a b (fun x y => x && !y))) {w : List Int} (hw : ∀ y,y ∈ w → y ∈ unionV a.al b.al) {x y : Bool} (hx : x = true ↔ rn a w ∈ a.mr) (hy : y = true ↔ rn b w ∈ b.mr) :
 (rn u w ∈ u.mr ↔ (x || y) = true) ∧ (rn i w ∈ i.mr ↔ (x && y) = true) ∧ (rn d w ∈ d.mr ↔ (x && !y) = true) := by
 have ex : decide (rn a w ∈ a.mr) = x := Bool.eq_iff_iff.2 (by simp [hx])
 have ey : decide (rn b w ∈ b.mr) = y := Bool.eq_iff_iff.2 (by simp [hy])
 refine ⟨(hu.lang w).trans ?_,(hi.lang w).trans ?_,(hd.lang w).trans ?_⟩
 all_goals
  unfold CoL
  rw [ex,ey]
  exact ⟨fun h => h.2,fun h => ⟨hw,h⟩⟩
set_option maxHeartbeats 8000000 in
theorem words_c (s0 s1 : Int) (g0 g1 : Gr) (AW : Option Addr) (cW : Nat) (wd : List Int) (w : World) (h0 : 0 ≤ s0 ∧ s0 < 256) (h1 : 0 ≤ s1 ∧ s1 < 256) (hg0 : g0.Ok) (hg1 : g1.Ok) (hw : SlAt U8E 1 w AW wd) (ht : TabW w) :
 Calls Tryd.prog 9 #[.agg (twoCells s0 s1 g0 g1).toArray,.slice AW wd.length cW] w (Ret (.bool true) w) := by
 have H0 := Lib.hid h0
 have H1 := Lib.hid h1
 have HG0 := Lib.hid hg0
 have HG1 := Lib.hid hg1
 have HTAB := Lib.hid ht
 have HW := Lib.hid hw
 clear h0 h1 hg0 hg1 ht hw
 go_enter Tryd.func9,Tryd.ntmps9
 generalize hcs : twoCells s0 s1 g0 g1 = cs
 go_upto_region 1 with fail
 refine wp_world (fun W => Sep w.heap.size w [eBlk w.heap.size 30 cs] W) ?_ fun W S => ?_
 · exact (Sep.here w).alloc' _ cs rfl rfl
 rw [← hcs] at S
 have SA := Lib.hid S
 clear S hcs
 go_wp2_with fail
 refine (known_c W (HTAB.out.below SA.out.below)).mono ?_
 rintro e w1 ⟨rfl,hb⟩
 have SB : Hid (Sep w.heap.size w [eBlk w.heap.size 30 (twoCells s0 s1 g0 g1)] w1) := SA.out.next hb
 clear hb SA
 by_cases hl : wd.length ≤ 6
 rotate_left
 · go_wp2_with fail
   refine (known_c w1 (HTAB.out.below SB.out.below)).mono ?_
   rintro e w2 ⟨rfl,hb⟩
   have SC := Lib.hid (SB.out.next hb)
   go_wp2_with fail
   go_ret
   exact ⟨rfl,SC.out.below⟩
 go_wp2_with (refine wpList_load_mid rfl 30 (.tmp 2) rfl w.heap.size 0 rfl (twoCells s0 s1 g0 g1) _ (BlkAt.rng (SB.out.get 0 rfl) (fun j v hv => by rw [Nat.zero_add]; exact hv)) Tryd.underlying30 rfl (by kernel_rfl) ?_)
 refine (make9_c s0 s1 g0 g1 w1 H0.out H1.out HG0.out HG1.out).mono ?_
 rintro e w3 ⟨a,⟨A1,a1,A2,a2,A3,a3⟩,b,⟨B1,b1,B2,b2,B3,b3⟩,rfl,TT,GA,GB⟩
 have SD : Hid (Sep w.heap.size w [eInts a.al (.slice A1 a.al.length a1),eInts a.mr (.slice A2 a.mr.length a2),eEds a.ed (.slice A3 a.ed.length a3),eInts b.al (.slice B1 b.al.length b1),eInts b.mr (.slice B2 b.mr.length b2),eEds b.ed (.slice B3 b.ed.length b3),eBlk w.heap.size 30 (twoCells s0 s1 g0 g1)] w3) := SB.out.news TT.out
 clear TT SB
 dsimp only [Au.val]
 obtain ⟨ta,hta⟩ : ∃ g,g = w3.heap.size := ⟨_,rfl⟩
 go_upto_region 4 with fail
 rw [← hta]
 refine wp_world (fun V => Sep w.heap.size w [eBlk (ta + 1) 35 [.slice B1 b.al.length b1,.int .i64 b.n,.slice B2 b.mr.length b2,.slice B3 b.ed.length b3],eBlk ta 35 [.slice A1 a.al.length a1,.int .i64 a.n,.slice A2 a.mr.length a2,.slice A3 a.ed.length a3],eInts a.al (.slice A1 a.al.length a1),eInts a.mr (.slice A2 a.mr.length a2),eEds a.ed (.slice A3 a.ed.length a3),eInts b.al (.slice B1 b.al.length b1),eInts b.mr (.slice B2 b.mr.length b2),eEds b.ed (.slice B3 b.ed.length b3),eBlk w.heap.size 30 (twoCells s0 s1 g0 g1)] V) ((SD.out.alloc' _ [_,_,_,_] rfl hta).alloc' _ [_,_,_,_] rfl (by rw [hta]; simp)) fun W0 S' => ?_
 have Q1 : Sep w.heap.size w [eBlk (ta + 1) 35 [.slice B1 b.al.length b1,.int .i64 b.n,.slice B2 b.mr.length b2,.slice B3 b.ed.length b3],eInts b.al (.slice B1 b.al.length b1),eInts b.mr (.slice B2 b.mr.length b2),eEds b.ed (.slice B3 b.ed.length b3),eBlk ta 35 [.slice A1 a.al.length a1,.int .i64 a.n,.slice A2 a.mr.length a2,.slice A3 a.ed.length a3],eInts a.al (.slice A1 a.al.length a1),eInts a.mr (.slice A2 a.mr.length a2),eEds a.ed (.slice A3 a.ed.length a3)] W0 := S'.pick [0,5,6,7,1,2,3,4] (by decide)
 have Q2 : Sep w.heap.size w [eBox (ta + 1) b ⟨B1,b1,B2,b2,B3,b3⟩,eBlk ta 35 [.slice A1 a.al.length a1,.int .i64 a.n,.slice A2 a.mr.length a2,.slice A3 a.ed.length a3],eInts a.al (.slice A1 a.al.length a1),eInts a.mr (.slice A2 a.mr.length a2),eEds a.ed (.slice A3 a.ed.length a3)] W0 := Q1.box
 have Q3 : Sep w.heap.size w [eBlk ta 35 [.slice A1 a.al.length a1,.int .i64 a.n,.slice A2 a.mr.length a2,.slice A3 a.ed.length a3],eInts a.al (.slice A1 a.al.length a1),eInts a.mr (.slice A2 a.mr.length a2),eEds a.ed (.slice A3 a.ed.length a3),eBox (ta + 1) b ⟨B1,b1,B2,b2,B3,b3⟩] W0 := Q2.pick [1,2,3,4,0] (by decide)
 have S0 : Hid (Sep w.heap.size w [eBox ta a ⟨A1,a1,A2,a2,A3,a3⟩,eBox (ta + 1) b ⟨B1,b1,B2,b2,B3,b3⟩] W0) := Q3.box
 clear S' SD hta Q1 Q2 Q3
 have HLa := Lib.hid GA.out.lens
 have HLb := Lib.hid GB.out.lens
 have na : a.n.toNat ≤ 5 := by have := GA.out.n; omega
 have nb : b.n.toNat ≤ 5 := by have := GB.out.n; omega
 have la0 := BlkAt.cell (S0.out.get 0 rfl).1 0
 have la1 := BlkAt.cell (S0.out.get 0 rfl).1 1
 have la2 := BlkAt.cell (S0.out.get 0 rfl).1 2
 have la3 := BlkAt.cell (S0.out.get 0 rfl).1 3
 have lb0 := BlkAt.cell (S0.out.get 1 rfl).1 0
 have lb1 := BlkAt.cell (S0.out.get 1 rfl).1 1
 have lb2 := BlkAt.cell (S0.out.get 1 rfl).1 2
 have lb3 := BlkAt.cell (S0.out.get 1 rfl).1 3
 simp only [List.getElem?_cons_succ,List.getElem?_cons_zero] at la0 la1 la2 la3 lb0 lb1 lb2 lb3
 go_wp2_with fail
 refine (unionL_c a b ⟨A1,a1,A2,a2,A3,a3⟩ ⟨B1,b1,B2,b2,B3,b3⟩ W0 (HTAB.out.below S0.out.below) GA.out.rt GB.out.rt (eBox.caps (S0.out.get 0 rfl)) (eBox.caps (S0.out.get 1 rfl)) (eBox.at (S0.out.get 0 rfl) HLa.out) (eBox.at (S0.out.get 1 rfl) HLb.out)).mono ?_
 rintro e w1 ⟨u,⟨U1,u1,U2,u2,U3,u3⟩,r,rfl,TT,HLu,RR⟩
 obtain ⟨rfl,hm,hal,hsz⟩ := RR.out.got GA.out.rt GB.out.rt (x := 5) (y := 5) na nb (by decide)
 have HMu := Lib.hid hm
 have HAu := Lib.hid hal
 have HSu := Lib.hid hsz
 have T1 : Hid (Sep w.heap.size w [eInts u.al (.slice U1 u.al.length u1),eInts u.mr (.slice U2 u.mr.length u2),eEds u.ed (.slice U3 u.ed.length u3),eBox ta a ⟨A1,a1,A2,a2,A3,a3⟩,eBox (ta + 1) b ⟨B1,b1,B2,b2,B3,b3⟩] w1) := S0.out.news TT.out
 clear TT RR hm hal hsz la0 la1 la2 la3 lb0 lb1 lb2 lb3 S0
 dsimp only [Au.val]
 obtain ⟨tu,ht⟩ : ∃ g,g = w1.heap.size := ⟨_,rfl⟩
 go_upto_region 5 with fail
 rw [← ht]
 refine wp_world (fun V => Sep w.heap.size w [eBlk tu 35 [.slice U1 u.al.length u1,.int .i64 u.n,.slice U2 u.mr.length u2,.slice U3 u.ed.length u3],eInts u.al (.slice U1 u.al.length u1),eInts u.mr (.slice U2 u.mr.length u2),eEds u.ed (.slice U3 u.ed.length u3),eBox ta a ⟨A1,a1,A2,a2,A3,a3⟩,eBox (ta + 1) b ⟨B1,b1,B2,b2,B3,b3⟩] V) (T1.out.alloc' _ [_,_,_,_] rfl ht) fun W1 S' => ?_
 have S1 : Hid (Sep w.heap.size w [eBox tu u ⟨U1,u1,U2,u2,U3,u3⟩,eBox ta a ⟨A1,a1,A2,a2,A3,a3⟩,eBox (ta + 1) b ⟨B1,b1,B2,b2,B3,b3⟩] W1) := S'.box
 clear S' T1 ht
 have la0 := BlkAt.cell (S1.out.get 1 rfl).1 0
 have la1 := BlkAt.cell (S1.out.get 1 rfl).1 1
 have la2 := BlkAt.cell (S1.out.get 1 rfl).1 2
 have la3 := BlkAt.cell (S1.out.get 1 rfl).1 3
 have lb0 := BlkAt.cell (S1.out.get 2 rfl).1 0
 have lb1 := BlkAt.cell (S1.out.get 2 rfl).1 1
 have lb2 := BlkAt.cell (S1.out.get 2 rfl).1 2
 have lb3 := BlkAt.cell (S1.out.get 2 rfl).1 3
 simp only [List.getElem?_cons_succ,List.getElem?_cons_zero] at la0 la1 la2 la3 lb0 lb1 lb2 lb3
 go_wp2_with fail
 refine (intersect_c a b ⟨A1,a1,A2,a2,A3,a3⟩ ⟨B1,b1,B2,b2,B3,b3⟩ W1 (HTAB.out.below S1.out.below) GA.out.rt GB.out.rt (eBox.caps (S1.out.get 1 rfl)) (eBox.caps (S1.out.get 2 rfl)) (eBox.at (S1.out.get 1 rfl) HLa.out) (eBox.at (S1.out.get 2 rfl) HLb.out)).mono ?_
 rintro e w2 ⟨i,⟨I1,i1,I2,i2,I3,i3⟩,r,rfl,TT,HLi,RR⟩
 obtain ⟨rfl,hm,hal,hsz⟩ := RR.out.got GA.out.rt GB.out.rt (x := 5) (y := 5) na nb (by decide)
 have HMi := Lib.hid hm
 have HAi := Lib.hid hal
 have HSi := Lib.hid hsz
 have T2 : Hid (Sep w.heap.size w [eInts i.al (.slice I1 i.al.length i1),eInts i.mr (.slice I2 i.mr.length i2),eEds i.ed (.slice I3 i.ed.length i3),eBox tu u ⟨U1,u1,U2,u2,U3,u3⟩,eBox ta a ⟨A1,a1,A2,a2,A3,a3⟩,eBox (ta + 1) b ⟨B1,b1,B2,b2,B3,b3⟩] w2) := S1.out.news TT.out
 clear TT RR hm hal hsz la0 la1 la2 la3 lb0 lb1 lb2 lb3 S1
 dsimp only [Au.val]
 obtain ⟨ti,ht⟩ : ∃ g,g = w2.heap.size := ⟨_,rfl⟩
 go_upto_region 6 with fail
 rw [← ht]
 refine wp_world (fun V => Sep w.heap.size w [eBlk ti 35 [.slice I1 i.al.length i1,.int .i64 i.n,.slice I2 i.mr.length i2,.slice I3 i.ed.length i3],eInts i.al (.slice I1 i.al.length i1),eInts i.mr (.slice I2 i.mr.length i2),eEds i.ed (.slice I3 i.ed.length i3),eBox tu u ⟨U1,u1,U2,u2,U3,u3⟩,eBox ta a ⟨A1,a1,A2,a2,A3,a3⟩,eBox (ta + 1) b ⟨B1,b1,B2,b2,B3,b3⟩] V) (T2.out.alloc' _ [_,_,_,_] rfl ht) fun W2 S' => ?_
 have S2 : Hid (Sep w.heap.size w [eBox ti i ⟨I1,i1,I2,i2,I3,i3⟩,eBox tu u ⟨U1,u1,U2,u2,U3,u3⟩,eBox ta a ⟨A1,a1,A2,a2,A3,a3⟩,eBox (ta + 1) b ⟨B1,b1,B2,b2,B3,b3⟩] W2) := S'.box
 clear S' T2 ht
 have la0 := BlkAt.cell (S2.out.get 2 rfl).1 0
 have la1 := BlkAt.cell (S2.out.get 2 rfl).1 1
 have la2 := BlkAt.cell (S2.out.get 2 rfl).1 2
 have la3 := BlkAt.cell (S2.out.get 2 rfl).1 3
 have lb0 := BlkAt.cell (S2.out.get 3 rfl).1 0
 have lb1 := BlkAt.cell (S2.out.get 3 rfl).1 1
 have lb2 := BlkAt.cell (S2.out.get 3 rfl).1 2
 have lb3 := BlkAt.cell (S2.out.get 3 rfl).1 3
 simp only [List.getElem?_cons_succ,List.getElem?_cons_zero] at la0 la1 la2 la3 lb0 lb1 lb2 lb3
 go_wp2_with fail
 refine (difference_c a b ⟨A1,a1,A2,a2,A3,a3⟩ ⟨B1,b1,B2,b2,B3,b3⟩ W2 (HTAB.out.below S2.out.below) GA.out.rt GB.out.rt (eBox.caps (S2.out.get 2 rfl)) (eBox.caps (S2.out.get 3 rfl)) (eBox.at (S2.out.get 2 rfl) HLa.out) (eBox.at (S2.out.get 3 rfl) HLb.out)).mono ?_
 rintro e w3 ⟨d,⟨D1,d1,D2,d2,D3,d3⟩,r,rfl,TT,HLd,RR⟩
 obtain ⟨rfl,hm,hal,hsz⟩ := RR.out.got GA.out.rt GB.out.rt (x := 5) (y := 5) na nb (by decide)
 have HMd := Lib.hid hm
 have HAd := Lib.hid hal
 have HSd := Lib.hid hsz
 have T3 : Hid (Sep w.heap.size w [eInts d.al (.slice D1 d.al.length d1),eInts d.mr (.slice D2 d.mr.length d2),eEds d.ed (.slice D3 d.ed.length d3),eBox ti i ⟨I1,i1,I2,i2,I3,i3⟩,eBox tu u ⟨U1,u1,U2,u2,U3,u3⟩,eBox ta a ⟨A1,a1,A2,a2,A3,a3⟩,eBox (ta + 1) b ⟨B1,b1,B2,b2,B3,b3⟩] w3) := S2.out.news TT.out
 clear TT RR hm hal hsz la0 la1 la2 la3 lb0 lb1 lb2 lb3 S2
 dsimp only [Au.val]
 obtain ⟨td,ht⟩ : ∃ g,g = w3.heap.size := ⟨_,rfl⟩
 go_upto_region 7 with fail
 rw [← ht]
 refine wp_world (fun V => Sep w.heap.size w [eBlk td 35 [.slice D1 d.al.length d1,.int .i64 d.n,.slice D2 d.mr.length d2,.slice D3 d.ed.length d3],eInts d.al (.slice D1 d.al.length d1),eInts d.mr (.slice D2 d.mr.length d2),eEds d.ed (.slice D3 d.ed.length d3),eBox ti i ⟨I1,i1,I2,i2,I3,i3⟩,eBox tu u ⟨U1,u1,U2,u2,U3,u3⟩,eBox ta a ⟨A1,a1,A2,a2,A3,a3⟩,eBox (ta + 1) b ⟨B1,b1,B2,b2,B3,b3⟩] V) (T3.out.alloc' _ [_,_,_,_] rfl ht) fun W3 S' => ?_
 have S3 : Hid (Sep w.heap.size w [eBox td d ⟨D1,d1,D2,d2,D3,d3⟩,eBox ti i ⟨I1,i1,I2,i2,I3,i3⟩,eBox tu u ⟨U1,u1,U2,u2,U3,u3⟩,eBox ta a ⟨A1,a1,A2,a2,A3,a3⟩,eBox (ta + 1) b ⟨B1,b1,B2,b2,B3,b3⟩] W3) := S'.box
 clear S' T3 ht
 have SL : Hid (Sep w.heap.size w [eInts [] (.slice none 0 0),eBox td d ⟨D1,d1,D2,d2,D3,d3⟩,eBox ti i ⟨I1,i1,I2,i2,I3,i3⟩,eBox tu u ⟨U1,u1,U2,u2,U3,u3⟩,eBox ta a ⟨A1,a1,A2,a2,A3,a3⟩,eBox (ta + 1) b ⟨B1,b1,B2,b2,B3,b3⟩] W3) := S3.out.nilOwn encI 1 3
 clear S3
 have hwl : (wd.length : Int) ≤ 6 := by omega
 go_upto_block 0 with fail
 go_cut [13] (fun v wx => ∃ (ws : List Int) (AV : Option Addr) (cV : Nat),v = .slice AV ws.length cV ∧ Hid (∀ y,y ∈ ws → y ∈ u.al) ∧ Hid (ws.length ≤ 6) ∧ Hid (Sep w.heap.size w [eInts ws (.slice AV ws.length cV),eBox td d ⟨D1,d1,D2,d2,D3,d3⟩,eBox ti i ⟨I1,i1,I2,i2,I3,i3⟩,eBox tu u ⟨U1,u1,U2,u2,U3,u3⟩,eBox ta a ⟨A1,a1,A2,a2,A3,a3⟩,eBox (ta + 1) b ⟨B1,b1,B2,b2,B3,b3⟩] wx))
 case first =>
  go_wp2_with fail
  go_loopw [13,14] (fun v x wr => ∃ (k : Nat) (ws : List Int) (AV : Option Addr) (cV : Nat),k ≤ wd.length ∧ x = .int .i64 (k : Int) ∧ v = .slice AV ws.length cV ∧ Hid (∀ y,y ∈ ws → y ∈ u.al) ∧ Hid (ws.length ≤ k) ∧ Hid (Sep w.heap.size w [eInts ws (.slice AV ws.length cV),eBox td d ⟨D1,d1,D2,d2,D3,d3⟩,eBox ti i ⟨I1,i1,I2,i2,I3,i3⟩,eBox tu u ⟨U1,u1,U2,u2,U3,u3⟩,eBox ta a ⟨A1,a1,A2,a2,A3,a3⟩,eBox (ta + 1) b ⟨B1,b1,B2,b2,B3,b3⟩] wr)) (fun _ x _ => wd.length - (intOf x).toNat)
  case atStart => exact ⟨0,[],none,0,by omega,rfl,rfl,by simp [Hid],Nat.le_refl _,SL.out⟩
  case round =>
   obtain ⟨k,ws,AV,cV,hk,rfl,rfl,HU,HWL,S4⟩ := hrel
   clear SL
   have l0 := BlkAt.cell (S4.out.get 3 rfl).1 0
   simp only [List.getElem?_cons_zero] at l0
   by_cases hlt : k < wd.length ∧ 0 < u.al.length
   · obtain ⟨hlt,hul⟩ := hlt
     obtain ⟨bW,oW,y,vs,rfl,hbW,hy,hvl,⟨rfl,hy0,hy1⟩,hcs'⟩ := SlAt.at HW.out hlt
     have eW : w.cell? ⟨bW,oW + k,none⟩ = some (.int .u8 y) := by simpa using hcs' 0 _ rfl
     clear hy hvl hcs'
     have hLs := HLu.out.1
     have hLn : ¬ u.al = [] := fun h => by rw [h] at hul; simp at hul
     obtain ⟨m,hm⟩ : ∃ m : Nat,y % (u.al.length : Int) = (m : Int) := ⟨(y % (u.al.length : Int)).toNat,by rw [Int.toNat_of_nonneg (Int.emod_nonneg _ (by omega))]⟩
     have hmL : m < u.al.length := by have := Int.emod_lt_of_pos y (b := (u.al.length : Int)) (by omega); omega
     have e1 : y.tmod (u.al.length : Int) = (m : Int) := by rw [Int.tmod_eq_emod_of_nonneg hy0]; exact hm
     have e2 : IntKind.i64.wrap (m : Int) = (m : Int) := IntWalk.i64_in _ (by omega)
     have e3 : IntKind.i64.wrap y = y := IntWalk.i64_in _ (by omega)
     clear hm
     obtain ⟨z,hz⟩ : ∃ z,u.al[m]? = some z := ⟨_,List.getElem?_eq_getElem (by omega)⟩
     obtain ⟨bU,oU,z',rfl,hbU,hz',_⟩ := IntsAt.at (eBox.at (S4.out.get 3 rfl) HLu.out).al (show m < u.al.length by omega)
     clear hz'
     have hwl2 : ws.length ≤ 1048576 := by have := HWL.out; omega
     go_wp2_with fail
     have S1 := Lib.hid S4.out.drew
     refine wp_region_held_drew (S := (fun V => Sep w.heap.size w [eBox tu u ⟨some ⟨bU,oU,none⟩,u1,U2,u2,U3,u3⟩] V)) (by kernel_rfl) ?_ (fun hHeld => ?_)
     · exact S1.out.pick [3] (by decide)
     generalize hwz : wr.drew = w1 at *
     clear hwz
     refine tkH 0 rfl (v := ?_) (by kernel_rfl) ?_ hHeld ?_
     rotate_left
     · intro V hSw
       clear hSw
       first | (go_simp; done) | (go_simp; with_reducible rfl)
     try simp only [sx]
     refine tkH 1 rfl (v := ?_) (by kernel_rfl) ?_ hHeld ?_
     rotate_left
     · intro V hSw
       clear hSw
       first | (go_simp; done) | (go_simp; with_reducible rfl)
     try simp only [sx]
     refine tkH 2 rfl (v := ?_) (by kernel_rfl) ?_ hHeld ?_
     rotate_left
     · intro V hSw
       have b0 := BlkAt.cell (Sep.get (show Sep w.heap.size w _ V from hSw) 0 rfl).1 0
       simp only [List.getElem?_cons_zero] at b0
       clear hSw
       first | (go_simp; done) | (go_simp; with_reducible rfl)
     try simp only [sx]
     refine tkH 3 rfl (v := ?_) (by kernel_rfl) ?_ hHeld ?_
     rotate_left
     · intro V hSw
       clear hSw
       first | (go_simp; done) | (go_simp; with_reducible rfl)
     try simp only [sx]
     refine tkH 4 rfl (v := ?_) (by kernel_rfl) ?_ hHeld ?_
     rotate_left
     · intro V hSw
       clear hSw
       first | (go_simp; done) | (go_simp; with_reducible rfl)
     try simp only [sx]
     refine tkH 5 rfl (v := ?_) (by kernel_rfl) ?_ hHeld ?_
     rotate_left
     · intro V hSw
       clear hSw
       first | (go_simp; done) | (go_simp; with_reducible rfl)
     try simp only [sx]
     refine tkH 6 rfl (v := ?_) (by kernel_rfl) ?_ hHeld ?_
     rotate_left
     · intro V hSw
       have b6 := old_cell (show Sep w.heap.size w _ V from hSw).below eW hbW
       clear hSw
       first | (go_simp; done) | (go_simp; with_reducible rfl)
     try simp only [sx]
     refine tkH 7 rfl (v := ?_) (by kernel_rfl) ?_ hHeld ?_
     rotate_left
     · intro V hSw
       clear hSw
       first | (go_simp; done) | (go_simp; with_reducible rfl)
     try simp only [sx]
     refine tkH 8 rfl (v := ?_) (by kernel_rfl) ?_ hHeld ?_
     rotate_left
     · intro V hSw
       clear hSw
       first | (go_simp; done) | (go_simp; with_reducible rfl)
     try simp only [sx]
     refine tkH 9 rfl (v := ?_) (by kernel_rfl) ?_ hHeld ?_
     rotate_left
     · intro V hSw
       have b0 := BlkAt.cell (Sep.get (show Sep w.heap.size w _ V from hSw) 0 rfl).1 0
       simp only [List.getElem?_cons_zero] at b0
       clear hSw
       first | (go_simp; done) | (go_simp; with_reducible rfl)
     try simp only [sx]
     refine tkH 10 rfl (v := ?_) (by kernel_rfl) ?_ hHeld ?_
     rotate_left
     · intro V hSw
       clear hSw
       first | (go_simp; done) | (go_simp; with_reducible rfl)
     try simp only [sx]
     refine tkH 11 rfl (v := ?_) (by kernel_rfl) ?_ hHeld ?_
     rotate_left
     · intro V hSw
       clear hSw
       first | (go_simp; done) | (go_simp; with_reducible rfl)
     try simp only [sx]
     refine tkH 12 rfl (v := ?_) (by kernel_rfl) ?_ hHeld ?_
     rotate_left
     · intro V hSw
       clear hSw
       first | (go_simp; done) | (go_simp; with_reducible rfl)
     try simp only [sx]
     refine tkH 13 rfl (v := ?_) (by kernel_rfl) ?_ hHeld ?_
     rotate_left
     · intro V hSw
       have b13 := cellAl (Sep.get (show Sep w.heap.size w _ V from hSw) 0 rfl) HLu.out hz
       clear hSw
       first | (go_simp; done) | (go_simp; with_reducible rfl)
     try simp only [sx]
     refine rdH 14 rfl fun K hK => ?_
     go_simp
     obtain ⟨nnw,hnnw⟩ : ∃ n,n = w1.heap.size := ⟨_,rfl⟩
     obtain ⟨w2,hw2⟩ : ∃ v,v = w1.alloc (.cells #[.int .i64 z] 3) := ⟨_,rfl⟩
     rw [← hw2,← hnnw]
     have S2 : Hid (Sep w.heap.size w [eBlk nnw 3 [.int .i64 z],eInts ws (.slice AV ws.length cV),eBox td d ⟨D1,d1,D2,d2,D3,d3⟩,eBox ti i ⟨I1,i1,I2,i2,I3,i3⟩,eBox tu u ⟨some ⟨bU,oU,none⟩,u1,U2,u2,U3,u3⟩,eBox ta a ⟨A1,a1,A2,a2,A3,a3⟩,eBox (ta + 1) b ⟨B1,b1,B2,b2,B3,b3⟩] w2) := by rw [hw2,hnnw]; exact S1.out.alloc 3 [.int .i64 z]
     skip
     clear hw2 hnnw
     refine hK.out _ _ ?_ (fun hHeld => ?_)
     · exact S2.out.pick [4] (by decide)
     clear hK K
     try simp only [sx]
     refine rdH 15 rfl fun K hK => ?_
     refine step_pushS rfl (.tmp 70) (.tmp 84) 32 rfl S2.out 1 rfl Tryd.underlying32 _ 8 intInfo rfl (by decide) rfl z nnw rfl rfl (fun j u hj => (BlkAt.cell (S2.out.get 0 rfl) j).trans hj) (encI_one _) hwl2 (by decide) ?_
     intro Aws3 cws3 w3 S3' _
     have S3 : Hid (Sep w.heap.size w [eBlk nnw 3 [.int .i64 z],eOwn encI 1 3 (ws ++ [z]) (.slice Aws3 ((ws).length + 1) cws3),eBox td d ⟨D1,d1,D2,d2,D3,d3⟩,eBox ti i ⟨I1,i1,I2,i2,I3,i3⟩,eBox tu u ⟨some ⟨bU,oU,none⟩,u1,U2,u2,U3,u3⟩,eBox ta a ⟨A1,a1,A2,a2,A3,a3⟩,eBox (ta + 1) b ⟨B1,b1,B2,b2,B3,b3⟩] w3) := S3'
     clear S3'
     refine hK.out _ _ ?_ (fun hHeld => ?_)
     · exact S3.out.pick [4] (by decide)
     clear hK K
     try simp only [sx]
     refine tkH 16 rfl (v := ?_) (by kernel_rfl) ?_ hHeld ?_
     rotate_left
     · intro V hSw
       clear hSw
       first | (go_simp; done) | (go_simp; with_reducible rfl)
     try simp only [sx]
     refine wpAnyH_done (by kernel_rfl) ?_ _
     go_wp2
     go_roundw
     case rel => exact ⟨k + 1,ws ++ [z],Aws3,cws3,by omega,by go_num,by simp,by intro y hy; rcases List.mem_append.1 hy with h | h; exact HU.out y h; rw [List.mem_singleton.1 h]; exact List.mem_of_getElem? hz,by have := HWL.out; simp [Hid]; omega,by have h := S3.out.pick [1,2,3,4,5,6] (by decide); simpa [Hid] using h⟩
     case measure => simp [intOf]; omega
   · by_cases hkw : k < wd.length
     · have h0 : u.al.length = 0 := by have := fun g => hlt ⟨hkw,g⟩; omega
       rw [h0] at l0
       go_wp2_with fail
       go_meet
       exact ⟨ws,AV,cV,rfl,HU.out,by have := HWL.out; simp only [Hid]; omega,S4.out⟩
     · clear l0
       go_wp2_with fail
       go_meet
       exact ⟨ws,AV,cV,rfl,HU.out,by have := HWL.out; simp only [Hid]; omega,S4.out⟩
 case rest =>
  clear SL
  obtain ⟨ws,AV,cV,rfl,HU,HWL,S4⟩ := hcut
  go_upto_region 14 with fail
  go_cut [15,16] (fun x y wx => ∃ (xa yb : Bool),x = .bool xa ∧ y = .bool yb ∧ Hid (xa = true ↔ rn a ws ∈ a.mr) ∧ Hid (yb = true ↔ rn b ws ∈ b.mr) ∧ Hid (Sep w.heap.size w [eInts ws (.slice AV ws.length cV),eBox td d ⟨D1,d1,D2,d2,D3,d3⟩,eBox ti i ⟨I1,i1,I2,i2,I3,i3⟩,eBox tu u ⟨U1,u1,U2,u2,U3,u3⟩,eBox ta a ⟨A1,a1,A2,a2,A3,a3⟩,eBox (ta + 1) b ⟨B1,b1,B2,b2,B3,b3⟩] wx))
  case first =>
   have S4 := Lib.hid S4.out.drew
   refine wp_region_held_drew (S := (fun V => Sep w.heap.size w [eBox ta a ⟨A1,a1,A2,a2,A3,a3⟩,eBox (ta + 1) b ⟨B1,b1,B2,b2,B3,b3⟩] V)) (by kernel_rfl) ?_ (fun hHeld => ?_)
   · exact S4.out.pick [4,5] (by decide)
   generalize hwz : wc.drew = w4 at *
   clear hwz
   refine tkH 0 rfl (v := ?_) (by kernel_rfl) ?_ hHeld ?_
   rotate_left
   · intro V hSw
     have c0 := BlkAt.cell (Sep.get (show Sep w.heap.size w _ V from hSw) 0 rfl).1 0
     have c1 := BlkAt.cell (Sep.get (show Sep w.heap.size w _ V from hSw) 0 rfl).1 1
     have c2 := BlkAt.cell (Sep.get (show Sep w.heap.size w _ V from hSw) 0 rfl).1 2
     have c3 := BlkAt.cell (Sep.get (show Sep w.heap.size w _ V from hSw) 0 rfl).1 3
     simp only [List.getElem?_cons_succ,List.getElem?_cons_zero] at c0 c1 c2 c3
     clear hSw
     first | (go_simp; done) | (go_simp; with_reducible rfl)
   try simp only [sx]
   refine tkH 1 rfl (v := ?_) (by kernel_rfl) ?_ hHeld ?_
   rotate_left
   · intro V hSw
     clear hSw
     first | (go_simp; done) | (go_simp; with_reducible rfl)
   try simp only [sx]
   refine tkH 3 rfl (v := ?_) (by kernel_rfl) ?_ hHeld ?_
   rotate_left
   · intro V hSw
     have c0 := BlkAt.cell (Sep.get (show Sep w.heap.size w _ V from hSw) 1 rfl).1 0
     have c1 := BlkAt.cell (Sep.get (show Sep w.heap.size w _ V from hSw) 1 rfl).1 1
     have c2 := BlkAt.cell (Sep.get (show Sep w.heap.size w _ V from hSw) 1 rfl).1 2
     have c3 := BlkAt.cell (Sep.get (show Sep w.heap.size w _ V from hSw) 1 rfl).1 3
     simp only [List.getElem?_cons_succ,List.getElem?_cons_zero] at c0 c1 c2 c3
     clear hSw
     first | (go_simp; done) | (go_simp; with_reducible rfl)
   try simp only [sx]
   refine tkH 4 rfl (v := ?_) (by kernel_rfl) ?_ hHeld ?_
   rotate_left
   · intro V hSw
     clear hSw
     first | (go_simp; done) | (go_simp; with_reducible rfl)
   try simp only [sx]
   refine rdH 2 rfl fun K hK => ?_
   go_simp
   refine (accepts_c a ⟨A1,a1,A2,a2,A3,a3⟩ AV cV ws w4 GA.out.rt (eBox.at (Sep.get S4.out 4 rfl) HLa.out) (S4.out.ints 0 rfl) (by have := HWL.out; omega)).mono ?_
   rintro e w5 ⟨xa,rfl,hxa,hb⟩
   have BX := Lib.hid hxa
   have S5 : Hid (Sep w.heap.size w [eInts ws (.slice AV ws.length cV),eBox td d ⟨D1,d1,D2,d2,D3,d3⟩,eBox ti i ⟨I1,i1,I2,i2,I3,i3⟩,eBox tu u ⟨U1,u1,U2,u2,U3,u3⟩,eBox ta a ⟨A1,a1,A2,a2,A3,a3⟩,eBox (ta + 1) b ⟨B1,b1,B2,b2,B3,b3⟩] w5) := S4.out.next hb
   clear hb hxa
   refine hK.out _ _ ?_ (fun hHeld => ?_)
   · exact S5.out.pick [4,5] (by decide)
   clear hK K
   try simp only [sx]
   refine rdH 5 rfl fun K hK => ?_
   go_simp
   refine (accepts_c b ⟨B1,b1,B2,b2,B3,b3⟩ AV cV ws w5 GB.out.rt (eBox.at (Sep.get S5.out 5 rfl) HLb.out) (S5.out.ints 0 rfl) (by have := HWL.out; omega)).mono ?_
   rintro e w6 ⟨yb,rfl,hyb,hb⟩
   have BY := Lib.hid hyb
   have S6 : Hid (Sep w.heap.size w [eInts ws (.slice AV ws.length cV),eBox td d ⟨D1,d1,D2,d2,D3,d3⟩,eBox ti i ⟨I1,i1,I2,i2,I3,i3⟩,eBox tu u ⟨U1,u1,U2,u2,U3,u3⟩,eBox ta a ⟨A1,a1,A2,a2,A3,a3⟩,eBox (ta + 1) b ⟨B1,b1,B2,b2,B3,b3⟩] w6) := S5.out.next hb
   clear hb hyb
   refine hK.out _ _ ?_ (fun hHeld => ?_)
   · exact S6.out.pick [4,5] (by decide)
   clear hK K
   try simp only [sx]
   refine tkH 6 rfl (v := ?_) (by kernel_rfl) ?_ hHeld ?_
   rotate_left
   · intro V hSw
     clear hSw
     first | (go_simp; done) | (go_simp; with_reducible rfl)
   try simp only [sx]
   refine tkH 7 rfl (v := ?_) (by kernel_rfl) ?_ hHeld ?_
   rotate_left
   · intro V hSw
     clear hSw
     first | (go_simp; done) | (go_simp; with_reducible rfl)
   try simp only [sx]
   refine wpAnyH_done (by kernel_rfl) ?_ _
   go_wp2_with fail
   go_meet
   exact ⟨xa,yb,rfl,rfl,BX.out,BY.out,S6.out⟩
  case rest =>
   clear S4
   obtain ⟨xa,yb,rfl,rfl,BX,BY,S5⟩ := hcut
   have PL := Lib.hid (words_plain GA.out.rt GB.out.rt HMu.out HMi.out HMd.out (fun y hy => by rw [← HAu.out]; exact HU.out y hy) BX.out BY.out)
   clear BX BY
   cases xa <;> cases yb
   all_goals
    have UH := Lib.hid PL.out.1
    have IH := Lib.hid PL.out.2.1
    have DH := Lib.hid PL.out.2.2
    clear PL
    have lu0 := BlkAt.cell (S5.out.get 3 rfl).1 0
    have lu1 := BlkAt.cell (S5.out.get 3 rfl).1 1
    have lu2 := BlkAt.cell (S5.out.get 3 rfl).1 2
    have lu3 := BlkAt.cell (S5.out.get 3 rfl).1 3
    simp only [List.getElem?_cons_succ,List.getElem?_cons_zero] at lu0 lu1 lu2 lu3
    go_wp2_with fail
    refine (accepts_c u ⟨U1,u1,U2,u2,U3,u3⟩ AV cV ws wc HMu.out.rt (eBox.at (S5.out.get 3 rfl) HLu.out) (S5.out.ints 0 rfl) (by have := HWL.out; omega)).mono ?_
    rintro e v1 ⟨bb,rfl,hbb,hb⟩
    have hb2 := Bool.eq_iff_iff.2 (hbb.trans UH.out)
    subst hb2
    have S6 := Lib.hid (S5.out.next hb)
    clear hb hbb UH S5 lu0 lu1 lu2 lu3
    have li0 := BlkAt.cell (S6.out.get 2 rfl).1 0
    have li1 := BlkAt.cell (S6.out.get 2 rfl).1 1
    have li2 := BlkAt.cell (S6.out.get 2 rfl).1 2
    have li3 := BlkAt.cell (S6.out.get 2 rfl).1 3
    simp only [List.getElem?_cons_succ,List.getElem?_cons_zero] at li0 li1 li2 li3
    go_wp2_with fail
    refine (accepts_c i ⟨I1,i1,I2,i2,I3,i3⟩ AV cV ws v1 HMi.out.rt (eBox.at (S6.out.get 2 rfl) HLi.out) (S6.out.ints 0 rfl) (by have := HWL.out; omega)).mono ?_
    rintro e v2 ⟨bb,rfl,hbb,hb⟩
    have hb2 := Bool.eq_iff_iff.2 (hbb.trans IH.out)
    subst hb2
    have S7 := Lib.hid (S6.out.next hb)
    clear hb hbb IH S6 li0 li1 li2 li3
    have ld0 := BlkAt.cell (S7.out.get 1 rfl).1 0
    have ld1 := BlkAt.cell (S7.out.get 1 rfl).1 1
    have ld2 := BlkAt.cell (S7.out.get 1 rfl).1 2
    have ld3 := BlkAt.cell (S7.out.get 1 rfl).1 3
    simp only [List.getElem?_cons_succ,List.getElem?_cons_zero] at ld0 ld1 ld2 ld3
    go_wp2_with fail
    refine (accepts_c d ⟨D1,d1,D2,d2,D3,d3⟩ AV cV ws v2 HMd.out.rt (eBox.at (S7.out.get 1 rfl) HLd.out) (S7.out.ints 0 rfl) (by have := HWL.out; omega)).mono ?_
    rintro e v3 ⟨bb,rfl,hbb,hb⟩
    have hb2 := Bool.eq_iff_iff.2 (hbb.trans DH.out)
    subst hb2
    have S8 := Lib.hid (S7.out.next hb)
    clear hb hbb DH S7 ld0 ld1 ld2 ld3
    go_wp2_with fail
    go_ret
    exact ⟨rfl,S8.out.below⟩
end Go.Proofs.YtkifgffhoenaoaaDoor

namespace Go.Proofs.YtkifgffhoenaoaaDoor
open Go.ChangeShapes Go.WideShapes Go.ChangeAt Go.RowKit
set_option linter.unusedSimpArgs false
set_option linter.unusedVariables false
set_option maxRecDepth 100000
section
variable {H : Type} {enc : TypeId × Value → H} {w : World} {base : Nat} {spare : Nat → Bool} {held : Bool}
theorem u8e_of {fuel : Nat} {cs : List Value} {x : DataW H × List MemPlace} (h : DataW.trod enc Tryd.prog w base spare held fuel 5 cs = some x) : ∃ y : Int,U8E w y cs := by
 obtain ⟨n,rfl,_,hw⟩ := DataW.trod_int Tryd.underlying5 h
 exact ⟨n,rfl,u8_bounds hw⟩
theorem bytes_in {v : Value} {d : DataW H} {p : List MemPlace} {r : Reach} {b0 : Nat} (hv : Value.okWide Tryd.prog w r b0 62 v) (h : DataW.Trod enc Tryd.prog w base spare held 62 v d p) :
 ∃ (A : Option Addr) (c : Nat) (l : List Int),v = .slice A l.length c ∧ SlAt U8E 1 w A l := by
 obtain ⟨a,len,cap,rfl⟩ := okWide_slice Tryd.underlying62 hv
 obtain ⟨fuel,hf0⟩ := h
 have hf : DataW.trod enc Tryd.prog w base spare held fuel 62 [.slice a len cap] = some (d,p) := by simpa [Value.cells] using hf0
 obtain ⟨A,c,l,e,hs,_⟩ := sl_of (E := U8E) (k := 1) Tryd.underlying62 (by kernel_rfl) (by decide) (fun n cs x h => u8e_of h) hf
 exact ⟨A,c,l,List.head_eq_of_cons_eq e,hs⟩
end
end Go.Proofs.YtkifgffhoenaoaaDoor

