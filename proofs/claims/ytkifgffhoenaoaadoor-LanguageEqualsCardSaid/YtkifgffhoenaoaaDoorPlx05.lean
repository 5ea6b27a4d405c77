/-
  overseerlaw09.LanguageEquals.
  How the arguments of the laws read: numbers, described graphs, described pairs.
-/
import Derived.Test.YtkifgffhoenaoaaDoorPlx03
import Derived.Test.YtkifgffhoenaoaaDoorPlx04
import Derived.Test.YtkifgffhoenaoaaDoorBas18
import Derived.Test.YtkifgffhoenaoaaDoorPlx02
import Derived.Test.YtkifgffhoenaoaaDoorPlx01
set_option linter.unusedSimpArgs false
set_option linter.unusedVariables false
namespace Go.Proofs.YtkifgffhoenaoaaDoor
open Go.RowKit
set_option maxRecDepth 100000
theorem eq_over {a b : Au} (ha : a.Right) (hb : b.Right) (kind : Int) (u : List Int) : LeadsTo (stp2 a b) (a.st,b.st) (unionV a.al b.al) (fun q => eqP a b kind q = true) u ↔ LeadsTo (stp2 a b) (a.st,b.st) (unionV a.al b.al) (fun q => inc9 a b kind true q = true) u := by
 rw [leads2 ha hb,leads2 ha hb]
 have e : inc9 a b kind true (rn a u,rn b u) = eqP a b kind (rn a u,rn b u) := by
  unfold inc9 eqP
  simp only
  cases inV a (rn a u) kind <;> cases inV b (rn b u) kind <;> rfl
 rw [e]
theorem eq_self {a : Au} (ha : a.Right) {kind : Int} {evs : List Int} {f : Bool} {l : List Int} (h : f = false ∧ LeastW (LeadsTo (stp2 a a) (a.st,a.st) evs (fun q => eqP a a kind q = true)) l ∨ f = true ∧ l = [] ∧ ∀ u,¬ LeadsTo (stp2 a a) (a.st,a.st) evs (fun q => eqP a a kind q = true) u) : f = true ∧ l = [] := by
 rcases h with ⟨_,h⟩ | ⟨h1,h2,_⟩
 · have := h.is
   rw [leads2 ha ha] at this
   have h2 := this.2
   simp only [eqP,bne_self_eq_false] at h2
   exact absurd h2 (by decide)
 · exact ⟨h1,h2⟩
set_option maxHeartbeats 16000000 in
theorem lawEq_c (s0 s1 : Int) (g0 g1 : Gr) (w : World) (h0 : 0 ≤ s0 ∧ s0 < 256) (h1 : 0 ≤ s1 ∧ s1 < 256) (hg0 : g0.Ok) (hg1 : g1.Ok) (ht : TabW w) :
 Calls Tryd.prog 10 #[.agg (twoCells s0 s1 g0 g1).toArray] w (Ret (.bool true) w) := by
 have H0 := Lib.hid h0
 have H1 := Lib.hid h1
 have HG0 := Lib.hid hg0
 have HG1 := Lib.hid hg1
 have HTAB := Lib.hid ht
 clear h0 h1 hg0 hg1 ht
 go_enter Tryd.func10,Tryd.ntmps10
 generalize hcs : twoCells s0 s1 g0 g1 = cs
 go_upto_region 1 with fail
 refine wp_world (fun W => Sep w.heap.size w [eBlk w.heap.size 30 cs] W) ?_ fun W S => ?_
 · exact (Sep.here w).alloc' _ cs rfl rfl
 rw [← hcs] at S
 have SA := Lib.hid S
 clear S hcs
 go_wp2_with fail
 refine (known_c W (HTAB.out.below SA.out.below)).mono ?_
 rintro e w1 ⟨rfl,hb⟩
 have SB := Lib.hid (SA.out.next hb)
 clear hb SA
 go_wp2_with (refine wpList_load_mid rfl 30 (.tmp 1) rfl w.heap.size 0 rfl (twoCells s0 s1 g0 g1) _ (BlkAt.rng (SB.out.get 0 rfl) (fun j v hv => by rw [Nat.zero_add]; exact hv)) Tryd.underlying30 rfl (by kernel_rfl) ?_)
 refine (make9_c s0 s1 g0 g1 w1 H0.out H1.out HG0.out HG1.out).mono ?_
 rintro e w3 ⟨a,⟨A1,a1,A2,a2,A3,a3⟩,b,⟨B1,b1,B2,b2,B3,b3⟩,rfl,TT,GA,GB⟩
 have SD := ckN SB.out TT.out
 clear TT SB
 dsimp only [Au.val]
 obtain ⟨ta,hta⟩ : ∃ g,g = w3.heap.size := ⟨_,rfl⟩
 go_upto_region 4 with fail
 rw [← hta]
 refine wp_world (fun V => Sep w.heap.size w [eBlk (ta + 1) 35 [.slice B1 b.al.length b1,.int .i64 b.n,.slice B2 b.mr.length b2,.slice B3 b.ed.length b3],eBlk ta 35 [.slice A1 a.al.length a1,.int .i64 a.n,.slice A2 a.mr.length a2,.slice A3 a.ed.length a3],eInts a.al (.slice A1 a.al.length a1),eInts a.mr (.slice A2 a.mr.length a2),eEds a.ed (.slice A3 a.ed.length a3),eInts b.al (.slice B1 b.al.length b1),eInts b.mr (.slice B2 b.mr.length b2),eEds b.ed (.slice B3 b.ed.length b3),eBlk w.heap.size 30 (twoCells s0 s1 g0 g1)] V) ((SD.out.alloc' _ [_,_,_,_] rfl hta).alloc' _ [_,_,_,_] rfl (by rw [hta]; simp)) fun W0 S' => ?_
 have Q1 : Sep w.heap.size w [eBlk (ta + 1) 35 [.slice B1 b.al.length b1,.int .i64 b.n,.slice B2 b.mr.length b2,.slice B3 b.ed.length b3],eInts b.al (.slice B1 b.al.length b1),eInts b.mr (.slice B2 b.mr.length b2),eEds b.ed (.slice B3 b.ed.length b3),eBlk ta 35 [.slice A1 a.al.length a1,.int .i64 a.n,.slice A2 a.mr.length a2,.slice A3 a.ed.length a3],eInts a.al (.slice A1 a.al.length a1),eInts a.mr (.slice A2 a.mr.length a2),eEds a.ed (.slice A3 a.ed.length a3)] W0 := S'.pick [0,5,6,7,1,2,3,4] (by decide)
 have Q2 : Sep w.heap.size w [eBox (ta + 1) b ⟨B1,b1,B2,b2,B3,b3⟩,eBlk ta 35 [.slice A1 a.al.length a1,.int .i64 a.n,.slice A2 a.mr.length a2,.slice A3 a.ed.length a3],eInts a.al (.slice A1 a.al.length a1),eInts a.mr (.slice A2 a.mr.length a2),eEds a.ed (.slice A3 a.ed.length a3)] W0 := Q1.box
 have Q3 : Sep w.heap.size w [eBlk ta 35 [.slice A1 a.al.length a1,.int .i64 a.n,.slice A2 a.mr.length a2,.slice A3 a.ed.length a3],eInts a.al (.slice A1 a.al.length a1),eInts a.mr (.slice A2 a.mr.length a2),eEds a.ed (.slice A3 a.ed.length a3),eBox (ta + 1) b ⟨B1,b1,B2,b2,B3,b3⟩] W0 := Q2.pick [1,2,3,4,0] (by decide)
 have S0 : Hid (Sep w.heap.size w [eBox ta a ⟨A1,a1,A2,a2,A3,a3⟩,eBox (ta + 1) b ⟨B1,b1,B2,b2,B3,b3⟩] W0) := Q3.box
 clear S' SD hta Q1 Q2 Q3
 have HLa := Lib.hid GA.out.lens
 have HLb := Lib.hid GB.out.lens
 have na : a.n.toNat ≤ 5 := by have := GA.out.n; omega
 have nb : b.n.toNat ≤ 5 := by have := GB.out.n; omega
 go_wp2_with fail
 go_loopw [5,6,7,8,9,10,11,12,13] (fun x _ _ _ _ _ _ _ _ wr => ∃ (k : Nat),x = .int .i64 (k : Int) ∧ 1 ≤ k ∧ k ≤ 3 ∧ Hid (Sep w.heap.size w [eBox ta a ⟨A1,a1,A2,a2,A3,a3⟩,eBox (ta + 1) b ⟨B1,b1,B2,b2,B3,b3⟩] wr)) (fun x _ _ _ _ _ _ _ _ _ => 3 - (intOf x).toNat)
 case atStart => exact ⟨1,rfl,by omega,by omega,S0.out⟩
 case round =>
  clear S0
  obtain ⟨k,rfl,hk1,hk3,S⟩ := hrel
  by_cases hlt : k ≤ 2
  · have hk : (k : Int) = 1 ∨ (k : Int) = 2 := by omega
    have hk2 : decide ((k : Int) ≤ 2) = true := by simp; omega
    have la0 := BlkAt.cell (S.out.get 0 rfl).1 0
    have la1 := BlkAt.cell (S.out.get 0 rfl).1 1
    have la2 := BlkAt.cell (S.out.get 0 rfl).1 2
    have la3 := BlkAt.cell (S.out.get 0 rfl).1 3
    simp only [List.getElem?_cons_succ,List.getElem?_cons_zero] at la0 la1 la2 la3
    have lb0 := BlkAt.cell (S.out.get 1 rfl).1 0
    have lb1 := BlkAt.cell (S.out.get 1 rfl).1 1
    have lb2 := BlkAt.cell (S.out.get 1 rfl).1 2
    have lb3 := BlkAt.cell (S.out.get 1 rfl).1 3
    simp only [List.getElem?_cons_succ,List.getElem?_cons_zero] at lb0 lb1 lb2 lb3
    go_wp2_with fail
    refine (equalL_c a b ⟨A1,a1,A2,a2,A3,a3⟩ ⟨B1,b1,B2,b2,B3,b3⟩ (k : Int) wr (eBox.at (S.out.get 0 rfl) HLa.out) (eBox.at (S.out.get 1 rfl) HLb.out) GA.out.rt GB.out.rt (eBox.caps (S.out.get 0 rfl)) (eBox.caps (S.out.get 1 rfl)) (Nat.le_trans (Nat.mul_le_mul (show a.n.toNat + 2 ≤ 7 by omega) (show b.n.toNat + 2 ≤ 7 by omega)) (by decide)) hk).mono ?_
    rintro e v2 ⟨AW,cW,l,f,rfl,HW,hb,HF⟩
    have S2 := Lib.hid (S.out.next hb)
    clear hb S la0 la1 la2 la3 lb0 lb1 lb2 lb3
    have la0 := BlkAt.cell (S2.out.get 0 rfl).1 0
    have la1 := BlkAt.cell (S2.out.get 0 rfl).1 1
    have la2 := BlkAt.cell (S2.out.get 0 rfl).1 2
    have la3 := BlkAt.cell (S2.out.get 0 rfl).1 3
    simp only [List.getElem?_cons_succ,List.getElem?_cons_zero] at la0 la1 la2 la3
    have lb0 := BlkAt.cell (S2.out.get 1 rfl).1 0
    have lb1 := BlkAt.cell (S2.out.get 1 rfl).1 1
    have lb2 := BlkAt.cell (S2.out.get 1 rfl).1 2
    have lb3 := BlkAt.cell (S2.out.get 1 rfl).1 3
    simp only [List.getElem?_cons_succ,List.getElem?_cons_zero] at lb0 lb1 lb2 lb3
    go_wp2_with fail
    refine (inc9_c a b ⟨A1,a1,A2,a2,A3,a3⟩ ⟨B1,b1,B2,b2,B3,b3⟩ (k : Int) true v2 GA.out.rt GB.out.rt (eBox.at (S2.out.get 0 rfl) HLa.out) (eBox.at (S2.out.get 1 rfl) HLb.out) (Nat.le_trans (Nat.mul_le_mul (show a.n.toNat + 1 ≤ 6 by omega) (show b.n.toNat + 1 ≤ 6 by omega)) (by decide))).mono ?_
    rintro e v4 ⟨AM,cM,m,g,rfl,HM,hb,hml,HG⟩
    have S4 := Lib.hid (S2.out.next hb)
    have HW2 := Lib.hid (HW.out.below IntE.stays hb)
    obtain ⟨rfl,rfl⟩ := twoAns (eq_over GA.out.rt GB.out.rt (k : Int)) HF.out HG.out
    clear hb S2 HW HG HF la0 la1 la2 la3 lb0 lb1 lb2 lb3
    have hgg : ((!g) == g) = false := by cases g <;> rfl
    have la0 := BlkAt.cell (S4.out.get 0 rfl).1 0
    have la1 := BlkAt.cell (S4.out.get 0 rfl).1 1
    have la2 := BlkAt.cell (S4.out.get 0 rfl).1 2
    have la3 := BlkAt.cell (S4.out.get 0 rfl).1 3
    simp only [List.getElem?_cons_succ,List.getElem?_cons_zero] at la0 la1 la2 la3
    go_wp2_with fail
    refine (equalL_c a a ⟨A1,a1,A2,a2,A3,a3⟩ ⟨A1,a1,A2,a2,A3,a3⟩ (k : Int) v4 (eBox.at (S4.out.get 0 rfl) HLa.out) (eBox.at (S4.out.get 0 rfl) HLa.out) GA.out.rt GA.out.rt (eBox.caps (S4.out.get 0 rfl)) (eBox.caps (S4.out.get 0 rfl)) (Nat.le_trans (Nat.mul_le_mul (show a.n.toNat + 2 ≤ 7 by omega) (show a.n.toNat + 2 ≤ 7 by omega)) (by decide)) hk).mono ?_
    rintro e v6 ⟨AV,cV,lv,fv,rfl,HV,hb,HF⟩
    obtain ⟨rfl,rfl⟩ := eq_self GA.out.rt HF.out
    have S6 := Lib.hid (S4.out.next hb)
    have HW3 := Lib.hid (HW2.out.below IntE.stays hb)
    have HM3 := Lib.hid (HM.out.below IntE.stays hb)
    clear hb S4 HW2 HM HF HV la0 la1 la2 la3
    go_wp2_with fail
    refine (same_c AW AM cW cM l l v6 HW3.out HM3.out (by omega) (by omega)).mono ?_
    intro e v5 hs
    obtain ⟨rfl,hb⟩ := hs.yes2 rfl
    have S5 := Lib.hid (S6.out.next hb)
    clear hb S6
    go_wp2_with fail
    go_roundw
    case rel => exact ⟨k + 1,by go_num,by omega,by omega,S5.out⟩
    case measure => simp [intOf]; omega
  · obtain rfl : k = 3 := by omega
    go_wp2_with fail
    go_ret
    exact ⟨rfl,S.out.below⟩
section
open Go.ChangeShapes Go.WideShapes Go.ChangeAt Go.RowKit
section
variable {H : Type} {enc : TypeId × Value → H} {w : World} {base : Nat} {spare : Nat → Bool} {held : Bool}

theorem u8_bounds {n : Int} (h : (Lit.int .u8 n).wf = true) : 0 ≤ n ∧ n < 256 := by
 simp [Lit.wf,IntKind.min,IntKind.max,IntKind.signed,IntKind.bits] at h; omega
theorem list5 {α : Type} {cs : List α} (h : cs.length = 5) : ∃ c0 c1 c2 c3 c4,cs = [c0,c1,c2,c3,c4] := by
 match cs,h with
 | [c0,c1,c2,c3,c4],_ => exact ⟨c0,c1,c2,c3,c4,rfl⟩
theorem cut5 {α : Type} {cs : List α} (h : cs.length = 25) : cs = (cs.drop 0).take 5 ++ ((cs.drop 5).take 5 ++ ((cs.drop 10).take 5 ++ ((cs.drop 15).take 5 ++ (cs.drop 20).take 5))) := by
 have e4 : (cs.drop 20).take 5 = cs.drop 20 := List.take_of_length_le (by simp [h])
 have e3 : (cs.drop 15).take 5 ++ cs.drop 20 = cs.drop 15 := by have := List.take_append_drop 5 (cs.drop 15); rwa [List.drop_drop] at this
 have e2 : (cs.drop 10).take 5 ++ cs.drop 15 = cs.drop 10 := by have := List.take_append_drop 5 (cs.drop 10); rwa [List.drop_drop] at this
 have e1 : (cs.drop 5).take 5 ++ cs.drop 10 = cs.drop 5 := by have := List.take_append_drop 5 (cs.drop 5); rwa [List.drop_drop] at this
 rw [e4,e3,e2,e1,List.drop_zero,List.take_append_drop]

theorem b5_of {P : Program} {t e : TypeId} (ht : P.underlying t = some (.array 5 e)) (he : P.underlying e = some (.int .u8)) (hc : P.cellsOf t = 5) (hce : P.cellsOf e = 1) {fuel : Nat} {cs : List Value} {x : DataW H × List MemPlace}
 (h : DataW.trod enc P w base spare held fuel t cs = some x) : ∃ f : B5,f.Ok ∧ cs = f.cells := by
 obtain ⟨xs,m,_,_,hl,hlen,hf⟩ := DataW.trod_array ht h
 obtain ⟨c0,c1,c2,c3,c4,rfl⟩ := list5 (hl.trans hc)
 have g : ∀ i,i < 5 → ∀ c,([c0,c1,c2,c3,c4].drop i).take 1 = [c] → ∃ n,c = .int .u8 n ∧ 0 ≤ n ∧ n < 256 := fun i hi c hcc => by
  have h1 := hf i hi
  rw [hce,Nat.mul_one,hcc,List.getElem?_eq_getElem (by omega)] at h1
  obtain ⟨n,hn,_,hw⟩ := DataW.trod_int he h1
  cases hn
  exact ⟨n,rfl,u8_bounds hw⟩
 obtain ⟨x0,rfl,b0⟩ := g 0 (by omega) c0 rfl
 obtain ⟨x1,rfl,b1⟩ := g 1 (by omega) c1 rfl
 obtain ⟨x2,rfl,b2⟩ := g 2 (by omega) c2 rfl
 obtain ⟨x3,rfl,b3⟩ := g 3 (by omega) c3 rfl
 obtain ⟨x4,rfl,b4⟩ := g 4 (by omega) c4 rfl
 exact ⟨⟨x0,x1,x2,x3,x4⟩,⟨fun x hx => by
  simp only [List.mem_cons,List.not_mem_nil,or_false] at hx
  rcases hx with rfl | rfl | rfl | rfl | rfl <;> assumption⟩,rfl⟩

theorem b25_of {P : Program} {t e e' : TypeId} (ht : P.underlying t = some (.array 5 e)) (he : P.underlying e = some (.array 5 e')) (he' : P.underlying e' = some (.int .u8)) (hc : P.cellsOf t = 25) (hce : P.cellsOf e = 5) (hce' : P.cellsOf e' = 1) {fuel : Nat} {cs : List Value} {x : DataW H × List MemPlace}
 (h : DataW.trod enc P w base spare held fuel t cs = some x) : ∃ r0 r1 r2 r3 r4 : B5,r0.Ok ∧ r1.Ok ∧ r2.Ok ∧ r3.Ok ∧ r4.Ok ∧ cs = r0.cells ++ (r1.cells ++ (r2.cells ++ (r3.cells ++ r4.cells))) := by
 obtain ⟨xs,m,_,_,hl,hlen,hf⟩ := DataW.trod_array ht h
 have g : ∀ i,i < 5 → ∃ f : B5,f.Ok ∧ (cs.drop (i * 5)).take 5 = f.cells := fun i hi => by
  have h1 := hf i hi
  rw [hce,List.getElem?_eq_getElem (by omega)] at h1
  exact b5_of he he' hce hce' h1
 obtain ⟨r0,o0,e0⟩ := g 0 (by omega)
 obtain ⟨r1,o1,e1⟩ := g 1 (by omega)
 obtain ⟨r2,o2,e2⟩ := g 2 (by omega)
 obtain ⟨r3,o3,e3⟩ := g 3 (by omega)
 obtain ⟨r4,o4,e4⟩ := g 4 (by omega)
 refine ⟨r0,r1,r2,r3,r4,o0,o1,o2,o3,o4,?_⟩
 rw [← e0,← e1,← e2,← e3,← e4]
 exact cut5 (hl.trans hc)

theorem gr_of {fuel : Nat} {cs : List Value} {x : DataW H × List MemPlace} (h : DataW.trod enc Tryd.prog w base spare held fuel 27 cs = some x) : ∃ g : Gr,g.Ok ∧ cs = g.cells := by
 obtain ⟨xs,n,_,_,hl,hlen,hf⟩ := DataW.trod_struct Tryd.underlying27 h
 have hC : Tryd.prog.cellsOf 27 = 27 := by kernel_rfl
 have c1 : Tryd.prog.cellsOf 5 = 1 := by kernel_rfl
 have c25 : Tryd.prog.cellsOf 25 = 25 := by kernel_rfl
 rw [hC] at hl
 have e3 : xs.length = 3 := hlen
 have h0 : DataW.trod enc Tryd.prog w base spare held n 5 ((cs.drop 0).take (Tryd.prog.cellsOf 5)) = some xs[0] := by
  have := hf 0 _ rfl; rw [List.getElem?_eq_getElem (by omega)] at this; exact this
 rw [c1] at h0
 have h1 : DataW.trod enc Tryd.prog w base spare held n 5 ((cs.drop 1).take (Tryd.prog.cellsOf 5)) = some xs[1] := by
  have := hf 1 _ rfl; rw [List.getElem?_eq_getElem (by omega)] at this; exact this
 rw [c1] at h1
 have h2 : DataW.trod enc Tryd.prog w base spare held n 25 ((cs.drop 2).take (Tryd.prog.cellsOf 25)) = some xs[2] := by
  have := hf 2 _ rfl; rw [List.getElem?_eq_getElem (by omega)] at this; exact this
 rw [c25] at h2
 obtain ⟨s,hs,_,ws⟩ := DataW.trod_int Tryd.underlying5 h0
 obtain ⟨m,hm,_,wm⟩ := DataW.trod_int Tryd.underlying5 h1
 obtain ⟨r0,r1,r2,r3,r4,o0,o1,o2,o3,o4,hr⟩ := b25_of Tryd.underlying25 Tryd.underlying24 Tryd.underlying5 (by kernel_rfl) (by kernel_rfl) (by kernel_rfl) h2
 refine ⟨⟨s,m,r0,r1,r2,r3,r4⟩,⟨u8_bounds ws,u8_bounds wm,o0,o1,o2,o3,o4⟩,?_⟩
 have a0 : cs.drop 0 = (cs.drop 0).take 1 ++ cs.drop 1 := by have := List.take_append_drop 1 (cs.drop 0); rw [List.drop_drop] at this; exact this.symm
 have a1 : cs.drop 1 = (cs.drop 1).take 1 ++ cs.drop 2 := by have := List.take_append_drop 1 (cs.drop 1); rw [List.drop_drop] at this; exact this.symm
 have a2 : (cs.drop 2).take 25 = cs.drop 2 := List.take_of_length_le (by simp [hl])
 rw [hr] at a2
 rw [← a2,hm] at a1
 rw [a1,hs] at a0
 rw [← List.drop_zero (l := cs),a0]
 rfl
theorem arr2_of {P : Program} {t e : TypeId} {k : Nat} (ht : P.underlying t = some (.array 2 e)) (hc : P.cellsOf t = k + k) (hce : P.cellsOf e = k) {fuel : Nat} {cs : List Value} {x : DataW H × List MemPlace}
 (h : DataW.trod enc P w base spare held fuel t cs = some x) : ∃ (d0 d1 : List Value) (y0 y1 : DataW H × List MemPlace) (m : Nat),cs = d0 ++ d1 ∧ DataW.trod enc P w base spare held m e d0 = some y0 ∧ DataW.trod enc P w base spare held m e d1 = some y1 := by
 obtain ⟨xs,m,_,_,hl,hlen,hf⟩ := DataW.trod_array ht h
 rw [hc] at hl
 have h0 := hf 0 (by decide)
 have h1 := hf 1 (by decide)
 rw [hce,List.getElem?_eq_getElem (by omega)] at h0 h1
 rw [Nat.zero_mul,List.drop_zero] at h0
 rw [Nat.one_mul,List.take_of_length_le (by simp; omega)] at h1
 exact ⟨cs.take k,cs.drop k,_,_,m,(List.take_append_drop k cs).symm,h0,h1⟩
theorem two_in {v : Value} {d : DataW H} {p : List MemPlace} {r : Reach} {b0 : Nat} (hv : Value.okWide Tryd.prog w r b0 30 v) (h : DataW.Trod enc Tryd.prog w base spare held 30 v d p) :
 ∃ (s0 s1 : Int) (g0 g1 : Gr),v = .agg (twoCells s0 s1 g0 g1).toArray ∧ (0 ≤ s0 ∧ s0 < 256) ∧ (0 ≤ s1 ∧ s1 < 256) ∧ g0.Ok ∧ g1.Ok := by
 obtain ⟨⟨cs⟩,rfl,hsz⟩ := okWide_struct Tryd.underlying30 hv
 obtain ⟨fuel,hf0⟩ := h
 have hf : DataW.trod enc Tryd.prog w base spare held fuel 30 cs = some (d,p) := by simpa [Value.cells] using hf0
 obtain ⟨c0,c1,y0,y1,n0,n1,rfl,h0,h1⟩ := st2_of Tryd.underlying30 (by kernel_rfl) hf
 obtain ⟨d0,d1,_,_,m,rfl,t0,t1⟩ := arr2_of (k := 1) Tryd.underlying23 (by kernel_rfl) (by kernel_rfl) h0
 obtain ⟨e0,e1,_,_,m',rfl,u0,u1⟩ := arr2_of (k := 27) Tryd.underlying28 (by kernel_rfl) (by kernel_rfl) h1
 obtain ⟨s0,rfl,_,w0⟩ := DataW.trod_int Tryd.underlying22 t0
 obtain ⟨s1,rfl,_,w1⟩ := DataW.trod_int Tryd.underlying22 t1
 obtain ⟨g0,o0,rfl⟩ := gr_of u0
 obtain ⟨g1,o1,rfl⟩ := gr_of u1
 exact ⟨s0,s1,g0,g1,rfl,u8_bounds w0,u8_bounds w1,o0,o1⟩
end
end
end Go.Proofs.YtkifgffhoenaoaaDoor
