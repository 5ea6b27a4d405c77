/-
  What the row leans on.
-/
import Derived.Test.YtimdepdbcdbikaaGreatBas01
import Derived.Test.YtimdepdbcdbikaaGreatDlx01
import Derived.Test.YtimdepdbcdbikaaGreatBas17
import Derived.BigQuiet
import Derived.Great.BuildSlice
import Derived.Deep.MidRow
import Derived.Test.YtimdepdbcdbikaaGreatBas20
set_option linter.unusedSimpArgs false
set_option linter.unusedVariables false
namespace Go.Proofs.YtimdepdbcdbikaaGreat
open Go.RowKit
set_option maxRecDepth 100000
def GivesFew (m : Md) (w : World) (e : Ending) (w' : World) : Prop := ∃ b : Bool,e = .returned (.bool b) ∧ Hid (b = true → m.a.al.length ≤ 6 ∧ m.a.mr.length ≤ 8 ∧ m.a.ed.length ≤ 12) ∧ Below w.heap.size w w'
set_option maxHeartbeats 4000000 in
theorem few44_c (m : Md) (P : MdP) (w : World) : Calls Tryz.prog 12 #[.agg (m.cells P).toArray] w (GivesFew m w) := by
 obtain ⟨p,B,d⟩ := P;dsimp only [Md.cells];go_enter Tryz.func12,Tryz.ntmps12
 obtain ⟨mb,hmb⟩ : ∃ g,g = w.heap.size := ⟨_,rfl⟩;obtain ⟨ab,hab⟩ : ∃ g,g = w.heap.size + 1 := ⟨_,rfl⟩;go_upto_region 1 with fail
 rw [← hmb];refine wp_world (fun W => Sep w.heap.size w [eBlk mb 37 [.slice p.A1 m.a.al.length p.c1,.int .i64 m.a.n,.slice p.A2 m.a.mr.length p.c2,.slice p.A3 m.a.ed.length p.c3,.slice B m.ac.length d,.int .i64 m.tk]] W ∧ W.heap.size = ab) ⟨(Sep.here w).alloc' _ [_,_,_,_,_,_] rfl hmb,by rw [hab]; simp⟩ fun W ⟨S,hW⟩ => ?_;have S0 := Lib.hid S;clear S hmb hab;have a0 := BlkAt.cell (S0.out.get 0 rfl) 0; have a1 := BlkAt.cell (S0.out.get 0 rfl) 1; have a2 := BlkAt.cell (S0.out.get 0 rfl) 2; have a3 := BlkAt.cell (S0.out.get 0 rfl) 3; simp only [List.getElem?_cons_succ,List.getElem?_cons_zero] at a0 a1 a2 a3;go_upto_region 2 with fail
 (try rw [hW]);refine wp_world (fun V => Sep w.heap.size w [eBlk ab 34 [.slice p.A1 m.a.al.length p.c1,.int .i64 m.a.n,.slice p.A2 m.a.mr.length p.c2,.slice p.A3 m.a.ed.length p.c3],eBlk mb 37 [.slice p.A1 m.a.al.length p.c1,.int .i64 m.a.n,.slice p.A2 m.a.mr.length p.c2,.slice p.A3 m.a.ed.length p.c3,.slice B m.ac.length d,.int .i64 m.tk]] V) (S0.out.alloc' _ [_,_,_,_] rfl hW.symm) fun W1 S => ?_;have S1 := Lib.hid S;clear S S0 hW a0 a1 a2 a3;have a0 := BlkAt.cell (S1.out.get 0 rfl) 0; have a1 := BlkAt.cell (S1.out.get 0 rfl) 1; have a2 := BlkAt.cell (S1.out.get 0 rfl) 2; have a3 := BlkAt.cell (S1.out.get 0 rfl) 3; simp only [List.getElem?_cons_succ,List.getElem?_cons_zero] at a0 a1 a2 a3;have b4 := BlkAt.cell (S1.out.get 1 rfl) 4; simp only [List.getElem?_cons_succ,List.getElem?_cons_zero] at b4;by_cases q0 : m.a.al.length ≤ 6;rotate_left
 · have e0 : decide ((m.a.al.length : Int) ≤ 6) = false := by simp; omega
   clear q0;go_wp2_with fail
   go_ret
   exact ⟨false,rfl,(fun h => nomatch h),S1.out.below⟩
 have e0 : decide ((m.a.al.length : Int) ≤ 6) = true := by simp; omega
 have Q0 := Lib.hid q0;clear q0;by_cases q1 : m.a.mr.length ≤ 8;rotate_left
 · have e1 : decide ((m.a.mr.length : Int) ≤ 8) = false := by simp; omega
   clear q1;go_wp2_with fail
   go_ret
   exact ⟨false,rfl,(fun h => nomatch h),S1.out.below⟩
 have e1 : decide ((m.a.mr.length : Int) ≤ 8) = true := by simp; omega
 have Q1 := Lib.hid q1;clear q1;by_cases q2 : m.a.ed.length ≤ 12;rotate_left
 · have e2 : decide ((m.a.ed.length : Int) ≤ 12) = false := by simp; omega
   clear q2;go_wp2_with fail
   go_ret
   exact ⟨false,rfl,(fun h => nomatch h),S1.out.below⟩
 have e2 : decide ((m.a.ed.length : Int) ≤ 12) = true := by simp; omega
 have Q2 := Lib.hid q2;clear q2;have HF : Hid (m.a.al.length ≤ 6 ∧ m.a.mr.length ≤ 8 ∧ m.a.ed.length ≤ 12) := ⟨Q0.out,Q1.out,Q2.out⟩;by_cases q3 : m.a.n ≤ 6
 · have e3 : decide (m.a.n ≤ 6) = true := by simpa using q3
   clear q3;by_cases q5 : m.ac.length ≤ 8
   · have e5 : decide ((m.ac.length : Int) ≤ 8) = true := by simp; omega
     clear q5;go_wp2_with fail
     go_ret
     exact ⟨true,rfl,fun _ => HF.out,S1.out.below⟩
   · have e5 : decide ((m.ac.length : Int) ≤ 8) = false := by simp; omega
     clear q5;go_wp2_with fail
     go_ret
     exact ⟨false,rfl,(fun h => nomatch h),S1.out.below⟩
 · have e3 : decide (m.a.n ≤ 6) = false := by simpa using q3
   clear q3;by_cases q4 : 4096 < m.a.n
   · have e4 : decide (4096 < m.a.n) = true := by simpa using q4
     clear q4;by_cases q5 : m.ac.length ≤ 8
     · have e5 : decide ((m.ac.length : Int) ≤ 8) = true := by simp; omega
       clear q5;go_wp2_with fail
       go_ret
       exact ⟨true,rfl,fun _ => HF.out,S1.out.below⟩
     · have e5 : decide ((m.ac.length : Int) ≤ 8) = false := by simp; omega
       clear q5;go_wp2_with fail
       go_ret
       exact ⟨false,rfl,(fun h => nomatch h),S1.out.below⟩
   · have e4 : decide (4096 < m.a.n) = false := by simpa using q4
     clear q4;go_wp2_with fail
     go_ret
     exact ⟨false,rfl,(fun h => nomatch h),S1.out.below⟩
set_option maxHeartbeats 4000000 in
theorem checkL_c (m : Md) (P : MdP) (w : World) (hA : Md.At w m P) :
 Calls Tryz.prog 13 #[.agg (m.cells P).toArray] w (ErrsXB (MErr m) w) := by
 have HA := Lib.hid hA;have hlal := hA.a.lal;have HLAL := Lib.hid hlal;obtain ⟨p,B,d⟩ := P;dsimp only [Md.cells];clear hA hlal;go_enter Tryz.func13,Tryz.ntmps13
 obtain ⟨mb,hmb⟩ : ∃ g,g = w.heap.size := ⟨_,rfl⟩;go_upto_region 1 with fail
 rw [← hmb];refine wp_world (fun W => Sep w.heap.size w [eBlk mb 37 [.slice p.A1 m.a.al.length p.c1,.int .i64 m.a.n,.slice p.A2 m.a.mr.length p.c2,.slice p.A3 m.a.ed.length p.c3,.slice B m.ac.length d,.int .i64 m.tk]] W) ((Sep.here w).alloc' _ [_,_,_,_,_,_] rfl hmb) fun W1 S => ?_;have S1 := Lib.hid S;clear S hmb;have a0 := BlkAt.cell (S1.out.get 0 rfl) 0; have a1 := BlkAt.cell (S1.out.get 0 rfl) 1; have a2 := BlkAt.cell (S1.out.get 0 rfl) 2; have a3 := BlkAt.cell (S1.out.get 0 rfl) 3; simp only [List.getElem?_cons_succ,List.getElem?_cons_zero] at a0 a1 a2 a3;have CX := Lib.hid (CheckX_c m.a p W1 (HA.out.a.below S1.out.below));go_wp2_with fail
 refine CX.out.mono ?_;intro e w2 hc;rcases hc.two with ⟨r,rfl,hr0,HR0,HR,hb⟩ | ⟨rfl,HR,hb⟩
 · have S2 := Lib.hid (S1.out.next hb);have hr1 : (r != 0) = true := by simpa using hr0
   have HE : Hid (MErr m r) := MErr.aut HR.out HR0.out;clear S1 hb CX a0 a1 a2 a3 hr0;go_wp2_with fail
   go_ret
   exact ⟨_,rfl,HE.out,S2.out.below⟩
 have S2 := Lib.hid (S1.out.next hb);clear S1 hb CX a0 a1 a2 a3;have b0 := BlkAt.cell (S2.out.get 0 rfl) 0; have b4 := BlkAt.cell (S2.out.get 0 rfl) 4; have b5 := BlkAt.cell (S2.out.get 0 rfl) 5; simp only [List.getElem?_cons_succ,List.getElem?_cons_zero] at b0 b4 b5;by_cases h1 : m.tk < 0
 · have hd1 : decide (m.tk < 0) = true := decide_eq_true h1;have HE : Hid (MErr m 2) := MErr.tick HR.out (.inl h1);clear h1;go_wp2_with fail
   go_ret
   exact ⟨_,rfl,HE.out,S2.out.below⟩
 have hd1 : decide (m.tk < 0) = false := decide_eq_false h1;by_cases h2 : 32 ≤ m.tk
 · have hd2 : decide (32 ≤ m.tk) = true := decide_eq_true h2;have HE : Hid (MErr m 2) := MErr.tick HR.out (.inr h2);clear h1 h2;go_wp2_with fail
   go_ret
   exact ⟨_,rfl,HE.out,S2.out.below⟩
 have hd2 : decide (32 ≤ m.tk) = false := decide_eq_false h2;have HTK : Hid (¬ (m.tk < 0 ∨ 32 ≤ m.tk)) := fun h => h.elim h1 h2;clear h1 h2;go_wp2_with fail
 clear b0 b4 b5;go_loopw [4] (fun i wr => ∃ k : Nat,i = .int .i64 ↑k ∧ k ≤ m.a.al.length ∧ Hid (∀ j : Nat,j < k → m.a.al[j]? ≠ some m.tk) ∧ (SepW w [eBlk mb 37 [.slice p.A1 m.a.al.length p.c1,.int .i64 m.a.n,.slice p.A2 m.a.mr.length p.c2,.slice p.A3 m.a.ed.length p.c3,.slice B m.ac.length d,.int .i64 m.tk]] wr)) (fun i _ => m.a.al.length - (intOf i).toNat)
 case atStart => exact ⟨0,rfl,Nat.zero_le _,fun j hj => absurd hj (Nat.not_lt_zero _),S2.out⟩
 case round =>
  clear S2;obtain ⟨k,rfl,hk,HK,S⟩ := hrel;have b0 := BlkAt.cell (S.out.get 0 rfl) 0; have b4 := BlkAt.cell (S.out.get 0 rfl) 4; have b5 := BlkAt.cell (S.out.get 0 rfl) 5; simp only [List.getElem?_cons_succ,List.getElem?_cons_zero] at b0 b4 b5;by_cases hlt : k < m.a.al.length
  · obtain ⟨b1,off1,y,hA1,_,hy,cy⟩ := IntsAt.at (HA.out.a.al.below IntE.stays S.out.below) hlt;have hA1 := Lib.hid hA1;have HY := Lib.hid hy;clear hy;rw [hA1.out] at b0;have hwr : IntKind.i64.wrap ((k : Int) + 1) = (k : Int) + 1 := IntWalk.i64_in _ (by have := HLAL.out; omega);have hki : (k : Int) < (m.a.al.length : Int) := by omega
    by_cases g1 : y = m.tk
    · have hd3 : (y == m.tk) = true := by simpa using g1
      have HE : Hid (MErr m 13) := MErr.conf HR.out HTK.out (List.mem_of_getElem? (g1 ▸ HY.out));clear g1;go_upto_region 9 with fail
      go_quiet (fail)
      go_wp2_with fail
      go_ret
      exact ⟨_,rfl,HE.out,(S.out.draws _).below⟩
    · have hd3 : (y == m.tk) = false := by simpa using g1
      have HK2 : Hid (∀ j : Nat,j < k + 1 → m.a.al[j]? ≠ some m.tk) := fun j hj he => by
       by_cases e : j = k
       · subst e; rw [HY.out] at he; exact g1 (Option.some.inj he)
       · exact HK.out j (by omega) he
      clear g1;go_upto_region 9 with fail
      go_quiet (fail)
      go_wp2_with fail
      go_roundw
      case rel => exact ⟨k + 1,by go_num,by omega,HK2.out,S.out.draws _⟩
      case measure => simp [intOf]; omega
  · obtain rfl : k = m.a.al.length := by omega
    have HNO : Hid (¬ m.tk ∈ m.a.al) := fun h => by
     obtain ⟨j,hj,e⟩ := List.mem_iff_getElem.1 h;exact HK.out j hj (by rw [List.getElem?_eq_getElem hj,e])
    by_cases h4 : m.ac.length = m.a.al.length;rotate_left
    · have hn1 : ((m.ac.length : Int) != (m.a.al.length : Int)) = true := by simp; omega
      have hn2 : (m.ac.length != m.a.al.length) = true := by simpa using h4
      have HE : Hid (MErr m 4) := MErr.size HR.out HTK.out HNO.out h4;clear h4;go_wp2_with fail
      go_ret
      exact ⟨_,rfl,HE.out,S.out.below⟩
    have hd3 : ((m.ac.length : Int) != (m.a.al.length : Int)) = false := by simp [h4]
    have HAC : Hid (MErr m (acsE m m.ac.length)) := MErr.acts HR.out HTK.out HNO.out h4;have HLL := Lib.hid h4;have h32 : m.ac.length ≤ 32 := by
     have hal := (HR.out.zero.1 rfl).al;have := rises_len (n := 32) (l := m.a.al) hal.incr (fun x hx => by
      obtain ⟨i,hi,rfl⟩ := List.mem_iff_getElem.1 hx;have := hal i _ hi (List.getElem?_eq_getElem hi);exact ⟨this.1,this.2.1⟩)
     rw [h4]; exact this
    clear h4;go_wp2_with fail
    clear b0 b4 b5;go_loopw [5] (fun i wr => ∃ k : Nat,i = .int .i64 ↑k ∧ k ≤ m.ac.length ∧ Hid (acsE m k = 0) ∧ (SepW w [eBlk mb 37 [.slice p.A1 m.a.al.length p.c1,.int .i64 m.a.n,.slice p.A2 m.a.mr.length p.c2,.slice p.A3 m.a.ed.length p.c3,.slice B m.ac.length d,.int .i64 m.tk]] wr)) (fun i _ => m.ac.length - (intOf i).toNat)
    case atStart => exact ⟨0,rfl,Nat.zero_le _,rfl,S.out⟩
    case round =>
     clear S;obtain ⟨k,rfl,hk,HK,S⟩ := hrel;have b0 := BlkAt.cell (S.out.get 0 rfl) 0; have b4 := BlkAt.cell (S.out.get 0 rfl) 4; simp only [List.getElem?_cons_succ,List.getElem?_cons_zero] at b0 b4;by_cases hlt : k < m.ac.length
     · obtain ⟨gb,ob2,x,hAe,hb,hx,e0,e1,e2⟩ := AcsAt.at (HA.out.ac.below AcE.stays S.out.below) hlt;dsimp only at hAe;subst hAe;have HX : Hid (m.at k = x) := Md.at_get hx;obtain ⟨be,hbe⟩ : ∃ g,g = wr.heap.size := ⟨_,rfl⟩;have hki : (k : Int) < (m.ac.length : Int) := by omega
       clear hx hb;go_upto_region 17 with fail
       rw [← hbe];refine wp_world (fun W => Sep w.heap.size w [eBlk be 44 [.int .i64 x.ev,.int .i64 x.lo,.int .i64 x.up],eBlk mb 37 [.slice p.A1 m.a.al.length p.c1,.int .i64 m.a.n,.slice p.A2 m.a.mr.length p.c2,.slice p.A3 m.a.ed.length p.c3,.slice (some ⟨gb,ob2,none⟩) m.ac.length d,.int .i64 m.tk]] W) (S.out.alloc' _ [_,_,_] rfl hbe) fun W S' => ?_;have S3 := Lib.hid S';clear S' S hbe e0 e1 e2 b0 b4;have hkn : k < m.a.al.length := by rw [← HLL.out]; exact hlt
       have hkl : (k : Int) < (m.a.al.length : Int) := by omega
       obtain ⟨b1,off1,y,hA1,_,hy,cy⟩ := IntsAt.at (HA.out.a.al.below IntE.stays S3.out.below) hkn;have hA1 := Lib.hid hA1;have HY : Hid (m.a.al.getD k 0 = y) := by rw [Hid,List.getD_eq_getElem?_getD,hy]; rfl
       have HEK : Hid (acEk m k = acE x y) := by unfold acEk; rw [Hid,HX.out,HY.out]
       have HEF : Hid (acE x y ≠ 0 → MErr m (acE x y)) := fun h => by
        have h2 := acsE_first HK.out (by rw [HEK.out]; exact h) _ hlt;have h3 := HAC.out;rw [h2,HEK.out] at h3;exact h3
       clear hy;have z0 := BlkAt.cell (S3.out.get 0 rfl) 0; have z1 := BlkAt.cell (S3.out.get 0 rfl) 1; have z2 := BlkAt.cell (S3.out.get 0 rfl) 2; simp only [List.getElem?_cons_succ,List.getElem?_cons_zero] at z0 z1 z2;have a0 := BlkAt.cell (S3.out.get 1 rfl) 0; simp only [List.getElem?_cons_succ,List.getElem?_cons_zero] at a0;rw [hA1.out] at a0;have hwr : IntKind.i64.wrap ((k : Int) + 1) = (k : Int) + 1 := IntWalk.i64_in _ (by omega);by_cases g1 : x.ev = y;rotate_left
       · have hd4 : (x.ev != y) = true := by simpa using g1
         have HE : Hid (MErr m 6) := by
          have e : acE x y = 6 := by unfold acE; rw [if_pos g1]
          have h := HEF.out;rw [e] at h;exact h (by decide)
         clear g1;go_quiet (fail)
         go_wp2_with fail
         go_ret
         exact ⟨_,rfl,HE.out,(S3.out.draws _).below⟩
       have hd4 : (x.ev != y) = false := by simpa using g1
       by_cases g2 : x.lo < 0
       · have hd5 : decide (x.lo < 0) = true := decide_eq_true g2;have HE : Hid (MErr m 2) := by
          have e : acE x y = 2 := by unfold acE; rw [if_neg (by omega),if_pos (.inl g2)]
          have h := HEF.out;rw [e] at h;exact h (by decide)
         clear g1 g2;go_quiet (fail)
         go_wp2_with fail
         go_ret
         exact ⟨_,rfl,HE.out,(S3.out.draws _).below⟩
       have hd5 : decide (x.lo < 0) = false := decide_eq_false g2;by_cases g3 : 16 < x.lo
       · have hd6 : decide (16 < x.lo) = true := decide_eq_true g3;have HE : Hid (MErr m 2) := by
          have e : acE x y = 2 := by unfold acE; rw [if_neg (by omega),if_pos (.inr g3)]
          have h := HEF.out;rw [e] at h;exact h (by decide)
         clear g1 g2 g3;go_quiet (fail)
         go_wp2_with fail
         go_ret
         exact ⟨_,rfl,HE.out,(S3.out.draws _).below⟩
       have hd6 : decide (16 < x.lo) = false := decide_eq_false g3;by_cases hu : x.up = -1
       · have hd7 : (x.up != -1) = false := by simp [hu]
         have HN : Hid (acsE m (k + 1) = 0) := acsE_next HK.out (by rw [HEK.out]; unfold acE; rw [if_neg (by omega),if_neg (by omega),if_neg (by omega)]);clear g1 g2 g3 hu;go_quiet (fail)
         go_wp2_with fail
         go_roundw
         case rel => exact ⟨k + 1,by go_num,by omega,HN.out,S3.out.drop1.draws _⟩
         case measure => simp [intOf]; omega
       have hd7 : (x.up != -1) = true := by simpa using hu
       by_cases g4 : x.up < x.lo
       · have hd8 : decide (x.up < x.lo) = true := decide_eq_true g4;have HE : Hid (MErr m 2) := by
          have e : acE x y = 2 := by unfold acE; rw [if_neg (by omega),if_neg (by omega),if_pos ⟨hu,.inl g4⟩]
          have h := HEF.out;rw [e] at h;exact h (by decide)
         clear g1 g2 g3 g4 hu;go_quiet (fail)
         go_wp2_with fail
         go_ret
         exact ⟨_,rfl,HE.out,(S3.out.draws _).below⟩
       have hd8 : decide (x.up < x.lo) = false := decide_eq_false g4;by_cases g5 : 16 < x.up
       · have hd9 : decide (16 < x.up) = true := decide_eq_true g5;have HE : Hid (MErr m 2) := by
          have e : acE x y = 2 := by unfold acE; rw [if_neg (by omega),if_neg (by omega),if_pos ⟨hu,.inr g5⟩]
          have h := HEF.out;rw [e] at h;exact h (by decide)
         clear g1 g2 g3 g4 g5 hu;go_quiet (fail)
         go_wp2_with fail
         go_ret
         exact ⟨_,rfl,HE.out,(S3.out.draws _).below⟩
       have hd9 : decide (16 < x.up) = false := decide_eq_false g5;have HN : Hid (acsE m (k + 1) = 0) := acsE_next HK.out (by rw [HEK.out]; unfold acE; rw [if_neg (by omega),if_neg (by omega),if_neg (by omega)]);clear g1 g2 g3 g4 g5 hu;go_quiet (fail)
       go_wp2_with fail
       go_roundw
       case rel => exact ⟨k + 1,by go_num,by omega,HN.out,S3.out.drop1.draws _⟩
       case measure => simp [intOf]; omega
     · obtain rfl : k = m.ac.length := by omega
       have HE : Hid (MErr m 0) := by have h := HAC.out; rw [HK.out] at h; exact h
       go_wp2_with fail
       go_ret
       exact ⟨_,rfl,HE.out,S.out.below⟩
set_option maxHeartbeats 8000000 in
theorem checkStateL_c (m : Md) (P : MdP) (c : Ck) (AT : Option Addr) (cp : Nat) (w : World) (hm : m.Ok) (hA : Md.At w m P) (hT : IntsAt w AT c.2) :
 Calls Tryz.prog 14 #[.agg (m.cells P).toArray,.agg #[.int .i64 c.1,.slice AT c.2.length cp]] w (Ret (.int .i64 (stE m c)) w) := by
 have h32 := hm.len32;have HM := Lib.hid hm;have HA := Lib.hid hA;have HT := Lib.hid hT;obtain ⟨p,B,d⟩ := P;dsimp only [Md.cells];clear hm hA hT;go_enter Tryz.func14,Tryz.ntmps14
 obtain ⟨mb,hmb⟩ : ∃ g,g = w.heap.size := ⟨_,rfl⟩;obtain ⟨sb,hsb⟩ : ∃ g,g = w.heap.size + 1 := ⟨_,rfl⟩;go_upto_region 1 with fail
 rw [← hsb,← hmb];refine wp_world (fun W => (SepW w [eBlk sb 52 [.int .i64 c.1,.slice AT c.2.length cp],eBlk mb 37 [.slice p.A1 m.a.al.length p.c1,.int .i64 m.a.n,.slice p.A2 m.a.mr.length p.c2,.slice p.A3 m.a.ed.length p.c3,.slice B m.ac.length d,.int .i64 m.tk]] W)) (((Sep.here w).alloc' _ [_,_,_,_,_,_] rfl hmb).alloc' _ [_,_] rfl (by rw [hsb]; simp)) fun W S => ?_;have S1 := Lib.hid S.out;clear S hmb hsb;have b1 := BlkAt.cell (S1.out.get 1 rfl) 1; have b4 := BlkAt.cell (S1.out.get 1 rfl) 4; simp only [List.getElem?_cons_succ,List.getElem?_cons_zero] at b1 b4;have s0 := BlkAt.cell (S1.out.get 0 rfl) 0; have s1 := BlkAt.cell (S1.out.get 0 rfl) 1; simp only [List.getElem?_cons_succ,List.getElem?_cons_zero] at s0 s1;by_cases h1 : c.1 < 0
 · have hd1 : decide (c.1 < 0) = true := decide_eq_true h1;have EB : Hid (stE m c = 2) := by rw [Hid]; unfold stE; rw [if_pos (.inl h1)]
   clear h1;go_wp2_with fail
   go_ret
   exact ⟨by rw [EB.out]; rfl,S1.out.below⟩
 have hd1 : decide (c.1 < 0) = false := decide_eq_false h1;by_cases h2 : m.a.n ≤ c.1
 · have hd2 : decide (m.a.n ≤ c.1) = true := decide_eq_true h2;have EB : Hid (stE m c = 2) := by rw [Hid]; unfold stE; rw [if_pos (.inr h2)]
   clear h1 h2;go_wp2_with fail
   go_ret
   exact ⟨by rw [EB.out]; rfl,S1.out.below⟩
 have hd2 : decide (m.a.n ≤ c.1) = false := decide_eq_false h2;by_cases h3 : c.2.length = m.ac.length;rotate_left
 · have EB : Hid (stE m c = 4) := by rw [Hid]; unfold stE; rw [if_neg (by omega),if_pos h3]
   have hn1 : ((c.2.length : Int) != (m.ac.length : Int)) = true := by simp; omega
   have hn2 : (c.2.length != m.ac.length) = true := by simpa using h3
   clear h1 h2 h3;go_wp2_with fail
   go_ret
   exact ⟨by rw [EB.out]; rfl,S1.out.below⟩
 have EK : Hid (stE m c = stEk m c m.ac.length) := by rw [Hid]; unfold stE; rw [if_neg (by omega),if_neg (by omega)]
 have HLL := Lib.hid h3;have hn1 : ((c.2.length : Int) != (m.ac.length : Int)) = false := by simp [h3]
 clear h1 h2 h3;go_wp2_with fail
 clear b1 b4 s0 s1 hd1 hd2 hn1;go_loopw [5] (fun i wr => ∃ k : Nat,i = .int .i64 ↑k ∧ k ≤ m.ac.length ∧ Hid (stEk m c k = 0) ∧ (SepW w [eBlk sb 52 [.int .i64 c.1,.slice AT c.2.length cp],eBlk mb 37 [.slice p.A1 m.a.al.length p.c1,.int .i64 m.a.n,.slice p.A2 m.a.mr.length p.c2,.slice p.A3 m.a.ed.length p.c3,.slice B m.ac.length d,.int .i64 m.tk]] wr)) (fun i _ => m.ac.length - (intOf i).toNat)
 case atStart => exact ⟨0,rfl,Nat.zero_le _,rfl,S1.out⟩
 case round =>
  clear S1;obtain ⟨k,rfl,hk,HE,S⟩ := hrel;have s0 := BlkAt.cell (S.out.get 0 rfl) 0; have s1 := BlkAt.cell (S.out.get 0 rfl) 1; simp only [List.getElem?_cons_succ,List.getElem?_cons_zero] at s0 s1;by_cases hlt : k < m.ac.length
  · have hlc : k < c.2.length := by rw [HLL.out]; exact hlt
    have hlci : (k : Int) < (c.2.length : Int) := by omega
    obtain ⟨gt,ot,y,hTT,hgt,hy,y0⟩ := IntsAt.at (HT.out.below IntE.stays S.out.below) hlc;subst hTT;obtain ⟨gb,ob2,x,hB,hgb,hx,x0,x1,x2⟩ := AcsAt.at (HA.out.ac.below AcE.stays S.out.below) hlt;dsimp only at hB;subst hB;have HX := Lib.hid hx;have HTM : Hid (tmr c k = y) := by
     have h1 := tmr_get (c := c) (i := k) hlc;rw [hy] at h1;exact (Option.some.inj h1).symm
    have YC : Hid (∀ W : World,Below w.heap.size w W → W.cell? ⟨gt,ot + k,none⟩ = some (.int .i64 y)) := fun W hb => by
     obtain ⟨gt2,ot2,y2,h1,_,h2,h3⟩ := IntsAt.at (HT.out.below IntE.stays hb) hlc;cases h1;rw [hy] at h2;cases h2;exact h3
    obtain ⟨f,hf⟩ : ∃ f,f = (m.at k).df := ⟨_,rfl⟩;obtain ⟨z,hz⟩ : ∃ z,z = nextV m.a.ed c.1 x.ev := ⟨_,rfl⟩;have UC : Hid (∀ (W : World),Below w.heap.size w W → Calls Tryz.prog 36 #[.agg #[.slice p.A1 m.a.al.length p.c1,.int .i64 m.a.n,.slice p.A2 m.a.mr.length p.c2,.slice p.A3 m.a.ed.length p.c3,.slice (some ⟨gb,ob2,none⟩) m.ac.length d,.int .i64 m.tk],.int .i64 ↑k] W (Ret (.int .i64 f) W)) := fun W hb => by rw [hf]; exact usual_c m ⟨p,(some ⟨gb,ob2,none⟩),d⟩ k W (HA.out.below hb) hlt
    have PC : Hid (∀ (W : World),Below w.heap.size w W → Calls Tryz.prog 37 #[.agg #[.slice p.A1 m.a.al.length p.c1,.int .i64 m.a.n,.slice p.A2 m.a.mr.length p.c2,.slice p.A3 m.a.ed.length p.c3,.slice (some ⟨gb,ob2,none⟩) m.ac.length d,.int .i64 m.tk],.int .i64 c.1,.int .i64 x.ev] W (Ret (.int .i64 z) W)) := fun W hb => by rw [hz]; exact prepared_c m ⟨p,(some ⟨gb,ob2,none⟩),d⟩ c.1 x.ev W (HA.out.below hb)
    have HPR : Hid (m.pr c.1 k = decide (0 ≤ z)) := by rw [Hid,hz]; unfold Md.pr Md.nx; rw [Md.ev_get hx]
    have hwr : IntKind.i64.wrap ((k : Int) + 1) = (k : Int) + 1 := IntWalk.i64_in _ (by omega);have E1 : Hid (stE1 m c k = if y < 0 ∨ f < y then 2 else if y ≠ f ∧ m.pr c.1 k = false then 6 else 0) := by rw [Hid]; unfold stE1; rw [HTM.out,hf]
    have EF : Hid (stE1 m c k ≠ 0 → stE m c = stE1 m c k) := fun h => by rw [EK.out]; exact stEk_first HE.out h _ hlt
    have hki : (k : Int) < (m.ac.length : Int) := by omega
    clear hy hx hf hz hgt hgb x0 x1 x2;go_upto_region 8 with fail
    go_cut [47] (fun v wx => v = .bool (decide (y < 0) || decide (f < y)) ∧ (SepW w [eBlk sb 52 [.int .i64 c.1,.slice (some ⟨gt,ot,none⟩) c.2.length cp],eBlk mb 37 [.slice p.A1 m.a.al.length p.c1,.int .i64 m.a.n,.slice p.A2 m.a.mr.length p.c2,.slice p.A3 m.a.ed.length p.c3,.slice (some ⟨gb,ob2,none⟩) m.ac.length d,.int .i64 m.tk]] wx))
    case first =>
     by_cases hy0 : y < 0
     · have hd1 : decide (y < 0) = true := decide_eq_true hy0;clear hy0;go_quiet (fail)
       go_wp2_with fail
       go_meet
       exact ⟨by rw [hd1]; rfl,S.out.draws _⟩
     · have hd1 : decide (y < 0) = false := decide_eq_false hy0;clear hy0 s0 s1 y0;have S1 := Lib.hid S.out.drew;refine wp_region_held_drew (S := (fun V => Sep w.heap.size w [eBlk sb 52 [.int .i64 c.1,.slice (some ⟨gt,ot,none⟩) c.2.length cp],eBlk mb 37 [.slice p.A1 m.a.al.length p.c1,.int .i64 m.a.n,.slice p.A2 m.a.mr.length p.c2,.slice p.A3 m.a.ed.length p.c3,.slice (some ⟨gb,ob2,none⟩) m.ac.length d,.int .i64 m.tk]] V)) (by kernel_rfl) ?_ (fun hH => ?_)
       · exact S1.out.pick [0,1] (by decide)
       generalize hwz : wr.drew = w1 at *;clear hwz;refine tkP 0 rfl (v := ?_) hH ?_;(try simp only [sx]);refine tkH 1 rfl (v := ?_) (by kernel_rfl) ?_ hH ?_;rotate_left
       · intro V hs_;have s1 := qkC hs_ 0 rfl 1 rfl;clear hs_;first | (go_simp; done) | (go_simp; with_reducible rfl)
       (try simp only [sx]);refine tkP 2 rfl (v := ?_) hH ?_;(try simp only [sx]);refine tkP 3 rfl (v := ?_) hH ?_;(try simp only [sx]);refine tkH 4 rfl (v := ?_) (by kernel_rfl) ?_ hH ?_;rotate_left
       · intro V hs_;have y1 := YC.out V (show Sep w.heap.size w _ V from hs_).below;clear hs_;first | (go_simp; done) | (go_simp; with_reducible rfl)
       (try simp only [sx]);refine tkP 5 rfl (v := ?_) hH ?_;(try simp only [sx]);refine tkP 6 rfl (v := ?_) hH ?_;(try simp only [sx]);refine tkP 7 rfl (v := ?_) hH ?_;(try simp only [sx]);refine tkH 8 rfl (v := ?_) (by kernel_rfl) ?_ hH ?_;rotate_left
       · intro V hs_;have s1 := qkC hs_ 0 rfl 1 rfl;clear hs_;first | (go_simp; done) | (go_simp; with_reducible rfl)
       (try simp only [sx]);refine tkP 9 rfl (v := ?_) hH ?_;(try simp only [sx]);refine tkP 10 rfl (v := ?_) hH ?_;(try simp only [sx]);refine tkH 11 rfl (v := ?_) (by kernel_rfl) ?_ hH ?_;rotate_left
       · intro V hs_;have y1 := YC.out V (show Sep w.heap.size w _ V from hs_).below;clear hs_;first | (go_simp; done) | (go_simp; with_reducible rfl)
       (try simp only [sx]);refine tkH 12 rfl (v := ?_) (by kernel_rfl) ?_ hH ?_;rotate_left
       · intro V hs_;have b0 := qkC hs_ 1 rfl 0 rfl;have b1 := qkC hs_ 1 rfl 1 rfl;have b2 := qkC hs_ 1 rfl 2 rfl;have b3 := qkC hs_ 1 rfl 3 rfl;have b4 := qkC hs_ 1 rfl 4 rfl;have b5 := qkC hs_ 1 rfl 5 rfl;clear hs_;first | (go_simp; done) | (go_simp; with_reducible rfl)
       (try simp only [sx]);refine tkP 13 rfl (v := ?_) hH ?_;(try simp only [sx]);refine rdH 14 rfl fun K hK => ?_;go_simp;refine ((UC.out w1 S1.out.below)).mono ?_;rintro e w2 ⟨rfl,hb⟩;have S2 := Lib.hid (S1.out.next hb);clear hb;refine hK.out _ _ (S2.out.pick [0,1] (by decide)) fun hH => ?_;clear hK K;(try simp only [sx]);refine tkP 15 rfl (v := ?_) hH ?_;(try simp only [sx]);refine tkP 16 rfl (v := ?_) hH ?_;(try simp only [sx]);refine wpAnyH_done (by kernel_rfl) ?_ _;have S9 := S2;go_wp2_with fail
       go_meet
       exact ⟨by rw [hd1]; rfl,S9.out⟩
    case rest =>
     clear S s0 s1 y0;obtain ⟨rfl,S⟩ := hcut;obtain ⟨v,hv⟩ : ∃ v,v = (decide (y < 0) || decide (f < y)) := ⟨_,rfl⟩;rw [← hv];cases v;rotate_left
     · have EB : Hid (stE m c = 2) := by
        have h1 : y < 0 ∨ f < y := by simpa using hv.symm
        have e1 : stE1 m c k = 2 := by rw [E1.out,if_pos h1]
        rw [Hid,EF.out (by rw [e1]; decide),e1]
       clear hv;go_wp2_with fail
       go_ret
       exact ⟨by rw [EB.out]; rfl,S.out.below⟩
     have HY0 : Hid (¬ (y < 0 ∨ f < y)) := by
      have h : ¬ y < 0 ∧ ¬ f < y := by simpa using hv.symm
      exact fun g => g.elim h.1 h.2
     clear hv;go_upto_region 10 with fail
     go_cut [69] (fun v wx => v = .bool ((y != f) && decide (z < 0)) ∧ (SepW w [eBlk sb 52 [.int .i64 c.1,.slice (some ⟨gt,ot,none⟩) c.2.length cp],eBlk mb 37 [.slice p.A1 m.a.al.length p.c1,.int .i64 m.a.n,.slice p.A2 m.a.mr.length p.c2,.slice p.A3 m.a.ed.length p.c3,.slice (some ⟨gb,ob2,none⟩) m.ac.length d,.int .i64 m.tk]] wx))
     case first =>
      by_cases hyq : y = f
      · have hne : (y != f) = false := by rw [hyq]; simp
        clear hyq;have S1 := Lib.hid S.out.drew;refine wp_region_held_drew (S := (fun V => Sep w.heap.size w [eBlk sb 52 [.int .i64 c.1,.slice (some ⟨gt,ot,none⟩) c.2.length cp],eBlk mb 37 [.slice p.A1 m.a.al.length p.c1,.int .i64 m.a.n,.slice p.A2 m.a.mr.length p.c2,.slice p.A3 m.a.ed.length p.c3,.slice (some ⟨gb,ob2,none⟩) m.ac.length d,.int .i64 m.tk]] V)) (by kernel_rfl) ?_ (fun hH => ?_)
        · exact S1.out.pick [0,1] (by decide)
        generalize hwz : wc.drew = w1 at *;clear hwz;refine tkP 0 rfl (v := ?_) hH ?_;(try simp only [sx]);refine tkH 1 rfl (v := ?_) (by kernel_rfl) ?_ hH ?_;rotate_left
        · intro V hs_;have s1 := qkC hs_ 0 rfl 1 rfl;clear hs_;first | (go_simp; done) | (go_simp; with_reducible rfl)
        (try simp only [sx]);refine tkP 2 rfl (v := ?_) hH ?_;(try simp only [sx]);refine tkP 3 rfl (v := ?_) hH ?_;(try simp only [sx]);refine tkH 4 rfl (v := ?_) (by kernel_rfl) ?_ hH ?_;rotate_left
        · intro V hs_;have y1 := YC.out V (show Sep w.heap.size w _ V from hs_).below;clear hs_;first | (go_simp; done) | (go_simp; with_reducible rfl)
        (try simp only [sx]);refine tkH 5 rfl (v := ?_) (by kernel_rfl) ?_ hH ?_;rotate_left
        · intro V hs_;have b0 := qkC hs_ 1 rfl 0 rfl;have b1 := qkC hs_ 1 rfl 1 rfl;have b2 := qkC hs_ 1 rfl 2 rfl;have b3 := qkC hs_ 1 rfl 3 rfl;have b4 := qkC hs_ 1 rfl 4 rfl;have b5 := qkC hs_ 1 rfl 5 rfl;clear hs_;first | (go_simp; done) | (go_simp; with_reducible rfl)
        (try simp only [sx]);refine tkP 6 rfl (v := ?_) hH ?_;(try simp only [sx]);refine rdH 7 rfl fun K hK => ?_;go_simp;refine ((UC.out w1 S1.out.below)).mono ?_;rintro e w2 ⟨rfl,hb⟩;have S2 := Lib.hid (S1.out.next hb);clear hb;refine hK.out _ _ (S2.out.pick [0,1] (by decide)) fun hH => ?_;clear hK K;(try simp only [sx]);refine tkP 8 rfl (v := ?_) hH ?_;(try simp only [sx]);refine tkP 9 rfl (v := ?_) hH ?_;(try simp only [sx]);refine wpAnyH_take (i := 10) (v := undef) rfl (by kernel_rfl) (by kernel_rfl) (by kernel_rfl) (fun _ _ _ h => h) (Or.inr ⟨?_,rfl⟩) hH ?_
        · kernel_rfl
        (try simp only [sx]);refine wpAnyH_take (i := 11) (v := undef) rfl (by kernel_rfl) (by kernel_rfl) (by kernel_rfl) (fun _ _ _ h => h) (Or.inr ⟨?_,rfl⟩) hH ?_
        · kernel_rfl
        (try simp only [sx]);refine wpAnyH_take (i := 12) (v := undef) rfl (by kernel_rfl) (by kernel_rfl) (by kernel_rfl) (fun _ _ _ h => h) (Or.inr ⟨?_,rfl⟩) hH ?_
        · kernel_rfl
        (try simp only [sx]);refine wpAnyH_take (i := 13) (v := undef) rfl (by kernel_rfl) (by kernel_rfl) (by kernel_rfl) (fun _ _ _ h => h) (Or.inr ⟨?_,rfl⟩) hH ?_
        · kernel_rfl
        (try simp only [sx]);refine wpAnyH_take (i := 14) (v := undef) rfl (by kernel_rfl) (by kernel_rfl) (by kernel_rfl) (fun _ _ _ h => h) (Or.inr ⟨?_,rfl⟩) hH ?_
        · kernel_rfl
        (try simp only [sx]);refine wpAnyH_take (i := 15) (v := undef) rfl (by kernel_rfl) (by kernel_rfl) (by kernel_rfl) (fun _ _ _ h => h) (Or.inr ⟨?_,rfl⟩) hH ?_
        · kernel_rfl
        (try simp only [sx]);refine wpAnyH_take (i := 16) (v := undef) rfl (by kernel_rfl) (by kernel_rfl) (by kernel_rfl) (fun _ _ _ h => h) (Or.inr ⟨?_,rfl⟩) hH ?_
        · kernel_rfl
        (try simp only [sx]);refine wpAnyH_take (i := 17) (v := undef) rfl (by kernel_rfl) (by kernel_rfl) (by kernel_rfl) (fun _ _ _ h => h) (Or.inr ⟨?_,rfl⟩) hH ?_
        · kernel_rfl
        (try simp only [sx]);refine wpAnyH_take (i := 18) (v := undef) rfl (by kernel_rfl) (by kernel_rfl) (by kernel_rfl) (fun _ _ _ h => h) (Or.inr ⟨?_,rfl⟩) hH ?_
        · kernel_rfl
        (try simp only [sx]);refine wpAnyH_take (i := 19) (v := undef) rfl (by kernel_rfl) (by kernel_rfl) (by kernel_rfl) (fun _ _ _ h => h) (Or.inr ⟨?_,rfl⟩) hH ?_
        · kernel_rfl
        (try simp only [sx]);refine wpAnyH_take (i := 20) (v := undef) rfl (by kernel_rfl) (by kernel_rfl) (by kernel_rfl) (fun _ _ _ h => h) (Or.inr ⟨?_,rfl⟩) hH ?_
        · kernel_rfl
        (try simp only [sx]);refine tkP 21 rfl (v := ?_) hH ?_;(try simp only [sx]);refine wpAnyH_done (by kernel_rfl) ?_ _;have S9 := S2;go_wp2_with fail
        go_meet
        exact ⟨by rw [hne]; rfl,S9.out⟩
      · have hne : (y != f) = true := by simpa using hyq
        clear hyq;have S1 := Lib.hid S.out.drew;refine wp_region_held_drew (S := (fun V => Sep w.heap.size w [eBlk sb 52 [.int .i64 c.1,.slice (some ⟨gt,ot,none⟩) c.2.length cp],eBlk mb 37 [.slice p.A1 m.a.al.length p.c1,.int .i64 m.a.n,.slice p.A2 m.a.mr.length p.c2,.slice p.A3 m.a.ed.length p.c3,.slice (some ⟨gb,ob2,none⟩) m.ac.length d,.int .i64 m.tk]] V)) (by kernel_rfl) ?_ (fun hH => ?_)
        · exact S1.out.pick [0,1] (by decide)
        generalize hwz : wc.drew = w1 at *;clear hwz;refine tkP 0 rfl (v := ?_) hH ?_;(try simp only [sx]);refine tkH 1 rfl (v := ?_) (by kernel_rfl) ?_ hH ?_;rotate_left
        · intro V hs_;have s1 := qkC hs_ 0 rfl 1 rfl;clear hs_;first | (go_simp; done) | (go_simp; with_reducible rfl)
        (try simp only [sx]);refine tkP 2 rfl (v := ?_) hH ?_;(try simp only [sx]);refine tkP 3 rfl (v := ?_) hH ?_;(try simp only [sx]);refine tkH 4 rfl (v := ?_) (by kernel_rfl) ?_ hH ?_;rotate_left
        · intro V hs_;have y1 := YC.out V (show Sep w.heap.size w _ V from hs_).below;clear hs_;first | (go_simp; done) | (go_simp; with_reducible rfl)
        (try simp only [sx]);refine tkH 5 rfl (v := ?_) (by kernel_rfl) ?_ hH ?_;rotate_left
        · intro V hs_;have b0 := qkC hs_ 1 rfl 0 rfl;have b1 := qkC hs_ 1 rfl 1 rfl;have b2 := qkC hs_ 1 rfl 2 rfl;have b3 := qkC hs_ 1 rfl 3 rfl;have b4 := qkC hs_ 1 rfl 4 rfl;have b5 := qkC hs_ 1 rfl 5 rfl;clear hs_;first | (go_simp; done) | (go_simp; with_reducible rfl)
        (try simp only [sx]);refine tkP 6 rfl (v := ?_) hH ?_;(try simp only [sx]);refine rdH 7 rfl fun K hK => ?_;go_simp;refine ((UC.out w1 S1.out.below)).mono ?_;rintro e w2 ⟨rfl,hb⟩;have S2 := Lib.hid (S1.out.next hb);clear hb;refine hK.out _ _ (S2.out.pick [0,1] (by decide)) fun hH => ?_;clear hK K;(try simp only [sx]);refine tkP 8 rfl (v := ?_) hH ?_;(try simp only [sx]);refine tkP 9 rfl (v := ?_) hH ?_;(try simp only [sx]);refine tkH 10 rfl (v := ?_) (by kernel_rfl) ?_ hH ?_;rotate_left
        · intro V hs_;have b0 := qkC hs_ 1 rfl 0 rfl;have b1 := qkC hs_ 1 rfl 1 rfl;have b2 := qkC hs_ 1 rfl 2 rfl;have b3 := qkC hs_ 1 rfl 3 rfl;have b4 := qkC hs_ 1 rfl 4 rfl;have b5 := qkC hs_ 1 rfl 5 rfl;clear hs_;first | (go_simp; done) | (go_simp; with_reducible rfl)
        (try simp only [sx]);refine tkP 11 rfl (v := ?_) hH ?_;(try simp only [sx]);refine tkH 12 rfl (v := ?_) (by kernel_rfl) ?_ hH ?_;rotate_left
        · intro V hs_;have s0 := qkC hs_ 0 rfl 0 rfl;clear hs_;first | (go_simp; done) | (go_simp; with_reducible rfl)
        (try simp only [sx]);refine tkP 13 rfl (v := ?_) hH ?_;(try simp only [sx]);refine tkH 14 rfl (v := ?_) (by kernel_rfl) ?_ hH ?_;rotate_left
        · intro V hs_;have b4 := qkC hs_ 1 rfl 4 rfl;clear hs_;first | (go_simp; done) | (go_simp; with_reducible rfl)
        (try simp only [sx]);refine tkP 15 rfl (v := ?_) hH ?_;(try simp only [sx]);refine tkP 16 rfl (v := ?_) hH ?_;(try simp only [sx]);refine tkP 17 rfl (v := ?_) hH ?_;(try simp only [sx]);refine tkH 18 rfl (v := ?_) (by kernel_rfl) ?_ hH ?_;rotate_left
        · intro V hs_;have x0 := ((HA.out.below (show Sep w.heap.size w _ V from hs_).below).ac.cell3 HX.out).1;clear hs_;first | (go_simp; done) | (go_simp; with_reducible rfl)
        (try simp only [sx]);refine rdH 19 rfl fun K hK => ?_;go_simp;refine ((PC.out w2 S2.out.below)).mono ?_;rintro e w3 ⟨rfl,hb⟩;have S3 := Lib.hid (S2.out.next hb);clear hb;refine hK.out _ _ (S3.out.pick [0,1] (by decide)) fun hH => ?_;clear hK K;(try simp only [sx]);refine tkP 20 rfl (v := ?_) hH ?_;(try simp only [sx]);refine tkP 21 rfl (v := ?_) hH ?_;(try simp only [sx]);refine wpAnyH_done (by kernel_rfl) ?_ _;have S9 := S3;go_wp2_with fail
        go_meet
        exact ⟨by rw [hne]; rfl,S9.out⟩
     case rest =>
      clear S;obtain ⟨rfl,S⟩ := hcut;obtain ⟨v,hv⟩ : ∃ v,v = ((y != f) && decide (z < 0)) := ⟨_,rfl⟩;rw [← hv];have HV := Lib.hid hv;clear hv;cases v
      · have e1 : stE1 m c k = 0 := by
         rw [E1.out,if_neg HY0.out,if_neg];rintro ⟨g1,g2⟩;have h1 : (y != f) = true := by simpa using g1
         have h2 : decide (z < 0) = true := by
          rw [HPR.out] at g2;have := of_decide_eq_false g2;exact decide_eq_true (by omega)
         have := HV.out;rw [h1,h2] at this; cases this
        have HE2 : Hid (stEk m c (k + 1) = 0) := by show (if stEk m c k = 0 then _ else _) = _; rw [if_pos HE.out,e1]
        clear e1;go_wp2_with fail
        go_roundw
        case rel => exact ⟨k + 1,by go_num,by omega,HE2.out,S.out⟩
        case measure => simp [intOf]; omega
      · have EB : Hid (stE m c = 6) := by
         have h1 : (y != f) = true ∧ decide (z < 0) = true := by
          have := HV.out.symm;simpa using this
         have e1 : stE1 m c k = 6 := by
          rw [E1.out,if_neg HY0.out,if_pos];refine ⟨by simpa using h1.1,?_⟩;rw [HPR.out];have := of_decide_eq_true h1.2;exact decide_eq_false (by omega)
         rw [Hid,EF.out (by rw [e1]; decide),e1]
        go_wp2_with fail
        go_ret
        exact ⟨by rw [EB.out]; rfl,S.out.below⟩
  · obtain rfl : k = m.ac.length := by omega
    have ST0 : Hid (stE m c = 0) := by rw [Hid,EK.out,HE.out]
    have hlc : c.2.length = m.ac.length := HLL.out;go_wp2_with fail
    go_ret
    exact ⟨by rw [ST0.out]; rfl,S.out.below⟩
theorem GivesEr.at {m : Md} {f : Int → Value} {w w' : World} {e : Ending} {r : Int} (h : GivesEr m f w e w') (hr : MErr m r) : e = .returned (f r) ∧ Below w.heap.size w w' := by
 obtain ⟨q,rfl,hq,hb⟩ := h;obtain rfl := hq.2.uniq hr;exact ⟨rfl,hb⟩
theorem sp_tick {m : Md} {c : Ck} {r : Int} (h : r = stE m c) : ∃ o : Option Ck,spP m c m.tk = (o,r) ∧ (r ≠ 0 → o = none) := by
 subst h;unfold spP
 by_cases h0 : stE m c = 0
 · rw [if_pos h0,if_pos (mem_all.2 (.inr rfl)),h0];exact ⟨_,rfl,fun h => absurd rfl h⟩
 · rw [if_neg h0];exact ⟨_,rfl,fun _ => rfl⟩
theorem enP_no {m : Md} {c : Ck} {r : Int} (h : r = stE m c) (h0 : r ≠ 0) : enP m c = [] := by subst h; unfold enP; rw [if_neg h0]
theorem urP_no {m : Md} {c : Ck} {r : Int} (h : r = stE m c) (h0 : r ≠ 0) : urP m c = [] := by subst h; unfold urP; rw [if_neg h0]
set_option maxHeartbeats 16000000 in
theorem lawChecks_c (m : Md) (P : MdP) (c : Ck) (AT : Option Addr) (cp : Nat) (WA : Option Addr) (wl wc : Nat) (w : World) (hI : m.a.al.length ≤ 6 ∧ m.a.mr.length ≤ 8 ∧ m.a.ed.length ≤ 12 → Md.At w m P) (hcap : m.a.al.length ≤ P.p.c1) (hT : IntsAt w AT c.2) :
 Calls Tryz.prog 4 #[.agg (m.cells P).toArray,.agg #[.int .i64 c.1,.slice AT c.2.length cp],.slice WA wl wc] w (Ret (.bool true) w) := by
 have HI := Lib.hid hI;have HT := Lib.hid hT;have HC := Lib.hid hcap;obtain ⟨p,B,d⟩ := P;dsimp only [Md.cells];clear hI hT hcap;go_enter Tryz.func4,Tryz.ntmps4
 obtain ⟨mb,hmb⟩ : ∃ g,g = w.heap.size := ⟨_,rfl⟩;obtain ⟨sb,hsb⟩ : ∃ g,g = w.heap.size + 1 := ⟨_,rfl⟩;go_upto_region 1 with fail
 rw [← hsb,← hmb];refine wp_world (fun W => (SepW w [eBlk sb 52 [.int .i64 c.1,.slice AT c.2.length cp],eBlk mb 37 [.slice p.A1 m.a.al.length p.c1,.int .i64 m.a.n,.slice p.A2 m.a.mr.length p.c2,.slice p.A3 m.a.ed.length p.c3,.slice B m.ac.length d,.int .i64 m.tk]] W)) (((Sep.here w).alloc' _ [_,_,_,_,_,_] rfl hmb).alloc' _ [_,_] rfl (by rw [hsb]; simp)) fun v1 S' => ?_;have T1 := Lib.hid S'.out;clear S' hmb hsb;go_wp2_with fail
 refine (knownT_c v1).mono ?_;rintro e2 v2 ⟨rfl,hb⟩;have T2 := Lib.hid (T1.out.next hb);clear hb T1;have f_mb0 := qkC T2.out 1 rfl 0 rfl;have f_mb1 := qkC T2.out 1 rfl 1 rfl;have f_mb2 := qkC T2.out 1 rfl 2 rfl;have f_mb3 := qkC T2.out 1 rfl 3 rfl;have f_mb4 := qkC T2.out 1 rfl 4 rfl;have f_mb5 := qkC T2.out 1 rfl 5 rfl;go_wp2_with fail
 refine (few44_c m ⟨p,B,d⟩ v2).mono ?_;rintro e3 v3 ⟨b,rfl,HF,hb⟩;have T3 := Lib.hid (T2.out.next hb);clear f_mb0 f_mb1 f_mb2 f_mb3 f_mb4 f_mb5 hb T2;cases b
 · clear HF;go_wp2_with fail
   refine (knownT_c v3).mono ?_;rintro e4 v4 ⟨rfl,hb⟩;have T4 := Lib.hid (T3.out.next hb);clear hb T3;go_wp2_with fail
   go_ret
   exact ⟨rfl,T4.out.below⟩
 have HA := Lib.hid (HI.out (HF.out rfl));clear HF HI;have f_sb0 := qkC T3.out 0 rfl 0 rfl;have f_sb1 := qkC T3.out 0 rfl 1 rfl;by_cases q1 : 8 < c.2.length
 · have e1 : decide (8 < (c.2.length : Int)) = true := by simp; omega
   clear q1;go_wp2_with fail
   refine (knownT_c v3).mono ?_;rintro e4 v4 ⟨rfl,hb⟩;have T4 := Lib.hid (T3.out.next hb);clear f_sb0 f_sb1 hb T3;go_wp2_with fail
   go_ret
   exact ⟨rfl,T4.out.below⟩
 have e1 : decide (8 < (c.2.length : Int)) = false := by simp; omega
 by_cases q2 : 6 < wl
 · have e2 : decide (6 < (wl : Int)) = true := by simp; omega
   clear q1 q2;go_wp2_with fail
   refine (knownT_c v3).mono ?_;rintro e4 v4 ⟨rfl,hb⟩;have T4 := Lib.hid (T3.out.next hb);clear f_sb0 f_sb1 hb T3;go_wp2_with fail
   go_ret
   exact ⟨rfl,T4.out.below⟩
 have e2 : decide (6 < (wl : Int)) = false := by simp; omega
 clear q1 q2;have f_mb0 := qkC T3.out 1 rfl 0 rfl;have f_mb1 := qkC T3.out 1 rfl 1 rfl;have f_mb2 := qkC T3.out 1 rfl 2 rfl;have f_mb3 := qkC T3.out 1 rfl 3 rfl;have f_mb4 := qkC T3.out 1 rfl 4 rfl;have f_mb5 := qkC T3.out 1 rfl 5 rfl;have CL := Lib.hid (checkL_c m ⟨p,B,d⟩ v3 (HA.out.below T3.out.below));go_wp2_with fail
 refine CL.out.mono ?_;intro e4 v4 hc;rcases hc.two with ⟨r,rfl,hr0,HR0,HR,hb⟩ | ⟨rfl,HR,hb⟩
 · have T4 := Lib.hid (T3.out.next hb);clear f_sb0 f_sb1 f_mb0 f_mb1 f_mb2 f_mb3 f_mb4 f_mb5 hb hc CL e1 e2 T3;have hr1 : (r != 0) = true := by simpa using hr0
   have hrr : (r != r) = false := by simp
   have hre : (r == r) = true := by simp
   have HN : Hid (¬ m.Ok) := HR.out.not HR0.out;have f_mb0 := qkC T4.out 1 rfl 0 rfl;have f_mb1 := qkC T4.out 1 rfl 1 rfl;have f_mb2 := qkC T4.out 1 rfl 2 rfl;have f_mb3 := qkC T4.out 1 rfl 3 rfl;have f_mb4 := qkC T4.out 1 rfl 4 rfl;have f_mb5 := qkC T4.out 1 rfl 5 rfl;have f_sb0 := qkC T4.out 0 rfl 0 rfl;have f_sb1 := qkC T4.out 0 rfl 1 rfl;go_wp2_with fail
   refine (enabledE_c m ⟨p,B,d⟩ c AT cp v4 HN.out (HA.out.below T4.out.below)).mono ?_;intro e5 v5 he;obtain ⟨rfl,hb⟩ := he.at HR.out;have T5 := Lib.hid (T4.out.next hb);clear f_mb0 f_mb1 f_mb2 f_mb3 f_mb4 f_mb5 f_sb0 f_sb1 hb he T4;have f_mb0 := qkC T5.out 1 rfl 0 rfl;have f_mb1 := qkC T5.out 1 rfl 1 rfl;have f_mb2 := qkC T5.out 1 rfl 2 rfl;have f_mb3 := qkC T5.out 1 rfl 3 rfl;have f_mb4 := qkC T5.out 1 rfl 4 rfl;have f_mb5 := qkC T5.out 1 rfl 5 rfl;have f_sb0 := qkC T5.out 0 rfl 0 rfl;have f_sb1 := qkC T5.out 0 rfl 1 rfl;go_wp2_with fail
   refine (urgentE_c m ⟨p,B,d⟩ c AT cp v5 HN.out (HA.out.below T5.out.below)).mono ?_;intro e6 v6 he;obtain ⟨rfl,hb⟩ := he.at HR.out;have T6 := Lib.hid (T5.out.next hb);clear f_mb0 f_mb1 f_mb2 f_mb3 f_mb4 f_mb5 f_sb0 f_sb1 hb he T5;have f_mb0 := qkC T6.out 1 rfl 0 rfl;have f_mb1 := qkC T6.out 1 rfl 1 rfl;have f_mb2 := qkC T6.out 1 rfl 2 rfl;have f_mb3 := qkC T6.out 1 rfl 3 rfl;have f_mb4 := qkC T6.out 1 rfl 4 rfl;have f_mb5 := qkC T6.out 1 rfl 5 rfl;have f_sb0 := qkC T6.out 0 rfl 0 rfl;have f_sb1 := qkC T6.out 0 rfl 1 rfl;go_wp2_with fail
   refine (stepE44_c m ⟨p,B,d⟩ c AT cp m.tk v6 HN.out (HA.out.below T6.out.below)).mono ?_;intro e7 v7 he;obtain ⟨rfl,hb⟩ := he.at HR.out;have T7 := Lib.hid (T6.out.next hb);clear f_mb0 f_mb1 f_mb2 f_mb3 f_mb4 f_mb5 f_sb0 f_sb1 hb he T6;obtain ⟨nb,hg8⟩ : ∃ g,g = v7.heap.size := ⟨_,rfl⟩;go_upto_region 10 with fail
   rw [← hg8];refine wp_world (fun V => (SepW w [eBlk nb 52 [.int .i64 0,.slice none 0 0],eBlk sb 52 [.int .i64 c.1,.slice AT c.2.length cp],eBlk mb 37 [.slice p.A1 m.a.al.length p.c1,.int .i64 m.a.n,.slice p.A2 m.a.mr.length p.c2,.slice p.A3 m.a.ed.length p.c3,.slice B m.ac.length d,.int .i64 m.tk]] V)) (T7.out.alloc' 52 [.int .i64 0,.slice none 0 0] rfl hg8) fun v8 S' => ?_;have T8 := Lib.hid S'.out;clear S' T7 hg8;have f_mb0 := qkC T8.out 2 rfl 0 rfl;have f_mb1 := qkC T8.out 2 rfl 1 rfl;have f_mb2 := qkC T8.out 2 rfl 2 rfl;have f_mb3 := qkC T8.out 2 rfl 3 rfl;have f_mb4 := qkC T8.out 2 rfl 4 rfl;have f_mb5 := qkC T8.out 2 rfl 5 rfl;go_wp2_with fail
   refine (checkE_c m ⟨p,B,d⟩ v8 HN.out (HA.out.below T8.out.below)).mono ?_;intro e9 v9 he;obtain ⟨rfl,hb⟩ := he.at HR.out;have T9 := Lib.hid (T8.out.next hb);clear f_mb0 f_mb1 f_mb2 f_mb3 f_mb4 f_mb5 hb he T8;have f_mb0 := qkC T9.out 2 rfl 0 rfl;have f_mb1 := qkC T9.out 2 rfl 1 rfl;have f_mb2 := qkC T9.out 2 rfl 2 rfl;have f_mb3 := qkC T9.out 2 rfl 3 rfl;have f_mb4 := qkC T9.out 2 rfl 4 rfl;have f_mb5 := qkC T9.out 2 rfl 5 rfl;have f_sb0 := qkC T9.out 1 rfl 0 rfl;have f_sb1 := qkC T9.out 1 rfl 1 rfl;go_wp2_with fail
   refine (checkStateE_c m ⟨p,B,d⟩ c AT cp v9 HN.out (HA.out.below T9.out.below)).mono ?_;intro e10 v10 he;obtain ⟨rfl,hb⟩ := he.at HR.out;have T10 := Lib.hid (T9.out.next hb);clear f_mb0 f_mb1 f_mb2 f_mb3 f_mb4 f_mb5 f_sb0 f_sb1 hb he T9;have f_nb0 := qkC T10.out 0 rfl 0 rfl;have f_nb1 := qkC T10.out 0 rfl 1 rfl;have f_mb0 := qkC T10.out 2 rfl 0 rfl;have f_mb1 := qkC T10.out 2 rfl 1 rfl;have f_mb2 := qkC T10.out 2 rfl 2 rfl;have f_mb3 := qkC T10.out 2 rfl 3 rfl;have f_mb4 := qkC T10.out 2 rfl 4 rfl;have f_mb5 := qkC T10.out 2 rfl 5 rfl;go_wp2_with fail
   refine (initialE_c m ⟨p,B,d⟩ v10 HN.out (HA.out.below T10.out.below)).mono ?_;intro e11 v11 he;obtain ⟨rfl,hb⟩ := he.at HR.out;have T11 := Lib.hid (T10.out.next hb);clear f_nb0 f_nb1 f_mb0 f_mb1 f_mb2 f_mb3 f_mb4 f_mb5 hb he T10;obtain ⟨ib,hg12⟩ : ∃ g,g = v11.heap.size := ⟨_,rfl⟩;go_upto_region 17 with fail
   rw [← hg12];refine wp_world (fun V => (SepW w [eBlk ib 52 [.int .i64 0,.slice none 0 0],eBlk nb 52 [.int .i64 0,.slice none 0 0],eBlk sb 52 [.int .i64 c.1,.slice AT c.2.length cp],eBlk mb 37 [.slice p.A1 m.a.al.length p.c1,.int .i64 m.a.n,.slice p.A2 m.a.mr.length p.c2,.slice p.A3 m.a.ed.length p.c3,.slice B m.ac.length d,.int .i64 m.tk]] V)) (T11.out.alloc' 52 [.int .i64 0,.slice none 0 0] rfl hg12) fun v12 S' => ?_;have T12 := Lib.hid S'.out;clear S' T11 hg12;have f_mb0 := qkC T12.out 3 rfl 0 rfl;have f_mb1 := qkC T12.out 3 rfl 1 rfl;have f_mb2 := qkC T12.out 3 rfl 2 rfl;have f_mb3 := qkC T12.out 3 rfl 3 rfl;have f_mb4 := qkC T12.out 3 rfl 4 rfl;have f_mb5 := qkC T12.out 3 rfl 5 rfl;go_wp2_with fail
   refine (timedE_c m ⟨p,B,d⟩ v12 HN.out (HA.out.below T12.out.below)).mono ?_;intro e13 v13 he;obtain ⟨rfl,hb⟩ := he.at HR.out;have T13 := Lib.hid (T12.out.next hb);clear f_mb0 f_mb1 f_mb2 f_mb3 f_mb4 f_mb5 hb he T12;obtain ⟨tb,hg14⟩ : ∃ g,g = v13.heap.size := ⟨_,rfl⟩;go_upto_region 18 with fail
   rw [← hg14];refine wp_world (fun V => (SepW w [eBlk tb 34 [.slice none 0 0,.int .i64 0,.slice none 0 0,.slice none 0 0],eBlk ib 52 [.int .i64 0,.slice none 0 0],eBlk nb 52 [.int .i64 0,.slice none 0 0],eBlk sb 52 [.int .i64 c.1,.slice AT c.2.length cp],eBlk mb 37 [.slice p.A1 m.a.al.length p.c1,.int .i64 m.a.n,.slice p.A2 m.a.mr.length p.c2,.slice p.A3 m.a.ed.length p.c3,.slice B m.ac.length d,.int .i64 m.tk]] V)) (T13.out.alloc' 34 [.slice none 0 0,.int .i64 0,.slice none 0 0,.slice none 0 0] rfl hg14) fun v14 S' => ?_;have T14 := Lib.hid S'.out;clear S' T13 hg14;have f_mb0 := qkC T14.out 4 rfl 0 rfl;have f_mb1 := qkC T14.out 4 rfl 1 rfl;have f_mb2 := qkC T14.out 4 rfl 2 rfl;have f_mb3 := qkC T14.out 4 rfl 3 rfl;have f_mb4 := qkC T14.out 4 rfl 4 rfl;have f_mb5 := qkC T14.out 4 rfl 5 rfl;go_wp2_with fail
   refine (untimedE_c m ⟨p,B,d⟩ v14 HN.out (HA.out.below T14.out.below)).mono ?_;intro e15 v15 he;obtain ⟨rfl,hb⟩ := he.at HR.out;have T15 := Lib.hid (T14.out.next hb);clear f_mb0 f_mb1 f_mb2 f_mb3 f_mb4 f_mb5 hb he T14;obtain ⟨ub,hg16⟩ : ∃ g,g = v15.heap.size := ⟨_,rfl⟩;go_upto_region 19 with fail
   rw [← hg16];refine wp_world (fun V => (SepW w [eBlk ub 34 [.slice none 0 0,.int .i64 0,.slice none 0 0,.slice none 0 0],eBlk tb 34 [.slice none 0 0,.int .i64 0,.slice none 0 0,.slice none 0 0],eBlk ib 52 [.int .i64 0,.slice none 0 0],eBlk nb 52 [.int .i64 0,.slice none 0 0],eBlk sb 52 [.int .i64 c.1,.slice AT c.2.length cp],eBlk mb 37 [.slice p.A1 m.a.al.length p.c1,.int .i64 m.a.n,.slice p.A2 m.a.mr.length p.c2,.slice p.A3 m.a.ed.length p.c3,.slice B m.ac.length d,.int .i64 m.tk]] V)) (T15.out.alloc' 34 [.slice none 0 0,.int .i64 0,.slice none 0 0,.slice none 0 0] rfl hg16) fun v16 S' => ?_;have T16 := Lib.hid S'.out;clear S' T15 hg16;have f_mb0 := qkC T16.out 5 rfl 0 rfl;have f_mb1 := qkC T16.out 5 rfl 1 rfl;have f_mb2 := qkC T16.out 5 rfl 2 rfl;have f_mb3 := qkC T16.out 5 rfl 3 rfl;have f_mb4 := qkC T16.out 5 rfl 4 rfl;have f_mb5 := qkC T16.out 5 rfl 5 rfl;go_wp2_with fail
   refine (relaxedE_c m ⟨p,B,d⟩ v16 HN.out (HA.out.below T16.out.below)).mono ?_;intro e17 v17 he;obtain ⟨rfl,hb⟩ := he.at HR.out;have T17 := Lib.hid (T16.out.next hb);clear f_mb0 f_mb1 f_mb2 f_mb3 f_mb4 f_mb5 hb he T16;obtain ⟨rb,hg18⟩ : ∃ g,g = v17.heap.size := ⟨_,rfl⟩;go_upto_region 20 with fail
   rw [← hg18];refine wp_world (fun V => (SepW w [eBlk rb 37 [.slice none 0 0,.int .i64 0,.slice none 0 0,.slice none 0 0,.slice none 0 0,.int .i64 0],eBlk ub 34 [.slice none 0 0,.int .i64 0,.slice none 0 0,.slice none 0 0],eBlk tb 34 [.slice none 0 0,.int .i64 0,.slice none 0 0,.slice none 0 0],eBlk ib 52 [.int .i64 0,.slice none 0 0],eBlk nb 52 [.int .i64 0,.slice none 0 0],eBlk sb 52 [.int .i64 c.1,.slice AT c.2.length cp],eBlk mb 37 [.slice p.A1 m.a.al.length p.c1,.int .i64 m.a.n,.slice p.A2 m.a.mr.length p.c2,.slice p.A3 m.a.ed.length p.c3,.slice B m.ac.length d,.int .i64 m.tk]] V)) (T17.out.alloc' 37 [.slice none 0 0,.int .i64 0,.slice none 0 0,.slice none 0 0,.slice none 0 0,.int .i64 0] rfl hg18) fun v18 S' => ?_;have T18 := Lib.hid S'.out;clear S' T17 hg18;have f_mb0 := qkC T18.out 6 rfl 0 rfl;have f_mb1 := qkC T18.out 6 rfl 1 rfl;have f_mb2 := qkC T18.out 6 rfl 2 rfl;have f_mb3 := qkC T18.out 6 rfl 3 rfl;have f_mb4 := qkC T18.out 6 rfl 4 rfl;have f_mb5 := qkC T18.out 6 rfl 5 rfl;go_wp2_with fail
   refine (kindsE_c m ⟨p,B,d⟩ v18 HN.out (HA.out.below T18.out.below)).mono ?_;intro e19 v19 he;obtain ⟨rfl,hb⟩ := he.at HR.out;have T19 := Lib.hid (T18.out.next hb);clear f_mb0 f_mb1 f_mb2 f_mb3 f_mb4 f_mb5 hb he T18;have f_mb0 := qkC T19.out 6 rfl 0 rfl;have f_mb1 := qkC T19.out 6 rfl 1 rfl;have f_mb2 := qkC T19.out 6 rfl 2 rfl;have f_mb3 := qkC T19.out 6 rfl 3 rfl;have f_mb4 := qkC T19.out 6 rfl 4 rfl;have f_mb5 := qkC T19.out 6 rfl 5 rfl;go_wp2_with fail
   refine (durationE_c m ⟨p,B,d⟩ WA wl wc v19 HN.out (HA.out.below T19.out.below)).mono ?_;intro e20 v20 he;obtain ⟨rfl,hb⟩ := he.at HR.out;have T20 := Lib.hid (T19.out.next hb);clear f_mb0 f_mb1 f_mb2 f_mb3 f_mb4 f_mb5 hb he T19;have f_mb0 := qkC T20.out 6 rfl 0 rfl;have f_mb1 := qkC T20.out 6 rfl 1 rfl;have f_mb2 := qkC T20.out 6 rfl 2 rfl;have f_mb3 := qkC T20.out 6 rfl 3 rfl;have f_mb4 := qkC T20.out 6 rfl 4 rfl;have f_mb5 := qkC T20.out 6 rfl 5 rfl;go_wp2_with fail
   refine (loopE_c m ⟨p,B,d⟩ v20 HN.out (HA.out.below T20.out.below)).mono ?_;intro e21 v21 he;obtain ⟨rfl,hb⟩ := he.at HR.out;have T21 := Lib.hid (T20.out.next hb);clear f_mb0 f_mb1 f_mb2 f_mb3 f_mb4 f_mb5 hb he T20;have f_ib0 := qkC T21.out 3 rfl 0 rfl;have f_ib1 := qkC T21.out 3 rfl 1 rfl;have f_ub0 := qkC T21.out 1 rfl 0 rfl;have f_ub1 := qkC T21.out 1 rfl 1 rfl;have f_ub2 := qkC T21.out 1 rfl 2 rfl;have f_ub3 := qkC T21.out 1 rfl 3 rfl;have f_rb0 := qkC T21.out 0 rfl 0 rfl;have f_rb1 := qkC T21.out 0 rfl 1 rfl;have f_rb2 := qkC T21.out 0 rfl 2 rfl;have f_rb3 := qkC T21.out 0 rfl 3 rfl;have f_rb4 := qkC T21.out 0 rfl 4 rfl;have f_rb5 := qkC T21.out 0 rfl 5 rfl;go_wp2_with fail
   go_ret
   exact ⟨rfl,T21.out.below⟩
 have T4 := Lib.hid (T3.out.next hb);clear f_sb0 f_sb1 f_mb0 f_mb1 f_mb2 f_mb3 f_mb4 f_mb5 hb hc CL e1 e2 T3;have HM : Hid m.Ok := HR.out.ok;obtain ⟨r,hr⟩ : ∃ r,r = stE m c := ⟨_,rfl⟩;obtain ⟨L1,hL1⟩ : ∃ l,l = enP m c := ⟨_,rfl⟩;obtain ⟨L2,hL2⟩ : ∃ l,l = urP m c := ⟨_,rfl⟩;obtain ⟨o,ho,ho0⟩ := sp_tick hr;have SL : Hid (∀ W : World,Below w.heap.size w W → Calls Tryz.prog 14 #[.agg #[.slice p.A1 m.a.al.length p.c1,.int .i64 m.a.n,.slice p.A2 m.a.mr.length p.c2,.slice p.A3 m.a.ed.length p.c3,.slice B m.ac.length d,.int .i64 m.tk],.agg #[.int .i64 c.1,.slice AT c.2.length cp]] W (Ret (.int .i64 r) W)) := fun W hb => by rw [hr]; exact checkStateL_c m ⟨p,B,d⟩ c AT cp W HM.out (HA.out.below hb) (HT.out.below IntE.stays hb)
 have EN : Hid (∀ W : World,Below w.heap.size w W → Calls Tryz.prog 15 #[.agg #[.slice p.A1 m.a.al.length p.c1,.int .i64 m.a.n,.slice p.A2 m.a.mr.length p.c2,.slice p.A3 m.a.ed.length p.c3,.slice B m.ac.length d,.int .i64 m.tk],.agg #[.int .i64 c.1,.slice AT c.2.length cp]] W (GivesLE L1 r W)) := fun W hb => by rw [hr,hL1]; exact enabledP_c m ⟨p,B,d⟩ c AT cp W HM.out (HA.out.below hb) (HT.out.below IntE.stays hb) HC.out
 have UR : Hid (∀ W : World,Below w.heap.size w W → Calls Tryz.prog 16 #[.agg #[.slice p.A1 m.a.al.length p.c1,.int .i64 m.a.n,.slice p.A2 m.a.mr.length p.c2,.slice p.A3 m.a.ed.length p.c3,.slice B m.ac.length d,.int .i64 m.tk],.agg #[.int .i64 c.1,.slice AT c.2.length cp]] W (GivesLE L2 r W)) := fun W hb => by rw [hr,hL2]; exact urgentP_c m ⟨p,B,d⟩ c AT cp W HM.out (HA.out.below hb) (HT.out.below IntE.stays hb)
 have SP : Hid (∀ W : World,Below w.heap.size w W → Calls Tryz.prog 17 #[.agg #[.slice p.A1 m.a.al.length p.c1,.int .i64 m.a.n,.slice p.A2 m.a.mr.length p.c2,.slice p.A3 m.a.ed.length p.c3,.slice B m.ac.length d,.int .i64 m.tk],.agg #[.int .i64 c.1,.slice AT c.2.length cp],.int .i64 m.tk] W (GivesSE (o,r) W)) := fun W hb => by rw [← ho]; exact stepP_c m ⟨p,B,d⟩ c m.tk AT cp W HM.out (HA.out.below hb) (HT.out.below IntE.stays hb) HC.out
 have CK : Hid (∀ W : World,Below w.heap.size w W → Calls Tryz.prog 18 #[.agg #[.slice p.A1 m.a.al.length p.c1,.int .i64 m.a.n,.slice p.A2 m.a.mr.length p.c2,.slice p.A3 m.a.ed.length p.c3,.slice B m.ac.length d,.int .i64 m.tk]] W (Ret (.int .i64 0) W)) := fun W hb => by exact check44_c m ⟨p,B,d⟩ W HM.out (HA.out.below hb)
 have CS : Hid (∀ W : World,Below w.heap.size w W → Calls Tryz.prog 19 #[.agg #[.slice p.A1 m.a.al.length p.c1,.int .i64 m.a.n,.slice p.A2 m.a.mr.length p.c2,.slice p.A3 m.a.ed.length p.c3,.slice B m.ac.length d,.int .i64 m.tk],.agg #[.int .i64 c.1,.slice AT c.2.length cp]] W (Ret (.int .i64 r) W)) := fun W hb => by rw [hr]; exact checkState_c m ⟨p,B,d⟩ c AT cp W HM.out (HA.out.below hb) (HT.out.below IntE.stays hb)
 have HL1 : Hid (r ≠ 0 → L1 = []) := fun h => by rw [hL1]; exact enP_no hr h
 have HL2 : Hid (r ≠ 0 → L2 = []) := fun h => by rw [hL2]; exact urP_no hr h
 have HO : Hid (r ≠ 0 → o = none) := ho0;clear hL1 hL2 ho ho0 hr HR;by_cases h0 : r = 0
 · subst h0;clear HL1 HL2 HO;have f_mb0 := qkC T4.out 1 rfl 0 rfl;have f_mb1 := qkC T4.out 1 rfl 1 rfl;have f_mb2 := qkC T4.out 1 rfl 2 rfl;have f_mb3 := qkC T4.out 1 rfl 3 rfl;have f_mb4 := qkC T4.out 1 rfl 4 rfl;have f_mb5 := qkC T4.out 1 rfl 5 rfl;have f_sb0 := qkC T4.out 0 rfl 0 rfl;have f_sb1 := qkC T4.out 0 rfl 1 rfl;go_wp2_with fail
   refine (SL.out v4 T4.out.below).mono ?_;rintro e5 v5 ⟨rfl,hb⟩;have T5 := Lib.hid (T4.out.next hb);clear f_mb0 f_mb1 f_mb2 f_mb3 f_mb4 f_mb5 f_sb0 f_sb1 hb T4;have f_mb0 := qkC T5.out 1 rfl 0 rfl;have f_mb1 := qkC T5.out 1 rfl 1 rfl;have f_mb2 := qkC T5.out 1 rfl 2 rfl;have f_mb3 := qkC T5.out 1 rfl 3 rfl;have f_mb4 := qkC T5.out 1 rfl 4 rfl;have f_mb5 := qkC T5.out 1 rfl 5 rfl;have f_sb0 := qkC T5.out 0 rfl 0 rfl;have f_sb1 := qkC T5.out 0 rfl 1 rfl;go_wp2_with fail
   refine (EN.out v5 T5.out.below).mono ?_;rintro e6 v6 ⟨A1,c1,rfl,T⟩;have T6 := qkN T5.out T.out;clear f_mb0 f_mb1 f_mb2 f_mb3 f_mb4 f_mb5 f_sb0 f_sb1 T T5;have f_mb0 := qkC T6.out 2 rfl 0 rfl;have f_mb1 := qkC T6.out 2 rfl 1 rfl;have f_mb2 := qkC T6.out 2 rfl 2 rfl;have f_mb3 := qkC T6.out 2 rfl 3 rfl;have f_mb4 := qkC T6.out 2 rfl 4 rfl;have f_mb5 := qkC T6.out 2 rfl 5 rfl;have f_sb0 := qkC T6.out 1 rfl 0 rfl;have f_sb1 := qkC T6.out 1 rfl 1 rfl;go_wp2_with fail
   refine (UR.out v6 T6.out.below).mono ?_;rintro e7 v7 ⟨A2,c2,rfl,T⟩;have T7 := qkN T6.out T.out;clear f_mb0 f_mb1 f_mb2 f_mb3 f_mb4 f_mb5 f_sb0 f_sb1 T T6;have f_mb0 := qkC T7.out 3 rfl 0 rfl;have f_mb1 := qkC T7.out 3 rfl 1 rfl;have f_mb2 := qkC T7.out 3 rfl 2 rfl;have f_mb3 := qkC T7.out 3 rfl 3 rfl;have f_mb4 := qkC T7.out 3 rfl 4 rfl;have f_mb5 := qkC T7.out 3 rfl 5 rfl;have f_sb0 := qkC T7.out 2 rfl 0 rfl;have f_sb1 := qkC T7.out 2 rfl 1 rfl;go_wp2_with fail
   refine (SP.out v7 T7.out.below).mono ?_;rintro e8 v8 ⟨A3,c3,rfl,T⟩;have T8 := qkN T7.out T.out;clear f_mb0 f_mb1 f_mb2 f_mb3 f_mb4 f_mb5 f_sb0 f_sb1 T T7;dsimp only
   obtain ⟨c9,hc9⟩ : ∃ c9,c9 = o.getD (0,[]) := ⟨_,rfl⟩;obtain ⟨b9,hb9⟩ : ∃ b9,b9 = o.isSome := ⟨_,rfl⟩;rw [← hc9,← hb9];clear hc9 hb9;obtain ⟨nb,hg9⟩ : ∃ g,g = v8.heap.size := ⟨_,rfl⟩;go_upto_region 10 with fail
   rw [← hg9];refine wp_world (fun V => (SepW w [eBlk nb 52 [.int .i64 c9.1,.slice A3 c9.2.length c3],eInts ((o,(0 : Int)).1.getD (0,[])).2 (.slice A3 ((o,(0 : Int)).1.getD (0,[])).2.length c3),eInts L2 (.slice A2 (L2 : List Int).length c2),eInts L1 (.slice A1 (L1 : List Int).length c1),eBlk sb 52 [.int .i64 c.1,.slice AT c.2.length cp],eBlk mb 37 [.slice p.A1 m.a.al.length p.c1,.int .i64 m.a.n,.slice p.A2 m.a.mr.length p.c2,.slice p.A3 m.a.ed.length p.c3,.slice B m.ac.length d,.int .i64 m.tk]] V)) (T8.out.alloc' 52 [.int .i64 c9.1,.slice A3 c9.2.length c3] rfl hg9) fun v9 S' => ?_;have T9 := Lib.hid S'.out;clear S' T8 hg9;have f_mb0 := qkC T9.out 5 rfl 0 rfl;have f_mb1 := qkC T9.out 5 rfl 1 rfl;have f_mb2 := qkC T9.out 5 rfl 2 rfl;have f_mb3 := qkC T9.out 5 rfl 3 rfl;have f_mb4 := qkC T9.out 5 rfl 4 rfl;have f_mb5 := qkC T9.out 5 rfl 5 rfl;go_wp2_with fail
   refine (CK.out v9 T9.out.below).mono ?_;rintro e10 v10 ⟨rfl,hb⟩;have T10 := Lib.hid (T9.out.next hb);clear f_mb0 f_mb1 f_mb2 f_mb3 f_mb4 f_mb5 hb T9;have f_mb0 := qkC T10.out 5 rfl 0 rfl;have f_mb1 := qkC T10.out 5 rfl 1 rfl;have f_mb2 := qkC T10.out 5 rfl 2 rfl;have f_mb3 := qkC T10.out 5 rfl 3 rfl;have f_mb4 := qkC T10.out 5 rfl 4 rfl;have f_mb5 := qkC T10.out 5 rfl 5 rfl;have f_sb0 := qkC T10.out 4 rfl 0 rfl;have f_sb1 := qkC T10.out 4 rfl 1 rfl;go_wp2_with fail
   refine (CS.out v10 T10.out.below).mono ?_;rintro e11 v11 ⟨rfl,hb⟩;have T11 := Lib.hid (T10.out.next hb);clear f_mb0 f_mb1 f_mb2 f_mb3 f_mb4 f_mb5 f_sb0 f_sb1 hb T10;have f_nb0 := qkC T11.out 0 rfl 0 rfl;have f_nb1 := qkC T11.out 0 rfl 1 rfl;go_wp2_with fail
   go_ret
   exact ⟨rfl,T11.out.below⟩
 · obtain rfl := HL1.out h0;obtain rfl := HL2.out h0;obtain rfl := HO.out h0;have hr1 : (r != 0) = true := by simpa using h0
   have hr2 : (r == 0) = false := by simpa using h0
   have hrr : (r != r) = false := by simp
   clear h0 HL1 HL2 HO;have f_mb0 := qkC T4.out 1 rfl 0 rfl;have f_mb1 := qkC T4.out 1 rfl 1 rfl;have f_mb2 := qkC T4.out 1 rfl 2 rfl;have f_mb3 := qkC T4.out 1 rfl 3 rfl;have f_mb4 := qkC T4.out 1 rfl 4 rfl;have f_mb5 := qkC T4.out 1 rfl 5 rfl;have f_sb0 := qkC T4.out 0 rfl 0 rfl;have f_sb1 := qkC T4.out 0 rfl 1 rfl;go_wp2_with fail
   refine (SL.out v4 T4.out.below).mono ?_;rintro e5 v5 ⟨rfl,hb⟩;have T5 := Lib.hid (T4.out.next hb);clear f_mb0 f_mb1 f_mb2 f_mb3 f_mb4 f_mb5 f_sb0 f_sb1 hb T4;have f_mb0 := qkC T5.out 1 rfl 0 rfl;have f_mb1 := qkC T5.out 1 rfl 1 rfl;have f_mb2 := qkC T5.out 1 rfl 2 rfl;have f_mb3 := qkC T5.out 1 rfl 3 rfl;have f_mb4 := qkC T5.out 1 rfl 4 rfl;have f_mb5 := qkC T5.out 1 rfl 5 rfl;have f_sb0 := qkC T5.out 0 rfl 0 rfl;have f_sb1 := qkC T5.out 0 rfl 1 rfl;go_wp2_with fail
   refine (EN.out v5 T5.out.below).mono ?_;rintro e6 v6 ⟨A1,c1,rfl,T⟩;have T6 := qkN T5.out T.out;clear f_mb0 f_mb1 f_mb2 f_mb3 f_mb4 f_mb5 f_sb0 f_sb1 T T5;simp only [List.length_nil];have f_mb0 := qkC T6.out 2 rfl 0 rfl;have f_mb1 := qkC T6.out 2 rfl 1 rfl;have f_mb2 := qkC T6.out 2 rfl 2 rfl;have f_mb3 := qkC T6.out 2 rfl 3 rfl;have f_mb4 := qkC T6.out 2 rfl 4 rfl;have f_mb5 := qkC T6.out 2 rfl 5 rfl;have f_sb0 := qkC T6.out 1 rfl 0 rfl;have f_sb1 := qkC T6.out 1 rfl 1 rfl;go_wp2_with fail
   refine (UR.out v6 T6.out.below).mono ?_;rintro e7 v7 ⟨A2,c2,rfl,T⟩;have T7 := qkN T6.out T.out;clear f_mb0 f_mb1 f_mb2 f_mb3 f_mb4 f_mb5 f_sb0 f_sb1 T T6;simp only [List.length_nil];have f_mb0 := qkC T7.out 3 rfl 0 rfl;have f_mb1 := qkC T7.out 3 rfl 1 rfl;have f_mb2 := qkC T7.out 3 rfl 2 rfl;have f_mb3 := qkC T7.out 3 rfl 3 rfl;have f_mb4 := qkC T7.out 3 rfl 4 rfl;have f_mb5 := qkC T7.out 3 rfl 5 rfl;have f_sb0 := qkC T7.out 2 rfl 0 rfl;have f_sb1 := qkC T7.out 2 rfl 1 rfl;go_wp2_with fail
   refine (SP.out v7 T7.out.below).mono ?_;rintro e8 v8 ⟨A3,c3,rfl,T⟩;have T8 := qkN T7.out T.out;clear f_mb0 f_mb1 f_mb2 f_mb3 f_mb4 f_mb5 f_sb0 f_sb1 T T7;simp only [Option.getD_none,Option.isSome_none,List.length_nil];obtain ⟨nb,hg9⟩ : ∃ g,g = v8.heap.size := ⟨_,rfl⟩;go_upto_region 10 with fail
   rw [← hg9];refine wp_world (fun V => (SepW w [eBlk nb 52 [.int .i64 0,.slice A3 0 c3],eInts (((none : Option Ck),(r : Int)).1.getD (0,[])).2 (.slice A3 (((none : Option Ck),(r : Int)).1.getD (0,[])).2.length c3),eInts [] (.slice A2 ([] : List Int).length c2),eInts [] (.slice A1 ([] : List Int).length c1),eBlk sb 52 [.int .i64 c.1,.slice AT c.2.length cp],eBlk mb 37 [.slice p.A1 m.a.al.length p.c1,.int .i64 m.a.n,.slice p.A2 m.a.mr.length p.c2,.slice p.A3 m.a.ed.length p.c3,.slice B m.ac.length d,.int .i64 m.tk]] V)) (T8.out.alloc' 52 [.int .i64 0,.slice A3 0 c3] rfl hg9) fun v9 S' => ?_;have T9 := Lib.hid S'.out;clear S' T8 hg9;have f_mb0 := qkC T9.out 5 rfl 0 rfl;have f_mb1 := qkC T9.out 5 rfl 1 rfl;have f_mb2 := qkC T9.out 5 rfl 2 rfl;have f_mb3 := qkC T9.out 5 rfl 3 rfl;have f_mb4 := qkC T9.out 5 rfl 4 rfl;have f_mb5 := qkC T9.out 5 rfl 5 rfl;go_wp2_with fail
   refine (CK.out v9 T9.out.below).mono ?_;rintro e10 v10 ⟨rfl,hb⟩;have T10 := Lib.hid (T9.out.next hb);clear f_mb0 f_mb1 f_mb2 f_mb3 f_mb4 f_mb5 hb T9;have f_mb0 := qkC T10.out 5 rfl 0 rfl;have f_mb1 := qkC T10.out 5 rfl 1 rfl;have f_mb2 := qkC T10.out 5 rfl 2 rfl;have f_mb3 := qkC T10.out 5 rfl 3 rfl;have f_mb4 := qkC T10.out 5 rfl 4 rfl;have f_mb5 := qkC T10.out 5 rfl 5 rfl;have f_sb0 := qkC T10.out 4 rfl 0 rfl;have f_sb1 := qkC T10.out 4 rfl 1 rfl;go_wp2_with fail
   refine (CS.out v10 T10.out.below).mono ?_;rintro e11 v11 ⟨rfl,hb⟩;have T11 := Lib.hid (T10.out.next hb);clear f_mb0 f_mb1 f_mb2 f_mb3 f_mb4 f_mb5 f_sb0 f_sb1 hb T10;have f_nb0 := qkC T11.out 0 rfl 0 rfl;have f_nb1 := qkC T11.out 0 rfl 1 rfl;go_wp2_with fail
   go_ret
   exact ⟨rfl,T11.out.below⟩
end Go.Proofs.YtimdepdbcdbikaaGreat
