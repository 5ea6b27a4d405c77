/-
  What the row leans on.
-/
import Derived.Test.YtjjifefanjnghaaBas01
import Derived.Test.YtjjifefanjnghaaIwx07
import Derived.Test.YtjjifefanjnghaaIwx06
set_option linter.unusedSimpArgs false
set_option linter.unusedVariables false
namespace Go.Proofs.Ytjjifefanjnghaa
open Go.RowKit
set_option maxRecDepth 100000
section
attribute [local go_sem] Oper.semAt_some

theorem swap8_c (i p q : Int) (w : World) : Calls Try.prog 51 #[.int .i64 i,.int .i64 p,.int .i64 q] w (Ret (.int .i64 (swV p q i)) w) := by
 by_cases h1 : i = p
 · have h1' : (i == p) = true := by simpa using h1
   have e : Hid (swV p q i = q) := by simp [Hid,swV,h1]
   clear h1;go_enter Try.func51,Try.ntmps51
   go_wp2_with fail
   go_ret
   exact ⟨ret_int e.out.symm,Below.refl _ _⟩
 · have h1' : (i == p) = false := by simpa using h1
   by_cases h2 : i = q
   · have h2' : (i == q) = true := by simpa using h2
     have e : Hid (swV p q i = p) := by rw [Hid,swV,if_neg h1,if_pos h2]
     clear h1 h2;go_enter Try.func51,Try.ntmps51
     go_wp2_with fail
     go_ret
     exact ⟨ret_int e.out.symm,Below.refl _ _⟩
   · have h2' : (i == q) = false := by simpa using h2
     have e : Hid (swV p q i = i) := by rw [Hid,swV,if_neg h1,if_neg h2]
     clear h1 h2;go_enter Try.func51,Try.ntmps51
     go_wp2_with fail
     go_ret
     exact ⟨ret_int e.out.symm,Below.refl _ _⟩
def GivesSw (a : Au) (pa : AuP) (p q : Int) (w : World) (e : Ending) (w' : World) : Prop := ∃ (A2 A3 : Option Addr) (c2 c3 : Nat),e = .returned ((swA a p q).val ⟨pa.A1,pa.c1,A2,c2,A3,c3⟩) ∧ (SepW w [eInts (swA a p q).mr (.slice A2 (swA a p q).mr.length c2),eEds (swA a p q).ed (.slice A3 (swA a p q).ed.length c3)] w')
theorem exM_len {a : Au} (hr : a.Right) (p q : Int) (k : Nat) : (exM a p q k).length ≤ k := by
 have h := rises_len (n := k) (l := exM a p q k) (fun i j x y hij hx hy => pw_rises (exM_rises hr p q k) i j x y hij hx hy) (fun x hx => by have := mem_exM.1 hx; omega);exact h
theorem mr_len {a : Au} (hr : a.Right) : a.mr.length ≤ 4096 := by
 have h := rises_len (n := a.n.toNat) (l := a.mr) hr.mr.incr (fun x hx => by have := hr.mem hx; omega);have := hr.n1;omega
theorem exEi_len (p q : Int) (i : Nat) (l : List Ed) : (exEi p q i l).length ≤ l.length := by
 have := List.length_filter_le (fun y : Ed => decide (y.src = swV p q i)) l;simpa [exEi] using this
theorem exE_len (a : Au) (p q : Int) : ∀ k,(exE a p q k).length ≤ k * a.ed.length
 | 0 => by simp [exE]
 | k + 1 => by
   have h1 := exE_len a p q k;have h2 := exEi_len p q k a.ed;rw [exE_next,List.length_append,Nat.succ_mul];omega
set_option maxHeartbeats 8000000 in
theorem exchanged8_c (a : Au) (pa : AuP) (p q : Int) (w : World) (hr : a.Right) (hA : Au.At w a pa) (hn : a.n ≤ 100) (he : a.ed.length ≤ 1000) :
 Calls Try.prog 32 #[a.val pa,.int .i64 p,.int .i64 q] w (GivesSw a pa p q w) := by
 have n0 := hr.n0;have HR := Lib.hid hr;have HA := Lib.hid hA;obtain ⟨al,n,mr,ed⟩ := a;obtain ⟨A1,c1,A2,c2,A3,c3⟩ := pa;(try dsimp only [Au.val] at *);clear hr hA;obtain ⟨N,rfl⟩ := Int.eq_ofNat_of_zero_le n0;have hN : N ≤ 100 := by omega
 have HLM : Hid (∀ k,(exM ⟨al,↑N,mr,ed⟩ p q k).length ≤ k) := exM_len HR.out p q;have HLE : Hid (∀ k,(exE ⟨al,↑N,mr,ed⟩ p q k).length ≤ k * ed.length) := exE_len _ p q;clear hn n0;have hml : mr.length ≤ 4096 := mr_len HR.out;have hel : ed.length ≤ 1000 := he;go_enter Try.func32,Try.ntmps32
 go_upto_region 1 with fail
 refine wp_world (fun W => W.heap.size = w.heap.size + 2 ∧ Sep w.heap.size w [eBlk (w.heap.size + 1) 25 [.slice none 0 0,.int .i64 0,.slice none 0 0,.slice none 0 0],eBlk w.heap.size 25 [.slice A1 al.length c1,.int .i64 ↑N,.slice A2 mr.length c2,.slice A3 ed.length c3]] W) ?_ fun W S => ?_
 · exact ⟨by simp,((Sep.here w).alloc' _ [_,_,_,_] rfl rfl).alloc' _ [_,_,_,_] rfl (by simp)⟩
 obtain ⟨z0,S⟩ := S;have S0 := Lib.hid S;clear S;have a0 := BlkAt.cell (S0.out.get 1 rfl) 0; have a1 := BlkAt.cell (S0.out.get 1 rfl) 1; have a2 := BlkAt.cell (S0.out.get 1 rfl) 2; have a3 := BlkAt.cell (S0.out.get 1 rfl) 3; simp only [List.getElem?_cons_succ,List.getElem?_cons_zero] at a0 a1 a2 a3;go_upto_region 2 with fail
 refine wp_world (fun W => Sep w.heap.size w [eInts (exM ⟨al,↑N,mr,ed⟩ p q 0) (.slice none 0 0),eEds (exE ⟨al,↑N,mr,ed⟩ p q 0) (.slice none 0 0),eBlk (w.heap.size + 2) 25 [.slice A1 al.length c1,.int .i64 ↑N,(.slice none 0 0),(.slice none 0 0)],eBlk (w.heap.size + 1) 25 [.slice none 0 0,.int .i64 0,.slice none 0 0,.slice none 0 0],eBlk w.heap.size 25 [.slice A1 al.length c1,.int .i64 ↑N,.slice A2 mr.length c2,.slice A3 ed.length c3]] W) ?_ fun W1 S => ?_
 · exact ((S0.out.alloc' 25 [_,_,_,_] rfl (g := w.heap.size + 2) (by omega)).nilOwn Ed.cells 3 70).nilOwn encI 1 3
 have S1 := Lib.hid S;clear S S0 a0 a1 a2 a3 z0;go_wp2_with fail
 go_loopw [8] (fun v wr => ∃ (k : Nat) (vM vE : Value),v = .int .i64 ↑k ∧ k ≤ N ∧ (SepW w [eInts (exM ⟨al,↑N,mr,ed⟩ p q k) vM,eEds (exE ⟨al,↑N,mr,ed⟩ p q k) vE,eBlk (w.heap.size + 2) 25 [.slice A1 al.length c1,.int .i64 ↑N,vM,vE],eBlk (w.heap.size + 1) 25 [.slice none 0 0,.int .i64 0,.slice none 0 0,.slice none 0 0],eBlk w.heap.size 25 [.slice A1 al.length c1,.int .i64 ↑N,.slice A2 mr.length c2,.slice A3 ed.length c3]] wr)) (fun v _ => N - (intOf v).toNat)
 case atStart => exact ⟨0,_,_,rfl,Nat.zero_le _,S1.out⟩
 case round =>
  clear S1;obtain ⟨k,vM,vE,rfl,hk,S⟩ := hrel;have a0 := BlkAt.cell (S.out.get 4 rfl) 0; have a1 := BlkAt.cell (S.out.get 4 rfl) 1; have a2 := BlkAt.cell (S.out.get 4 rfl) 2; have a3 := BlkAt.cell (S.out.get 4 rfl) 3; simp only [List.getElem?_cons_succ,List.getElem?_cons_zero] at a0 a1 a2 a3;by_cases hlt : k < N
  · have hlt' : decide ((k : Int) < (N : Int)) = true := decide_eq_true (by omega);obtain ⟨x,hx⟩ : ∃ x,swV p q k = x := ⟨_,rfl⟩;have HX := Lib.hid hx;clear hx;go_wp2_with fail
    refine (swap8_c (k : Int) p q wr).mono ?_;rintro e w2 ⟨rfl,hb⟩;rw [HX.out];have S2 : (SepW w [eInts (exM ⟨al,↑N,mr,ed⟩ p q k ++ exMi ⟨al,↑N,mr,ed⟩ p q k (mr.take 0)) vM,eEds (exE ⟨al,↑N,mr,ed⟩ p q k) vE,eBlk (w.heap.size + 2) 25 [.slice A1 al.length c1,.int .i64 ↑N,vM,vE],eBlk (w.heap.size + 1) 25 [.slice none 0 0,.int .i64 0,.slice none 0 0,.slice none 0 0],eBlk w.heap.size 25 [.slice A1 al.length c1,.int .i64 ↑N,.slice A2 mr.length c2,.slice A3 ed.length c3]] w2) := by
     have h := S.out.next hb;have e : exMi ⟨al,↑N,mr,ed⟩ p q k (mr.take 0) = [] := rfl;rw [e,List.append_nil]; exact h
    clear hb S a0 a1 a2 a3;have a0 := BlkAt.cell (S2.out.get 4 rfl) 0; have a1 := BlkAt.cell (S2.out.get 4 rfl) 1; have a2 := BlkAt.cell (S2.out.get 4 rfl) 2; have a3 := BlkAt.cell (S2.out.get 4 rfl) 3; simp only [List.getElem?_cons_succ,List.getElem?_cons_zero] at a0 a1 a2 a3;go_wp2_with fail
    go_loopw [32] (fun v wr => ∃ (j : Nat) (vM : Value),v = .int .i64 ↑j ∧ j ≤ mr.length ∧ (SepW w [eInts (exM ⟨al,↑N,mr,ed⟩ p q k ++ exMi ⟨al,↑N,mr,ed⟩ p q k (mr.take j)) vM,eEds (exE ⟨al,↑N,mr,ed⟩ p q k) vE,eBlk (w.heap.size + 2) 25 [.slice A1 al.length c1,.int .i64 ↑N,vM,vE],eBlk (w.heap.size + 1) 25 [.slice none 0 0,.int .i64 0,.slice none 0 0,.slice none 0 0],eBlk w.heap.size 25 [.slice A1 al.length c1,.int .i64 ↑N,.slice A2 mr.length c2,.slice A3 ed.length c3]] wr)) (fun v _ => mr.length - (intOf v).toNat)
    case atStart => exact ⟨0,vM,rfl,Nat.zero_le _,S2.out⟩
    case round =>
     clear S2 a0 a1 a2 a3;obtain ⟨j,vM,rfl,hj,S⟩ := hrel;by_cases hjl : j < mr.length
     · have hjl' : decide ((j : Int) < (mr.length : Int)) = true := decide_eq_true (by omega);obtain ⟨gW,oW,m,rfl,hgw,hm,hmc⟩ := IntsAt.at (HA.out.mr.below IntE.stays S.out.below) hjl;have HT : Hid (exMi ⟨al,↑N,mr,ed⟩ p q k (mr.take (j + 1)) = if m = x then exMi ⟨al,↑N,mr,ed⟩ p q k (mr.take j) ++ [(k : Int)] else exMi ⟨al,↑N,mr,ed⟩ p q k (mr.take j)) := by
        have hT : mr.take (j + 1) = mr.take j ++ [m] := by rw [List.take_add_one,hm]; rfl
        rw [Hid,hT,exMi_snoc,HX.out]
       clear hm;by_cases hmx : m = x
       · have hmx' : (m == x) = true := by simpa using hmx
         rw [if_pos hmx] at HT;clear hmx;obtain ⟨L,hL⟩ : ∃ l,exM ⟨al,↑N,mr,ed⟩ p q k ++ exMi ⟨al,↑N,mr,ed⟩ p q k (mr.take j) = l := ⟨_,rfl⟩;have HL1 : Hid (exM ⟨al,↑N,mr,ed⟩ p q k ++ exMi ⟨al,↑N,mr,ed⟩ p q k (mr.take (j + 1)) = L ++ [(k : Int)]) := by rw [Hid,HT.out,← List.append_assoc,hL]
         have hLl : L.length ≤ 1000000 := by
          rw [← hL,List.length_append];have h1 := HLM.out k;have h2 : (exMi ⟨al,↑N,mr,ed⟩ p q k (mr.take j)).length ≤ mr.length := by
           have h3 := List.length_filter_le (fun m : Int => decide (m = swV p q k)) (mr.take j);have h4 : (mr.take j).length ≤ mr.length := by rw [List.length_take]; omega
           simp only [exMi,List.length_map];omega
          omega
         rw [hL] at S;clear hL HT;obtain ⟨M2,m2,rfl⟩ := S.out.form 0 rfl;have b2 := ckC S.out 2 rfl 2 rfl;go_wp2_with (at_builtin; refine wpList_pushS rfl _ _ 22 rfl (S.out.alloc 3 [.int .i64 ↑k]) 1 rfl Try.underlying22 _ 8 intInfo rfl (by decide) rfl (k : Int) _ rfl rfl (one_cell _ _ [_] _ rfl) (encI_one _) (by omega) (by decide) ?_)
         intro A5 c5 w6 S9 _;have S10 := Lib.hid S9.drop1;clear S9 b2 S;have b2 := ckC S10.out 2 rfl 2 rfl;have f2 := BlkAt.free (S10.out.get 2 rfl) 2;go_wp2_with fail
         go_roundw
         case rel => exact ⟨j + 1,_,by go_num,hjl,by rw [HL1.out]; exact S10.out.set 2 rfl 2 _⟩
         case measure => simp [intOf]; omega
       · have hmx' : (m == x) = false := by simpa using hmx
         rw [if_neg hmx] at HT;clear hmx;go_wp2_with fail
         go_roundw
         case rel => exact ⟨j + 1,vM,by go_num,hjl,by rw [HT.out]; exact S.out⟩
         case measure => simp [intOf]; omega
     · obtain rfl : j = mr.length := by omega
       have hjl' : decide ((mr.length : Int) < (mr.length : Int)) = false := decide_eq_false (by omega);have S3 : (SepW w [eInts (exM ⟨al,↑N,mr,ed⟩ p q (k + 1)) vM,eEds (exE ⟨al,↑N,mr,ed⟩ p q k ++ exEi p q k (ed.take 0)) vE,eBlk (w.heap.size + 2) 25 [.slice A1 al.length c1,.int .i64 ↑N,vM,vE],eBlk (w.heap.size + 1) 25 [.slice none 0 0,.int .i64 0,.slice none 0 0,.slice none 0 0],eBlk w.heap.size 25 [.slice A1 al.length c1,.int .i64 ↑N,.slice A2 mr.length c2,.slice A3 ed.length c3]] wr) := by
        have h := S.out;rw [List.take_length] at h;have e : exEi p q k (ed.take 0) = [] := rfl;rw [e,List.append_nil,exM_next]; exact h
       clear S;have a0 := BlkAt.cell (S3.out.get 4 rfl) 0; have a1 := BlkAt.cell (S3.out.get 4 rfl) 1; have a2 := BlkAt.cell (S3.out.get 4 rfl) 2; have a3 := BlkAt.cell (S3.out.get 4 rfl) 3; simp only [List.getElem?_cons_succ,List.getElem?_cons_zero] at a0 a1 a2 a3;go_wp2_with fail
       go_loopw [49] (fun v wr => ∃ (j : Nat) (vE : Value),v = .int .i64 ↑j ∧ j ≤ ed.length ∧ (SepW w [eInts (exM ⟨al,↑N,mr,ed⟩ p q (k + 1)) vM,eEds (exE ⟨al,↑N,mr,ed⟩ p q k ++ exEi p q k (ed.take j)) vE,eBlk (w.heap.size + 2) 25 [.slice A1 al.length c1,.int .i64 ↑N,vM,vE],eBlk (w.heap.size + 1) 25 [.slice none 0 0,.int .i64 0,.slice none 0 0,.slice none 0 0],eBlk w.heap.size 25 [.slice A1 al.length c1,.int .i64 ↑N,.slice A2 mr.length c2,.slice A3 ed.length c3]] wr)) (fun v _ => ed.length - (intOf v).toNat)
       case atStart => exact ⟨0,vE,rfl,Nat.zero_le _,S3.out⟩
       case round =>
        clear S3 a0 a1 a2 a3;obtain ⟨j,vE,rfl,hj,S⟩ := hrel;by_cases hjl : j < ed.length
        · have hjl' : decide ((j : Int) < (ed.length : Int)) = true := decide_eq_true (by omega);obtain ⟨gE,oE,y,rfl,hge,hy,y0,y1,y2⟩ := EdE.cells3 (HA.out.ed.below EdE.stays S.out.below) hjl;obtain ⟨src,ev,dst⟩ := y;dsimp only at y0 y1 y2;have HT : Hid (exEi p q k (ed.take (j + 1)) = if src = x then exEi p q k (ed.take j) ++ [⟨(k : Int),ev,swV p q dst⟩] else exEi p q k (ed.take j)) := by
           have hT : ed.take (j + 1) = ed.take j ++ [⟨src,ev,dst⟩] := by rw [List.take_add_one,hy]; rfl
           rw [Hid,hT,exEi_snoc,HX.out]
          clear hy;obtain ⟨by',hby⟩ : ∃ b,b = wr.heap.size := ⟨_,rfl⟩;have hsx : (src == x) = decide (src = x) := rfl;obtain ⟨LM,hLM⟩ : ∃ l,exM ⟨al,↑N,mr,ed⟩ p q (k + 1) = l := ⟨_,rfl⟩;rw [hLM] at S;obtain ⟨LE,hL⟩ : ∃ l,exE ⟨al,↑N,mr,ed⟩ p q k ++ exEi p q k (ed.take j) = l := ⟨_,rfl⟩;have hLl : LE.length ≤ 1000000 := by
           rw [← hL,List.length_append];have h1 := HLE.out k;have h2 := exEi_len p q k (ed.take j);have h4 : (ed.take j).length ≤ ed.length := by rw [List.length_take]; omega
           have h5 : k * ed.length ≤ 100 * 1000 := Nat.mul_le_mul (by omega) he;omega
          rw [hL] at S;obtain ⟨ME,mE,rfl⟩ := S.out.form 1 rfl;go_upto_region 15 with fail
          rw [← hby];refine wp_world (fun V => Sep w.heap.size w [eInts LM vM,eEds LE (.slice ME LE.length mE),eBlk (w.heap.size + 2) 25 [.slice A1 al.length c1,.int .i64 ↑N,vM,(.slice ME LE.length mE)],eBlk by' 70 [.int .i64 src,.int .i64 ev,.int .i64 dst],eBlk (w.heap.size + 1) 25 [.slice none 0 0,.int .i64 0,.slice none 0 0,.slice none 0 0],eBlk w.heap.size 25 [.slice A1 al.length c1,.int .i64 ↑N,.slice A2 mr.length c2,.slice (some ⟨gE,oE,none⟩) ed.length c3]] V) ?_ fun W5 S' => ?_
          · exact (S.out.alloc' 70 [.int .i64 src,.int .i64 ev,.int .i64 dst] rfl hby).pick [1,2,3,0,4,5] (by decide)
          have S5 := Lib.hid S';clear S' S hby y0 y1 y2;have y0 := BlkAt.cell (S5.out.get 3 rfl) 0; have y1 := BlkAt.cell (S5.out.get 3 rfl) 1; have y2 := BlkAt.cell (S5.out.get 3 rfl) 2; simp only [List.getElem?_cons_succ,List.getElem?_cons_zero] at y0 y1 y2;by_cases hmx : src = x
          · have hmx' : (src == x) = true := by simpa using hmx
            rw [if_pos hmx] at HT;have HL1 : Hid (exE ⟨al,↑N,mr,ed⟩ p q k ++ exEi p q k (ed.take (j + 1)) = LE ++ [⟨(k : Int),ev,swV p q dst⟩]) := by rw [Hid,HT.out,← List.append_assoc,hL]
            have HLM' := Lib.hid hLM;clear hmx HT hL hsx hLM;go_upto_region 16 with fail
            have S1 := Lib.hid S5.out.drew;refine wp_region_held_drew (S := (fun _ => True)) (by kernel_rfl) ?_ (fun hH => ?_)
            · trivial
            generalize hwz : W5.drew = w1 at *;clear hwz;rw [show Array.replicate _ false = #[false,false,false,false,false,false,false,false,false,false,false,false,false,false,false] from rfl];refine tkP 0 rfl (v := ?_) hH ?_;(try simp only [sx]);refine tkP 2 rfl (v := ?_) hH ?_;(try simp only [sx]);refine tkP 3 rfl (v := ?_) hH ?_;(try simp only [sx]);refine tkP 5 rfl (v := ?_) hH ?_;(try simp only [sx]);refine tkP 7 rfl (v := ?_) hH ?_;(try simp only [sx]);refine tkP 8 rfl (v := ?_) hH ?_;(try simp only [sx]);refine act_name ?_;intro A0 hA0;obtain ⟨F,hF⟩ : ∃ F : Value → Value → Value → Value → Value → Value → Value → Value → Act,Hid (∀ x58 x61 x63 x66 x67 x68 x69 x70,F x58 x61 x63 x66 x67 x68 x69 x70 = ((((((((A0.put (some 58) x58).put (some 61) x61).put (some 63) x63).put (some 66) x66).put (some 67) x67).put (some 68) x68).put (some 69) x69).put (some 70) x70)) := ⟨fun x58 x61 x63 x66 x67 x68 x69 x70 => ((((((((A0.put (some 58) x58).put (some 61) x61).put (some 63) x63).put (some 66) x66).put (some 67) x67).put (some 68) x68).put (some 69) x69).put (some 70) x70),fun _ _ _ _ _ _ _ _ => rfl⟩;subst hA0;unfold Hid at hF
            simp only [List.getElem_toArray,List.getElem_cons_zero,List.getElem_cons_succ,Act.put,List.setIfInBounds_toArray,List.set_cons_zero,List.set_cons_succ] at hF;have HF := Lib.hid hF;clear hF
            obtain ⟨INV,hI⟩ : ∃ I : Array Bool → Act → World → Prop,Hid (∀ l_ a_ W_,I l_ a_ W_ ↔ ∃ (fb1 fb4 fb6 fb9 fb10 fb11 fb12 fb13 fb14 : Bool) (x58 x61 x63 x66 x67 x68 x69 x70 : Value) (E_nb E_ed E_out : Ent),l_ = #[true,fb1,true,true,fb4,true,fb6,true,true,fb9,fb10,fb11,fb12,fb13,fb14] ∧ a_ = F x58 x61 x63 x66 x67 x68 x69 x70 ∧ (SepW w [E_nb,E_ed,E_out,eInts LM vM,eBlk by' 70 [.int .i64 src,.int .i64 ev,.int .i64 dst],eBlk (w.heap.size + 1) 25 [.slice none 0 0,.int .i64 0,.slice none 0 0,.slice none 0 0],eBlk w.heap.size 25 [.slice A1 al.length c1,.int .i64 ↑N,.slice A2 mr.length c2,.slice (some ⟨gE,oE,none⟩) ed.length c3]] W_) ∧ True ∧ Hid (fb9 = true → fb6 = true) ∧ Hid (fb10 = true → fb4 = true) ∧ Hid (fb10 = true → fb9 = true) ∧ Hid (fb11 = true → fb10 = true) ∧ Hid (fb12 = true → fb1 = true) ∧ Hid (fb12 = true → fb11 = true) ∧ Hid (fb13 = true → fb12 = true) ∧ Hid (fb14 = true → fb13 = true) ∧ Hid (fb1 = true → x58 = .slice ME LE.length mE) ∧ Hid (fb4 = true → x61 = .int .i64 ev) ∧ Hid (fb6 = true → x63 = .int .i64 dst) ∧ Hid (fb9 = true → x66 = .int .i64 (swV p q dst)) ∧ Hid (fb10 = true → x67 = .agg #[.int .i64 ↑k,.int .i64 ev,.int .i64 (swV p q dst)]) ∧ Hid (fb13 = true → x70 = .pointer (some ⟨w.heap.size + 2,3,none⟩)) ∧ Hid (fb11 = false → E_nb = eNo) ∧ Hid (fb11 = true → ∃ g,x68 = .slice (some ⟨g,0,none⟩) 1 1 ∧ E_nb = eBlk g 70 [.int .i64 ↑k,.int .i64 ev,.int .i64 (swV p q dst)]) ∧ Hid (fb12 = false → E_ed = eEds LE (.slice ME LE.length mE)) ∧ Hid (fb12 = true → ∃ A c,x69 = .slice A (LE.length + 1) c ∧ E_ed = eEds (LE ++ [⟨(k : Int),ev,swV p q dst⟩]) (.slice A (LE.length + 1) c)) ∧ Hid (fb14 = false → E_out = eBlk (w.heap.size + 2) 25 [.slice A1 al.length c1,.int .i64 ↑N,vM,(.slice ME LE.length mE)]) ∧ Hid (fb14 = true → ∃ A c,x69 = .slice A (LE.length + 1) c ∧ E_out = eBlk (w.heap.size + 2) 25 [.slice A1 al.length c1,.int .i64 ↑N,vM,(.slice A (LE.length + 1) c)])) := ⟨_,fun _ _ _ => Iff.rfl⟩
            refine wpAnyH_inv (INV := INV) (D := [[],[0],[],[],[3],[],[5],[],[],[6,7,8],[2,4,9],[10],[1,9,11],[0,1,2,3,4,5,6,7,8,9,10,11,12],[0,1,2,3,4,5,6,7,8,9,10,11,12,13]]) [1,4,6,9,10,11,12,13,14] (by kernel_rfl) (fun l_ a_ W_ h => ?_) (fun l_ a_ W_ h => ?_) (fun l_ a_ W_ h hall => ?_) ?_ _ _ _ _ (by decide) ?_
            · obtain ⟨fb1,fb4,fb6,fb9,fb10,fb11,fb12,fb13,fb14,x58,x61,x63,x66,x67,x68,x69,x70,E_nb,E_ed,E_out,rfl,rfl,S_,_,mf6_9,mf4_10,mf9_10,mf10_11,mf1_12,mf11_12,mf12_13,mf13_14,cf1,cf4,cf6,cf9,cf10,cf13,d_nb,d_nb0,d_ed,d_ed0,d_out,d_out0⟩ := (hI.out _ _ _).1 h;trivial
            · obtain ⟨fb1,fb4,fb6,fb9,fb10,fb11,fb12,fb13,fb14,x58,x61,x63,x66,x67,x68,x69,x70,E_nb,E_ed,E_out,rfl,rfl,S_,_,mf6_9,mf4_10,mf9_10,mf10_11,mf1_12,mf11_12,mf12_13,mf13_14,cf1,cf4,cf6,cf9,cf10,cf13,d_nb,d_nb0,d_ed,d_ed0,d_out,d_out0⟩ := (hI.out _ _ _).1 h;rfl
            · obtain ⟨fb1,fb4,fb6,fb9,fb10,fb11,fb12,fb13,fb14,x58,x61,x63,x66,x67,x68,x69,x70,E_nb,E_ed,E_out,rfl,rfl,S_,_,mf6_9,mf4_10,mf9_10,mf10_11,mf1_12,mf11_12,mf12_13,mf13_14,cf1,cf4,cf6,cf9,cf10,cf13,d_nb,d_nb0,d_ed,d_ed0,d_out,d_out0⟩ := (hI.out _ _ _).1 h;obtain rfl : fb1 = true := hall 1 (by decide);obtain rfl : fb4 = true := hall 4 (by decide);obtain rfl : fb6 = true := hall 6 (by decide);obtain rfl : fb9 = true := hall 9 (by decide);obtain rfl : fb10 = true := hall 10 (by decide);obtain rfl : fb11 = true := hall 11 (by decide);obtain rfl : fb12 = true := hall 12 (by decide);obtain rfl : fb13 = true := hall 13 (by decide);obtain rfl : fb14 = true := hall 14 (by decide);clear hall h hI INV;rw [HF.out];clear HF F;obtain rfl := cf1.out rfl;obtain rfl := cf4.out rfl;obtain rfl := cf6.out rfl;obtain rfl := cf9.out rfl;obtain rfl := cf10.out rfl;obtain rfl := cf13.out rfl;have v_nb := d_nb0.out rfl;have v_ed := d_ed0.out rfl;have v_out := d_out0.out rfl;clear mf6_9 mf4_10 mf9_10 mf10_11 mf1_12 mf11_12 mf12_13 mf13_14 cf1 cf4 cf6 cf9 cf10 cf13 d_nb d_nb0 d_ed d_ed0 d_out d_out0;obtain ⟨A,c,rfl,rfl⟩ := v_ed;obtain ⟨A',c',h2,rfl⟩ := v_out;simp only [Value.slice.injEq,true_and] at h2;obtain ⟨rfl,rfl⟩ := h2;have S9 := S_;go_wp2_with fail
              go_roundw
              case rel => exact ⟨j + 1,_,by go_num,hjl,by rw [HL1.out,HLM'.out]; exact S9.out.pick [3,1,2,5,6] (by decide)⟩
              case measure => simp [intOf]; omega
            · clear hH S1;refine StepsI.cons rfl (fun l_ a_ W_ h hf hd K hK => ?_) (StepsI.cons rfl (fun l_ a_ W_ h hf hd K hK => ?_) (StepsI.cons rfl (fun l_ a_ W_ h hf hd K hK => ?_) (StepsI.cons rfl (fun l_ a_ W_ h hf hd K hK => ?_) (StepsI.cons rfl (fun l_ a_ W_ h hf hd K hK => ?_) (StepsI.cons rfl (fun l_ a_ W_ h hf hd K hK => ?_) (StepsI.cons rfl (fun l_ a_ W_ h hf hd K hK => ?_) (StepsI.cons rfl (fun l_ a_ W_ h hf hd K hK => ?_) (StepsI.cons rfl (fun l_ a_ W_ h hf hd K hK => ?_) (StepsI.nil)))))))))
              · obtain ⟨fb1,fb4,fb6,fb9,fb10,fb11,fb12,fb13,fb14,x58,x61,x63,x66,x67,x68,x69,x70,E_nb,E_ed,E_out,rfl,rfl,S_,_,mf6_9,mf4_10,mf9_10,mf10_11,mf1_12,mf11_12,mf12_13,mf13_14,cf1,cf4,cf6,cf9,cf10,cf13,d_nb,d_nb0,d_ed,d_ed0,d_out,d_out0⟩ := (hI.out _ _ _).1 h;obtain rfl : fb1 = false := hf;clear h;obtain rfl : fb12 = false := by cases fb12 with | false => rfl | true => exact nomatch (mf1_12.out rfl)
                obtain rfl : fb13 = false := by cases fb13 with | false => rfl | true => exact nomatch (mf12_13.out rfl)
                obtain rfl : fb14 = false := by cases fb14 with | false => rfl | true => exact nomatch (mf13_14.out rfl)
                clear hd;rw [HF.out];have v_ed := d_ed.out rfl;have v_out := d_out.out rfl;obtain rfl := v_out;have z3 := ckC S_.out 2 rfl 3 rfl;go_simp;(try simp only [sx]);refine hK.out _ _ ((hI.out _ _ _).2 ⟨true,fb4,fb6,fb9,fb10,fb11,false,false,false,_,_,_,_,_,_,_,_,_,_,_,rfl,(HF.out _ _ _ _ _ _ _ _).symm,S_,trivial,mf6_9,mf4_10,mf9_10,mf10_11,(fun _ => rfl),(fun h => nomatch h),(fun h => nomatch h),(fun h => nomatch h),(fun _ => rfl),cf4,cf6,cf9,cf10,(fun h => nomatch h),d_nb,d_nb0,d_ed,(fun h => nomatch h),d_out,(fun h => nomatch h)⟩)
              · obtain ⟨fb1,fb4,fb6,fb9,fb10,fb11,fb12,fb13,fb14,x58,x61,x63,x66,x67,x68,x69,x70,E_nb,E_ed,E_out,rfl,rfl,S_,_,mf6_9,mf4_10,mf9_10,mf10_11,mf1_12,mf11_12,mf12_13,mf13_14,cf1,cf4,cf6,cf9,cf10,cf13,d_nb,d_nb0,d_ed,d_ed0,d_out,d_out0⟩ := (hI.out _ _ _).1 h;obtain rfl : fb4 = false := hf;clear h;obtain rfl : fb10 = false := by cases fb10 with | false => rfl | true => exact nomatch (mf4_10.out rfl)
                obtain rfl : fb11 = false := by cases fb11 with | false => rfl | true => exact nomatch (mf10_11.out rfl)
                obtain rfl : fb12 = false := by cases fb12 with | false => rfl | true => exact nomatch (mf11_12.out rfl)
                obtain rfl : fb13 = false := by cases fb13 with | false => rfl | true => exact nomatch (mf12_13.out rfl)
                obtain rfl : fb14 = false := by cases fb14 with | false => rfl | true => exact nomatch (mf13_14.out rfl)
                clear hd;rw [HF.out];have v_nb := d_nb.out rfl;have v_ed := d_ed.out rfl;have v_out := d_out.out rfl;have z1 := ckC S_.out 4 rfl 1 rfl;go_simp;(try simp only [sx]);refine hK.out _ _ ((hI.out _ _ _).2 ⟨fb1,true,fb6,fb9,false,false,false,false,false,_,_,_,_,_,_,_,_,_,_,_,rfl,(HF.out _ _ _ _ _ _ _ _).symm,S_,trivial,mf6_9,(fun _ => rfl),(fun h => nomatch h),(fun h => nomatch h),(fun h => nomatch h),(fun h => nomatch h),(fun h => nomatch h),(fun h => nomatch h),cf1,(fun _ => rfl),cf6,cf9,(fun h => nomatch h),(fun h => nomatch h),d_nb,(fun h => nomatch h),d_ed,(fun h => nomatch h),d_out,(fun h => nomatch h)⟩)
              · obtain ⟨fb1,fb4,fb6,fb9,fb10,fb11,fb12,fb13,fb14,x58,x61,x63,x66,x67,x68,x69,x70,E_nb,E_ed,E_out,rfl,rfl,S_,_,mf6_9,mf4_10,mf9_10,mf10_11,mf1_12,mf11_12,mf12_13,mf13_14,cf1,cf4,cf6,cf9,cf10,cf13,d_nb,d_nb0,d_ed,d_ed0,d_out,d_out0⟩ := (hI.out _ _ _).1 h;obtain rfl : fb6 = false := hf;clear h;obtain rfl : fb9 = false := by cases fb9 with | false => rfl | true => exact nomatch (mf6_9.out rfl)
                obtain rfl : fb10 = false := by cases fb10 with | false => rfl | true => exact nomatch (mf9_10.out rfl)
                obtain rfl : fb11 = false := by cases fb11 with | false => rfl | true => exact nomatch (mf10_11.out rfl)
                obtain rfl : fb12 = false := by cases fb12 with | false => rfl | true => exact nomatch (mf11_12.out rfl)
                obtain rfl : fb13 = false := by cases fb13 with | false => rfl | true => exact nomatch (mf12_13.out rfl)
                obtain rfl : fb14 = false := by cases fb14 with | false => rfl | true => exact nomatch (mf13_14.out rfl)
                clear hd;rw [HF.out];have v_nb := d_nb.out rfl;have v_ed := d_ed.out rfl;have v_out := d_out.out rfl;have z2 := ckC S_.out 4 rfl 2 rfl;go_simp;(try simp only [sx]);refine hK.out _ _ ((hI.out _ _ _).2 ⟨fb1,fb4,true,false,false,false,false,false,false,_,_,_,_,_,_,_,_,_,_,_,rfl,(HF.out _ _ _ _ _ _ _ _).symm,S_,trivial,(fun _ => rfl),(fun h => nomatch h),(fun h => nomatch h),(fun h => nomatch h),(fun h => nomatch h),(fun h => nomatch h),(fun h => nomatch h),(fun h => nomatch h),cf1,cf4,(fun _ => rfl),(fun h => nomatch h),(fun h => nomatch h),(fun h => nomatch h),d_nb,(fun h => nomatch h),d_ed,(fun h => nomatch h),d_out,(fun h => nomatch h)⟩)
              · obtain ⟨fb1,fb4,fb6,fb9,fb10,fb11,fb12,fb13,fb14,x58,x61,x63,x66,x67,x68,x69,x70,E_nb,E_ed,E_out,rfl,rfl,S_,_,mf6_9,mf4_10,mf9_10,mf10_11,mf1_12,mf11_12,mf12_13,mf13_14,cf1,cf4,cf6,cf9,cf10,cf13,d_nb,d_nb0,d_ed,d_ed0,d_out,d_out0⟩ := (hI.out _ _ _).1 h;obtain rfl : fb9 = false := hf;clear h;obtain rfl : fb6 = true := hd 6 (by decide);obtain rfl : fb10 = false := by cases fb10 with | false => rfl | true => exact nomatch (mf9_10.out rfl)
                obtain rfl : fb11 = false := by cases fb11 with | false => rfl | true => exact nomatch (mf10_11.out rfl)
                obtain rfl : fb12 = false := by cases fb12 with | false => rfl | true => exact nomatch (mf11_12.out rfl)
                obtain rfl : fb13 = false := by cases fb13 with | false => rfl | true => exact nomatch (mf12_13.out rfl)
                obtain rfl : fb14 = false := by cases fb14 with | false => rfl | true => exact nomatch (mf13_14.out rfl)
                clear hd;rw [HF.out];obtain rfl := cf6.out rfl;have v_nb := d_nb.out rfl;have v_ed := d_ed.out rfl;have v_out := d_out.out rfl;go_simp;refine (swap8_c dst p q W_).mono ?_;rintro e_ W2 ⟨rfl,hb⟩;have S2 := Lib.hid (S_.out.next hb);clear hb;(try simp only [sx]);refine hK.out _ _ ((hI.out _ _ _).2 ⟨fb1,fb4,true,true,false,false,false,false,false,_,_,_,_,_,_,_,_,_,_,_,rfl,(HF.out _ _ _ _ _ _ _ _).symm,S2,trivial,(fun _ => rfl),(fun h => nomatch h),(fun _ => rfl),(fun h => nomatch h),(fun h => nomatch h),(fun h => nomatch h),(fun h => nomatch h),(fun h => nomatch h),cf1,cf4,cf6,(fun _ => rfl),(fun h => nomatch h),(fun h => nomatch h),d_nb,(fun h => nomatch h),d_ed,(fun h => nomatch h),d_out,(fun h => nomatch h)⟩)
              · obtain ⟨fb1,fb4,fb6,fb9,fb10,fb11,fb12,fb13,fb14,x58,x61,x63,x66,x67,x68,x69,x70,E_nb,E_ed,E_out,rfl,rfl,S_,_,mf6_9,mf4_10,mf9_10,mf10_11,mf1_12,mf11_12,mf12_13,mf13_14,cf1,cf4,cf6,cf9,cf10,cf13,d_nb,d_nb0,d_ed,d_ed0,d_out,d_out0⟩ := (hI.out _ _ _).1 h;obtain rfl : fb10 = false := hf;clear h;obtain rfl : fb4 = true := hd 4 (by decide);obtain rfl : fb9 = true := hd 9 (by decide);obtain rfl : fb6 = true := mf6_9.out rfl;obtain rfl : fb11 = false := by cases fb11 with | false => rfl | true => exact nomatch (mf10_11.out rfl)
                obtain rfl : fb12 = false := by cases fb12 with | false => rfl | true => exact nomatch (mf11_12.out rfl)
                obtain rfl : fb13 = false := by cases fb13 with | false => rfl | true => exact nomatch (mf12_13.out rfl)
                obtain rfl : fb14 = false := by cases fb14 with | false => rfl | true => exact nomatch (mf13_14.out rfl)
                clear hd;rw [HF.out];obtain rfl := cf4.out rfl;obtain rfl := cf6.out rfl;obtain rfl := cf9.out rfl;have v_nb := d_nb.out rfl;have v_ed := d_ed.out rfl;have v_out := d_out.out rfl;go_simp;(try simp only [sx]);refine hK.out _ _ ((hI.out _ _ _).2 ⟨fb1,true,true,true,true,false,false,false,false,_,_,_,_,_,_,_,_,_,_,_,rfl,(HF.out _ _ _ _ _ _ _ _).symm,S_,trivial,(fun _ => rfl),(fun _ => rfl),(fun _ => rfl),(fun _ => rfl),(fun h => nomatch h),(fun h => nomatch h),(fun h => nomatch h),(fun h => nomatch h),cf1,cf4,cf6,cf9,(fun _ => rfl),(fun h => nomatch h),d_nb,(fun h => nomatch h),d_ed,(fun h => nomatch h),d_out,(fun h => nomatch h)⟩)
              · obtain ⟨fb1,fb4,fb6,fb9,fb10,fb11,fb12,fb13,fb14,x58,x61,x63,x66,x67,x68,x69,x70,E_nb,E_ed,E_out,rfl,rfl,S_,_,mf6_9,mf4_10,mf9_10,mf10_11,mf1_12,mf11_12,mf12_13,mf13_14,cf1,cf4,cf6,cf9,cf10,cf13,d_nb,d_nb0,d_ed,d_ed0,d_out,d_out0⟩ := (hI.out _ _ _).1 h;obtain rfl : fb11 = false := hf;clear h;obtain rfl : fb10 = true := hd 10 (by decide);obtain rfl : fb4 = true := mf4_10.out rfl;obtain rfl : fb9 = true := mf9_10.out rfl;obtain rfl : fb6 = true := mf6_9.out rfl;obtain rfl : fb12 = false := by cases fb12 with | false => rfl | true => exact nomatch (mf11_12.out rfl)
                obtain rfl : fb13 = false := by cases fb13 with | false => rfl | true => exact nomatch (mf12_13.out rfl)
                obtain rfl : fb14 = false := by cases fb14 with | false => rfl | true => exact nomatch (mf13_14.out rfl)
                clear hd;rw [HF.out];obtain rfl := cf4.out rfl;obtain rfl := cf6.out rfl;obtain rfl := cf9.out rfl;obtain rfl := cf10.out rfl;have v_nb := d_nb.out rfl;have v_ed := d_ed.out rfl;have v_out := d_out.out rfl;obtain rfl := v_nb;go_simp;obtain ⟨g2,hg2⟩ : ∃ g,g = W_.heap.size := ⟨_,rfl⟩;obtain ⟨W2,hW2⟩ : ∃ v,v = W_.alloc (.cells #[.int .i64 ↑k,.int .i64 ev,.int .i64 (swV p q dst)] 70) := ⟨_,rfl⟩;rw [← hW2,← hg2];have S2 := Lib.hid (S_.out.fillAlloc 0 rfl 70 [.int .i64 ↑k,.int .i64 ev,.int .i64 (swV p q dst)] (o := .cells #[.int .i64 ↑k,.int .i64 ev,.int .i64 (swV p q dst)] 70) rfl hg2);rw [← hW2] at S2;clear hW2 hg2;(try simp only [sx]);refine hK.out _ _ ((hI.out _ _ _).2 ⟨fb1,true,true,true,true,true,false,false,false,_,_,_,_,_,_,_,_,_,_,_,rfl,(HF.out _ _ _ _ _ _ _ _).symm,S2,trivial,(fun _ => rfl),(fun _ => rfl),(fun _ => rfl),(fun _ => rfl),(fun h => nomatch h),(fun _ => rfl),(fun h => nomatch h),(fun h => nomatch h),cf1,cf4,cf6,cf9,cf10,(fun h => nomatch h),(fun h => nomatch h),(fun _ => ⟨_,rfl,rfl⟩),d_ed,(fun h => nomatch h),d_out,(fun h => nomatch h)⟩)
              · obtain ⟨fb1,fb4,fb6,fb9,fb10,fb11,fb12,fb13,fb14,x58,x61,x63,x66,x67,x68,x69,x70,E_nb,E_ed,E_out,rfl,rfl,S_,_,mf6_9,mf4_10,mf9_10,mf10_11,mf1_12,mf11_12,mf12_13,mf13_14,cf1,cf4,cf6,cf9,cf10,cf13,d_nb,d_nb0,d_ed,d_ed0,d_out,d_out0⟩ := (hI.out _ _ _).1 h;obtain rfl : fb12 = false := hf;clear h;obtain rfl : fb1 = true := hd 1 (by decide);obtain rfl : fb9 = true := hd 9 (by decide);obtain rfl : fb11 = true := hd 11 (by decide);obtain rfl : fb6 = true := mf6_9.out rfl;obtain rfl : fb10 = true := mf10_11.out rfl;obtain rfl : fb4 = true := mf4_10.out rfl;obtain rfl : fb13 = false := by cases fb13 with | false => rfl | true => exact nomatch (mf12_13.out rfl)
                obtain rfl : fb14 = false := by cases fb14 with | false => rfl | true => exact nomatch (mf13_14.out rfl)
                clear hd;rw [HF.out];obtain rfl := cf1.out rfl;obtain rfl := cf4.out rfl;obtain rfl := cf6.out rfl;obtain rfl := cf9.out rfl;obtain rfl := cf10.out rfl;have v_nb := d_nb0.out rfl;have v_ed := d_ed.out rfl;have v_out := d_out.out rfl;obtain rfl := v_ed;obtain ⟨g,rfl,rfl⟩ := v_nb;refine step_pushS rfl (.tmp 58) (.tmp 68) 23 rfl S_.out 1 rfl Try.underlying23 _ 24 edInfo rfl (by decide) rfl ⟨(k : Int),ev,swV p q dst⟩ g rfl rfl (fun j u hj => (BlkAt.cell (S_.out.get 0 rfl) j).trans hj) (edOne _) (by omega) (by decide) ?_;intro A12 c12 W2 S2' _;have S2 := Lib.hid S2';clear S2';(try simp only [sx]);refine hK.out _ _ ((hI.out _ _ _).2 ⟨true,true,true,true,true,true,true,false,false,_,_,_,_,_,_,_,_,_,_,_,rfl,(HF.out _ _ _ _ _ _ _ _).symm,S2,trivial,(fun _ => rfl),(fun _ => rfl),(fun _ => rfl),(fun _ => rfl),(fun _ => rfl),(fun _ => rfl),(fun _ => rfl),(fun h => nomatch h),cf1,cf4,cf6,cf9,cf10,(fun h => nomatch h),(fun h => nomatch h),d_nb0,(fun h => nomatch h),(fun _ => ⟨_,_,rfl,rfl⟩),d_out,(fun h => nomatch h)⟩)
              · obtain ⟨fb1,fb4,fb6,fb9,fb10,fb11,fb12,fb13,fb14,x58,x61,x63,x66,x67,x68,x69,x70,E_nb,E_ed,E_out,rfl,rfl,S_,_,mf6_9,mf4_10,mf9_10,mf10_11,mf1_12,mf11_12,mf12_13,mf13_14,cf1,cf4,cf6,cf9,cf10,cf13,d_nb,d_nb0,d_ed,d_ed0,d_out,d_out0⟩ := (hI.out _ _ _).1 h;obtain rfl : fb13 = false := hf;clear h;obtain rfl : fb1 = true := hd 1 (by decide);obtain rfl : fb4 = true := hd 4 (by decide);obtain rfl : fb6 = true := hd 6 (by decide);obtain rfl : fb9 = true := hd 9 (by decide);obtain rfl : fb10 = true := hd 10 (by decide);obtain rfl : fb11 = true := hd 11 (by decide);obtain rfl : fb12 = true := hd 12 (by decide);obtain rfl : fb14 = false := by cases fb14 with | false => rfl | true => exact nomatch (mf13_14.out rfl)
                clear hd;rw [HF.out];obtain rfl := cf1.out rfl;obtain rfl := cf4.out rfl;obtain rfl := cf6.out rfl;obtain rfl := cf9.out rfl;obtain rfl := cf10.out rfl;have v_nb := d_nb0.out rfl;have v_ed := d_ed0.out rfl;have v_out := d_out.out rfl;go_simp;(try simp only [sx]);refine hK.out _ _ ((hI.out _ _ _).2 ⟨true,true,true,true,true,true,true,true,false,_,_,_,_,_,_,_,_,_,_,_,rfl,(HF.out _ _ _ _ _ _ _ _).symm,S_,trivial,(fun _ => rfl),(fun _ => rfl),(fun _ => rfl),(fun _ => rfl),(fun _ => rfl),(fun _ => rfl),(fun _ => rfl),(fun _ => rfl),cf1,cf4,cf6,cf9,cf10,(fun _ => rfl),(fun h => nomatch h),d_nb0,(fun h => nomatch h),d_ed0,d_out,(fun h => nomatch h)⟩)
              · obtain ⟨fb1,fb4,fb6,fb9,fb10,fb11,fb12,fb13,fb14,x58,x61,x63,x66,x67,x68,x69,x70,E_nb,E_ed,E_out,rfl,rfl,S_,_,mf6_9,mf4_10,mf9_10,mf10_11,mf1_12,mf11_12,mf12_13,mf13_14,cf1,cf4,cf6,cf9,cf10,cf13,d_nb,d_nb0,d_ed,d_ed0,d_out,d_out0⟩ := (hI.out _ _ _).1 h;obtain rfl : fb14 = false := hf;clear h;obtain rfl : fb1 = true := hd 1 (by decide);obtain rfl : fb4 = true := hd 4 (by decide);obtain rfl : fb6 = true := hd 6 (by decide);obtain rfl : fb9 = true := hd 9 (by decide);obtain rfl : fb10 = true := hd 10 (by decide);obtain rfl : fb11 = true := hd 11 (by decide);obtain rfl : fb12 = true := hd 12 (by decide);obtain rfl : fb13 = true := hd 13 (by decide);clear hd;rw [HF.out];obtain rfl := cf1.out rfl;obtain rfl := cf4.out rfl;obtain rfl := cf6.out rfl;obtain rfl := cf9.out rfl;obtain rfl := cf10.out rfl;obtain rfl := cf13.out rfl;have v_nb := d_nb0.out rfl;have v_ed := d_ed0.out rfl;have v_out := d_out.out rfl;obtain rfl := v_out;obtain ⟨A12,c12,rfl,_⟩ := v_ed;have sc := ckC S_.out 2 rfl 3 rfl;have sf := BlkAt.free (S_.out.get 2 rfl) 3;go_simp;obtain ⟨W2,hW2⟩ : ∃ v,v = (W_.setCell ⟨w.heap.size + 2,3,none⟩ (.slice A12 (LE.length + 1) c12)) := ⟨_,rfl⟩;rw [← hW2];have S2 := Lib.hid (S_.out.set 2 rfl 3 (.slice A12 (LE.length + 1) c12));rw [← hW2] at S2;clear hW2 sc sf;try simp only [sx]
                refine hK.out _ _ ((hI.out _ _ _).2 ⟨true,true,true,true,true,true,true,true,true,_,_,_,_,_,_,_,_,_,_,_,rfl,(HF.out _ _ _ _ _ _ _ _).symm,S2,trivial,(fun _ => rfl),(fun _ => rfl),(fun _ => rfl),(fun _ => rfl),(fun _ => rfl),(fun _ => rfl),(fun _ => rfl),(fun _ => rfl),cf1,cf4,cf6,cf9,cf10,cf13,(fun h => nomatch h),d_nb0,(fun h => nomatch h),d_ed0,(fun h => nomatch h),(fun _ => ⟨_,_,rfl,rfl⟩)⟩)
            · refine (hI.out _ _ _).2 ⟨false,false,false,false,false,false,false,false,false,_,_,_,_,_,_,_,_,eNo,eEds LE (.slice ME LE.length mE),eBlk (w.heap.size + 2) 25 [.slice A1 al.length c1,.int .i64 ↑N,vM,(.slice ME LE.length mE)],rfl,(HF.out _ _ _ _ _ _ _ _).symm,((S1.out.pick [1,2,0,3,4,5] (by decide)).no : Sep w.heap.size w [eNo,eEds LE (.slice ME LE.length mE),eBlk (w.heap.size + 2) 25 [.slice A1 al.length c1,.int .i64 ↑N,vM,(.slice ME LE.length mE)],eInts LM vM,eBlk by' 70 [.int .i64 src,.int .i64 ev,.int .i64 dst],eBlk (w.heap.size + 1) 25 [.slice none 0 0,.int .i64 0,.slice none 0 0,.slice none 0 0],eBlk w.heap.size 25 [.slice A1 al.length c1,.int .i64 ↑N,.slice A2 mr.length c2,.slice (some ⟨gE,oE,none⟩) ed.length c3]] w1),trivial,(fun h => nomatch h),(fun h => nomatch h),(fun h => nomatch h),(fun h => nomatch h),(fun h => nomatch h),(fun h => nomatch h),(fun h => nomatch h),(fun h => nomatch h),(fun h => nomatch h),(fun h => nomatch h),(fun h => nomatch h),(fun h => nomatch h),(fun h => nomatch h),(fun h => nomatch h),(fun _ => rfl),(fun h => nomatch h),(fun _ => rfl),(fun h => nomatch h),(fun _ => rfl),(fun h => nomatch h)⟩
          · have hmx' : (src == x) = false := by simpa using hmx
            rw [if_neg hmx] at HT;rw [← hL] at S5;have HLM' := Lib.hid hLM;clear hmx hsx hL hLM;go_wp2_with fail
            go_roundw
            case rel => exact ⟨j + 1,_,by go_num,hjl,by rw [HT.out,HLM'.out]; exact S5.out.pick [0,1,2,4,5] (by decide)⟩
            case measure => simp [intOf]; omega
        · obtain rfl : j = ed.length := by omega
          have hjl' : decide ((ed.length : Int) < (ed.length : Int)) = false := decide_eq_false (by omega);have S4 : (SepW w [eInts (exM ⟨al,↑N,mr,ed⟩ p q (k + 1)) vM,eEds (exE ⟨al,↑N,mr,ed⟩ p q (k + 1)) vE,eBlk (w.heap.size + 2) 25 [.slice A1 al.length c1,.int .i64 ↑N,vM,vE],eBlk (w.heap.size + 1) 25 [.slice none 0 0,.int .i64 0,.slice none 0 0,.slice none 0 0],eBlk w.heap.size 25 [.slice A1 al.length c1,.int .i64 ↑N,.slice A2 mr.length c2,.slice A3 ed.length c3]] wr) := by
           have h := S.out;rw [List.take_length] at h;rw [exE_next]; exact h
          clear S;go_wp2_with fail
          go_roundw
          case rel => exact ⟨k + 1,vM,vE,by go_num,hlt,S4.out⟩
          case measure => simp [intOf]; omega
  · obtain rfl : k = N := by omega
    have hlt' : decide ((k : Int) < (k : Int)) = false := decide_eq_false (by omega);obtain ⟨M2,m2,rfl⟩ := S.out.form 0 rfl;obtain ⟨M3,m3,rfl⟩ := S.out.form 1 rfl;have o0 := BlkAt.cell (S.out.get 2 rfl) 0; have o1 := BlkAt.cell (S.out.get 2 rfl) 1; have o2 := BlkAt.cell (S.out.get 2 rfl) 2; have o3 := BlkAt.cell (S.out.get 2 rfl) 3; simp only [List.getElem?_cons_succ,List.getElem?_cons_zero] at o0 o1 o2 o3;have z0 := BlkAt.cell (S.out.get 3 rfl) 0; have z1 := BlkAt.cell (S.out.get 3 rfl) 1; have z2 := BlkAt.cell (S.out.get 3 rfl) 2; have z3 := BlkAt.cell (S.out.get 3 rfl) 3; have zf0 := BlkAt.free (S.out.get 3 rfl) 0; have zf1 := BlkAt.free (S.out.get 3 rfl) 1; have zf2 := BlkAt.free (S.out.get 3 rfl) 2; have zf3 := BlkAt.free (S.out.get 3 rfl) 3; simp only [List.getElem?_cons_succ,List.getElem?_cons_zero] at z0 z1 z2 z3;obtain ⟨LM,hLM⟩ : ∃ l,exM ⟨al,(k : Int),mr,ed⟩ p q k = l := ⟨_,rfl⟩;obtain ⟨LE,hLE⟩ : ∃ l,exE ⟨al,(k : Int),mr,ed⟩ p q k = l := ⟨_,rfl⟩;have HSW : Hid (swA ⟨al,(k : Int),mr,ed⟩ p q = ⟨al,(k : Int),LM,LE⟩) := by rw [Hid,← hLM,← hLE]; rfl
    rw [hLM,hLE] at S;rw [hLM] at o2;rw [hLE] at o3;clear hLM hLE;have S9 := Lib.hid ((((S.out.set 3 rfl 0 (.slice A1 al.length c1)).set 3 rfl 1 (.int .i64 ↑k)).set 3 rfl 2 (.slice M2 LM.length m2)).set 3 rfl 3 (.slice M3 LE.length m3));have t0 := BlkAt.cell (S9.out.get 3 rfl) 0;have t1 := BlkAt.cell (S9.out.get 3 rfl) 1;have t2 := BlkAt.cell (S9.out.get 3 rfl) 2;have t3 := BlkAt.cell (S9.out.get 3 rfl) 3;simp only [List.set_cons_succ,List.set_cons_zero,List.getElem?_cons_succ,List.getElem?_cons_zero] at t0 t1 t2 t3;go_wp2_with fail
    refine bodyPost_ret (v := .agg #[.slice A1 al.length c1,.int .i64 ↑k,.slice M2 LM.length m2,.slice M3 LE.length m3]) (by simp [results,Try.results32,go_sem, *]) rfl ?_;exact ⟨M2,M3,m2,m3,by rw [HSW.out],by rw [HSW.out]; exact S9.out.pick [0,1] (by decide)⟩
end
section
attribute [local go_sem] Oper.semAt_some

theorem Au.Right.st_rg {a : Au} (h : a.Right) : -1 ≤ a.st ∧ a.st < a.n ∨ a.st = -1 := by
 have := h.n0;unfold Au.st
 split <;> omega
def GivesE8 (a b : Au) (w : World) (e : Ending) (w' : World) : Prop := ∃ (A : Option Addr) (c : Nat) (l : List Int) (f : Bool),e = .returned (.tuple #[.bool (!f),.slice A l.length c]) ∧ Hid (IntsAt w' A l) ∧ Below w.heap.size w w' ∧ Hid (DistW a b a.st b.st f l ∧ l.length ≤ 1000000)
end
theorem Sm4.need {d : Sm4} (h : d.Ok) : (d.au.n.toNat + 2) * (d.au.n.toNat + 2) ≤ 1000000 := by
 have h1 := d.n_rg h;have e : d.au.n.toNat + 2 ≤ 8 := by
  show (d.n : Int).toNat + 2 ≤ 8
  omega
 exact Nat.le_trans (Nat.mul_le_mul e e) (by decide)
def eLs (a : Au) (p : AuP) : Ent := (eInts a.al (.slice p.A1 a.al.length p.c1)).and ((eInts a.mr (.slice p.A2 a.mr.length p.c2)).and (eEds a.ed (.slice p.A3 a.ed.length p.c3)))
theorem Sep.ls {n : Nat} {w0 w : World} {a : Au} {p : AuP} (S : Sep n w0 (eAu a p) w) : Sep n w0 [eLs a p] w := by
 refine ⟨S.fro,fun x hx => ?_,fun x hx => ?_,by simp⟩
 · simp only [List.mem_singleton] at hx; subst hx;exact ⟨S.get 0 rfl,S.get 1 rfl,S.get 2 rfl⟩
 · simp only [List.mem_singleton] at hx; subst hx;intro g hg;rcases List.mem_append.1 hg with h | h
   · exact S.ge _ (List.mem_of_getElem? (i := 0) (l := eAu a p) rfl) g h
   rcases List.mem_append.1 h with h | h
   · exact S.ge _ (List.mem_of_getElem? (i := 1) (l := eAu a p) rfl) g h
   · exact S.ge _ (List.mem_of_getElem? (i := 2) (l := eAu a p) rfl) g h
theorem eLs.at {a : Au} {p : AuP} {w : World} (h : (eLs a p).ok w) (hl : Lens a) : Au.At w a p :=
 ⟨OwnI.ints h.1,OwnI.ints h.2.1,Own.reads (enc := Ed.cells) (k := 3) (T := 70) (B := 0) (fun _ => rfl) h.2.2,hl.1,hl.2.1,hl.2.2⟩
theorem eLs.caps {a : Au} {p : AuP} {w : World} (h : (eLs a p).ok w) : Caps a p := ⟨Own.cap h.1,Own.cap h.2.1,Own.cap h.2.2⟩
theorem eLs.none_ {n : Nat} {w0 w : World} {a : Au} {p : AuP} {es : List Ent} (i : Nat) (S : Sep n w0 es w) (hi : es[i]? = some (eLs a p)) : Sep n w0 (es.set i (eLs ⟨[],0,[],[]⟩ ⟨none,0,none,0,none,0⟩)) w :=
 S.as i hi _ (fun h => ⟨Own.nil w,Own.nil w,Own.nil w⟩) (fun g hg => by
  rcases List.mem_append.1 hg with h | h
  · simp [eOwn,Value.ownBlock] at h
  · rcases List.mem_append.1 h with h | h <;> simp [eOwn,Value.ownBlock] at h)
theorem agP {m : Au} {p q : AuP} (h : (.agg #[.slice p.A1 m.al.length p.c1,.int .i64 m.n,.slice p.A2 m.mr.length p.c2,.slice p.A3 m.ed.length p.c3] : Value) = .agg #[.slice q.A1 m.al.length q.c1,.int .i64 m.n,.slice q.A2 m.mr.length q.c2,.slice q.A3 m.ed.length q.c3]) : p = q := by
 obtain ⟨a,b,c,d,e,f⟩ := p;obtain ⟨a',b',c',d',e',f'⟩ := q;simp at h
 obtain ⟨⟨rfl,rfl⟩,⟨rfl,rfl⟩,rfl,rfl⟩ := h;rfl
structure Good4 (a : Au) : Prop where
 rt : a.Right
 ln : Lens a
 n : a.n.toNat ≤ 6
 ev : ∀ x,x ∈ a.ed → 0 ≤ x.ev ∧ x.ev ≤ 3
 ed : a.ed.length ≤ 100000
theorem Sm4.good {d : Sm4} (h : d.Ok) : Good4 d.au := by
 have hn := Sm4.n_rg h;refine ⟨Sm4.right h,Sm4.lens h,by show (d.n : Int).toNat ≤ 6; omega,fun x hx => ?_,?_⟩
 · obtain ⟨i,j,hi,hj,hh,rfl⟩ := Sm4.mem_eds.1 hx;dsimp only; omega
 · have h2 := d.eds_len d.n d.n;show (d.eds d.n d.n).length ≤ _
   omega
theorem Good4.none_ : Good4 ⟨[],0,[],[]⟩ :=
 ⟨⟨fun i x hi hx => by simp at hx,Int.le_refl _,by simp,fun i x hi hx => by simp at hx,fun i hi => by simp at hi⟩,⟨by simp,by simp,by simp⟩,by simp,by simp,by simp⟩
structure Good5 (a : Au) : Prop where
 rt : a.Right
 ln : Lens a
 n : a.n.toNat ≤ 6
theorem Good4.g5 {a : Au} (h : Good4 a) : Good5 a := ⟨h.rt,h.ln,h.n⟩
theorem Good5.need {a b : Au} (h : Good5 a) (g : Good5 b) : (a.n.toNat + 2) * (b.n.toNat + 2) ≤ 1000000 :=
 Nat.le_trans (Nat.mul_le_mul (show a.n.toNat + 2 ≤ 8 by have := h.n; omega) (show b.n.toNat + 2 ≤ 8 by have := g.n; omega)) (by decide)
theorem LeastW.nil {P : List Int → Prop} {l : List Int} (h : LeastW P l) (h0 : P []) : l = [] := by
 rcases h.le [] h0 with (h | h) | h
 · simp at h
 · exact List.eq_nil_of_length_eq_zero (by simpa using h.1)
 · exact h
theorem boxTwo {n : Nat} {w0 w : World} {ta tb : Nat} {a b : Au} {p q : AuP} (S : Sep n w0 [eBlk ta 25 [.slice p.A1 a.al.length p.c1,.int .i64 a.n,.slice p.A2 a.mr.length p.c2,.slice p.A3 a.ed.length p.c3],eLs a p,eBlk tb 25 [.slice q.A1 b.al.length q.c1,.int .i64 b.n,.slice q.A2 b.mr.length q.c2,.slice q.A3 b.ed.length q.c3],eLs b q] w) : Sep n w0 [eBox ta a p,eBox tb b q] w := by
 have h1 : Sep n w0 (eBox ta a p :: [eBlk tb 25 [.slice q.A1 b.al.length q.c1,.int .i64 b.n,.slice q.A2 b.mr.length q.c2,.slice q.A3 b.ed.length q.c3],eLs b q]) w := S.join;have h2 : Sep n w0 (eBox tb b q :: [eBox ta a p]) w := (h1.pick [1,2,0] (by decide) : Sep n w0 [_,_,_] w).join;exact h2.pick [1,0] (by decide)
end Go.Proofs.Ytjjifefanjnghaa
