/-
  What the row leans on.
-/
import Derived.Test.YtkifgffhoenaoaaDoorQax03
import Derived.Test.YtkifgffhoenaoaaDoorQax06
import Derived.Test.YtkifgffhoenaoaaDoorQax01
import Derived.Test.YtkifgffhoenaoaaDoorBas18
import Derived.Test.YtkifgffhoenaoaaDoorBas10
set_option linter.unusedSimpArgs false
set_option linter.unusedVariables false
namespace Go.Proofs.YtkifgffhoenaoaaDoor
open Go.RowKit
set_option maxRecDepth 100000
set_option maxHeartbeats 8000000 in
theorem countR_c (a : Au) (p : AuP) (kind len : Int) (w : World) (hr : a.Right) (hA : Au.At w a p) (hk : kind = 1 ∨ kind = 2) (hlen : len < 0 ∨ 32 < len) :
 Calls Tryd.prog 18 #[a.val p,.int .i64 kind,.int .i64 len] w (Ret (.tuple #[.slice none 0 0,.int .i64 2]) w) := by
 have HR := Lib.hid hr;have HA := Lib.hid hA;obtain ⟨al,n,mr,ed⟩ := a;obtain ⟨A1,c1,A2,c2,A3,c3⟩ := p;dsimp only [Au.val];clear hr hA;refine calls_marks Tryd.func18 rfl ?_;simp only [Tryd.ntmps18,List.size_toArray,List.length_cons,List.length_nil,Nat.reduceAdd,Nat.reduceSub,Array.replicate_succ,Array.replicate_zero,List.push_toArray,List.append_toArray,List.nil_append,List.cons_append];go_upto_region 1 with fail
 refine wp_world (fun W => Sep w.heap.size w [eBlk (w.heap.size + 4) 38 [.int .i64 0],eBlk (w.heap.size + 3) 32 [.slice none 0 0],eBlk (w.heap.size + 2) 3 [.int .i64 len],eBlk (w.heap.size + 1) 3 [.int .i64 kind],eBlk w.heap.size 35 [.slice A1 al.length c1,.int .i64 n,.slice A2 mr.length c2,.slice A3 ed.length c3]] W) ?_ fun W S => ?_
 · exact (((((Sep.here w).alloc' _ [_,_,_,_] rfl rfl).alloc' _ [_] rfl (by simp)).alloc' _ [_] rfl (by simp)).alloc' _ [_] rfl (by simp)).alloc' _ [_] rfl (by simp)
 have S0 := Lib.hid S;clear S;have k0 := ckC S0.out 3 rfl 0 rfl;have a0 := ckC S0.out 4 rfl 0 rfl;have a1 := ckC S0.out 4 rfl 1 rfl;have a2 := ckC S0.out 4 rfl 2 rfl;have a3 := ckC S0.out 4 rfl 3 rfl;go_wp2_with fail
 have CK : SlAt AuE 4 (W.alloc (.cells (auCells ⟨al,n,mr,ed⟩ ⟨A1,c1,A2,c2,A3,c3⟩).toArray 35)) (some ⟨W.heap.size,0,none⟩) [⟨al,n,mr,ed⟩] := fun _ => ⟨W.heap.size,0,rfl,by simp,fun i x hx => by
  have hi := (List.getElem?_eq_some_iff.1 hx).1;simp only [List.length_cons,List.length_nil] at hi;obtain rfl : i = 0 := by omega
  obtain rfl : (⟨al,n,mr,ed⟩ : Au) = x := by simpa using hx
  refine ⟨_,rfl,⟨⟨A1,c1,A2,c2,A3,c3⟩,rfl,(HA.out.below S0.out.below).below (Below.new W _)⟩,fun j v hj => ?_⟩;have := (new_cell W 35 _ _ _ rfl).trans hj;simpa using this⟩
 refine (check_c (some ⟨W.heap.size,0,none⟩) 1 [⟨al,n,mr,ed⟩] kind _ CK (by simp) (fun x hx => by rw [List.mem_singleton.1 hx]; exact HR.out) hk).mono ?_;rintro e w1 ⟨rfl,hb⟩;have S1 : (SepW w [eBlk (w.heap.size + 4) 38 [.int .i64 0],eBlk (w.heap.size + 3) 32 [.slice none 0 0],eBlk (w.heap.size + 2) 3 [.int .i64 len],eBlk (w.heap.size + 1) 3 [.int .i64 kind],eBlk w.heap.size 35 [.slice A1 al.length c1,.int .i64 n,.slice A2 mr.length c2,.slice A3 ed.length c3]] w1) := (S0.out.next (Below.new W _)).next hb;clear S0 hb CK a0 a1 a2 a3 k0;have l0 := ckC S1.out 2 rfl 0 rfl;have q6 := ckC S1.out 1 rfl 0 rfl;have q7 := ckC S1.out 0 rfl 0 rfl;have f6 := BlkAt.free (S1.out.get 1 rfl) 0;have f7 := BlkAt.free (S1.out.get 0 rfl) 0;have S2 : (SepW w [eBlk (w.heap.size + 4) 38 [.int .i64 2],eBlk (w.heap.size + 3) 32 [.slice none 0 0],eBlk (w.heap.size + 2) 3 [.int .i64 len],eBlk (w.heap.size + 1) 3 [.int .i64 kind],eBlk w.heap.size 35 [.slice A1 al.length c1,.int .i64 n,.slice A2 mr.length c2,.slice A3 ed.length c3]] _) := (S1.out.set 1 rfl 0 (.slice none 0 0)).set 0 rfl 0 (.int .i64 2);have r6 := ckC S2.out 1 rfl 0 rfl;have r7 := ckC S2.out 0 rfl 0 rfl;rcases hlen with h | h
 · have e1 : decide (len < 0) = true := by simp; omega
   go_wp2_with fail
   refine ret_nomarks ⟨.tuple #[.slice none 0 0,.int .i64 2],by simp [results,Tryd.results18,go_sem, *],rfl,S2.out.below⟩
 · have e1 : decide (len < 0) = false := by simp; omega
   have e2 : decide (32 < len) = true := by simp; omega
   go_wp2_with fail
   refine ret_nomarks ⟨.tuple #[.slice none 0 0,.int .i64 2],by simp [results,Tryd.results18,go_sem, *],rfl,S2.out.below⟩
set_option maxHeartbeats 16000000 in
theorem lawCounts_c (s0 s1 : Int) (g0 g1 : Gr) (len : Int) (w : World) (h0 : 0 ≤ s0 ∧ s0 < 256) (h1 : 0 ≤ s1 ∧ s1 < 256) (hg0 : g0.Ok) (hg1 : g1.Ok) (ht : TabW w) :
 Calls Tryd.prog 4 #[.agg (twoCells s0 s1 g0 g1).toArray,.int .i64 len] w (Ret (.bool true) w) := by
 have H0 := Lib.hid h0;have H1 := Lib.hid h1;have HG0 := Lib.hid hg0;have HG1 := Lib.hid hg1;have HTAB := Lib.hid ht;clear h0 h1 hg0 hg1 ht;go_enter Tryd.func4,Tryd.ntmps4
 generalize hcs : twoCells s0 s1 g0 g1 = cs;go_upto_region 1 with fail
 refine wp_world (fun W => Sep w.heap.size w [eBlk w.heap.size 30 cs] W) ?_ fun W S => ?_
 · exact (Sep.here w).alloc' _ cs rfl rfl
 rw [← hcs] at S;have SA := Lib.hid S;clear S hcs;go_wp2_with fail
 refine (known_c W (HTAB.out.below SA.out.below)).mono ?_;rintro e w1 ⟨rfl,hb⟩;have SB := Lib.hid (SA.out.next hb);clear hb SA;go_wp2_with (refine wpList_load_mid rfl 30 (.tmp 2) rfl w.heap.size 0 rfl (twoCells s0 s1 g0 g1) _ (BlkAt.rng (SB.out.get 0 rfl) (fun j v hv => by rw [Nat.zero_add]; exact hv)) Tryd.underlying30 rfl (by kernel_rfl) ?_)
 refine (make9w_c s0 s1 g0 g1 w1 H0.out H1.out HG0.out HG1.out).mono ?_;rintro e w3 ⟨a,⟨A1,a1,A2,a2,A3,a3⟩,b,⟨B1,b1,B2,b2,B3,b3⟩,rfl,TT,GA,GB,EA,EB⟩;have SD := ckN SB.out TT.out;clear TT SB;dsimp only [Au.val];obtain ⟨ta,hta⟩ : ∃ g,g = w3.heap.size := ⟨_,rfl⟩;go_upto_region 4 with fail
 rw [← hta];refine wp_world (fun V => Sep w.heap.size w [eBlk (ta + 1) 35 [.slice B1 b.al.length b1,.int .i64 b.n,.slice B2 b.mr.length b2,.slice B3 b.ed.length b3],eBlk ta 35 [.slice A1 a.al.length a1,.int .i64 a.n,.slice A2 a.mr.length a2,.slice A3 a.ed.length a3],eInts a.al (.slice A1 a.al.length a1),eInts a.mr (.slice A2 a.mr.length a2),eEds a.ed (.slice A3 a.ed.length a3),eInts b.al (.slice B1 b.al.length b1),eInts b.mr (.slice B2 b.mr.length b2),eEds b.ed (.slice B3 b.ed.length b3),eBlk w.heap.size 30 (twoCells s0 s1 g0 g1)] V) ((SD.out.alloc' _ [_,_,_,_] rfl hta).alloc' _ [_,_,_,_] rfl (by rw [hta]; simp)) fun W0 S' => ?_;have Q1 : Sep w.heap.size w [eBlk (ta + 1) 35 [.slice B1 b.al.length b1,.int .i64 b.n,.slice B2 b.mr.length b2,.slice B3 b.ed.length b3],eInts b.al (.slice B1 b.al.length b1),eInts b.mr (.slice B2 b.mr.length b2),eEds b.ed (.slice B3 b.ed.length b3),eBlk ta 35 [.slice A1 a.al.length a1,.int .i64 a.n,.slice A2 a.mr.length a2,.slice A3 a.ed.length a3],eInts a.al (.slice A1 a.al.length a1),eInts a.mr (.slice A2 a.mr.length a2),eEds a.ed (.slice A3 a.ed.length a3)] W0 := S'.pick [0,5,6,7,1,2,3,4] (by decide);have Q2 : Sep w.heap.size w [eBox (ta + 1) b ⟨B1,b1,B2,b2,B3,b3⟩,eBlk ta 35 [.slice A1 a.al.length a1,.int .i64 a.n,.slice A2 a.mr.length a2,.slice A3 a.ed.length a3],eInts a.al (.slice A1 a.al.length a1),eInts a.mr (.slice A2 a.mr.length a2),eEds a.ed (.slice A3 a.ed.length a3)] W0 := Q1.box
 have Q3 : Sep w.heap.size w [eBlk ta 35 [.slice A1 a.al.length a1,.int .i64 a.n,.slice A2 a.mr.length a2,.slice A3 a.ed.length a3],eInts a.al (.slice A1 a.al.length a1),eInts a.mr (.slice A2 a.mr.length a2),eEds a.ed (.slice A3 a.ed.length a3),eBox (ta + 1) b ⟨B1,b1,B2,b2,B3,b3⟩] W0 := Q2.pick [1,2,3,4,0] (by decide);have S0 : (SepW w [eBox ta a ⟨A1,a1,A2,a2,A3,a3⟩,eBox (ta + 1) b ⟨B1,b1,B2,b2,B3,b3⟩] W0) := Q3.box;clear S' SD hta Q1 Q2 Q3;have HLa := Lib.hid GA.out.lens;have HLb := Lib.hid GB.out.lens;have na : a.n.toNat ≤ 5 := by have := GA.out.n; omega
 have nb : b.n.toNat ≤ 5 := by have := GB.out.n; omega
 have FA := Lib.hid GA.out.rt;have FB := Lib.hid GB.out.rt;have hn1000 : a.n ≤ 1000 := by have := GA.out.n; omega
 have hla : a.al.length ≤ 5 := by rw [GA.out.al]; exact (evV_lt5 s0 5).len
 have hlb : b.al.length ≤ 5 := by rw [GB.out.al]; exact (evV_lt5 s1 5).len
 clear GA GB;skip;go_wp2_with fail
 go_loopw [7,8,9,10,11] (fun x _ _ _ _ wr => ∃ (k : Nat),x = .int .i64 ↑k ∧ 1 ≤ k ∧ k ≤ 3 ∧ (SepW w [eBox ta a ⟨A1,a1,A2,a2,A3,a3⟩,eBox (ta + 1) b ⟨B1,b1,B2,b2,B3,b3⟩] wr)) (fun x _ _ _ _ _ => 3 - (intOf x).toNat)
 case atStart => exact ⟨1,rfl,by omega,by omega,S0.out⟩
 case round =>
  clear S0;obtain ⟨k,rfl,hk1,hk3,S⟩ := hrel;by_cases hlt : k ≤ 2
  · have hk : (k : Int) = 1 ∨ (k : Int) = 2 := by omega
    have hk2 : decide ((k : Int) ≤ 2) = true := by simp; omega
    have la0 := BlkAt.cell (S.out.get 0 rfl).1 0;have la1 := BlkAt.cell (S.out.get 0 rfl).1 1;have la2 := BlkAt.cell (S.out.get 0 rfl).1 2;have la3 := BlkAt.cell (S.out.get 0 rfl).1 3;simp only [List.getElem?_cons_succ,List.getElem?_cons_zero] at la0 la1 la2 la3;by_cases hr : len < 0 ∨ 32 < len
    · have HQ := Lib.hid (countR_c a ⟨A1,a1,A2,a2,A3,a3⟩ (k : Int) len wr FA.out (eBox.at (S.out.get 0 rfl) HLa.out) hk hr);go_wp2_with fail
      refine HQ.out.mono ?_;rintro e w5 ⟨rfl,hb⟩;have S5 := Lib.hid (S.out.next hb);clear hb S HQ la0 la1 la2 la3;rcases hr with hr | hr
      · have q1 : decide (len < 0) = true := by simp; omega
        go_wp2_with fail
        go_roundw
        case rel => exact ⟨k + 1,by go_num,by omega,by omega,S5.out⟩
        case measure => simp [intOf]; omega
      · have q1 : decide (len < 0) = false := by simp; omega
        have q2 : decide (32 < len) = true := by simp; omega
        go_wp2_with fail
        go_roundw
        case rel => exact ⟨k + 1,by go_num,by omega,by omega,S5.out⟩
        case measure => simp [intOf]; omega
    · obtain ⟨N,rfl⟩ := Int.eq_ofNat_of_zero_le (show 0 ≤ len by omega);have hN : N ≤ 32 := by omega
      have q1 : decide ((N : Int) < 0) = false := by simp
      have q2 : decide ((32 : Int) < (N : Int)) = false := by simp; omega
      clear hr;have HQ := Lib.hid (count_c a ⟨A1,a1,A2,a2,A3,a3⟩ (k : Int) N wr FA.out (eBox.at (S.out.get 0 rfl) HLa.out) hk hN);go_wp2_with fail
      refine HQ.out.mono ?_;clear HQ;rintro e w5 (⟨AN,cN,rfl,T,HS⟩ | ⟨rfl,hb,HS⟩)
      · have S5 := ckN S.out T.out;clear S T la0 la1 la2 la3;have la0 := BlkAt.cell (S5.out.get 1 rfl).1 0;have la1 := BlkAt.cell (S5.out.get 1 rfl).1 1;have la2 := BlkAt.cell (S5.out.get 1 rfl).1 2;have la3 := BlkAt.cell (S5.out.get 1 rfl).1 3;simp only [List.getElem?_cons_succ,List.getElem?_cons_zero] at la0 la1 la2 la3;have HQ := Lib.hid (count9_c a ⟨A1,a1,A2,a2,A3,a3⟩ (k : Int) N w5 FA.out (eBox.at (S5.out.get 1 rfl) HLa.out) hN hn1000);go_wp2_with fail
        refine HQ.out.mono ?_;clear HQ;rintro e w6 (⟨AM,cM,rfl,T,HS2⟩ | ⟨rfl,hb,j,hj,hc⟩)
        · have S6 := ckN S5.out T.out;clear S5 T la0 la1 la2 la3;have HI1 : Hid (IntsAt w6 AM (cntsV a (k : Int) (N + 1))) := Sep.ints (A := AM) (c := cM) S6.out 0 (by rw [cntsV_len]; rfl);have HI2 : Hid (IntsAt w6 AN (cntsV a (k : Int) (N + 1))) := Sep.ints (A := AN) (c := cN) S6.out 1 (by rw [cntsV_len]; rfl);have HSM : Hid (Calls Tryd.prog 17 #[.slice AN (N + 1) cN,.slice AM (N + 1) cM] w6 (Ret (.bool true) w6)) := by
           have h := same_c AN AM cN cM (cntsV a (k : Int) (N + 1)) (cntsV a (k : Int) (N + 1)) w6 HI2.out HI1.out (by rw [cntsV_len]; omega) (by rw [cntsV_len]; omega);rw [cntsV_len] at h;exact h.mono fun e w' hs => hs.yes2 rfl
          go_wp2_with fail
          refine HSM.out.mono ?_;rintro e w7 ⟨rfl,hb⟩;have S7 : (SepW w [eBox ta a ⟨A1,a1,A2,a2,A3,a3⟩,eBox (ta + 1) b ⟨B1,b1,B2,b2,B3,b3⟩] w7) := (S6.out.next hb).pick [2,3] (by decide);clear hb S6 HI1 HI2 HSM;go_wp2_with fail
          go_roundw
          case rel => exact ⟨k + 1,by go_num,by omega,by omega,S7.out⟩
          case measure => simp [intOf]; omega
        · have := HS.out j hj; omega
      · have S5 := Lib.hid (S.out.next hb);clear S hb la0 la1 la2 la3;have la0 := BlkAt.cell (S5.out.get 0 rfl).1 0;have la1 := BlkAt.cell (S5.out.get 0 rfl).1 1;have la2 := BlkAt.cell (S5.out.get 0 rfl).1 2;have la3 := BlkAt.cell (S5.out.get 0 rfl).1 3;simp only [List.getElem?_cons_succ,List.getElem?_cons_zero] at la0 la1 la2 la3;have HQ := Lib.hid (count9_c a ⟨A1,a1,A2,a2,A3,a3⟩ (k : Int) N w5 FA.out (eBox.at (S5.out.get 0 rfl) HLa.out) hN hn1000);go_wp2_with fail
        refine HQ.out.mono ?_;clear HQ;rintro e w6 (⟨AM,cM,rfl,T,HS2⟩ | ⟨rfl,hb,j,hj,hc⟩)
        · obtain ⟨j,hj,hc⟩ := HS.out;have := HS2.out j hj; omega
        · have S6 := Lib.hid (S5.out.next hb);clear S5 hb la0 la1 la2 la3;go_wp2_with fail
          go_roundw
          case rel => exact ⟨k + 1,by go_num,by omega,by omega,S6.out⟩
          case measure => simp [intOf]; omega
  · obtain rfl : k = 3 := by omega
    by_cases h8 : len < 0 ∨ 8 < len
    · rcases h8 with h8 | h8
      · have q1 : decide (len < 0) = true := by simp; omega
        go_wp2_with fail
        go_ret
        exact ⟨rfl,S.out.below⟩
      · have q1 : decide (len < 0) = false := by simp; omega
        have q2 : decide (8 < len) = true := by simp; omega
        go_wp2_with fail
        go_ret
        exact ⟨rfl,S.out.below⟩
    · obtain ⟨N,rfl⟩ := Int.eq_ofNat_of_zero_le (show 0 ≤ len by omega);have hN : N ≤ 8 := by omega
      have q1 : decide ((N : Int) < 0) = false := by simp
      have q2 : decide ((8 : Int) < (N : Int)) = false := by simp; omega
      clear h8 hlt hk1 hk3;have la0 := BlkAt.cell (S.out.get 0 rfl).1 0;have la1 := BlkAt.cell (S.out.get 0 rfl).1 1;have la2 := BlkAt.cell (S.out.get 0 rfl).1 2;have la3 := BlkAt.cell (S.out.get 0 rfl).1 3;simp only [List.getElem?_cons_succ,List.getElem?_cons_zero] at la0 la1 la2 la3;have HQ := Lib.hid (count_c a ⟨A1,a1,A2,a2,A3,a3⟩ 2 N wr FA.out (eBox.at (S.out.get 0 rfl) HLa.out) (.inr rfl) (by omega));go_wp2_with fail
      refine HQ.out.mono ?_;clear HQ;rintro e w5 (⟨Xp,cp,rfl,T,_⟩ | ⟨rfl,hb,HS⟩);rotate_left
      · exfalso
        obtain ⟨j,hj,hc⟩ := HS.out;have := cnt_small (a := a) (kind := 2) (k := j) (m := 10) (by omega) (by omega) (by decide);omega
      have Sp := ckN S.out T.out;clear T S;clear la0 la1 la2 la3;have lb0 := BlkAt.cell (Sp.out.get 2 rfl).1 0;have lb1 := BlkAt.cell (Sp.out.get 2 rfl).1 1;have lb2 := BlkAt.cell (Sp.out.get 2 rfl).1 2;have lb3 := BlkAt.cell (Sp.out.get 2 rfl).1 3;simp only [List.getElem?_cons_succ,List.getElem?_cons_zero] at lb0 lb1 lb2 lb3;have HQ := Lib.hid (count_c b ⟨B1,b1,B2,b2,B3,b3⟩ 2 N w5 FB.out (eBox.at (Sp.out.get 2 rfl) HLb.out) (.inr rfl) (by omega));go_wp2_with fail
      refine HQ.out.mono ?_;clear HQ;rintro e w6 (⟨Xq,cq,rfl,T,_⟩ | ⟨rfl,hb,HS⟩);rotate_left
      · exfalso
        obtain ⟨j,hj,hc⟩ := HS.out;have := cnt_small (a := b) (kind := 2) (k := j) (m := 10) (by omega) (by omega) (by decide);omega
      have Sq := ckN Sp.out T.out;clear T Sp;clear lb0 lb1 lb2 lb3;have la0 := BlkAt.cell (Sq.out.get 2 rfl).1 0;have la1 := BlkAt.cell (Sq.out.get 2 rfl).1 1;have la2 := BlkAt.cell (Sq.out.get 2 rfl).1 2;have la3 := BlkAt.cell (Sq.out.get 2 rfl).1 3;simp only [List.getElem?_cons_succ,List.getElem?_cons_zero] at la0 la1 la2 la3;have lb0 := BlkAt.cell (Sq.out.get 3 rfl).1 0;have lb1 := BlkAt.cell (Sq.out.get 3 rfl).1 1;have lb2 := BlkAt.cell (Sq.out.get 3 rfl).1 2;have lb3 := BlkAt.cell (Sq.out.get 3 rfl).1 3;simp only [List.getElem?_cons_succ,List.getElem?_cons_zero] at lb0 lb1 lb2 lb3;have HQ := Lib.hid (combine9_c a b ⟨A1,a1,A2,a2,A3,a3⟩ ⟨B1,b1,B2,b2,B3,b3⟩ 2 (fun x y => x || y) w6 (.inr (.inl ⟨rfl,rfl⟩)) FA.out FB.out (eBox.at (Sq.out.get 2 rfl) HLa.out) (eBox.at (Sq.out.get 3 rfl) HLb.out) (Nat.le_trans (Nat.mul_le_mul (show a.n.toNat + 1 ≤ 6 by omega) (show b.n.toNat + 1 ≤ 6 by omega)) (by decide)));go_wp2_with fail
      refine HQ.out.mono ?_;clear HQ;rintro e w7 ⟨u,⟨K1,k1,K2,k2,K3,k3⟩,rfl,TM,HLu,HMu,hma⟩;have HAu := Lib.hid hma;have Su0 := ckN Sq.out TM.out;clear TM hma Sq;dsimp only [Au.val];have hlu : u.al.length ≤ 10 := by rw [HAu.out]; have := union_len FA.out FB.out; omega
      have HQ := Lib.hid (count_c u ⟨K1,k1,K2,k2,K3,k3⟩ 2 N w7 HMu.out.rt ⟨Su0.out.ints 0 rfl,Su0.out.ints 1 rfl,Su0.out.eds 2 rfl,HLu.out.1,HLu.out.2.1,HLu.out.2.2⟩ (.inr rfl) (by omega));go_wp2_with fail
      refine HQ.out.mono ?_;clear HQ;rintro e w8 (⟨Xu,cu,rfl,T,_⟩ | ⟨rfl,hb,HS⟩);rotate_left
      · exfalso
        obtain ⟨j,hj,hc⟩ := HS.out;have := cnt_small (a := u) (kind := 2) (k := j) (m := 10) (by omega) (by omega) (by decide);omega
      have Su := ckN Su0.out T.out;clear T Su0;clear la0 la1 la2 la3 lb0 lb1 lb2 lb3;have la0 := BlkAt.cell (Su.out.get 6 rfl).1 0;have la1 := BlkAt.cell (Su.out.get 6 rfl).1 1;have la2 := BlkAt.cell (Su.out.get 6 rfl).1 2;have la3 := BlkAt.cell (Su.out.get 6 rfl).1 3;simp only [List.getElem?_cons_succ,List.getElem?_cons_zero] at la0 la1 la2 la3;have lb0 := BlkAt.cell (Su.out.get 7 rfl).1 0;have lb1 := BlkAt.cell (Su.out.get 7 rfl).1 1;have lb2 := BlkAt.cell (Su.out.get 7 rfl).1 2;have lb3 := BlkAt.cell (Su.out.get 7 rfl).1 3;simp only [List.getElem?_cons_succ,List.getElem?_cons_zero] at lb0 lb1 lb2 lb3;have HQ := Lib.hid (combine9_c a b ⟨A1,a1,A2,a2,A3,a3⟩ ⟨B1,b1,B2,b2,B3,b3⟩ 1 (fun x y => x && y) w8 (.inl ⟨rfl,rfl⟩) FA.out FB.out (eBox.at (Su.out.get 6 rfl) HLa.out) (eBox.at (Su.out.get 7 rfl) HLb.out) (Nat.le_trans (Nat.mul_le_mul (show a.n.toNat + 1 ≤ 6 by omega) (show b.n.toNat + 1 ≤ 6 by omega)) (by decide)));go_wp2_with fail
      refine HQ.out.mono ?_;clear HQ;rintro e w9 ⟨i,⟨J1,j1,J2,j2,J3,j3⟩,rfl,TM,HLi,HMi,hma⟩;have HAi := Lib.hid hma;have Si0 := ckN Su.out TM.out;clear TM hma Su;dsimp only [Au.val];have hli : i.al.length ≤ 10 := by rw [HAi.out]; have := union_len FA.out FB.out; omega
      have HQ := Lib.hid (count_c i ⟨J1,j1,J2,j2,J3,j3⟩ 2 N w9 HMi.out.rt ⟨Si0.out.ints 0 rfl,Si0.out.ints 1 rfl,Si0.out.eds 2 rfl,HLi.out.1,HLi.out.2.1,HLi.out.2.2⟩ (.inr rfl) (by omega));go_wp2_with fail
      refine HQ.out.mono ?_;clear HQ;rintro e w10 (⟨Xi,ci,rfl,T,_⟩ | ⟨rfl,hb,HS⟩);rotate_left
      · exfalso
        obtain ⟨j,hj,hc⟩ := HS.out;have := cnt_small (a := i) (kind := 2) (k := j) (m := 10) (by omega) (by omega) (by decide);omega
      have Si := ckN Si0.out T.out;clear T Si0;have SZ : (SepW w [eInts (cntsV a 2 (N + 1)) (.slice Xp (N + 1) cp),eInts (cntsV b 2 (N + 1)) (.slice Xq (N + 1) cq),eInts (cntsV u 2 (N + 1)) (.slice Xu (N + 1) cu),eInts (cntsV i 2 (N + 1)) (.slice Xi (N + 1) ci)] w10) := Si.out.pick [9,8,4,0] (by decide);clear Si la0 la1 la2 la3 lb0 lb1 lb2 lb3;have HSUM : Hid (∀ j : Nat,j ≤ N → cnt a 2 j + cnt b 2 j = cnt u 2 j + cnt i 2 j) := fun j _ => cnt_sum FA.out FB.out HMu.out HAu.out HMi.out HAi.out j;have HSML : Hid (∀ j : Nat,j ≤ N → cnt a 2 j + cnt b 2 j ≤ 2251799813685248) := fun j hj => by
       have h1 := cnt_small (a := a) (kind := 2) (k := j) (m := 10) (by omega) (by omega) (by decide);have h2 := cnt_small (a := b) (kind := 2) (k := j) (m := 10) (by omega) (by omega) (by decide);omega
      skip;have hne : ((((N + 1 : Nat) : Int)) == ((N : Int) + 1)) = true := by simp
      have hwN : IntKind.i64.wrap ((N : Int) + 1) = (N : Int) + 1 := IntWalk.i64_in _ (by omega);go_wp2_with fail
      go_loopw [20] (fun x wr => ∃ (j : Nat),x = .int .i64 ↑j ∧ j ≤ N + 1 ∧ (SepW w [eInts (cntsV a 2 (N + 1)) (.slice Xp (N + 1) cp),eInts (cntsV b 2 (N + 1)) (.slice Xq (N + 1) cq),eInts (cntsV u 2 (N + 1)) (.slice Xu (N + 1) cu),eInts (cntsV i 2 (N + 1)) (.slice Xi (N + 1) ci)] wr)) (fun x _ => N + 1 - (intOf x).toNat)
      case atStart => exact ⟨0,rfl,Nat.zero_le _,SZ.out⟩
      case round =>
       clear SZ;obtain ⟨j,rfl,hj,S⟩ := hrel;by_cases hlt : j ≤ N
       · have hs := HSUM.out j hlt;have hm := HSML.out j hlt;obtain ⟨gp,op,xp,ep,_,hxp,cp0⟩ := IntsAt.at (Sep.ints (A := Xp) (c := cp) S.out 0 (by rw [cntsV_len]; rfl)) (k := j) (by rw [cntsV_len]; omega);subst ep;obtain rfl : xp = ((cnt a 2 j : Nat) : Int) := by rw [cntsV_get (by omega)] at hxp; cases hxp; rfl
         clear hxp;obtain ⟨gq,oq,xq,eq,_,hxq,cq0⟩ := IntsAt.at (Sep.ints (A := Xq) (c := cq) S.out 1 (by rw [cntsV_len]; rfl)) (k := j) (by rw [cntsV_len]; omega);subst eq;obtain rfl : xq = ((cnt b 2 j : Nat) : Int) := by rw [cntsV_get (by omega)] at hxq; cases hxq; rfl
         clear hxq;obtain ⟨gu,ou,xu,eu,_,hxu,cu0⟩ := IntsAt.at (Sep.ints (A := Xu) (c := cu) S.out 2 (by rw [cntsV_len]; rfl)) (k := j) (by rw [cntsV_len]; omega);subst eu;obtain rfl : xu = ((cnt u 2 j : Nat) : Int) := by rw [cntsV_get (by omega)] at hxu; cases hxu; rfl
         clear hxu;obtain ⟨gi,oi,xi,ei,_,hxi,ci0⟩ := IntsAt.at (Sep.ints (A := Xi) (c := ci) S.out 3 (by rw [cntsV_len]; rfl)) (k := j) (by rw [cntsV_len]; omega);subst ei;obtain rfl : xi = ((cnt i 2 j : Nat) : Int) := by rw [cntsV_get (by omega)] at hxi; cases hxi; rfl
         clear hxi;obtain ⟨x1,h1⟩ : ∃ x,x = cnt a 2 j := ⟨_,rfl⟩;obtain ⟨x2,h2⟩ : ∃ x,x = cnt b 2 j := ⟨_,rfl⟩;obtain ⟨x3,h3⟩ : ∃ x,x = cnt u 2 j := ⟨_,rfl⟩;obtain ⟨x4,h4⟩ : ∃ x,x = cnt i 2 j := ⟨_,rfl⟩;rw [← h1] at cp0;rw [← h2] at cq0;rw [← h3] at cu0;rw [← h4] at ci0;rw [← h1,← h2,← h3,← h4] at hs;rw [← h1,← h2] at hm;clear h1 h2 h3 h4;have hwa : IntKind.i64.wrap ((x1 : Int) + (x2 : Int)) = ((x1 + x2 : Nat) : Int) := by rw [Int.natCast_add]; exact IntWalk.i64_in _ (by omega)
         have hwb : IntKind.i64.wrap ((x3 : Int) + (x4 : Int)) = ((x1 + x2 : Nat) : Int) := by rw [hs,Int.natCast_add]; exact IntWalk.i64_in _ (by omega)
         clear hs hm;go_upto_region 25 with fail
         go_quiet (fail)
         skip;go_wp2_with fail
         go_roundw
         case rel => exact ⟨j + 1,by go_num,by omega,S.out.draws _⟩
         case measure => simp [intOf]; omega
       · obtain rfl : j = N + 1 := by omega
         go_wp2_with fail
         go_ret
         exact ⟨rfl,S.out.below⟩
section
open Go.ChangeShapes Go.WideShapes Go.ChangeAt Go.RowKit
section
variable {H : Type} {enc : TypeId × Value → H} {w : World} {base : Nat} {spare : Nat → Bool} {held : Bool}

theorem u8_bounds {n : Int} (h : (Lit.int .u8 n).wf = true) : 0 ≤ n ∧ n < 256 := by
 simp [Lit.wf,IntKind.min,IntKind.max,IntKind.signed,IntKind.bits] at h; omega
theorem list5 {α : Type} {cs : List α} (h : cs.length = 5) : ∃ c0 c1 c2 c3 c4,cs = [c0,c1,c2,c3,c4] := by
 match cs,h with
 | [c0,c1,c2,c3,c4],_ => exact ⟨c0,c1,c2,c3,c4,rfl⟩
theorem cut5 {α : Type} {cs : List α} (h : cs.length = 25) : cs = (cs.drop 0).take 5 ++ ((cs.drop 5).take 5 ++ ((cs.drop 10).take 5 ++ ((cs.drop 15).take 5 ++ (cs.drop 20).take 5))) := by
 have e4 : (cs.drop 20).take 5 = cs.drop 20 := List.take_of_length_le (by simp [h]);have e3 : (cs.drop 15).take 5 ++ cs.drop 20 = cs.drop 15 := by have := List.take_append_drop 5 (cs.drop 15); rwa [List.drop_drop] at this
 have e2 : (cs.drop 10).take 5 ++ cs.drop 15 = cs.drop 10 := by have := List.take_append_drop 5 (cs.drop 10); rwa [List.drop_drop] at this
 have e1 : (cs.drop 5).take 5 ++ cs.drop 10 = cs.drop 5 := by have := List.take_append_drop 5 (cs.drop 5); rwa [List.drop_drop] at this
 rw [e4,e3,e2,e1,List.drop_zero,List.take_append_drop]

theorem b5_of {P : Program} {t e : TypeId} (ht : P.underlying t = some (.array 5 e)) (he : P.underlying e = some (.int .u8)) (hc : P.cellsOf t = 5) (hce : P.cellsOf e = 1) {fuel : Nat} {cs : List Value} {x : DataW H × List MemPlace}
 (h : DataW.trod enc P w base spare held fuel t cs = some x) : ∃ f : B5,f.Ok ∧ cs = f.cells := by
 obtain ⟨xs,m,_,_,hl,hlen,hf⟩ := DataW.trod_array ht h;obtain ⟨c0,c1,c2,c3,c4,rfl⟩ := list5 (hl.trans hc);have g : ∀ i,i < 5 → ∀ c,([c0,c1,c2,c3,c4].drop i).take 1 = [c] → ∃ n,c = .int .u8 n ∧ 0 ≤ n ∧ n < 256 := fun i hi c hcc => by
  have h1 := hf i hi;rw [hce,Nat.mul_one,hcc,List.getElem?_eq_getElem (by omega)] at h1;obtain ⟨n,hn,_,hw⟩ := DataW.trod_int he h1;cases hn;exact ⟨n,rfl,u8_bounds hw⟩
 obtain ⟨x0,rfl,b0⟩ := g 0 (by omega) c0 rfl;obtain ⟨x1,rfl,b1⟩ := g 1 (by omega) c1 rfl;obtain ⟨x2,rfl,b2⟩ := g 2 (by omega) c2 rfl;obtain ⟨x3,rfl,b3⟩ := g 3 (by omega) c3 rfl;obtain ⟨x4,rfl,b4⟩ := g 4 (by omega) c4 rfl;exact ⟨⟨x0,x1,x2,x3,x4⟩,⟨fun x hx => by
  simp only [List.mem_cons,List.not_mem_nil,or_false] at hx;rcases hx with rfl | rfl | rfl | rfl | rfl <;> assumption⟩,rfl⟩

theorem b25_of {P : Program} {t e e' : TypeId} (ht : P.underlying t = some (.array 5 e)) (he : P.underlying e = some (.array 5 e')) (he' : P.underlying e' = some (.int .u8)) (hc : P.cellsOf t = 25) (hce : P.cellsOf e = 5) (hce' : P.cellsOf e' = 1) {fuel : Nat} {cs : List Value} {x : DataW H × List MemPlace}
 (h : DataW.trod enc P w base spare held fuel t cs = some x) : ∃ r0 r1 r2 r3 r4 : B5,r0.Ok ∧ r1.Ok ∧ r2.Ok ∧ r3.Ok ∧ r4.Ok ∧ cs = r0.cells ++ (r1.cells ++ (r2.cells ++ (r3.cells ++ r4.cells))) := by
 obtain ⟨xs,m,_,_,hl,hlen,hf⟩ := DataW.trod_array ht h;have g : ∀ i,i < 5 → ∃ f : B5,f.Ok ∧ (cs.drop (i * 5)).take 5 = f.cells := fun i hi => by
  have h1 := hf i hi;rw [hce,List.getElem?_eq_getElem (by omega)] at h1;exact b5_of he he' hce hce' h1
 obtain ⟨r0,o0,e0⟩ := g 0 (by omega);obtain ⟨r1,o1,e1⟩ := g 1 (by omega);obtain ⟨r2,o2,e2⟩ := g 2 (by omega);obtain ⟨r3,o3,e3⟩ := g 3 (by omega);obtain ⟨r4,o4,e4⟩ := g 4 (by omega);refine ⟨r0,r1,r2,r3,r4,o0,o1,o2,o3,o4,?_⟩;rw [← e0,← e1,← e2,← e3,← e4];exact cut5 (hl.trans hc)

theorem gr_of {fuel : Nat} {cs : List Value} {x : DataW H × List MemPlace} (h : DataW.trod enc Tryd.prog w base spare held fuel 27 cs = some x) : ∃ g : Gr,g.Ok ∧ cs = g.cells := by
 obtain ⟨xs,n,_,_,hl,hlen,hf⟩ := DataW.trod_struct Tryd.underlying27 h;have hC : Tryd.prog.cellsOf 27 = 27 := by kernel_rfl
 have c1 : Tryd.prog.cellsOf 5 = 1 := by kernel_rfl
 have c25 : Tryd.prog.cellsOf 25 = 25 := by kernel_rfl
 rw [hC] at hl;have e3 : xs.length = 3 := hlen;have h0 : DataW.trod enc Tryd.prog w base spare held n 5 ((cs.drop 0).take (Tryd.prog.cellsOf 5)) = some xs[0] := by
  have := hf 0 _ rfl; rw [List.getElem?_eq_getElem (by omega)] at this; exact this
 rw [c1] at h0;have h1 : DataW.trod enc Tryd.prog w base spare held n 5 ((cs.drop 1).take (Tryd.prog.cellsOf 5)) = some xs[1] := by
  have := hf 1 _ rfl; rw [List.getElem?_eq_getElem (by omega)] at this; exact this
 rw [c1] at h1;have h2 : DataW.trod enc Tryd.prog w base spare held n 25 ((cs.drop 2).take (Tryd.prog.cellsOf 25)) = some xs[2] := by
  have := hf 2 _ rfl; rw [List.getElem?_eq_getElem (by omega)] at this; exact this
 rw [c25] at h2;obtain ⟨s,hs,_,ws⟩ := DataW.trod_int Tryd.underlying5 h0;obtain ⟨m,hm,_,wm⟩ := DataW.trod_int Tryd.underlying5 h1;obtain ⟨r0,r1,r2,r3,r4,o0,o1,o2,o3,o4,hr⟩ := b25_of Tryd.underlying25 Tryd.underlying24 Tryd.underlying5 (by kernel_rfl) (by kernel_rfl) (by kernel_rfl) h2;refine ⟨⟨s,m,r0,r1,r2,r3,r4⟩,⟨u8_bounds ws,u8_bounds wm,o0,o1,o2,o3,o4⟩,?_⟩;have a0 : cs.drop 0 = (cs.drop 0).take 1 ++ cs.drop 1 := by have := List.take_append_drop 1 (cs.drop 0); rw [List.drop_drop] at this; exact this.symm
 have a1 : cs.drop 1 = (cs.drop 1).take 1 ++ cs.drop 2 := by have := List.take_append_drop 1 (cs.drop 1); rw [List.drop_drop] at this; exact this.symm
 have a2 : (cs.drop 2).take 25 = cs.drop 2 := List.take_of_length_le (by simp [hl]);rw [hr] at a2;rw [← a2,hm] at a1;rw [a1,hs] at a0;rw [← List.drop_zero (l := cs),a0];rfl
theorem arr2_of {P : Program} {t e : TypeId} {k : Nat} (ht : P.underlying t = some (.array 2 e)) (hc : P.cellsOf t = k + k) (hce : P.cellsOf e = k) {fuel : Nat} {cs : List Value} {x : DataW H × List MemPlace}
 (h : DataW.trod enc P w base spare held fuel t cs = some x) : ∃ (d0 d1 : List Value) (y0 y1 : DataW H × List MemPlace) (m : Nat),cs = d0 ++ d1 ∧ DataW.trod enc P w base spare held m e d0 = some y0 ∧ DataW.trod enc P w base spare held m e d1 = some y1 := by
 obtain ⟨xs,m,_,_,hl,hlen,hf⟩ := DataW.trod_array ht h;rw [hc] at hl;have h0 := hf 0 (by decide);have h1 := hf 1 (by decide);rw [hce,List.getElem?_eq_getElem (by omega)] at h0 h1;rw [Nat.zero_mul,List.drop_zero] at h0;rw [Nat.one_mul,List.take_of_length_le (by simp; omega)] at h1;exact ⟨cs.take k,cs.drop k,_,_,m,(List.take_append_drop k cs).symm,h0,h1⟩
theorem two_in {v : Value} {d : DataW H} {p : List MemPlace} {r : Reach} {b0 : Nat} (hv : Value.okWide Tryd.prog w r b0 30 v) (h : DataW.Trod enc Tryd.prog w base spare held 30 v d p) :
 ∃ (s0 s1 : Int) (g0 g1 : Gr),v = .agg (twoCells s0 s1 g0 g1).toArray ∧ (0 ≤ s0 ∧ s0 < 256) ∧ (0 ≤ s1 ∧ s1 < 256) ∧ g0.Ok ∧ g1.Ok := by
 obtain ⟨⟨cs⟩,rfl,hsz⟩ := okWide_struct Tryd.underlying30 hv;obtain ⟨fuel,hf0⟩ := h;have hf : DataW.trod enc Tryd.prog w base spare held fuel 30 cs = some (d,p) := by simpa [Value.cells] using hf0
 obtain ⟨c0,c1,y0,y1,n0,n1,rfl,h0,h1⟩ := st2_of Tryd.underlying30 (by kernel_rfl) hf;obtain ⟨d0,d1,_,_,m,rfl,t0,t1⟩ := arr2_of (k := 1) Tryd.underlying23 (by kernel_rfl) (by kernel_rfl) h0;obtain ⟨e0,e1,_,_,m',rfl,u0,u1⟩ := arr2_of (k := 27) Tryd.underlying28 (by kernel_rfl) (by kernel_rfl) h1;obtain ⟨s0,rfl,_,w0⟩ := DataW.trod_int Tryd.underlying22 t0;obtain ⟨s1,rfl,_,w1⟩ := DataW.trod_int Tryd.underlying22 t1;obtain ⟨g0,o0,rfl⟩ := gr_of u0;obtain ⟨g1,o1,rfl⟩ := gr_of u1;exact ⟨s0,s1,g0,g1,rfl,u8_bounds w0,u8_bounds w1,o0,o1⟩
end
end
end Go.Proofs.YtkifgffhoenaoaaDoor
