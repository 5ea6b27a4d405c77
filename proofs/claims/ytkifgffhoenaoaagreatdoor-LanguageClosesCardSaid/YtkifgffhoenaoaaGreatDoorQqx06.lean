/-
  What the row leans on.
-/
import Derived.Test.YtkifgffhoenaoaaGreatDoorBas01
import Derived.Test.YtkifgffhoenaoaaGreatDoorQqx05
import Derived.Test.YtkifgffhoenaoaaGreatDoorQqx04
import Derived.Test.YtkifgffhoenaoaaGreatDoorBas04
import Derived.Test.YtkifgffhoenaoaaGreatDoorQqx02
import Derived.Test.YtkifgffhoenaoaaGreatDoorQqx03
set_option linter.unusedSimpArgs false
set_option linter.unusedVariables false
namespace Go.Proofs.YtkifgffhoenaoaaGreatDoor
open Go.RowKit
set_option maxRecDepth 100000
theorem Mx.le {q : Au} {c : List Int} {m : Nat} (h : Mx q c m) : m ≤ q.n.toNat := (pigeon (fun s => (c.getD s 0).toNat - 1) m q.n.toNat (fun x hx => by
 obtain ⟨s,hs,hsx⟩ := h.su x hx;exact ⟨s,hs,by show (c.getD s 0).toNat - 1 = x; omega⟩)).1
def GivesMn (al : List Int) (L : List Int → Prop) (w : World) (e : Ending) (w' : World) : Prop := ∃ m p',e = .returned (m.val p') ∧ (SepW w (eAu m p') w') ∧ Hid (Lens m) ∧ Hid (IsMin m L) ∧ m.al = al
set_option maxHeartbeats 16000000 in
theorem minimal9_c (a : Au) (p : AuP) (w : World) (hr : a.Right) (hA : Au.At w a p) (hN : p.A1 = none → p.c1 = 0) :
 Calls Tryz.prog 44 #[a.val p] w (GivesMn a.al (fun u => rn a u ∈ a.mr) w) := by
 have HR := Lib.hid hr;have HA := Lib.hid hA;have HAN : Hid (p.A1 = none → a.al = [] ∧ p.c1 = 0) := fun h => by
  refine ⟨?_,hN h⟩;cases hal : a.al with
  | nil => rfl
  | cons x l =>
    obtain ⟨b,off,h2,_⟩ := hA.al (by rw [hal]; simp);rw [h] at h2;cases h2
 have h0 := hr.n0;have hn := hr.n1;have hal : a.al.length ≤ 32 := by simpa using hr.al.short
 have hml : a.mr.length ≤ 4096 := by have := hr.mr.short; omega
 have HEM : Hid ((∀ u,¬ rn a u ∈ a.mr) → IsMin ⟨a.al,0,[],[]⟩ (fun u => rn a u ∈ a.mr)) := fun h => empty_isMin hr.al h;obtain ⟨L,hL⟩ : ∃ L : List Int → Prop,L = fun u => rn a u ∈ a.mr := ⟨_,rfl⟩
 rw [← hL] at HEM ⊢;have HLE : Hid (∀ u,L u ↔ rn a u ∈ a.mr) := by rw [hL]; exact fun u => Iff.rfl
 clear hL;obtain ⟨al,n,mr,ed⟩ := a;obtain ⟨A1,c1,A2,c2,A3,c3⟩ := p;(try dsimp only [Au.val] at *);obtain ⟨N,rfl⟩ := Int.eq_ofNat_of_zero_le h0;clear hr hA h0 hN;go_enter Tryz.func44,Tryz.ntmps44
 go_upto_region 1 with fail
 refine wp_world (fun W => Sep w.heap.size w [eBlk (w.heap.size + 1) 31 [.slice none 0 0,.int .i64 0,.slice none 0 0,.slice none 0 0],eBlk w.heap.size 31 [.slice A1 al.length c1,.int .i64 ↑N,.slice A2 mr.length c2,.slice A3 ed.length c3]] W) ?_ fun W S => ?_
 · exact ((Sep.here w).alloc' _ [_,_,_,_] rfl rfl).alloc' _ [_,_,_,_] rfl (by simp)
 have S0 := Lib.hid S;clear S;have a0 := ckC S0.out 1 rfl 0 rfl;have a1 := ckC S0.out 1 rfl 1 rfl;have a2 := ckC S0.out 1 rfl 2 rfl;have a3 := ckC S0.out 1 rfl 3 rfl;by_cases hz : N = 0
 · have EMP : Hid (IsMin ⟨al,0,[],[]⟩ L) := HEM.out fun u => by
    have e : (⟨al,↑N,mr,ed⟩ : Au).st = -1 := by unfold Au.st; rw [if_pos (by simp only; omega)]
    have e2 : rn ⟨al,↑N,mr,ed⟩ u = -1 := by unfold rn; rw [e,runV_neg _ (by omega)]
    rw [e2];exact fun h => by have := (HR.out.mem h).1; omega
   have hq : ((N : Int) == 0) = true := by simpa using hz
   clear hz;go_wp2_with fail
   refine (Empty_c A1 c1 al W (HA.out.below S0.out.below).al (by omega) HAN.out).mono ?_;rintro e w5 ⟨AE,cE,rfl,HO,hb⟩;have S5 : (SepW w [eInts al (.slice AE al.length cE),eBlk (w.heap.size + 1) 31 [.slice none 0 0,.int .i64 0,.slice none 0 0,.slice none 0 0],eBlk w.heap.size 31 [.slice A1 al.length c1,.int .i64 ↑N,.slice A2 mr.length c2,.slice A3 ed.length c3]] w5) := S0.out.newI HO.out hb;clear hb HO S0;have SZ : (SepW w [eInts al (.slice AE al.length cE),eBlk (w.heap.size + 1) 31 [.slice AE al.length cE,.int .i64 0,.slice none 0 0,.slice none 0 0],eBlk w.heap.size 31 [.slice A1 al.length c1,.int .i64 ↑N,.slice A2 mr.length c2,.slice A3 ed.length c3]] _) := ((((S5.out.set 1 rfl 0 (.slice AE al.length cE)).set 1 rfl 1 (.int .i64 0)).set 1 rfl 2 (.slice none 0 0)).set 1 rfl 3 (.slice none 0 0));have r0 := ckC S5.out 1 rfl 0 rfl;have r1 := ckC S5.out 1 rfl 1 rfl;have r2 := ckC S5.out 1 rfl 2 rfl;have r3 := ckC S5.out 1 rfl 3 rfl;have f0 := BlkAt.free (S5.out.get 1 rfl) 0;have f1 := BlkAt.free (S5.out.get 1 rfl) 1;have f2 := BlkAt.free (S5.out.get 1 rfl) 2;have f3 := BlkAt.free (S5.out.get 1 rfl) 3;have t0 := ckC SZ.out 1 rfl 0 rfl;have t1 := ckC SZ.out 1 rfl 1 rfl;have t2 := ckC SZ.out 1 rfl 2 rfl;have t3 := ckC SZ.out 1 rfl 3 rfl;go_wp2_with fail
   refine bodyPost_ret (v := .agg #[.slice AE al.length cE,.int .i64 0,.slice none 0 0,.slice none 0 0]) (by simp [results,Tryz.results44,go_sem, *]) rfl ?_;exact ⟨⟨al,0,[],[]⟩,⟨AE,cE,none,0,none,0⟩,rfl,(((SZ.out.nilOwn encI 1 3).nilOwn Ed.cells 3 67).pick [2,1,0] (by decide)),⟨by simp only; omega,by simp,by simp⟩,EMP.out,rfl⟩
 · have hq : ((N : Int) == 0) = false := by simpa using hz
   go_wp2_with fail
   refine (classes9_c ⟨al,↑N,mr,ed⟩ ⟨A1,c1,A2,c2,A3,c3⟩ W HR.out (HA.out.below S0.out.below)).mono ?_;rintro e W1 ⟨gc,rfl,T⟩;simp only [Int.toNat_natCast] at T ⊢;have HG : Hid (∀ s : Nat,s < N → (gdN ⟨al,↑N,mr,ed⟩ N s = true ↔ Good ⟨al,↑N,mr,ed⟩ s)) := fun s hs => by
    have h := gdN_fin HR.out s (by simpa using hs);simpa using h
   obtain ⟨gd,hgd⟩ : ∃ gd,gdN ⟨al,↑N,mr,ed⟩ N = gd := ⟨_,rfl⟩;rw [hgd] at T HG;have HG2 : ∀ s : Nat,s < (⟨al,↑N,mr,ed⟩ : Au).n.toNat → (gd s = true ↔ Good ⟨al,↑N,mr,ed⟩ s) := fun s hs => HG.out s (by simpa using hs);have HF := clsN_fin HR.out HG2 (by show (0 : Int) < (N : Int); omega);have HP := Lib.hid (clsN_pre HR.out HG2 N);have hcl : (clsN ⟨al,↑N,mr,ed⟩ gd N).length = N := by rw [clsN_len]; simp
   simp only [Int.toNat_natCast] at HF;obtain ⟨cc,hcc⟩ : ∃ cc,clsN ⟨al,↑N,mr,ed⟩ gd N = cc := ⟨_,rfl⟩;rw [hcc] at T HF HP hcl;have HST := Lib.hid HF.1;obtain ⟨mm,hmx⟩ := HF.2;have HMX := Lib.hid hmx;have HG3 := Lib.hid HG2;have HCL := Lib.hid hcl;have S1 := ckN S0.out T.out;clear T S0 hgd hcc HF hmx HG2 HG hcl a0 a1 a2 a3;have hcat : ∀ s : Nat,s < N → cc[s]? = some (cc.getD s 0) := fun s hs => by rw [List.getD_eq_getElem?_getD,List.getElem?_eq_getElem (by rw [HCL.out]; exact hs)]; rfl
   have HCAT := Lib.hid hcat;have hc00 := hcat 0 (by omega);obtain ⟨z0,hz0⟩ : ∃ z,cc.getD 0 0 = z := ⟨_,rfl⟩;rw [hz0] at hc00;have HZ0 := Lib.hid hz0;have k0 : W1.cell? ⟨gc,0,none⟩ = some (.int .i64 z0) := (BlkAt.cell (S1.out.get 0 rfl) 0).trans (iv_get hc00);have a0 := ckC S1.out 2 rfl 0 rfl;have a1 := ckC S1.out 2 rfl 1 rfl;have hNp : 0 < N := by omega
   clear hcat hc00 hz0;by_cases hc0 : z0 = 0
   · have EMP : Hid (IsMin ⟨al,0,[],[]⟩ L) := HEM.out fun u h => by
      have hg : Good ⟨al,↑N,mr,ed⟩ ((0 : Nat) : Int) := ⟨u,by
       have e : (⟨al,↑N,mr,ed⟩ : Au).st = ((0 : Nat) : Int) := by unfold Au.st; rw [if_neg (by simp only; omega)]; rfl
       rw [← e]; exact h⟩
      have h1 := (HG3.out 0 (by simpa using hNp)).2 hg;have h2 := (HP.out.z 0 (by simpa using hNp)).1 (HZ0.out.trans hc0);rw [h1] at h2;cases h2
     have hq2 : (z0 == 0) = true := by rw [hc0]; rfl
     clear hc0;go_wp2_with fail
     refine (Empty_c A1 c1 al W1 (HA.out.below S1.out.below).al (by omega) HAN.out).mono ?_;rintro e w5 ⟨AE,cE,rfl,HO,hb⟩;have S5 : (SepW w [eInts al (.slice AE al.length cE),eBlk gc 3 (iv cc),eBlk (w.heap.size + 1) 31 [.slice none 0 0,.int .i64 0,.slice none 0 0,.slice none 0 0],eBlk w.heap.size 31 [.slice A1 al.length c1,.int .i64 ↑N,.slice A2 mr.length c2,.slice A3 ed.length c3]] w5) := S1.out.newI HO.out hb;clear hb HO S1;have SZ : (SepW w [eInts al (.slice AE al.length cE),eBlk gc 3 (iv cc),eBlk (w.heap.size + 1) 31 [.slice AE al.length cE,.int .i64 0,.slice none 0 0,.slice none 0 0],eBlk w.heap.size 31 [.slice A1 al.length c1,.int .i64 ↑N,.slice A2 mr.length c2,.slice A3 ed.length c3]] _) := ((((S5.out.set 2 rfl 0 (.slice AE al.length cE)).set 2 rfl 1 (.int .i64 0)).set 2 rfl 2 (.slice none 0 0)).set 2 rfl 3 (.slice none 0 0));have r0 := ckC S5.out 2 rfl 0 rfl;have r1 := ckC S5.out 2 rfl 1 rfl;have r2 := ckC S5.out 2 rfl 2 rfl;have r3 := ckC S5.out 2 rfl 3 rfl;have f0 := BlkAt.free (S5.out.get 2 rfl) 0;have f1 := BlkAt.free (S5.out.get 2 rfl) 1;have f2 := BlkAt.free (S5.out.get 2 rfl) 2;have f3 := BlkAt.free (S5.out.get 2 rfl) 3;have t0 := ckC SZ.out 2 rfl 0 rfl;have t1 := ckC SZ.out 2 rfl 1 rfl;have t2 := ckC SZ.out 2 rfl 2 rfl;have t3 := ckC SZ.out 2 rfl 3 rfl;go_wp2_with fail
     refine bodyPost_ret (v := .agg #[.slice AE al.length cE,.int .i64 0,.slice none 0 0,.slice none 0 0]) (by simp [results,Tryz.results44,go_sem, *]) rfl ?_;exact ⟨⟨al,0,[],[]⟩,⟨AE,cE,none,0,none,0⟩,rfl,(((SZ.out.nilOwn encI 1 3).nilOwn Ed.cells 3 67).pick [2,1,0] (by decide)),⟨by simp only; omega,by simp,by simp⟩,EMP.out,rfl⟩
   · have hq2 : (z0 == 0) = false := by simpa using hc0
     have HC0 : Hid (cc.getD 0 0 ≠ 0) := by rw [HZ0.out]; exact hc0
     obtain ⟨nb,hnb⟩ : ∃ g,g = W1.heap.size := ⟨_,rfl⟩;go_upto_region 7 with fail
     rw [← hnb];refine wp_world (fun V => Sep w.heap.size w [eBlk gc 3 (iv cc),eBlk nb 31 [.slice A1 al.length c1,.int .i64 0,.slice none 0 0,.slice none 0 0],eInts [] (.slice none 0 0),eEds [] (.slice none 0 0),eBlk (w.heap.size + 1) 31 [.slice none 0 0,.int .i64 0,.slice none 0 0,.slice none 0 0],eBlk w.heap.size 31 [.slice A1 al.length c1,.int .i64 ↑N,.slice A2 mr.length c2,.slice A3 ed.length c3]] V) ?_ fun V S' => ?_
     · exact (((S1.out.alloc' 31 [.slice A1 al.length c1,.int .i64 0,.slice none 0 0,.slice none 0 0] rfl hnb).nilOwn encI 1 3).nilOwn Ed.cells 3 67).pick [3,2,1,0,4,5] (by decide)
     have S2 := Lib.hid S';clear S' S1 hnb hc0 hq2 k0 a0 a1;go_wp2_with fail
     go_loopw [5,6,7,8] (fun v5 _ _ _ wr => ∃ (i : Nat) (rp : List Nat) (v2 v3 : Value),v5 = .int .i64 ↑i ∧ i ≤ N ∧ Hid (Reps ⟨al,↑N,mr,ed⟩ cc i rp) ∧ (SepW w [eBlk gc 3 (iv cc),eBlk nb 31 [.slice A1 al.length c1,.int .i64 ((rp.length : Nat) : Int),v2,v3],eInts (mkQ ⟨al,↑N,mr,ed⟩ rp) v2,eEds (rowsG al (nxQ ⟨al,↑N,mr,ed⟩ cc rp) rp.length) v3,eBlk (w.heap.size + 1) 31 [.slice none 0 0,.int .i64 0,.slice none 0 0,.slice none 0 0],eBlk w.heap.size 31 [.slice A1 al.length c1,.int .i64 ↑N,.slice A2 mr.length c2,.slice A3 ed.length c3]] wr)) (fun v5 _ _ _ _ => N - (intOf v5).toNat)
     case atStart => exact ⟨0,[],.slice none 0 0,.slice none 0 0,rfl,Nat.zero_le _,Reps.start,S2.out⟩
     case round =>
      clear S2;obtain ⟨i,rp,v2,v3,rfl,hi,RP,S⟩ := hrel;have a1 := ckC S.out 5 rfl 1 rfl;by_cases hlt : i < N
      · have hci := HCAT.out i hlt;obtain ⟨zi,hzi⟩ : ∃ z,cc.getD i 0 = z := ⟨_,rfl⟩;rw [hzi] at hci;have HZI := Lib.hid hzi;have k0 : wr.cell? ⟨gc,i,none⟩ = some (.int .i64 zi) := (BlkAt.cell (S.out.get 0 rfl) i).trans (iv_get hci);clear hci hzi;have o1 := ckC S.out 1 rfl 1 rfl;have hrl := RP.out.len;by_cases hle : zi ≤ ((rp.length : Nat) : Int)
        · have RP2 := Lib.hid (RP.out.skip (by rw [HZI.out]; exact hle));have hq3 : decide (zi ≤ ((rp.length : Nat) : Int)) = true := by simpa using hle
          clear RP hle;go_wp2_with fail
          go_quiet (fail)
          go_wp2_with fail
          go_roundw
          case rel => exact ⟨i + 1,rp,v2,v3,by go_num,by omega,RP2.out,S.out.draws _⟩
          case measure => simp [intOf]; omega
        · have RP2 := Lib.hid (RP.out.push HMX.out (by simpa using hlt) (by rw [HZI.out]; exact hle)).2;have hq3 : decide (zi ≤ ((rp.length : Nat) : Int)) = false := by simpa using hle
          have hw : IntKind.i64.wrap (((rp.length : Nat) : Int) + 1) = ((rp.length : Nat) : Int) + 1 := IntWalk.i64_in _ (by omega);clear RP hle;go_wp2_with fail
          go_quiet (fail)
          go_upto_region 12 with fail
          refine wp_world (fun V => Sep w.heap.size w [eBlk gc 3 (iv cc),eBlk nb 31 [.slice A1 al.length c1,.int .i64 ((rp.length : Nat) : Int),v2,v3],eInts (mkQ ⟨al,↑N,mr,ed⟩ rp) v2,eEds (rowsG al (nxQ ⟨al,↑N,mr,ed⟩ cc rp) rp.length) v3,eBlk (w.heap.size + 1) 31 [.slice none 0 0,.int .i64 0,.slice none 0 0,.slice none 0 0],eBlk w.heap.size 31 [.slice A1 al.length c1,.int .i64 ↑N,.slice A2 mr.length c2,.slice A3 ed.length c3]] V) (S.out.draws _) fun V S' => ?_;have SV := Lib.hid S';clear S' S k0 o1 a1;have o1 := ckC SV.out 1 rfl 1 rfl;have f1 := BlkAt.free (SV.out.get 1 rfl) 1;go_upto_region 13 with fail
          refine wp_world (fun V => Sep w.heap.size w [eBlk gc 3 (iv cc),eBlk nb 31 [.slice A1 al.length c1,.int .i64 (((rp.length : Nat) : Int) + 1),v2,v3],eInts (mkQ ⟨al,↑N,mr,ed⟩ rp) v2,eEds (rowsG al (nxQ ⟨al,↑N,mr,ed⟩ cc rp) rp.length) v3,eBlk (w.heap.size + 1) 31 [.slice none 0 0,.int .i64 0,.slice none 0 0,.slice none 0 0],eBlk w.heap.size 31 [.slice A1 al.length c1,.int .i64 ↑N,.slice A2 mr.length c2,.slice A3 ed.length c3]] V) (SV.out.set 1 rfl 1 (.int .i64 (((rp.length : Nat) : Int) + 1))) fun V2 S' => ?_;have S2 := Lib.hid S';clear S' SV o1 f1;have a0 := ckC S2.out 5 rfl 0 rfl;have a1 := ckC S2.out 5 rfl 1 rfl;have a2 := ckC S2.out 5 rfl 2 rfl;have a3 := ckC S2.out 5 rfl 3 rfl;go_wp2_with fail
          refine (marked9_c ⟨al,↑N,mr,ed⟩ ⟨A1,c1,A2,c2,A3,c3⟩ (i : Int) V2 (HA.out.below S2.out.below).mr HA.out.lmk).mono ?_;rintro e w3 ⟨b,rfl,hb',hb⟩;have HB := Lib.hid hb';have S3 := Lib.hid (S2.out.next hb);clear hb hb' S2 a0 a1 a2 a3;have hmq : (mkQ ⟨al,↑N,mr,ed⟩ rp).length ≤ 1048576 := by have := mkQ_len ⟨al,↑N,mr,ed⟩ rp; omega
          go_upto_if 48 with fail
          go_cut [48] (fun v wx => ∃ (v2' : Value),(SepW w [eBlk gc 3 (iv cc),eBlk nb 31 [.slice A1 al.length c1,.int .i64 (((rp.length : Nat) : Int) + 1),v2',v3],eInts (mkQ ⟨al,↑N,mr,ed⟩ (rp ++ [i])) v2',eEds (rowsG al (nxQ ⟨al,↑N,mr,ed⟩ cc rp) rp.length) v3,eBlk (w.heap.size + 1) 31 [.slice none 0 0,.int .i64 0,.slice none 0 0,.slice none 0 0],eBlk w.heap.size 31 [.slice A1 al.length c1,.int .i64 ↑N,.slice A2 mr.length c2,.slice A3 ed.length c3]] wx))
          case first =>
           cases b;case true =>
            have HM : Hid ((i : Int) ∈ mr) := HB.out.1 rfl;have hMS : Hid (mkQ ⟨al,↑N,mr,ed⟩ (rp ++ [i]) = mkQ ⟨al,↑N,mr,ed⟩ rp ++ [((rp.length : Nat) : Int)]) := by rw [Hid,mkQ_snoc,if_pos HM.out]
            have q2 := ckC S3.out 1 rfl 2 rfl;go_wp2_with (at_builtin; refine wpList_pushS rfl _ _ 28 rfl (S3.out.alloc 3 [.int .i64 ((rp.length : Nat) : Int)]) 3 rfl Tryz.underlying28 _ 8 intInfo rfl (by decide) rfl ((rp.length : Nat) : Int) _ rfl rfl (one_cell _ _ [_] _ rfl) (encI_one _) hmq (by decide) ?_)
            intro A5 c5 w6 S9 _;have S10 : (SepW w (([eBlk gc 3 (iv cc),eBlk nb 31 [.slice A1 al.length c1,.int .i64 (((rp.length : Nat) : Int) + 1),v2,v3],eInts (mkQ ⟨al,↑N,mr,ed⟩ rp) v2,eEds (rowsG al (nxQ ⟨al,↑N,mr,ed⟩ cc rp) rp.length) v3,eBlk (w.heap.size + 1) 31 [.slice none 0 0,.int .i64 0,.slice none 0 0,.slice none 0 0],eBlk w.heap.size 31 [.slice A1 al.length c1,.int .i64 ↑N,.slice A2 mr.length c2,.slice A3 ed.length c3]]).set 2 (eInts (mkQ ⟨al,↑N,mr,ed⟩ (rp ++ [i])) (.slice A5 ((mkQ ⟨al,↑N,mr,ed⟩ rp).length + 1) c5))) w6) := by
             rw [hMS.out];exact S9.drop1
            have u2 := ckC S10.out 1 rfl 2 rfl;have f2 := BlkAt.free (S10.out.get 1 rfl) 2;have S11 := Lib.hid (S10.out.set 1 rfl 2 (.slice A5 ((mkQ ⟨al,↑N,mr,ed⟩ rp).length + 1) c5));clear S3 S9 S10 q2 HB;go_wp2_with fail
            go_meet
            exact ⟨_,S11.out⟩
           case false =>
            have HM : Hid (¬ (i : Int) ∈ mr) := fun h => by have := HB.out.2 h; cases this
            have S11 : (SepW w (([eBlk gc 3 (iv cc),eBlk nb 31 [.slice A1 al.length c1,.int .i64 (((rp.length : Nat) : Int) + 1),v2,v3],eInts (mkQ ⟨al,↑N,mr,ed⟩ rp) v2,eEds (rowsG al (nxQ ⟨al,↑N,mr,ed⟩ cc rp) rp.length) v3,eBlk (w.heap.size + 1) 31 [.slice none 0 0,.int .i64 0,.slice none 0 0,.slice none 0 0],eBlk w.heap.size 31 [.slice A1 al.length c1,.int .i64 ↑N,.slice A2 mr.length c2,.slice A3 ed.length c3]]).set 2 (eInts (mkQ ⟨al,↑N,mr,ed⟩ (rp ++ [i])) v2)) w3) := by
             rw [mkQ_snoc,if_neg HM.out];exact S3.out
            clear S3 HB;go_wp2_with fail
            go_meet
            exact ⟨v2,S11.out⟩
          case rest =>
           clear S3 HB hmq;obtain ⟨v2,S⟩ := hcut;have S0 : (SepW w [eBlk gc 3 (iv cc),eBlk nb 31 [.slice A1 al.length c1,.int .i64 (((rp.length : Nat) : Int) + 1),v2,v3],eInts (mkQ ⟨al,↑N,mr,ed⟩ (rp ++ [i])) v2,eEds (rowsG al (nxQ ⟨al,↑N,mr,ed⟩ cc rp) rp.length ++ rowG (al.take 0) rp.length (fun e => clQ cc (nextV ed (i : Int) e))) v3,eBlk (w.heap.size + 1) 31 [.slice none 0 0,.int .i64 0,.slice none 0 0,.slice none 0 0],eBlk w.heap.size 31 [.slice A1 al.length c1,.int .i64 ↑N,.slice A2 mr.length c2,.slice A3 ed.length c3]] wc) := by
            have e : rowG (al.take 0) rp.length (fun e => clQ cc (nextV ed (i : Int) e)) = [] := rfl;rw [e,List.append_nil];exact S.out
           clear S;go_wp2_with fail
           go_loopw [7,8] (fun v7 _ wr => ∃ (t : Nat) (v3' : Value),v7 = .int .i64 ↑t ∧ t ≤ al.length ∧ (SepW w [eBlk gc 3 (iv cc),eBlk nb 31 [.slice A1 al.length c1,.int .i64 (((rp.length : Nat) : Int) + 1),v2,v3'],eInts (mkQ ⟨al,↑N,mr,ed⟩ (rp ++ [i])) v2,eEds (rowsG al (nxQ ⟨al,↑N,mr,ed⟩ cc rp) rp.length ++ rowG (al.take t) rp.length (fun e => clQ cc (nextV ed (i : Int) e))) v3',eBlk (w.heap.size + 1) 31 [.slice none 0 0,.int .i64 0,.slice none 0 0,.slice none 0 0],eBlk w.heap.size 31 [.slice A1 al.length c1,.int .i64 ↑N,.slice A2 mr.length c2,.slice A3 ed.length c3]] wr)) (fun v7 _ _ => al.length - (intOf v7).toNat)
           case atStart => exact ⟨0,v3,rfl,Nat.zero_le _,S0.out⟩
           case round =>
            clear S0;obtain ⟨t,v3,rfl,ht,S⟩ := hrel;have a0 := ckC S.out 5 rfl 0 rfl;by_cases htl : t < al.length
            · obtain ⟨bL,oL,ev,rfl,hbe,hev,ce⟩ := IntsAt.at HA.out.al htl;have HT : Hid (al.take (t + 1) = al.take t ++ [ev]) := by rw [Hid,List.take_add_one,hev]; rfl
              obtain ⟨tx,htx⟩ : ∃ t,toV (stepOf ed) (i : Int) ev = t := ⟨_,rfl⟩;have HTX := Lib.hid htx;have hnx : nextV ed (i : Int) ev = tx := (HR.out.next (i : Int) ev).trans htx;have cx : tx = -1 ∨ 0 ≤ tx ∧ tx < (N : Int) := by have h := Pre.key.next_rg HR.out (i : Int) ev; simp only at h; rw [hnx] at h; exact h
              have HNX := Lib.hid hnx;clear htx hnx hev;go_upto_region 18 with fail
              go_cut [8] (fun x wx => x = .int .i64 tx ∧ (SepW w [eBlk gc 3 (iv cc),eBlk nb 31 [.slice (some ⟨bL,oL,none⟩) al.length c1,.int .i64 (((rp.length : Nat) : Int) + 1),v2,v3],eInts (mkQ ⟨al,↑N,mr,ed⟩ (rp ++ [i])) v2,eEds (rowsG al (nxQ ⟨al,↑N,mr,ed⟩ cc rp) rp.length ++ rowG (al.take t) rp.length (fun e => clQ cc (nextV ed (i : Int) e))) v3,eBlk (w.heap.size + 1) 31 [.slice none 0 0,.int .i64 0,.slice none 0 0,.slice none 0 0],eBlk w.heap.size 31 [.slice (some ⟨bL,oL,none⟩) al.length c1,.int .i64 ↑N,.slice A2 mr.length c2,.slice A3 ed.length c3]] wx))
              case first =>
               have S1 := Lib.hid S.out.drew;refine wp_region_held_drew (S := (fun V => Sep w.heap.size w [eBlk w.heap.size 31 [.slice (some ⟨bL,oL,none⟩) al.length c1,.int .i64 ↑N,.slice A2 mr.length c2,.slice A3 ed.length c3]] V)) (by kernel_rfl) ?_ (fun hH => ?_)
               · exact S1.out.pick [5] (by decide)
               generalize hwz : wr.drew = w1 at *;clear hwz;refine tkH 0 rfl (v := ?_) (by kernel_rfl) ?_ hH ?_;rotate_left
               · intro V hs_;have a0 := ckC hs_ 0 rfl 0 rfl;have a1 := ckC hs_ 0 rfl 1 rfl;have a2 := ckC hs_ 0 rfl 2 rfl;have a3 := ckC hs_ 0 rfl 3 rfl;clear hs_;first | (go_simp; done) | (go_simp; with_reducible rfl)
               (try simp only [sx]);refine tkP 1 rfl (v := ?_) hH ?_;(try simp only [sx]);refine tkP 2 rfl (v := ?_) hH ?_;(try simp only [sx]);refine tkH 3 rfl (v := ?_) (by kernel_rfl) ?_ hH ?_;rotate_left
               · intro V hs_;have a0 := ckC hs_ 0 rfl 0 rfl;clear hs_;first | (go_simp; done) | (go_simp; with_reducible rfl)
               (try simp only [sx]);refine tkP 4 rfl (v := ?_) hH ?_;(try simp only [sx]);refine tkP 5 rfl (v := ?_) hH ?_;(try simp only [sx]);refine tkH 6 rfl (v := ?_) (by kernel_rfl) ?_ hH ?_;rotate_left
               · intro V hs_;have bo := old_cell (show Sep w.heap.size w _ V from hs_).below ce hbe;clear hs_;first | (go_simp; done) | (go_simp; with_reducible rfl)
               (try simp only [sx]);refine rdH 7 rfl fun K hK => ?_;go_simp;refine (step9_e ⟨al,↑N,mr,ed⟩ ⟨some ⟨bL,oL,none⟩,c1,A2,c2,A3,c3⟩ (i : Int) ev tx w1 HR.out (HA.out.below S1.out.below).ed HA.out.led HTX.out).mono ?_;rintro e w2 ⟨rfl,hb⟩;have S2 := Lib.hid (S1.out.next hb);clear hb;refine hK.out _ _ (S2.out.pick [5] (by decide)) fun hH => ?_;clear hK K;(try simp only [sx]);refine tkP 8 rfl (v := ?_) hH ?_;(try simp only [sx]);refine wpAnyH_done (by kernel_rfl) ?_ _;go_wp2_with fail
               go_meet
               exact ⟨rfl,S2.out⟩
              case rest =>
               clear S a0;obtain ⟨rfl,S⟩ := hcut;have skip : clQ cc tx = -1 → Hid (rowG (al.take (t + 1)) rp.length (fun e => clQ cc (nextV ed (i : Int) e)) = rowG (al.take t) rp.length (fun e => clQ cc (nextV ed (i : Int) e))) := fun h => by
                rw [Hid,HT.out];exact rowG_no _ _ _ _ (by rw [HNX.out,h]; decide)
               rcases cx with rfl | hx
               · have HROW := skip rfl;clear skip;go_wp2_with fail
                 go_roundw
                 case rel => exact ⟨t + 1,v3,by go_num,by omega,by rw [HROW.out]; exact S.out⟩
                 case measure => simp [intOf]; omega
               · obtain ⟨m,rfl⟩ := Int.eq_ofNat_of_zero_le hx.1;have hmN : m < N := by omega
                 have hcm := HCAT.out m hmN;have hrg := HMX.out.rg m (by simpa using hmN);have hmm : mm ≤ N := by simpa using HMX.out.le
                 obtain ⟨px,hpx⟩ : ∃ z,cc.getD m 0 = z := ⟨_,rfl⟩;rw [hpx] at hcm hrg;have hcl : clQ cc (m : Int) = px - 1 := by unfold clQ clsI; rw [if_pos hx.1,Int.toNat_natCast,hpx]
                 rw [hcl] at skip;have HCM := Lib.hid hcm;have HCQ := Lib.hid hcl;have k1 : wc.cell? ⟨gc,m,none⟩ = some (.int .i64 px) := (BlkAt.cell (S.out.get 0 rfl) m).trans (iv_get hcm);clear hpx hcl hcm;by_cases hp0 : px > 0
                 · have hq5 : decide (px > 0) = true := by simpa using hp0
                   have HROW0 : Hid (rowG (al.take (t + 1)) rp.length (fun e => clQ cc (nextV ed (i : Int) e)) = rowG (al.take t) rp.length (fun e => clQ cc (nextV ed (i : Int) e)) ++ [⟨((rp.length : Nat) : Int),ev,px - 1⟩]) := by
                    rw [Hid,HT.out];have h := rowG_yes (al.take t) rp.length (fun e => clQ cc (nextV ed (i : Int) e)) ev (by rw [HNX.out,HCQ.out]; omega);rw [h,HNX.out,HCQ.out]
                   obtain ⟨EL,hEL⟩ : ∃ EL,rowsG al (nxQ ⟨al,↑N,mr,ed⟩ cc rp) rp.length ++ rowG (al.take t) rp.length (fun e => clQ cc (nextV ed (i : Int) e)) = EL := ⟨_,rfl⟩;have hel2 : EL.length ≤ 1048576 := by
                    rw [← hEL,List.length_append];have h1 := rowsG_len al (nxQ ⟨al,↑N,mr,ed⟩ cc rp) rp.length;have h2 := rowG_len (al.take t) rp.length (fun e => clQ cc (nextV ed (i : Int) e));have h3 : rp.length * al.length ≤ 4096 * 32 := Nat.mul_le_mul (by omega) hal;have h4 : (al.take t).length ≤ 32 := by rw [List.length_take]; omega
                    omega
                   rw [hEL] at S;have HROW : Hid (rowsG al (nxQ ⟨al,↑N,mr,ed⟩ cc rp) rp.length ++ rowG (al.take (t + 1)) rp.length (fun e => clQ cc (nextV ed (i : Int) e)) = EL ++ [⟨((rp.length : Nat) : Int),ev,px - 1⟩]) := by rw [Hid,HROW0.out,← List.append_assoc,hEL]
                   obtain ⟨AV3,cV3,rfl⟩ := S.out.form 3 rfl;have hw : IntKind.i64.wrap (px - 1) = px - 1 := IntWalk.i64_in _ (by omega);have hcm := HCM.out;clear skip HROW0 hEL;go_wp2_with fail
                   have S3 := Lib.hid S.out.drew;refine wp_region_held_drew (S := (fun V => Sep w.heap.size w [eBlk gc 3 (iv cc),eBlk w.heap.size 31 [.slice (some ⟨bL,oL,none⟩) al.length c1,.int .i64 ↑N,.slice A2 mr.length c2,.slice A3 ed.length c3]] V)) (by kernel_rfl) ?_ (fun hH => ?_)
                   · exact S3.out.pick [0,5] (by decide)
                   generalize hwz : wc.drew = w3 at *;clear hwz;refine tkP 0 rfl (v := ?_) hH ?_;(try simp only [sx]);refine tkP 2 rfl (v := ?_) hH ?_;(try simp only [sx]);refine tkP 3 rfl (v := ?_) hH ?_;(try simp only [sx]);refine tkH 4 rfl (v := ?_) (by kernel_rfl) ?_ hH ?_;rotate_left
                   · intro V hs_;have a0 := ckC hs_ 1 rfl 0 rfl;clear hs_;first | (go_simp; done) | (go_simp; with_reducible rfl)
                   (try simp only [sx]);refine tkP 5 rfl (v := ?_) hH ?_;(try simp only [sx]);refine tkP 6 rfl (v := ?_) hH ?_;(try simp only [sx]);refine tkH 7 rfl (v := ?_) (by kernel_rfl) ?_ hH ?_;rotate_left
                   · intro V hs_;have bo := old_cell (show Sep w.heap.size w _ V from hs_).below ce hbe;clear hs_;first | (go_simp; done) | (go_simp; with_reducible rfl)
                   (try simp only [sx]);refine tkP 8 rfl (v := ?_) hH ?_;(try simp only [sx]);refine tkP 9 rfl (v := ?_) hH ?_;(try simp only [sx]);refine tkP 10 rfl (v := ?_) hH ?_;(try simp only [sx]);refine tkH 11 rfl (v := ?_) (by kernel_rfl) ?_ hH ?_;rotate_left
                   · intro V hs_;have bc := (BlkAt.cell (Sep.get (show Sep w.heap.size w _ V from hs_) 0 rfl) m).trans (iv_get hcm);clear hs_;first | (go_simp; done) | (go_simp; with_reducible rfl)
                   (try simp only [sx]);refine tkP 12 rfl (v := ?_) hH ?_;(try simp only [sx]);refine tkP 13 rfl (v := ?_) hH ?_;(try simp only [sx]);refine wpAnyH_ready (rs := [1,14]) (by kernel_rfl) (by simp) ?_;refine AllReadyH.cons rfl (fun K hK => ?_) (AllReadyH.cons rfl (fun K hK => ?_) AllReadyH.nil)
                   · skip;have b3 := BlkAt.cell (Sep.get S3.out 1 rfl) 3;simp only [List.getElem?_cons_succ,List.getElem?_cons_zero] at b3;go_simp;refine hK.out _ _ (S3.out.pick [0,5] (by decide)) fun hH => ?_;clear hK K;(try simp only [sx]);refine rdH 14 rfl fun K hK => ?_;go_simp;obtain ⟨nnw,hnnw⟩ : ∃ n,n = w3.heap.size := ⟨_,rfl⟩;obtain ⟨w4,hw4⟩ : ∃ v,v = w3.alloc (.cells #[.int .i64 ((rp.length : Nat) : Int),.int .i64 ev,.int .i64 (px - 1)] 67) := ⟨_,rfl⟩;rw [← hw4,← hnnw];have S4 := ckA S3.out hw4 hnnw;skip;clear hw4 hnnw;refine hK.out _ _ (S4.out.pick [1,6] (by decide)) fun hH => ?_;clear hK K;(try simp only [sx]);refine rdH 15 rfl fun K hK => ?_;refine step_pushS rfl (.tmp 80) (.tmp 93) 29 rfl S4.out 4 rfl Tryz.underlying29 _ 24 edInfo rfl (by decide) rfl ⟨((rp.length : Nat) : Int),ev,px - 1⟩ nnw rfl rfl (fun j u hj => (BlkAt.cell (S4.out.get 0 rfl) j).trans hj) (edOne _) hel2 (by decide) ?_;intro Aee5 cee5 w5 S5' _;have S5 := ckR S5';clear S5';refine hK.out _ _ (S5.out.pick [1,6] (by decide)) fun hH => ?_;clear hK K;(try simp only [sx]);refine tkP 16 rfl (v := ?_) hH ?_;(try simp only [sx]);refine rdH 17 rfl fun K hK => ?_;have sc := ckC S5.out 2 rfl 3 rfl;have sf := BlkAt.free (S5.out.get 2 rfl) 3;go_simp;obtain ⟨w6,hw6⟩ : ∃ v,v = w5.setCell ⟨nb,3,none⟩ (.slice Aee5 (EL.length + 1) cee5) := ⟨_,rfl⟩;rw [← hw6];have S6 := ckS S5.out hw6 2 rfl;clear hw6 sc sf;refine hK.out _ _ (S6.out.pick [1,6] (by decide)) fun hH => ?_;clear hK K
                     (try simp only [sx]);refine wpAnyH_done (by kernel_rfl) ?_ _;go_wp2_with fail
                     go_roundw
                     case rel => exact ⟨t + 1,_,by go_num,by omega,by have h := S6.out.pick [1,2,3,4,5,6] (by decide); rw [HROW.out]; exact h⟩
                     case measure => simp [intOf]; omega
                   · skip;go_simp;obtain ⟨nnw,hnnw⟩ : ∃ n,n = w3.heap.size := ⟨_,rfl⟩;obtain ⟨w7,hw7⟩ : ∃ v,v = w3.alloc (.cells #[.int .i64 ((rp.length : Nat) : Int),.int .i64 ev,.int .i64 (px - 1)] 67) := ⟨_,rfl⟩;rw [← hw7,← hnnw];have S7 := ckA S3.out hw7 hnnw;skip;clear hw7 hnnw;refine hK.out _ _ (S7.out.pick [1,6] (by decide)) fun hH => ?_;clear hK K;(try simp only [sx]);refine rdH 1 rfl fun K hK => ?_;have b3 := BlkAt.cell (Sep.get S7.out 2 rfl) 3;simp only [List.getElem?_cons_succ,List.getElem?_cons_zero] at b3;go_simp;refine hK.out _ _ (S7.out.pick [1,6] (by decide)) fun hH => ?_;clear hK K;(try simp only [sx]);refine rdH 15 rfl fun K hK => ?_;refine step_pushS rfl (.tmp 80) (.tmp 93) 29 rfl S7.out 4 rfl Tryz.underlying29 _ 24 edInfo rfl (by decide) rfl ⟨((rp.length : Nat) : Int),ev,px - 1⟩ nnw rfl rfl (fun j u hj => (BlkAt.cell (S7.out.get 0 rfl) j).trans hj) (edOne _) hel2 (by decide) ?_;intro Aee8 cee8 w8 S8' _;have S8 := ckR S8';clear S8';refine hK.out _ _ (S8.out.pick [1,6] (by decide)) fun hH => ?_;clear hK K;(try simp only [sx]);refine tkP 16 rfl (v := ?_) hH ?_;(try simp only [sx]);refine rdH 17 rfl fun K hK => ?_;have sc := ckC S8.out 2 rfl 3 rfl;have sf := BlkAt.free (S8.out.get 2 rfl) 3;go_simp;obtain ⟨w9,hw9⟩ : ∃ v,v = w8.setCell ⟨nb,3,none⟩ (.slice Aee8 (EL.length + 1) cee8) := ⟨_,rfl⟩;rw [← hw9];have S9 := ckS S8.out hw9 2 rfl;clear hw9 sc sf;refine hK.out _ _ (S9.out.pick [1,6] (by decide)) fun hH => ?_;clear hK K;try simp only [sx]
                     refine wpAnyH_done (by kernel_rfl) ?_ _;go_wp2_with fail
                     go_roundw
                     case rel => exact ⟨t + 1,_,by go_num,by omega,by have h := S9.out.pick [1,2,3,4,5,6] (by decide); rw [HROW.out]; exact h⟩
                     case measure => simp [intOf]; omega
                 · have hq5 : decide (px > 0) = false := by simpa using hp0
                   have HROW := skip (by omega);clear skip;go_wp2_with fail
                   go_roundw
                   case rel => exact ⟨t + 1,v3,by go_num,by omega,by rw [HROW.out]; exact S.out⟩
                   case measure => simp [intOf]; omega
            · obtain rfl : t = al.length := by omega
              have S3 : (SepW w [eBlk gc 3 (iv cc),eBlk nb 31 [.slice A1 al.length c1,.int .i64 (((rp ++ [i]).length : Nat) : Int),v2,v3],eInts (mkQ ⟨al,↑N,mr,ed⟩ (rp ++ [i])) v2,eEds (rowsG al (nxQ ⟨al,↑N,mr,ed⟩ cc (rp ++ [i])) (rp ++ [i]).length) v3,eBlk (w.heap.size + 1) 31 [.slice none 0 0,.int .i64 0,.slice none 0 0,.slice none 0 0],eBlk w.heap.size 31 [.slice A1 al.length c1,.int .i64 ↑N,.slice A2 mr.length c2,.slice A3 ed.length c3]] wr) := by
               have h := S.out;rw [List.take_length] at h;have e := rowsQ_snoc ⟨al,↑N,mr,ed⟩ cc rp i;simp only at e
               rw [e];have e2 : (((rp ++ [i]).length : Nat) : Int) = ((rp.length : Nat) : Int) + 1 := by simp
               rw [e2];exact h
              clear S;go_wp2_with fail
              go_roundw
              case rel => exact ⟨i + 1,rp ++ [i],v2,v3,by go_num,by omega,RP2.out,S3.out⟩
              case measure => simp [intOf]; omega
      · obtain rfl : N = i := by omega
        obtain ⟨AM,cM,rfl⟩ := S.out.form 2 rfl;obtain ⟨AE,cE,rfl⟩ := S.out.form 3 rfl;have QO : Hid (QOk ⟨al,↑N,mr,ed⟩ gd cc mm rp) := ⟨HR.out,HG3.out,HP.out,HST.out,HMX.out,by simpa using RP.out⟩;have QR := Lib.hid QO.out.right;have hml2 : (mkQ ⟨al,↑N,mr,ed⟩ rp).length ≤ 1048576 := by have h1 := mkQ_len ⟨al,↑N,mr,ed⟩ rp; have := RP.out.len; omega
        have hel2 : (rowsG al (nxQ ⟨al,↑N,mr,ed⟩ cc rp) rp.length).length ≤ 1048576 := by
         have h1 := rowsG_len al (nxQ ⟨al,↑N,mr,ed⟩ cc rp) rp.length;have := RP.out.len;have h3 : rp.length * al.length ≤ 4096 * 32 := Nat.mul_le_mul (by omega) hal;omega
        have QA : Hid (Au.At wr (quotV ⟨al,↑N,mr,ed⟩ cc rp) ⟨A1,c1,AM,cM,AE,cE⟩) := ⟨(HA.out.below S.out.below).al,S.out.ints 2 rfl,S.out.eds 3 rfl,Nat.le_trans hal (by decide),Nat.le_trans hml2 (by decide),Nat.le_trans hel2 (by decide)⟩;have MN : Hid (IsMin (canonV (quotV ⟨al,↑N,mr,ed⟩ cc rp)) L) := (QO.out.isMin (by show (0 : Int) < (N : Int); omega) HC0.out).congr fun u => (HLE.out u).symm;have b0 := ckC S.out 1 rfl 0 rfl;have b1 := ckC S.out 1 rfl 1 rfl;have b2 := ckC S.out 1 rfl 2 rfl;have b3 := ckC S.out 1 rfl 3 rfl;have CAN := Lib.hid (Canonical_c (quotV ⟨al,↑N,mr,ed⟩ cc rp) ⟨A1,c1,AM,cM,AE,cE⟩ wr QA.out QR.out.raw HAN.out hml2);clear QA QO;go_wp2_with fail
        refine CAN.out.mono ?_;rintro e w5 ⟨p5,rfl,HAO,hb⟩;have hsm := HAO.out.sm;have S5 : (SepW w (eAu (canonV (quotV ⟨al,↑N,mr,ed⟩ cc rp)) p5 ++ [eBlk (w.heap.size + 1) 31 [.slice none 0 0,.int .i64 0,.slice none 0 0,.slice none 0 0]]) w5) := (S.out.pick [4] (by decide)).news (AuOwn.sep HAO.out hb);have hal5 : (canonV (quotV ⟨al,↑N,mr,ed⟩ cc rp)).al = al := rfl;obtain ⟨mc,hmc⟩ : ∃ mc,canonV (quotV ⟨al,↑N,mr,ed⟩ cc rp) = mc := ⟨_,rfl⟩;rw [hmc] at S5 MN hsm hal5 ⊢;have HSM := Lib.hid hsm;have HAL5 := Lib.hid hal5;clear HAO hb S CAN hmc hsm hal5 b0 b1 b2 b3;dsimp only [Au.val];have SZ : (SepW w [eInts mc.al (.slice p5.A1 mc.al.length p5.c1),eInts mc.mr (.slice p5.A2 mc.mr.length p5.c2),eEds mc.ed (.slice p5.A3 mc.ed.length p5.c3),eBlk (w.heap.size + 1) 31 [.slice p5.A1 mc.al.length p5.c1,.int .i64 mc.n,.slice p5.A2 mc.mr.length p5.c2,.slice p5.A3 mc.ed.length p5.c3]] _) := ((((S5.out.set 3 rfl 0 (.slice p5.A1 mc.al.length p5.c1)).set 3 rfl 1 (.int .i64 mc.n)).set 3 rfl 2 (.slice p5.A2 mc.mr.length p5.c2)).set 3 rfl 3 (.slice p5.A3 mc.ed.length p5.c3));have r0 := ckC S5.out 3 rfl 0 rfl;have r1 := ckC S5.out 3 rfl 1 rfl;have r2 := ckC S5.out 3 rfl 2 rfl;have r3 := ckC S5.out 3 rfl 3 rfl;have f0 := BlkAt.free (S5.out.get 3 rfl) 0;have f1 := BlkAt.free (S5.out.get 3 rfl) 1;have f2 := BlkAt.free (S5.out.get 3 rfl) 2;have f3 := BlkAt.free (S5.out.get 3 rfl) 3;have t0 := ckC SZ.out 3 rfl 0 rfl;have t1 := ckC SZ.out 3 rfl 1 rfl;have t2 := ckC SZ.out 3 rfl 2 rfl
        have t3 := ckC SZ.out 3 rfl 3 rfl;go_wp2_with fail
        refine bodyPost_ret (v := .agg #[.slice p5.A1 mc.al.length p5.c1,.int .i64 mc.n,.slice p5.A2 mc.mr.length p5.c2,.slice p5.A3 mc.ed.length p5.c3]) (by simp [results,Tryz.results44,go_sem, *]) rfl ?_;exact ⟨mc,p5,rfl,SZ.out.pick [0,1,2] (by decide),⟨by have := HSM.out.1; omega,by have := HSM.out.2.1; omega,by have := HSM.out.2.2; omega⟩,MN.out,HAL5.out⟩
def dG (gd : Nat → Bool) (s : Nat) : Int := if gd s then 0 else -1
theorem dG_iff {gd : Nat → Bool} {s : Nat} : 0 ≤ dG gd s ↔ gd s = true := by
 unfold dG
 by_cases h : gd s = true
 · simp [h]
 · simp [h]
def edT (gd : Nat → Bool) (l : List Ed) (t : Nat) : List Ed := (l.take t).filter fun x => gd x.dst.toNat
theorem edT_yes {gd : Nat → Bool} {l : List Ed} {t : Nat} {ys ye : Int} {d : Nat} (hx : l[t]? = some ⟨ys,ye,(d : Int)⟩) (h : gd d = true) : edT gd l (t + 1) = edT gd l t ++ [⟨ys,ye,(d : Int)⟩] := by
 unfold edT
 rw [List.take_add_one,hx,Option.toList_some,List.filter_append];simp [h]
theorem edT_no {gd : Nat → Bool} {l : List Ed} {t : Nat} {ys ye : Int} {d : Nat} (hx : l[t]? = some ⟨ys,ye,(d : Int)⟩) (h : gd d = false) : edT gd l (t + 1) = edT gd l t := by
 unfold edT
 rw [List.take_add_one,hx,Option.toList_some,List.filter_append];simp [h]
theorem edT_len (gd : Nat → Bool) (l : List Ed) (t : Nat) : (edT gd l t).length ≤ l.length := Nat.le_trans (List.length_filter_le _ _) (by rw [List.length_take]; omega)
def preA (a : Au) : Au := ⟨a.al,a.n,coV (dG (gdN a a.n.toNat)) a.n.toNat,edT (gdN a a.n.toNat) a.ed a.ed.length⟩
theorem mem_edT {gd : Nat → Bool} {l : List Ed} {x : Ed} : x ∈ edT gd l l.length ↔ x ∈ l ∧ gd x.dst.toNat = true := by
 unfold edT; rw [List.take_length,List.mem_filter]
theorem pre_right {a : Au} (hr : a.Right) : (preA a).Right := by
 have h0 := hr.n0;refine ⟨hr.al,hr.n0,hr.n1,?_,fun i hi x hx => ?_⟩
 · have h := setOk_of (n := a.n) (coV_rises (dG (gdN a a.n.toNat)) a.n.toNat) (fun x hx => by
    obtain ⟨s,h1,h2,_⟩ := mem_coV.1 hx;omega)
   exact h
 · have hm := (mem_edT.1 (List.mem_of_getElem? hx)).1;obtain ⟨q,hq,hqx⟩ := List.mem_iff_getElem.1 hm;have he := hr.edge (p := q) (by rw [List.getElem?_eq_getElem hq,hqx]);refine ⟨he.1,he.2.1,he.2.2.1,he.2.2.2.1,he.2.2.2.2,fun y h0 hy => ?_⟩;have h1 : (a.ed).Pairwise edLt := List.pairwise_iff_getElem.2 fun i j hi hj hij => hr.lex i j _ _ hij (List.getElem?_eq_getElem hi) (List.getElem?_eq_getElem hj);have h2 : (edT (gdN a a.n.toNat) a.ed a.ed.length).Pairwise edLt := by unfold edT; rw [List.take_length]; exact h1.filter _
   obtain ⟨hi1,rfl⟩ := List.getElem?_eq_some_iff.1 hx;obtain ⟨hi2,rfl⟩ := List.getElem?_eq_some_iff.1 hy;have := List.pairwise_iff_getElem.1 h2 (i - 1) i hi2 hi1 (by omega);exact this
theorem pre_good {a : Au} (w : List Int) : preL a w ↔ Good a (rn a w) := by
 unfold preL Liv Good
 simp only [rn_app]
theorem pre_lang {a : Au} (hr : a.Right) (w : List Int) : rn (preA a) w ∈ (preA a).mr ↔ preL a w := by
 have hp := pre_right hr;have h0 := hr.n0;have hgd : ∀ s : Int,0 ≤ s → s < a.n → (gdN a a.n.toNat s.toNat = true ↔ Good a s) := fun s hs hn => by
  have := gdN_fin hr s.toNat (by omega);rwa [Int.toNat_of_nonneg hs] at this
 have key : ∀ w,rn (preA a) w = rn a w ∨ (rn (preA a) w = -1 ∧ ¬ preL a w) := by
  refine snoc_ind (P := fun w => rn (preA a) w = rn a w ∨ (rn (preA a) w = -1 ∧ ¬ preL a w)) (.inl rfl) (fun u e ih => ?_);rcases ih with ih | ⟨ih,hn⟩
  · rcases hr.rn_cases u with h | ⟨h1,h2⟩
    · left
      rw [rn_app,rn_app,ih,h,runV_neg _ (by decide),runV_neg _ (by decide)]
    · have e1 : rn (preA a) (u ++ [e]) = nextV (preA a).ed (rn a u) e := by rw [rn_snoc _ _ _ (by rw [ih]; exact h1),ih]
      have e2 : rn a (u ++ [e]) = nextV a.ed (rn a u) e := rn_snoc _ _ _ h1;rcases hp.next_cases (rn a u) e with g | ⟨g1,g2,x,hx,x1,x2,x3⟩
      · rcases hr.next_cases (rn a u) e with k | ⟨k1,k2,y,hy,y1,y2,y3⟩
        · left; rw [e1,e2,g,k]
        · right
          refine ⟨by rw [e1,g],fun hl => ?_⟩;have hg := (pre_good (u ++ [e])).1 hl;rw [e2] at hg;have hgt := (hgd _ k1 k2).2 hg;have hmem : y ∈ (preA a).ed := mem_edT.2 ⟨hy,by rw [y3]; exact hgt⟩;have := (edge_next hp hmem).1;rw [y1,y2,g] at this;omega
      · left
        have hm := (mem_edT.1 hx).1;have := (edge_next hr hm).1;rw [x1,x2] at this;rw [e1,e2,this,x3]
  · right
    refine ⟨by rw [rn_app,ih,runV_neg _ (by decide)],fun ⟨v,hv⟩ => hn ⟨e :: v,by simpa using hv⟩⟩
 rcases key w with h | ⟨h,hn⟩
 · rw [h];show rn a w ∈ coV _ _ ↔ _
   rw [mem_coV];constructor
   · rintro ⟨s,h1,h2,h3⟩;rw [pre_good,h1];exact (gdN_fin hr s h2).1 (dG_iff.1 h3)
   · intro hl;have hg := (pre_good w).1 hl;rcases hr.rn_cases w with k | ⟨k1,k2⟩
     · obtain ⟨v,hv⟩ := hg;rw [k,runV_neg _ (by decide)] at hv;have := (hr.mem hv).1; omega
     · exact ⟨(rn a w).toNat,by omega,by omega,dG_iff.2 ((hgd _ k1 k2).2 hg)⟩
 · rw [h];constructor
   · intro g; have := (hp.mem g).1; omega
   · exact fun g => absurd g hn
set_option maxHeartbeats 8000000 in
theorem closure9_c (a : Au) (p : AuP) (w : World) (hr : a.Right) (hA : Au.At w a p) (hN : p.A1 = none → p.c1 = 0) :
 Calls Tryz.prog 13 #[a.val p] w (GivesMn a.al (preL a) w) := by
 have HR := Lib.hid hr;have HA := Lib.hid hA;have HN := Lib.hid hN;have h0 := hr.n0;have hn := hr.n1;have hedl := ed_len hr;have HPR := Lib.hid (pre_right hr);have HPL := Lib.hid (pre_lang hr);have HS : Hid (∀ (i : Nat) x,a.ed[i]? = some x → 0 ≤ x.dst ∧ x.dst < a.n) := fun i x hx => ⟨(hr.edge hx).2.2.1,(hr.edge hx).2.2.2.1⟩;obtain ⟨al,n,mr,ed⟩ := a;obtain ⟨A1,c1,A2,c2,A3,c3⟩ := p;dsimp only [Au.val,preA] at *;obtain ⟨N,rfl⟩ := Int.eq_ofNat_of_zero_le h0;simp only [Int.toNat_natCast] at HPR HPL;clear hr hA h0 hN;obtain ⟨gd,hgd⟩ : ∃ gd,gdN ⟨al,↑N,mr,ed⟩ N = gd := ⟨_,rfl⟩;rw [hgd] at HPR HPL;have HGE := Lib.hid hgd;clear hgd;go_enter Tryz.func13,Tryz.ntmps13
 go_upto_region 1 with fail
 refine wp_world (fun W => Sep w.heap.size w [eBlk (w.heap.size + 1) 31 [.slice none 0 0,.int .i64 0,.slice none 0 0,.slice none 0 0],eBlk w.heap.size 31 [.slice A1 al.length c1,.int .i64 ↑N,.slice A2 mr.length c2,.slice A3 ed.length c3]] W) ?_ fun W S => ?_
 · exact ((Sep.here w).alloc' _ [_,_,_,_] rfl rfl).alloc' _ [_,_,_,_] (g := w.heap.size + 1) rfl (by simp)
 have S0 := Lib.hid S;clear S;have a0 := ckC S0.out 1 rfl 0 rfl;have a1 := ckC S0.out 1 rfl 1 rfl;have a2 := ckC S0.out 1 rfl 2 rfl;have a3 := ckC S0.out 1 rfl 3 rfl;go_wp2_with fail
 refine (core9_c ⟨al,↑N,mr,ed⟩ ⟨A1,c1,A2,c2,A3,c3⟩ W HR.out (HA.out.below S0.out.below)).mono ?_;rintro e w1 ⟨gg,rfl,T⟩;simp only [Int.toNat_natCast,HGE.out] at T ⊢;have S1 := ckN S0.out T.out;clear T S0 a0 a1 a2 a3;have a0 := ckC S1.out 2 rfl 0 rfl;have a1 := ckC S1.out 2 rfl 1 rfl;have a2 := ckC S1.out 2 rfl 2 rfl;have a3 := ckC S1.out 2 rfl 3 rfl;obtain ⟨ob,hob⟩ : ∃ g,g = w1.heap.size := ⟨_,rfl⟩;go_upto_region 3 with fail
 rw [← hob];refine wp_world (fun V => Sep w.heap.size w [eBlk ob 31 [.slice A1 al.length c1,.int .i64 ↑N,.slice none 0 0,.slice none 0 0],eBlk gg 4 (mkB N gd),eBlk (w.heap.size + 1) 31 [.slice none 0 0,.int .i64 0,.slice none 0 0,.slice none 0 0],eBlk w.heap.size 31 [.slice A1 al.length c1,.int .i64 ↑N,.slice A2 mr.length c2,.slice A3 ed.length c3]] V) (S1.out.alloc' _ [.slice A1 al.length c1,.int .i64 ↑N,.slice none 0 0,.slice none 0 0] rfl hob) fun W2 S' => ?_;have S2 := Lib.hid S';clear S' S1 hob a0 a1 a2 a3;have a0 := ckC S2.out 3 rfl 0 rfl;have a1 := ckC S2.out 3 rfl 1 rfl;have a2 := ckC S2.out 3 rfl 2 rfl;have a3 := ckC S2.out 3 rfl 3 rfl;go_wp2_with fail
 go_loopw [5] (fun v wr => ∃ (i : Nat) (v2 : Value),v = .int .i64 ↑i ∧ i ≤ N ∧ (SepW w [eBlk ob 31 [.slice A1 al.length c1,.int .i64 ↑N,v2,.slice none 0 0],eInts (coV (dG gd) i) v2,eBlk gg 4 (mkB N gd),eBlk (w.heap.size + 1) 31 [.slice none 0 0,.int .i64 0,.slice none 0 0,.slice none 0 0],eBlk w.heap.size 31 [.slice A1 al.length c1,.int .i64 ↑N,.slice A2 mr.length c2,.slice A3 ed.length c3]] wr)) (fun v _ => N - (intOf v).toNat)
 case atStart => exact ⟨0,.slice none 0 0,rfl,Nat.zero_le _,by have h := (S2.out.nilOwn encI 1 3).pick [1,0,2,3,4] (by decide); exact h⟩
 case round =>
  clear S2 a0 a1 a2 a3;obtain ⟨i,v2,rfl,hi,S⟩ := hrel;have a0 := ckC S.out 4 rfl 0 rfl;have a1 := ckC S.out 4 rfl 1 rfl;have a2 := ckC S.out 4 rfl 2 rfl;have a3 := ckC S.out 4 rfl 3 rfl;have o2 := ckC S.out 0 rfl 2 rfl;have hcl := coV_len (dG gd) i;by_cases hlt : i < N
  · have g1 := (BlkAt.cell (S.out.get 2 rfl) i).trans (mkB_get hlt);obtain ⟨q,hq⟩ : ∃ q,q = gd i := ⟨_,rfl⟩;rw [← hq] at g1;have HQ := Lib.hid hq;clear hq;cases q;case true =>
     have HCV : Hid (coV (dG gd) (i + 1) = coV (dG gd) i ++ [(i : Int)]) := coV_yes (by unfold dG; rw [← HQ.out]; decide);go_wp2_with (at_builtin; refine wpList_pushS rfl _ _ 28 rfl (S.out.alloc 3 [.int .i64 ↑i]) 2 rfl Tryz.underlying28 _ 8 intInfo rfl (by decide) rfl (i : Int) _ rfl rfl (one_cell _ _ [_] _ rfl) (encI_one _) (by omega) (by decide) ?_)
     intro A5 c5 w6 S9 _;have S10 : (SepW w [eBlk ob 31 [.slice A1 al.length c1,.int .i64 ↑N,v2,.slice none 0 0],eInts (coV (dG gd) (i + 1)) (.slice A5 ((coV (dG gd) i).length + 1) c5),eBlk gg 4 (mkB N gd),eBlk (w.heap.size + 1) 31 [.slice none 0 0,.int .i64 0,.slice none 0 0,.slice none 0 0],eBlk w.heap.size 31 [.slice A1 al.length c1,.int .i64 ↑N,.slice A2 mr.length c2,.slice A3 ed.length c3]] w6) := by
      have h := S9.drop1;rw [← HCV.out] at h;exact h
     have u2 := ckC S10.out 0 rfl 2 rfl;have f2 := BlkAt.free (S10.out.get 0 rfl) 2;have S11 : (SepW w [eBlk ob 31 [.slice A1 al.length c1,.int .i64 ↑N,.slice A5 ((coV (dG gd) i).length + 1) c5,.slice none 0 0],eInts (coV (dG gd) (i + 1)) (.slice A5 ((coV (dG gd) i).length + 1) c5),eBlk gg 4 (mkB N gd),eBlk (w.heap.size + 1) 31 [.slice none 0 0,.int .i64 0,.slice none 0 0,.slice none 0 0],eBlk w.heap.size 31 [.slice A1 al.length c1,.int .i64 ↑N,.slice A2 mr.length c2,.slice A3 ed.length c3]] _) := S10.out.set 0 rfl 2 (.slice A5 ((coV (dG gd) i).length + 1) c5);clear S S9 S10 o2 g1 a0 a1 a2 a3;go_wp2_with fail
     go_roundw
     case rel => exact ⟨i + 1,_,by go_num,by omega,S11.out⟩
     case measure => simp [intOf]; omega
    case false =>
     have HCV : Hid (coV (dG gd) (i + 1) = coV (dG gd) i) := coV_no (by unfold dG; rw [← HQ.out]; decide);have S10 : (SepW w [eBlk ob 31 [.slice A1 al.length c1,.int .i64 ↑N,v2,.slice none 0 0],eInts (coV (dG gd) (i + 1)) v2,eBlk gg 4 (mkB N gd),eBlk (w.heap.size + 1) 31 [.slice none 0 0,.int .i64 0,.slice none 0 0,.slice none 0 0],eBlk w.heap.size 31 [.slice A1 al.length c1,.int .i64 ↑N,.slice A2 mr.length c2,.slice A3 ed.length c3]] wr) := by rw [HCV.out]; exact S.out
     clear S o2;go_wp2_with fail
     go_roundw
     case rel => exact ⟨i + 1,v2,by go_num,by omega,S10.out⟩
     case measure => simp [intOf]; omega
  · obtain rfl : N = i := by omega
    have S3 : (SepW w [eBlk ob 31 [.slice A1 al.length c1,.int .i64 ↑N,v2,.slice none 0 0],eInts (coV (dG gd) N) v2,eEds (edT gd ed 0) (.slice none 0 0),eBlk gg 4 (mkB N gd),eBlk (w.heap.size + 1) 31 [.slice none 0 0,.int .i64 0,.slice none 0 0,.slice none 0 0],eBlk w.heap.size 31 [.slice A1 al.length c1,.int .i64 ↑N,.slice A2 mr.length c2,.slice A3 ed.length c3]] wr) := by have h := (S.out.nilOwn Ed.cells 3 67).pick [1,2,0,3,4,5] (by decide); exact h
    clear S o2 hlt hi;go_wp2_with fail
    go_loopw [6] (fun v wr => ∃ (t : Nat) (v3 : Value),v = .int .i64 ↑t ∧ t ≤ ed.length ∧ (SepW w [eBlk ob 31 [.slice A1 al.length c1,.int .i64 ↑N,v2,v3],eInts (coV (dG gd) N) v2,eEds (edT gd ed t) v3,eBlk gg 4 (mkB N gd),eBlk (w.heap.size + 1) 31 [.slice none 0 0,.int .i64 0,.slice none 0 0,.slice none 0 0],eBlk w.heap.size 31 [.slice A1 al.length c1,.int .i64 ↑N,.slice A2 mr.length c2,.slice A3 ed.length c3]] wr)) (fun v _ => ed.length - (intOf v).toNat)
    case atStart => exact ⟨0,_,rfl,Nat.zero_le _,S3.out⟩
    case round =>
     clear S3 a0 a1 a2 a3;obtain ⟨t,v3,rfl,ht,S⟩ := hrel;have a0 := ckC S.out 5 rfl 0 rfl;have a1 := ckC S.out 5 rfl 1 rfl;have a2 := ckC S.out 5 rfl 2 rfl;have a3 := ckC S.out 5 rfl 3 rfl;by_cases hlt : t < ed.length
     · obtain ⟨b,off,x,hAe,hb,hx,y0,y1,y2⟩ := EdsAt.at HA.out.ed hlt;dsimp only at hAe;subst hAe;obtain ⟨d,hd⟩ := Int.eq_ofNat_of_zero_le (HS.out t x hx).1;have hdN : d < N := by have := (HS.out t x hx).2; (try dsimp only at this); omega
       obtain ⟨ys,hys⟩ : ∃ z,z = x.src := ⟨_,rfl⟩;obtain ⟨ye,hye⟩ : ∃ z,z = x.ev := ⟨_,rfl⟩;have HEX : Hid (x = ⟨ys,ye,(d : Int)⟩) := by cases x; simp_all [Hid]
       have HX := Lib.hid hx;rw [← hys] at y0;rw [← hye] at y1;rw [hd] at y2;have HY : Hid (∀ V,Below w.heap.size w V → V.cell? ⟨b,off + t * 3,none⟩ = some (.int .i64 ys) ∧ V.cell? ⟨b,off + t * 3 + 1,none⟩ = some (.int .i64 ye) ∧ V.cell? ⟨b,off + t * 3 + 2,none⟩ = some (.int .i64 ↑d)) := fun V hV => ⟨old_cell hV y0 hb,old_cell hV y1 hb,old_cell hV y2 hb⟩;have z2 := (HY.out wr S.out.below).2.2;clear hx hd hys hye y0 y1 y2;have g1 := (BlkAt.cell (S.out.get 3 rfl) d).trans (mkB_get hdN);obtain ⟨q,hq⟩ : ∃ q,q = gd d := ⟨_,rfl⟩;rw [← hq] at g1;have HQ := Lib.hid hq;clear hq;cases q;case true =>
        have HET : Hid (edT gd ed (t + 1) = edT gd ed t ++ [⟨ys,ye,(d : Int)⟩]) := edT_yes (by rw [HX.out,HEX.out]) HQ.out.symm;have hel2 : (edT gd ed t).length ≤ 1048576 := by have := edT_len gd ed t; omega
        obtain ⟨AV,cV,hv3⟩ := S.out.form 2 rfl;subst hv3;go_upto_region 12 with fail
        clear g1 z2;have S1 := Lib.hid S.out.drew;refine wp_region_held_drew (S := (fun V => Sep w.heap.size w [eBlk w.heap.size 31 [.slice A1 al.length c1,.int .i64 ↑N,.slice A2 mr.length c2,.slice (some ⟨b,off,none⟩) ed.length c3]] V)) (by kernel_rfl) ?_ (fun hH => ?_)
        · exact S1.out.pick [5] (by decide)
        generalize hwz : wr.drew = w1 at *;clear hwz;refine tkP 0 rfl (v := ?_) hH ?_;(try simp only [sx]);refine tkP 2 rfl (v := ?_) hH ?_;(try simp only [sx]);refine tkH 3 rfl (v := ?_) (by kernel_rfl) ?_ hH ?_;rotate_left
        · intro V hs_;have a3 := ckC hs_ 0 rfl 3 rfl;clear hs_;first | (go_simp; done) | (go_simp; with_reducible rfl)
        (try simp only [sx]);refine tkP 4 rfl (v := ?_) hH ?_;(try simp only [sx]);refine tkP 5 rfl (v := ?_) hH ?_;(try simp only [sx]);refine tkH 6 rfl (v := ?_) (by kernel_rfl) ?_ hH ?_;rotate_left
        · intro V hs_;have z9 := HY.out V (show Sep w.heap.size w _ V from hs_).below;have z0 := z9.1;have z1 := z9.2.1;have z2 := z9.2.2;clear z9;clear hs_;first | (go_simp; done) | (go_simp; with_reducible rfl)
        (try simp only [sx]);refine wpAnyH_ready (rs := [1,7]) (by kernel_rfl) (by simp) ?_;refine AllReadyH.cons rfl (fun K hK => ?_) (AllReadyH.cons rfl (fun K hK => ?_) AllReadyH.nil)
        · skip;have b3 := ckC S1.out 0 rfl 3 rfl;go_simp;refine hK.out _ _ (S1.out.pick [5] (by decide)) fun hH => ?_;clear hK K;(try simp only [sx]);refine rdH 7 rfl fun K hK => ?_;go_simp;obtain ⟨nnw,hnnw⟩ : ∃ n,n = w1.heap.size := ⟨_,rfl⟩;obtain ⟨w2,hw2⟩ : ∃ v,v = w1.alloc (.cells #[.int .i64 ys,.int .i64 ye,.int .i64 ↑d] 67) := ⟨_,rfl⟩;rw [← hw2,← hnnw];have S2 := ckA S1.out hw2 hnnw;skip;clear hw2 hnnw;refine hK.out _ _ (S2.out.pick [6] (by decide)) fun hH => ?_;clear hK K;(try simp only [sx]);refine rdH 8 rfl fun K hK => ?_;refine step_pushS rfl (.tmp 47) (.tmp 53) 29 rfl S2.out 3 rfl Tryz.underlying29 _ 24 edInfo rfl (by decide) rfl ⟨ys,ye,(d : Int)⟩ nnw rfl rfl (fun j u hj => (BlkAt.cell (S2.out.get 0 rfl) j).trans hj) (edOne _) hel2 (by decide) ?_;intro Aee3 cee3 w3 S3' _;have S3 := ckR S3';clear S3';refine hK.out _ _ (S3.out.pick [6] (by decide)) fun hH => ?_;clear hK K;(try simp only [sx]);refine tkP 9 rfl (v := ?_) hH ?_;(try simp only [sx]);refine rdH 10 rfl fun K hK => ?_;have sc := ckC S3.out 1 rfl 3 rfl;have sf := BlkAt.free (S3.out.get 1 rfl) 3;go_simp;obtain ⟨w4,hw4⟩ : ∃ v,v = w3.setCell ⟨ob,3,none⟩ (.slice Aee3 ((edT gd ed t).length + 1) cee3) := ⟨_,rfl⟩;rw [← hw4];have S4 := ckS S3.out hw4 1 rfl;clear hw4 sc sf;refine hK.out _ _ (S4.out.pick [6] (by decide)) fun hH => ?_;clear hK K;(try simp only [sx]);refine wpAnyH_done (by kernel_rfl) ?_ _;go_wp2_with fail
          go_roundw
          case rel => exact ⟨t + 1,_,by go_num,by omega,by have h := S4.out.pick [1,2,3,4,5,6] (by decide); rw [HET.out]; exact h⟩
          case measure => simp [intOf]; omega
        · skip;go_simp;obtain ⟨nnw,hnnw⟩ : ∃ n,n = w1.heap.size := ⟨_,rfl⟩;obtain ⟨w5,hw5⟩ : ∃ v,v = w1.alloc (.cells #[.int .i64 ys,.int .i64 ye,.int .i64 ↑d] 67) := ⟨_,rfl⟩;rw [← hw5,← hnnw];have S5 := ckA S1.out hw5 hnnw;skip;clear hw5 hnnw;refine hK.out _ _ (S5.out.pick [6] (by decide)) fun hH => ?_;clear hK K;(try simp only [sx]);refine rdH 1 rfl fun K hK => ?_;have b3 := ckC S5.out 1 rfl 3 rfl;go_simp;refine hK.out _ _ (S5.out.pick [6] (by decide)) fun hH => ?_;clear hK K;(try simp only [sx]);refine rdH 8 rfl fun K hK => ?_;refine step_pushS rfl (.tmp 47) (.tmp 53) 29 rfl S5.out 3 rfl Tryz.underlying29 _ 24 edInfo rfl (by decide) rfl ⟨ys,ye,(d : Int)⟩ nnw rfl rfl (fun j u hj => (BlkAt.cell (S5.out.get 0 rfl) j).trans hj) (edOne _) hel2 (by decide) ?_;intro Aee6 cee6 w6 S6' _;have S6 := ckR S6';clear S6';refine hK.out _ _ (S6.out.pick [6] (by decide)) fun hH => ?_;clear hK K;(try simp only [sx]);refine tkP 9 rfl (v := ?_) hH ?_;(try simp only [sx]);refine rdH 10 rfl fun K hK => ?_;have sc := ckC S6.out 1 rfl 3 rfl;have sf := BlkAt.free (S6.out.get 1 rfl) 3;go_simp;obtain ⟨w7,hw7⟩ : ∃ v,v = w6.setCell ⟨ob,3,none⟩ (.slice Aee6 ((edT gd ed t).length + 1) cee6) := ⟨_,rfl⟩;rw [← hw7];have S7 := ckS S6.out hw7 1 rfl;clear hw7 sc sf;refine hK.out _ _ (S7.out.pick [6] (by decide)) fun hH => ?_;clear hK K;(try simp only [sx]);refine wpAnyH_done (by kernel_rfl) ?_ _;go_wp2_with fail
          go_roundw
          case rel => exact ⟨t + 1,_,by go_num,by omega,by have h := S7.out.pick [1,2,3,4,5,6] (by decide); rw [HET.out]; exact h⟩
          case measure => simp [intOf]; omega
       case false =>
        have HET : Hid (edT gd ed (t + 1) = edT gd ed t) := edT_no (by rw [HX.out,HEX.out]) HQ.out.symm;have S10 : (SepW w [eBlk ob 31 [.slice A1 al.length c1,.int .i64 ↑N,v2,v3],eInts (coV (dG gd) N) v2,eEds (edT gd ed (t + 1)) v3,eBlk gg 4 (mkB N gd),eBlk (w.heap.size + 1) 31 [.slice none 0 0,.int .i64 0,.slice none 0 0,.slice none 0 0],eBlk w.heap.size 31 [.slice A1 al.length c1,.int .i64 ↑N,.slice A2 mr.length c2,.slice (some ⟨b,off,none⟩) ed.length c3]] wr) := by rw [HET.out]; exact S.out
        clear S;go_wp2_with fail
        go_roundw
        case rel => exact ⟨t + 1,v3,by go_num,by omega,S10.out⟩
        case measure => simp [intOf]; omega
     · obtain rfl : t = ed.length := by omega
       obtain ⟨AM,cM,hv2⟩ := S.out.form 1 rfl;obtain ⟨AX,cX,hv3⟩ := S.out.form 2 rfl;subst hv2; subst hv3;have HAO : Hid (Au.At wr ⟨al,↑N,coV (dG gd) N,edT gd ed ed.length⟩ ⟨A1,c1,AM,cM,AX,cX⟩) := ⟨(HA.out.below S.out.below).al,S.out.ints 1 rfl,S.out.eds 2 rfl,HA.out.lal,by have := coV_len (dG gd) N; simp only; omega,by have := edT_len gd ed ed.length; simp only; omega⟩;have o0 := ckC S.out 0 rfl 0 rfl;have o1 := ckC S.out 0 rfl 1 rfl;have o2 := ckC S.out 0 rfl 2 rfl;have o3 := ckC S.out 0 rfl 3 rfl;go_wp2_with fail
       refine (minimal9_c ⟨al,↑N,coV (dG gd) N,edT gd ed ed.length⟩ ⟨A1,c1,AM,cM,AX,cX⟩ wr HPR.out HAO.out HN.out).mono ?_;rintro e w9 ⟨m,⟨M1,m1,M2,m2,M3,m3⟩,rfl,TT,LM,MN,hma⟩;have HMA := Lib.hid hma;have S5 := ckN S.out TT.out;clear TT S HAO hma o0 o1 o2 o3 a0 a1 a2 a3;dsimp only [Au.val];have r0 := ckC S5.out 7 rfl 0 rfl;have r1 := ckC S5.out 7 rfl 1 rfl;have r2 := ckC S5.out 7 rfl 2 rfl;have r3 := ckC S5.out 7 rfl 3 rfl;have rf0 := BlkAt.free (S5.out.get 7 rfl) 0;have rf1 := BlkAt.free (S5.out.get 7 rfl) 1;have rf2 := BlkAt.free (S5.out.get 7 rfl) 2;have rf3 := BlkAt.free (S5.out.get 7 rfl) 3;have SF := Lib.hid ((((S5.out.set 7 rfl 0 (.slice M1 m.al.length m1)).set 7 rfl 1 (.int .i64 m.n)).set 7 rfl 2 (.slice M2 m.mr.length m2)).set 7 rfl 3 (.slice M3 m.ed.length m3));have z0 := BlkAt.cell (SF.out.get 7 rfl) 0;have z1 := BlkAt.cell (SF.out.get 7 rfl) 1;have z2 := BlkAt.cell (SF.out.get 7 rfl) 2;have z3 := BlkAt.cell (SF.out.get 7 rfl) 3;simp only [List.set_cons_succ,List.set_cons_zero,List.getElem?_cons_succ,List.getElem?_cons_zero] at z0 z1 z2 z3;go_wp2_with fail
       refine bodyPost_ret (v := .agg #[.slice M1 m.al.length m1,.int .i64 m.n,.slice M2 m.mr.length m2,.slice M3 m.ed.length m3]) (by simp [results,Tryz.results13,go_sem, *]) rfl ?_;exact ⟨m,⟨M1,m1,M2,m2,M3,m3⟩,rfl,SF.out.pick [0,1,2] (by decide),LM.out,MN.out.congr HPL.out,HMA.out⟩
end Go.Proofs.YtkifgffhoenaoaaGreatDoor
