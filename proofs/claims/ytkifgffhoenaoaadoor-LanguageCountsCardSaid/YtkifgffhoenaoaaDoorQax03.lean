/-
  What the row leans on.
-/
import Derived.Test.YtkifgffhoenaoaaDoorBas01
import Derived.Test.YtkifgffhoenaoaaDoorQax01
import Derived.Test.YtkifgffhoenaoaaDoorQax02
import Derived.Test.YtkifgffhoenaoaaDoorBas09
import Derived.Test.YtkifgffhoenaoaaDoorBas04
import Derived.Test.YtkifgffhoenaoaaDoorBas03
set_option linter.unusedSimpArgs false
set_option linter.unusedVariables false
namespace Go.Proofs.YtkifgffhoenaoaaDoor
open Go.RowKit
set_option maxRecDepth 100000
def GivesC9t (a : Au) (kind : Int) (len : Nat) (w : World) (e : Ending) (w' : World) : Prop :=
 (∃ A c,e = .returned (.tuple #[.slice A (len + 1) c,.bool true]) ∧ (SepW w [eInts (cntsV a kind (len + 1)) (.slice A (len + 1) c)] w') ∧ Hid (∀ j,j ≤ len → cnt a kind j ≤ 1125899906842624)) ∨
 (e = .returned (.tuple #[.slice none 0 0,.bool false]) ∧ Below w.heap.size w w' ∧ ∃ j,j ≤ len ∧ 1125899906842624 < cnt a kind j)
set_option maxHeartbeats 8000000 in
theorem count9_c (a : Au) (p : AuP) (kind : Int) (len : Nat) (w : World) (hr : a.Right) (hA : Au.At w a p) (hlen : len ≤ 32) (hN : a.n ≤ 1000) :
 Calls Tryd.prog 19 #[a.val p,.int .i64 kind,.int .i64 ↑len] w (GivesC9t a kind len w) := by
 have HR := Lib.hid hr;have HA := Lib.hid hA;have h0 := hr.n0;have hn := hr.n1;have hedl := ed_len hr;have HS : Hid (∀ (i : Nat) x,a.ed[i]? = some x → (0 ≤ x.src ∧ x.src < a.n) ∧ 0 ≤ x.dst ∧ x.dst < a.n) := fun i x hx => ⟨⟨(hr.edge hx).1,(hr.edge hx).2.1⟩,(hr.edge hx).2.2.1,(hr.edge hx).2.2.2.1⟩;obtain ⟨al,n,mr,ed⟩ := a;obtain ⟨A1,c1,A2,c2,A3,c3⟩ := p;(try dsimp only [Au.val] at *);obtain ⟨N,rfl⟩ := Int.eq_ofNat_of_zero_le h0;have hmk := make_run (P := Tryd.prog) 32 3 (.int .i64 0) 8 Tryd.underlying32 intInfo rfl N (by omega) (by omega);clear hr hA h0;go_enter Tryd.func19,Tryd.ntmps19
 go_upto_region 1 with fail
 refine wp_world (fun W => Sep w.heap.size w [eBlk w.heap.size 35 [.slice A1 al.length c1,.int .i64 ↑N,.slice A2 mr.length c2,.slice A3 ed.length c3]] W) ?_ fun W S => ?_
 · exact (Sep.here w).alloc' _ [_,_,_,_] rfl rfl
 have S0 := Lib.hid S;clear S;have a0 := ckC S0.out 0 rfl 0 rfl;have a1 := ckC S0.out 0 rfl 1 rfl;have a2 := ckC S0.out 0 rfl 2 rfl;have a3 := ckC S0.out 0 rfl 3 rfl;obtain ⟨g,hg⟩ : ∃ g,g = W.heap.size := ⟨_,rfl⟩;go_upto_region 2 with fail
 rw [← hg];refine wp_world (fun V => Sep w.heap.size w [eBlk g 3 (mkI N fun _ => 0),eBlk w.heap.size 35 [.slice A1 al.length c1,.int .i64 ↑N,.slice A2 mr.length c2,.slice A3 ed.length c3]] V) ?_ fun W1 S' => ?_
 · have h := S0.out.alloc' 3 (List.replicate N (.int .i64 0)) (o := Obj.cells (Array.replicate N (.int .i64 0)) 3) (by simp) hg;rw [mkI_rep] at h;exact h
 have S1 := Lib.hid S';clear S' S0 hg a0 a1 a2 a3;have a0 := ckC S1.out 1 rfl 0 rfl;have a1 := ckC S1.out 1 rfl 1 rfl;have a2 := ckC S1.out 1 rfl 2 rfl;have a3 := ckC S1.out 1 rfl 3 rfl;go_upto_if 21 with fail
 go_cut [21] (fun v wx => (SepW w [eBlk g 3 (mkI N (wv ⟨al,↑N,mr,ed⟩ 4503599627370496 0)),eBlk w.heap.size 35 [.slice A1 al.length c1,.int .i64 ↑N,.slice A2 mr.length c2,.slice A3 ed.length c3]] wx))
 case first =>
  by_cases hN0 : 0 < N
  · have e1 : decide ((0 : Int) < (N : Int)) = true := by simp; omega
    have q0 := (BlkAt.cell (S1.out.get 0 rfl) 0).trans (mkI_get hN0);have f0 := BlkAt.free (S1.out.get 0 rfl) 0;have S2 : (SepW w [eBlk g 3 (mkI N (wv ⟨al,↑N,mr,ed⟩ 4503599627370496 0)),eBlk w.heap.size 35 [.slice A1 al.length c1,.int .i64 ↑N,.slice A2 mr.length c2,.slice A3 ed.length c3]] (W1.setCell ⟨g,0,none⟩ (.int .i64 1))) := by
     have h := S1.out.set 0 rfl 0 (.int .i64 1);rw [mkI_set,mkI_congr (f := fun t => if t = 0 then (1 : Int) else 0) (g := wv ⟨al,↑N,mr,ed⟩ 4503599627370496 0) (fun t _ => by
      unfold wv
      rw [ledV_zero,show (⟨al,↑N,mr,ed⟩ : Au).st = 0 from if_neg (by show ¬ (N : Int) = 0; omega)];by_cases e : t = 0
      · subst e; rw [if_pos rfl,if_pos (by simp)]; omega
      · rw [if_neg e,if_neg (by omega)]; simp)] at h
     exact h
    clear S1;go_wp2_with fail
    go_meet
    exact S2.out
  · obtain rfl : N = 0 := by omega
    have S2 : (SepW w [eBlk g 3 (mkI 0 (wv ⟨al,((0 : Nat) : Int),mr,ed⟩ 4503599627370496 0)),eBlk w.heap.size 35 [.slice A1 al.length c1,.int .i64 ((0 : Nat) : Int),.slice A2 mr.length c2,.slice A3 ed.length c3]] W1) := S1.out;clear S1;go_wp2_with fail
    go_meet
    exact S2.out
 case rest =>
  clear S1 a0 a1 a2 a3;have S1 : (SepW w [eBlk g 3 (mkI N (wv ⟨al,↑N,mr,ed⟩ 4503599627370496 0)),eBlk w.heap.size 35 [.slice A1 al.length c1,.int .i64 ↑N,.slice A2 mr.length c2,.slice A3 ed.length c3]] wc) := hcut;clear hcut;go_wp2_with fail
  go_loopw [8,9,10,11,12,13,14,15] (fun v8 v9 v10 _ _ _ _ _ wr => ∃ (k g : Nat) (AO : Option Addr) (cO : Nat),v10 = .int .i64 ↑k ∧ v8 = .slice (some ⟨g,0,none⟩) N N ∧ v9 = .slice AO k cO ∧ k ≤ len + 1 ∧ Hid (∀ j,j < k → cnt ⟨al,↑N,mr,ed⟩ kind j ≤ 1125899906842624) ∧ (SepW w [eInts (cntsV ⟨al,↑N,mr,ed⟩ kind k) (.slice AO k cO),eBlk g 3 (mkI N (wv ⟨al,↑N,mr,ed⟩ 4503599627370496 k)),eBlk w.heap.size 35 [.slice A1 al.length c1,.int .i64 ↑N,.slice A2 mr.length c2,.slice A3 ed.length c3]] wr)) (fun _ _ v10 _ _ _ _ _ _ => len + 1 - (intOf v10).toNat)
  case atStart => exact ⟨0,g,none,0,rfl,rfl,rfl,Nat.zero_le _,fun j hj => absurd hj (Nat.not_lt_zero _),S1.out.nilOwn _ _ _⟩
  case round =>
   clear S1;obtain ⟨k,g,AO,cO,rfl,rfl,rfl,hkl,HJ,S⟩ := hrel;have a0 := ckC S.out 2 rfl 0 rfl;have a1 := ckC S.out 2 rfl 1 rfl;have a2 := ckC S.out 2 rfl 2 rfl;have a3 := ckC S.out 2 rfl 3 rfl;by_cases hlt : k ≤ len
   · have HPK : Hid (cnt ⟨al,↑N,mr,ed⟩ kind k = sumB (fun s => ledV ⟨al,↑N,mr,ed⟩ k s) (fun s => inV ⟨al,↑N,mr,ed⟩ s kind) N) := (sumB_cnt HR.out (fun s => inV ⟨al,↑N,mr,ed⟩ s kind) (inV_none _ _) k).symm;go_wp2_with fail
     go_loopw [11,12] (fun v11 v12 wr => ∃ (j sj : Nat),v12 = .int .i64 ↑j ∧ j ≤ N ∧ v11 = .int .i64 ↑sj ∧ Hid (sj = sumB (fun s => min (ledV ⟨al,↑N,mr,ed⟩ k s) 4503599627370496) (fun s => inV ⟨al,↑N,mr,ed⟩ s kind) j) ∧ (SepW w [eInts (cntsV ⟨al,↑N,mr,ed⟩ kind k) (.slice AO k cO),eBlk g 3 (mkI N (wv ⟨al,↑N,mr,ed⟩ 4503599627370496 k)),eBlk w.heap.size 35 [.slice A1 al.length c1,.int .i64 ↑N,.slice A2 mr.length c2,.slice A3 ed.length c3]] wr)) (fun _ v12 _ => N - (intOf v12).toNat)
     case atStart => exact ⟨0,0,rfl,Nat.zero_le _,rfl,by simp [Hid,sumB],S.out⟩
     case round =>
      clear S a0 a1 a2 a3;obtain ⟨j,sj,rfl,hj,rfl,HSJ,S⟩ := hrel;have a0 := ckC S.out 2 rfl 0 rfl;have a1 := ckC S.out 2 rfl 1 rfl;have a2 := ckC S.out 2 rfl 2 rfl;have a3 := ckC S.out 2 rfl 3 rfl;have hsl : sj ≤ j * 4503599627370496 := by rw [HSJ.out]; exact sumB_top _ _ _ j
      by_cases hlt2 : j < N
      · obtain ⟨c,hc⟩ : ∃ c : Nat,c = min (ledV ⟨al,↑N,mr,ed⟩ k (j : Int)) 4503599627370496 := ⟨_,rfl⟩;have gc := (BlkAt.cell (S.out.get 1 rfl) j).trans (mkI_get hlt2);have HCV : Hid (some (Value.int .i64 (wv ⟨al,↑N,mr,ed⟩ 4503599627370496 k j)) = some (.int .i64 ↑c)) := by unfold Hid wv; rw [hc]
        clear gc;obtain ⟨q,hq⟩ : ∃ q,inV ⟨al,↑N,mr,ed⟩ (j : Int) kind = q := ⟨_,rfl⟩;have HST : Hid (sumB (fun s => min (ledV ⟨al,↑N,mr,ed⟩ k s) 4503599627370496) (fun s => inV ⟨al,↑N,mr,ed⟩ s kind) (j + 1) = if q = true then sj + c else sj) := by
         unfold Hid
         rw [sumB_succ,hq,← HSJ.out,hc];cases q <;> simp
        have hcl : c ≤ 4503599627370496 := by omega
        have HC9 := Lib.hid (has9_e ⟨al,↑N,mr,ed⟩ ⟨A1,c1,A2,c2,A3,c3⟩ (j : Int) kind q wr (HA.out.below S.out.below).mr HA.out.lmk hq);clear hc hq;go_wp2_with fail
        refine HC9.out.mono ?_;rintro e w5 ⟨rfl,hb⟩;have S5 := Lib.hid (S.out.next hb);clear HC9 a0 a1 a2 a3;cases q
        · have HZ : Hid (sj = sumB (fun s => min (ledV ⟨al,↑N,mr,ed⟩ k s) 4503599627370496) (fun s => inV ⟨al,↑N,mr,ed⟩ s kind) (j + 1)) := by unfold Hid; rw [HST.out,if_neg (by simp)]
          clear hb S HST;go_wp2_with fail
          go_roundw
          case rel => exact ⟨j + 1,sj,by go_num,by omega,rfl,HZ.out,S5.out⟩
          case measure => simp [intOf]; omega
        · have HZ : Hid (sj + c = sumB (fun s => min (ledV ⟨al,↑N,mr,ed⟩ k s) 4503599627370496) (fun s => inV ⟨al,↑N,mr,ed⟩ s kind) (j + 1)) := by unfold Hid; rw [HST.out,if_pos rfl]
          have gc : w5.cell? ⟨g,j,none⟩ = some (.int .i64 ↑c) := by
           have h := (BlkAt.cell (S5.out.get 1 rfl) j).trans (mkI_get hlt2);rw [h]; exact HCV.out
          have hwr : IntKind.i64.wrap ((sj : Int) + (c : Int)) = (sj : Int) + (c : Int) := IntWalk.i64_in _ (by omega);clear hb S HST HCV;go_wp2_with fail
          go_roundw
          case rel => exact ⟨j + 1,sj + c,by go_num,by omega,congrArg (Value.int .i64) (Int.natCast_add sj c).symm,HZ.out,S5.out⟩
          case measure => simp [intOf]; omega
      · obtain rfl : N = j := by omega
        have hle : sj ≤ cnt (⟨al,↑N,mr,ed⟩ : Au) kind k := by rw [HSJ.out,HPK.out]; exact sumB_le _ _ _ _
        by_cases hbig : 1125899906842624 < sj
        · have hbd : decide ((1125899906842624 : Int) < (sj : Int)) = true := by simp; omega
          go_wp2_with fail
          refine bodyPost_ret (v := .tuple #[.slice none 0 0,.bool false]) (by simp [results,Tryd.results19,go_sem]) rfl ?_;exact .inr ⟨rfl,S.out.below,k,hlt,Nat.lt_of_lt_of_le hbig hle⟩
        · have hsc : cnt ⟨al,↑N,mr,ed⟩ kind k = sj := by
           rw [HPK.out,HSJ.out];have h1 : sumB (fun s => min (ledV ⟨al,↑N,mr,ed⟩ k s) 4503599627370496) (fun s => inV ⟨al,↑N,mr,ed⟩ s kind) N ≤ 1125899906842624 := by rw [← HSJ.out]; omega
           exact sumB_cap _ _ _ _ (by omega) (by omega)
          have HNB : Hid (∀ i,i < k + 1 → cnt ⟨al,↑N,mr,ed⟩ kind i ≤ 1125899906842624) := fun i hi => by
           by_cases e : i = k
           · subst e; rw [hsc]; omega
           · exact HJ.out i (by omega)
          have HLS : Hid (cntsV ⟨al,↑N,mr,ed⟩ kind k ++ [(sj : Int)] = cntsV ⟨al,↑N,mr,ed⟩ kind (k + 1)) := by rw [Hid,cntsV_succ,hsc]
          have hll : (cntsV ⟨al,↑N,mr,ed⟩ kind k).length = k := cntsV_len _ _ _;have HLL := Lib.hid hll;have hbd : decide ((1125899906842624 : Int) < (sj : Int)) = false := by simp; omega
          clear hsc HSJ HPK hll hbig hle;go_wp2_with (at_builtin; refine wpList_pushS rfl _ _ 32 rfl (S.out.alloc 3 [.int .i64 ↑sj]) 1 rfl Tryd.underlying32 _ 8 intInfo rfl (by decide) rfl (sj : Int) _ rfl rfl (one_cell _ _ [_] _ rfl) (encI_one _) (by rw [HLL.out]; omega) (by decide) ?_)
          intro A5 c5 w6 S9 _;rw [HLL.out] at S9 ⊢;have S10 : (SepW w [eInts (cntsV ⟨al,↑N,mr,ed⟩ kind (k + 1)) (.slice A5 (k + 1) c5),eBlk g 3 (mkI N (wv ⟨al,↑N,mr,ed⟩ 4503599627370496 k)),eBlk w.heap.size 35 [.slice A1 al.length c1,.int .i64 ↑N,.slice A2 mr.length c2,.slice A3 ed.length c3]] w6) := by
           have h := S9.drop1;rw [← HLS.out];exact h
          clear S9 S HLL HLS a0 a1 a2 a3;have a0 := ckC S10.out 2 rfl 0 rfl;have a1 := ckC S10.out 2 rfl 1 rfl;have a2 := ckC S10.out 2 rfl 2 rfl;have a3 := ckC S10.out 2 rfl 3 rfl;obtain ⟨g2,hg2⟩ : ∃ g,g = w6.heap.size := ⟨_,rfl⟩;go_upto_region 18 with fail
          rw [← hg2];refine wp_world (fun V => Sep w.heap.size w [eBlk g2 3 (mkI N fun s => ((min (sumTo (ledV ⟨al,↑N,mr,ed⟩ k) (s : Int) (ed.take 0)) 4503599627370496 : Nat) : Int)),eInts (cntsV ⟨al,↑N,mr,ed⟩ kind (k + 1)) (.slice A5 (k + 1) c5),eBlk g 3 (mkI N (wv ⟨al,↑N,mr,ed⟩ 4503599627370496 k)),eBlk w.heap.size 35 [.slice A1 al.length c1,.int .i64 ↑N,.slice A2 mr.length c2,.slice A3 ed.length c3]] V) ?_ fun W4 S' => ?_
          · have h := S10.out.alloc' 3 (List.replicate N (.int .i64 0)) (o := Obj.cells (Array.replicate N (.int .i64 0)) 3) (by simp) hg2;rw [mkI_rep] at h;rw [mkI_congr (g := fun _ => (0 : Int)) (fun s _ => by simp [sumTo])];exact h
          have S4 := Lib.hid S';clear S' S10 hg2 a0 a1 a2 a3;have a0 := ckC S4.out 3 rfl 0 rfl;have a1 := ckC S4.out 3 rfl 1 rfl;have a2 := ckC S4.out 3 rfl 2 rfl;have a3 := ckC S4.out 3 rfl 3 rfl;go_wp2_with fail
          go_loopw [14,15] (fun i _ wr => ∃ t : Nat,i = .int .i64 ↑t ∧ t ≤ ed.length ∧ (SepW w [eBlk g2 3 (mkI N fun s => ((min (sumTo (ledV ⟨al,↑N,mr,ed⟩ k) (s : Int) (ed.take t)) 4503599627370496 : Nat) : Int)),eInts (cntsV ⟨al,↑N,mr,ed⟩ kind (k + 1)) (.slice A5 (k + 1) c5),eBlk g 3 (mkI N (wv ⟨al,↑N,mr,ed⟩ 4503599627370496 k)),eBlk w.heap.size 35 [.slice A1 al.length c1,.int .i64 ↑N,.slice A2 mr.length c2,.slice A3 ed.length c3]] wr)) (fun i _ _ => ed.length - (intOf i).toNat)
          case atStart => exact ⟨0,rfl,Nat.zero_le _,S4.out⟩
          case round =>
           clear S4 a0 a1 a2 a3;obtain ⟨t,rfl,ht,S⟩ := hrel;have a0 := ckC S.out 3 rfl 0 rfl;have a1 := ckC S.out 3 rfl 1 rfl;have a2 := ckC S.out 3 rfl 2 rfl;have a3 := ckC S.out 3 rfl 3 rfl;by_cases hlt3 : t < ed.length
           · obtain ⟨b,off,x,hAe,hb,hx,y0,y1,y2⟩ := EdsAt.at (HA.out.below S.out.below).ed hlt3;dsimp only at hAe;subst hAe;obtain ⟨s,hs⟩ := Int.eq_ofNat_of_zero_le (HS.out t x hx).1.1;obtain ⟨d,hd⟩ := Int.eq_ofNat_of_zero_le (HS.out t x hx).2.1;have hsN : s < N := by have := (HS.out t x hx).1.2; (try dsimp only at this); omega
             have hdN : d < N := by have := (HS.out t x hx).2.2; (try dsimp only at this); omega
             obtain ⟨ye,hye⟩ : ∃ z,z = x.ev := ⟨_,rfl⟩;obtain ⟨c,hc⟩ : ∃ c : Nat,c = min (ledV ⟨al,↑N,mr,ed⟩ k (s : Int)) 4503599627370496 := ⟨_,rfl⟩;obtain ⟨q,hq⟩ : ∃ q : Nat,q = min (sumTo (ledV ⟨al,↑N,mr,ed⟩ k) (d : Int) (ed.take t)) 4503599627370496 := ⟨_,rfl⟩;obtain ⟨z,hz⟩ : ∃ z : Nat,z = min (q + c) 4503599627370496 := ⟨_,rfl⟩;have HWV : Hid (wv ⟨al,↑N,mr,ed⟩ 4503599627370496 k s = (c : Int)) := by unfold Hid wv; rw [hc]
             have HSV : Hid (((min (sumTo (ledV ⟨al,↑N,mr,ed⟩ k) (d : Int) (ed.take t)) 4503599627370496 : Nat) : Int) = (q : Int)) := by unfold Hid; rw [hq]
             have HG : Hid ((mkI N fun tt => if tt = d then (z : Int) else ((min (sumTo (ledV ⟨al,↑N,mr,ed⟩ k) (tt : Int) (ed.take t)) 4503599627370496 : Nat) : Int)) = mkI N fun s => ((min (sumTo (ledV ⟨al,↑N,mr,ed⟩ k) (s : Int) (ed.take (t + 1))) 4503599627370496 : Nat) : Int)) := mkI_congr fun tt _ => by
              rw [List.take_add_one,hx,Option.toList_some,sumTo_snoc,hd,hs];by_cases e : tt = d
              · subst e;rw [if_pos rfl,if_pos rfl,hz,hq,hc];omega
              · rw [if_neg e,if_neg (by omega),Nat.add_zero]
             have hcl : c ≤ 4503599627370496 := by omega
             have hql : q ≤ 4503599627370496 := by omega
             have hmin : (if (4503599627370496 : Int) < (q : Int) + (c : Int) then (4503599627370496 : Int) else (q : Int) + (c : Int)) = (z : Int) := by split <;> omega
             have hmin2 : min ((q : Int) + (c : Int)) (4503599627370496 : Int) = (z : Int) := by omega
             rw [hs] at y0;rw [← hye] at y1;rw [hd] at y2;clear hx hs hd hye hb hc hq hz;obtain ⟨bx,hbx⟩ : ∃ g,g = wr.heap.size := ⟨_,rfl⟩;go_upto_region 22 with fail
             rw [← hbx];refine wp_world (fun V => Sep w.heap.size w [eBlk bx 87 [.int .i64 ↑s,.int .i64 ye,.int .i64 ↑d],eBlk g2 3 (mkI N fun s => ((min (sumTo (ledV ⟨al,↑N,mr,ed⟩ k) (s : Int) (ed.take t)) 4503599627370496 : Nat) : Int)),eInts (cntsV ⟨al,↑N,mr,ed⟩ kind (k + 1)) (.slice A5 (k + 1) c5),eBlk g 3 (mkI N (wv ⟨al,↑N,mr,ed⟩ 4503599627370496 k)),eBlk w.heap.size 35 [.slice A1 al.length c1,.int .i64 ↑N,.slice A2 mr.length c2,.slice (some ⟨b,off,none⟩) ed.length c3]] V) (S.out.alloc' _ [_,_,_] rfl hbx) fun W S' => ?_;have S3 := Lib.hid S';clear S' hbx S y0 y1 y2 a0 a1 a2 a3;have hwr : IntKind.i64.wrap ((q : Int) + (c : Int)) = (q : Int) + (c : Int) := IntWalk.i64_in _ (by omega);have S1 := Lib.hid S3.out.drew;refine wp_region_held_drew (S := (fun V => Sep w.heap.size w [eBlk bx 87 [.int .i64 ↑s,.int .i64 ye,.int .i64 ↑d],eBlk g 3 (mkI N (wv ⟨al,↑N,mr,ed⟩ 4503599627370496 k))] V)) (by kernel_rfl) ?_ (fun hH => ?_)
             · exact S1.out.pick [0,3] (by decide)
             generalize hwz : W.drew = w1 at *;clear hwz;refine tkP 0 rfl (v := ?_) hH ?_;(try simp only [sx]);refine tkP 1 rfl (v := ?_) hH ?_;(try simp only [sx]);refine tkH 2 rfl (v := ?_) (by kernel_rfl) ?_ hH ?_;rotate_left
             · intro V hs_;have b2 := ckC hs_ 0 rfl 2 rfl;clear hs_;first | (go_simp; done) | (go_simp; with_reducible rfl)
             (try simp only [sx]);refine tkP 3 rfl (v := ?_) hH ?_;(try simp only [sx]);refine tkP 4 rfl (v := ?_) hH ?_;(try simp only [sx]);refine tkH 5 rfl (v := ?_) (by kernel_rfl) ?_ hH ?_;rotate_left
             · intro V hs_;have b2 := ckC hs_ 0 rfl 2 rfl;clear hs_;first | (go_simp; done) | (go_simp; with_reducible rfl)
             (try simp only [sx]);refine tkP 6 rfl (v := ?_) hH ?_;(try simp only [sx]);refine tkP 8 rfl (v := ?_) hH ?_;(try simp only [sx]);refine tkP 9 rfl (v := ?_) hH ?_;(try simp only [sx]);refine tkH 10 rfl (v := ?_) (by kernel_rfl) ?_ hH ?_;rotate_left
             · intro V hs_;have b0 := ckC hs_ 0 rfl 0 rfl;clear hs_;first | (go_simp; done) | (go_simp; with_reducible rfl)
             (try simp only [sx]);refine tkP 11 rfl (v := ?_) hH ?_;(try simp only [sx]);refine tkH 12 rfl (v := ?_) (by kernel_rfl) ?_ hH ?_;rotate_left
             · intro V hs_;have n1 := (BlkAt.cell (Sep.get (show Sep w.heap.size w _ V from hs_) 1 rfl) s).trans (mkI_get hsN);rw [HWV.out] at n1;clear hs_;first | (go_simp; done) | (go_simp; with_reducible rfl)
             (try simp only [sx]);refine rdH 7 rfl fun K hK => ?_;have n2 := (BlkAt.cell (S1.out.get 1 rfl) d).trans (mkI_get hdN);rw [HSV.out] at n2;go_simp;refine hK.out _ _ (S1.out.pick [0,3] (by decide)) fun hH => ?_;clear hK K;(try simp only [sx]);refine tkP 13 rfl (v := ?_) hH ?_;(try simp only [sx]);refine tkP 14 rfl (v := ?_) hH ?_;(try simp only [sx]);refine tkP 15 rfl (v := ?_) hH ?_;(try simp only [sx]);refine rdH 16 rfl fun K hK => ?_;have sc := (BlkAt.cell (S1.out.get 1 rfl) d).trans (mkI_get hdN);have sf := BlkAt.free (S1.out.get 1 rfl) d;go_simp;obtain ⟨w2,hw2⟩ : ∃ v,v = w1.setCell ⟨g2,d,none⟩ (.int .i64 ↑z) := ⟨_,rfl⟩;rw [← hw2];have S2 : (SepW w [eBlk bx 87 [.int .i64 ↑s,.int .i64 ye,.int .i64 ↑d],eBlk g2 3 (mkI N fun s => ((min (sumTo (ledV ⟨al,↑N,mr,ed⟩ k) (s : Int) (ed.take (t + 1))) 4503599627370496 : Nat) : Int)),eInts (cntsV ⟨al,↑N,mr,ed⟩ kind (k + 1)) (.slice A5 (k + 1) c5),eBlk g 3 (mkI N (wv ⟨al,↑N,mr,ed⟩ 4503599627370496 k)),eBlk w.heap.size 35 [.slice A1 al.length c1,.int .i64 ↑N,.slice A2 mr.length c2,.slice (some ⟨b,off,none⟩) ed.length c3]] w2) := by
              rw [hw2];have h := S1.out.set 1 rfl d (.int .i64 ↑z);rw [mkI_set,HG.out] at h;exact h
             clear hw2 sc sf;refine hK.out _ _ (S2.out.pick [0,3] (by decide)) fun hH => ?_;clear hK K;(try simp only [sx]);refine wpAnyH_done (by kernel_rfl) ?_ _;go_wp2_with fail
             go_roundw
             case rel => exact ⟨t + 1,by go_num,by omega,S2.out.drop1⟩
             case measure => simp [intOf]; omega
           · obtain rfl : t = ed.length := by omega
             have S5 : (SepW w [eInts (cntsV ⟨al,↑N,mr,ed⟩ kind (k + 1)) (.slice A5 (k + 1) c5),eBlk g2 3 (mkI N (wv ⟨al,↑N,mr,ed⟩ 4503599627370496 (k + 1))),eBlk w.heap.size 35 [.slice A1 al.length c1,.int .i64 ↑N,.slice A2 mr.length c2,.slice A3 ed.length c3]] wr) := by
              have h := S.out.pick [1,0,3] (by decide);have e : (mkI N fun s => ((min (sumTo (ledV ⟨al,↑N,mr,ed⟩ k) (s : Int) (ed.take ed.length)) 4503599627370496 : Nat) : Int)) = mkI N (wv ⟨al,↑N,mr,ed⟩ 4503599627370496 (k + 1)) := mkI_congr fun s _ => by
               unfold wv
               rw [List.take_length,ledV_succ HR.out k (s : Int) (Int.natCast_nonneg _)]
              simp only [List.filterMap_cons,List.filterMap_nil,List.getElem?_cons_succ,List.getElem?_cons_zero] at h;rw [e] at h;exact h
             clear S;go_wp2_with fail
             go_roundw
             case rel => exact ⟨k + 1,g2,A5,c5,by go_num,rfl,rfl,by omega,HNB.out,S5.out⟩
             case measure => simp [intOf]; omega
   · obtain rfl : k = len + 1 := by omega
     go_wp2_with fail
     refine bodyPost_ret (v := .tuple #[.slice AO (len + 1) cO,.bool true]) (by simp [results,Tryd.results19,go_sem]) rfl ?_;exact .inl ⟨AO,cO,rfl,S.out.pick [0] (by decide),fun j hj => HJ.out j (by omega)⟩
section

def rowG (al : List Int) (i : Nat) (f : Int → Int) : List Ed := al.filterMap fun e => if 0 ≤ f e then some ⟨(i : Int),e,f e⟩ else none
def rowsG (al : List Int) (nx : Nat → Int → Int) (n : Nat) : List Ed := (List.range n).flatMap fun i => rowG al i (nx i)
theorem rowG_yes (al : List Int) (i : Nat) (f : Int → Int) (e : Int) (h : 0 ≤ f e) : rowG (al ++ [e]) i f = rowG al i f ++ [⟨(i : Int),e,f e⟩] := by
 unfold rowG
 rw [List.filterMap_append];simp [h]
theorem rowG_no (al : List Int) (i : Nat) (f : Int → Int) (e : Int) (h : ¬ 0 ≤ f e) : rowG (al ++ [e]) i f = rowG al i f := by
 unfold rowG
 rw [List.filterMap_append];simp [h]
theorem rowsG_succ (al : List Int) (nx : Nat → Int → Int) (n : Nat) : rowsG al nx (n + 1) = rowsG al nx n ++ rowG al n (nx n) := by
 unfold rowsG
 rw [List.range_succ,List.flatMap_append];simp
theorem mem_rowG {al : List Int} {i : Nat} {f : Int → Int} {x : Ed} : x ∈ rowG al i f ↔ ∃ e,e ∈ al ∧ 0 ≤ f e ∧ x = ⟨(i : Int),e,f e⟩ := by
 unfold rowG
 rw [List.mem_filterMap];constructor
 · rintro ⟨e,he,h⟩;split at h
   · cases h; exact ⟨e,he,by assumption,rfl⟩
   · cases h
 · rintro ⟨e,he,h,rfl⟩;exact ⟨e,he,by rw [if_pos h]⟩
theorem mem_rowsG {al : List Int} {nx : Nat → Int → Int} {n : Nat} {x : Ed} : x ∈ rowsG al nx n ↔ ∃ i e,i < n ∧ e ∈ al ∧ 0 ≤ nx i e ∧ x = ⟨(i : Int),e,nx i e⟩ := by
 unfold rowsG
 simp only [List.mem_flatMap,List.mem_range,mem_rowG];constructor
 · rintro ⟨i,hi,e,he,h,rfl⟩; exact ⟨i,e,hi,he,h,rfl⟩
 · rintro ⟨i,e,hi,he,h,rfl⟩; exact ⟨i,hi,e,he,h,rfl⟩
theorem rowG_len (al : List Int) (i : Nat) (f : Int → Int) : (rowG al i f).length ≤ al.length := List.length_filterMap_le ..
theorem rowsG_len (al : List Int) (nx : Nat → Int → Int) : ∀ n,(rowsG al nx n).length ≤ n * al.length
 | 0 => by simp [rowsG]
 | n + 1 => by
   rw [rowsG_succ,List.length_append,Nat.succ_mul];have := rowsG_len al nx n;have := rowG_len al n (nx n);omega
theorem rowG_rises {al : List Int} (h : al.Pairwise (· < ·)) (i : Nat) (f : Int → Int) : (rowG al i f).Pairwise edLt := by
 unfold rowG
 rw [List.pairwise_filterMap];refine h.imp fun {a b} hab x hx y hy => ?_;split at hx
 · split at hy
   · cases hx; cases hy; exact .inr ⟨rfl,hab⟩
   · cases hy
 · cases hx
theorem rowsG_rises {al : List Int} (h : al.Pairwise (· < ·)) (nx : Nat → Int → Int) : ∀ n,(rowsG al nx n).Pairwise edLt
 | 0 => by simp [rowsG]
 | n + 1 => by
   rw [rowsG_succ,List.pairwise_append];refine ⟨rowsG_rises h nx n,rowG_rises h n _,fun x hx y hy => ?_⟩;obtain ⟨i,e,hi,_,_,rfl⟩ := mem_rowsG.1 hx;obtain ⟨e',_,_,rfl⟩ := mem_rowG.1 hy;exact .inl (by show (i : Int) < (n : Int); omega)
section
variable {al mr : List Int} {nx : Nat → Int → Int} {n : Nat}
theorem rowsG_right (hal : setOk al 32 al.length) (hn : n ≤ 4096) (hto : ∀ i e,i < n → e ∈ al → nx i e < n) (hmr : setOk mr n mr.length) : (⟨al,n,mr,rowsG al nx n⟩ : Au).Right := by
 refine ⟨hal,Int.natCast_nonneg _,by show ((n : Nat) : Int) ≤ 4096; omega,hmr,fun p hp x hx => ?_⟩;obtain ⟨i,e,hi,he,h0,rfl⟩ := mem_rowsG.1 (List.mem_of_getElem? hx);refine ⟨Int.natCast_nonneg _,by show (i : Int) < (n : Int); omega,h0,hto i e hi he,he,fun y hy hyx => ?_⟩;have hpw := List.pairwise_iff_getElem.1 (rowsG_rises hal.incr.pw nx n);obtain ⟨h1,h2⟩ := List.getElem?_eq_some_iff.1 hyx;obtain ⟨h3,h4⟩ := List.getElem?_eq_some_iff.1 hx;have := hpw (p - 1) p h1 h3 (by omega);rw [h2,h4] at this;exact this
theorem Au.Right.next_of {a : Au} (h : a.Right) {s e t : Int} (hm : (⟨s,e,t⟩ : Ed) ∈ a.ed) : nextV a.ed s e = t := by
 obtain ⟨p,hp,hpx⟩ := List.mem_iff_getElem.1 hm;exact h.nextE (p := p) (x := ⟨s,e,t⟩) (by rw [List.getElem?_eq_getElem hp,hpx])
theorem rowsG_next (hr : (⟨al,n,mr,rowsG al nx n⟩ : Au).Right) {i : Nat} {e : Int} (hi : i < n) (he : e ∈ al) : nextV (rowsG al nx n) i e = if 0 ≤ nx i e then nx i e else -1 := by
 by_cases h : 0 ≤ nx i e
 · rw [if_pos h];exact hr.next_of (mem_rowsG.2 ⟨i,e,hi,he,h,rfl⟩)
 · rw [if_neg h];rcases hr.next_cases (i : Int) e with g | ⟨_,_,x,hx,x1,x2,_⟩
   · exact g
   · obtain ⟨j,e',_,_,h0,rfl⟩ := mem_rowsG.1 hx;simp only at x1 x2
     obtain rfl : j = i := by omega
     subst x2;exact absurd h0 h
theorem rowsG_out (hr : (⟨al,n,mr,rowsG al nx n⟩ : Au).Right) {s e : Int} (he : ¬ e ∈ al) : nextV (rowsG al nx n) s e = -1 := by
 rcases hr.next_cases s e with g | ⟨_,_,x,hx,x1,x2,_⟩
 · exact g
 · obtain ⟨j,e',_,he',_,rfl⟩ := mem_rowsG.1 hx;simp only at x2
   subst x2;exact absurd he' he
theorem rowsG_run (hr : (⟨al,n,mr,rowsG al nx n⟩ : Au).Right) {σ : Type} (stp : σ → Int → σ) (val : σ → Int) (I : σ → Prop) (hI : ∀ s e,I s → I (stp s e)) (hv : ∀ s,val s = -1 ∨ 0 ≤ val s ∧ val s < n)
 (h1 : ∀ s e,I s → 0 ≤ val s → e ∈ al → val (stp s e) = if 0 ≤ nx (val s).toNat e then nx (val s).toNat e else -1) (h2 : ∀ s e,I s → val s = -1 → val (stp s e) = -1) (h3 : ∀ s e,I s → ¬ e ∈ al → val (stp s e) = -1) :
 ∀ (w : List Int) (s : σ),I s → runV (rowsG al nx n) (val s) w = val (w.foldl stp s)
 | [],s,_ => rfl
 | e :: w,s,hs => by
   rw [List.foldl_cons,← rowsG_run hr stp val I hI hv h1 h2 h3 w (stp s e) (hI s e hs)];rcases hv s with h | h
   · rw [h,h2 s e hs h,runV_neg _ (by omega),runV_neg _ (by omega)]
   · rw [runV,if_pos h.1];congr 1
     by_cases he : e ∈ al
     · rw [h1 s e hs h.1 he];have := rowsG_next hr (i := (val s).toNat) (e := e) (by omega) he;rw [Int.toNat_of_nonneg h.1] at this;exact this
     · rw [h3 s e hs he,rowsG_out hr he]
end
def posK {κ : Type} [DecidableEq κ] (l : List κ) (k : κ) : Int := if k ∈ l then (idxK l k : Int) else -1
section
variable {κ : Type} [DecidableEq κ]
theorem posK_cases (l : List κ) (k : κ) : posK l k = -1 ∨ 0 ≤ posK l k ∧ posK l k < l.length := by
 unfold posK
 split
 · rename_i h; have := idxK_lt h; exact .inr ⟨by omega,by omega⟩
 · exact .inl rfl
theorem posK_get {l : List κ} (hn : l.Nodup) {i : Nat} {k : κ} (h : l[i]? = some k) : posK l k = (i : Int) := by
 have hm := List.mem_of_getElem? h;unfold posK
 rw [if_pos hm];have h1 := idxK_get hm;have : idxK l k = i := (List.getElem?_inj (idxK_lt hm) hn).1 (h1.trans h.symm);rw [this]
theorem posK_no {l : List κ} {k : κ} (h : ¬ k ∈ l) : posK l k = -1 := if_neg h
theorem posK_mem {l : List κ} {k : κ} : 0 ≤ posK l k ↔ k ∈ l := by
 unfold posK
 split
 · rename_i h; exact ⟨fun _ => h,fun _ => Int.natCast_nonneg _⟩
 · rename_i h; exact ⟨fun g => by omega,fun g => absurd g h⟩
theorem posK_some {l : List κ} {k : κ} (h : 0 ≤ posK l k) : l[(posK l k).toNat]? = some k := by
 have hm := posK_mem.1 h;unfold posK
 rw [if_pos hm,Int.toNat_natCast];exact idxK_get hm
end
end
section

theorem Bfs.leastAt {α : Type} {stp : α → Int → α} {s0 : α} {dead : α → Prop} {evs : List Int} (hd : ∀ s e,dead s → dead (stp s e)) {P : α → Prop} (hP : ∀ s,dead s → ¬ P s) {k : Nat} {vs : List α} {ws : List (List Int)} (h : Bfs stp s0 dead evs vs.length k vs ws) {i : Nat} (hno : ∀ j v,j < i → vs[j]? = some v → ¬ P v)
 {v : α} {w : List Int} (hv : vs[i]? = some v) (hw : ws[i]? = some w) (hp : P v) : LeastW (LeadsTo stp s0 evs P) w := by
 refine ⟨⟨h.over w (List.mem_of_getElem? hw),by rw [h.run i v w hv hw]; exact hp⟩,fun u hu => ?_⟩;rcases h.claim hd u hu.1 with g | ⟨j,x,hj,hx,hle⟩ | ⟨wi,hi,_⟩
 · exact absurd hu.2 (hP _ g)
 · by_cases hji : j < i
   · exact absurd hu.2 (hno j _ hji hj)
   · rcases Nat.lt_or_eq_of_le (Nat.le_of_not_lt hji) with g | g
     · exact .trans (.inl (h.asc i j w x g hw hx)) hle
     · subst g; rw [hw] at hx; cases hx; exact hle
 · have := (List.getElem?_eq_some_iff.1 hi).1;rw [h.len] at this;omega
theorem Au.Right.raw {q : Au} (h : q.Right) : Raw q := ⟨h.al,h.n0,h.n1,fun x hx => by
 obtain ⟨j,hj,rfl⟩ := List.mem_iff_getElem.1 hx;have := h.ed j hj _ (List.getElem?_eq_getElem hj);exact ⟨this.2.2.1,this.2.2.2.1⟩⟩
section
variable {q : Au}
theorem Au.Right.next_neg (h : q.Right) (e : Int) : nextV q.ed (-1) e = -1 := by
 rcases h.next_cases (-1) e with g | ⟨_,_,x,hx,x1,_⟩
 · exact g
 · obtain ⟨j,hj,rfl⟩ := List.mem_iff_getElem.1 hx;have := (h.ed j hj _ (List.getElem?_eq_getElem hj)).1;omega
theorem Au.Right.fold_neg (h : q.Right) : ∀ w : List Int,w.foldl (nextV q.ed) (-1) = -1
 | [] => rfl
 | e :: w => by rw [List.foldl_cons,h.next_neg,h.fold_neg w]
theorem Au.Right.fold (h : q.Right) : ∀ (w : List Int) (s : Int),s = -1 ∨ 0 ≤ s → w.foldl (nextV q.ed) s = runV q.ed s w
 | [],s,_ => rfl
 | e :: w,s,hs => by
   rw [List.foldl_cons,runV];rcases hs with rfl | hs
   · rw [if_neg (by omega),h.next_neg,h.fold_neg]
   · rw [if_pos hs];refine h.fold w _ ?_;rcases h.next_cases s e with g | g
     · exact .inl g
     · exact .inr g.1
theorem Au.Right.next_out (h : q.Right) {s e : Int} (he : ¬ e ∈ q.al) : nextV q.ed s e = -1 := by
 rcases h.next_cases s e with g | ⟨_,_,x,hx,_,rfl,_⟩
 · exact g
 · obtain ⟨j,hj,rfl⟩ := List.mem_iff_getElem.1 hx;exact absurd (h.ed j hj _ (List.getElem?_eq_getElem hj)).2.2.2.2.1 he
abbrev BfsQ (q : Au) (i k : Nat) (fd : List Int) (ws : List (List Int)) : Prop := Bfs (nextV q.ed) 0 (fun s => s = -1) q.al i k fd ws
theorem bfs_scan (hq : q.Right) {i : Nat} {s : Int} : ∀ (k : Nat),k ≤ q.al.length → ∀ {fd : List Int} {ws : List (List Int)},BfsQ q i 0 fd ws → fd[i]? = some s → ∃ ws',BfsQ q i k (scanV q.ed s (q.al.take k) fd) ws'
 | 0,_,fd,ws,h,hs => ⟨ws,h⟩
 | k + 1,hk,fd,ws,h,hs => by
   obtain ⟨ws',h'⟩ := bfs_scan hq k (by omega) h hs;obtain ⟨e,he⟩ : ∃ e,q.al[k]? = some e := ⟨_,List.getElem?_eq_getElem (by omega)⟩;rw [List.take_add_one,he,Option.toList_some,scanV_snoc];have hp := scanV_pre q.ed s (q.al.take k) fd;have hs' : (scanV q.ed s (q.al.take k) fd)[i]? = some s := by
    obtain ⟨r,hr⟩ := hp;rw [← hr,List.getElem?_append_left (List.getElem?_eq_some_iff.1 hs).1]; exact hs
   unfold addV
   split
   · rename_i g
     obtain ⟨wi,hwi⟩ := h'.word hs';exact ⟨_,h'.push hq.al.incr hs' he hwi⟩
   · rename_i g
     refine ⟨ws',h'.skip hq.al.incr hs' he ?_⟩;by_cases h0 : 0 ≤ nextV q.ed s e
     · have hm : nextV q.ed s e ∈ scanV q.ed s (q.al.take k) fd := Classical.not_not.1 fun hm => g ⟨h0,hm⟩;obtain ⟨j,hj,hje⟩ := List.mem_iff_getElem.1 hm;exact .inr ⟨j,by rw [List.getElem?_eq_getElem hj,hje]⟩
     · refine .inl ?_;rcases hq.next_cases s e with k | k
       · exact k
       · exact absurd k.1 h0
theorem bfs_foundL (hq : q.Right) : ∀ (f i : Nat) (out : List Int) (ws : List (List Int)),Sts q.n out → BfsQ q i 0 out ws → i ≤ out.length → q.n.toNat < f + i → ∃ ws',BfsQ q (foundL q f i out).length 0 (foundL q f i out) ws'
 | 0,i,out,ws,h1,h2,h3,h4 => by have := h1.len hq.n0; omega
 | f + 1,i,out,ws,h1,h2,h3,h4 => by
   unfold foundL
   cases hs : out[i]? with
   | none =>
     have : out.length ≤ i := List.getElem?_eq_none_iff.1 hs;obtain rfl : i = out.length := by omega
     exact ⟨ws,h2⟩
   | some s =>
     have hp := scanV_pre q.ed s q.al out;have hi := (List.getElem?_eq_some_iff.1 hs).1;obtain ⟨ws',h'⟩ := bfs_scan hq q.al.length (Nat.le_refl _) h2 hs;rw [List.take_length] at h';exact bfs_foundL hq f (i + 1) _ ws' (Sts.scan hq.raw.ld hq.n0 s q.al h1) h'.next (by have := hp.length_le; omega) (by omega)
theorem bfs_found (hq : q.Right) (hn : 0 < q.n) : ∃ ws,BfsQ q (foundV q).length 0 (foundV q) ws := by
 unfold foundV
 rw [if_pos hn];exact bfs_foundL hq _ 0 [0] [[]] ⟨by simp,fun x hx => by simp at hx; omega⟩ Bfs.start (by simp) (by omega)
theorem mem_marksV' {mr fd : List Int} {k : Nat} (i : Nat) : (i : Int) ∈ marksV mr fd k ↔ i < k ∧ fd.getD i 0 ∈ mr := by
 unfold marksV
 simp only [List.mem_map,List.mem_filter,List.mem_range,decide_eq_true_eq];constructor
 · rintro ⟨j,h,e⟩;obtain rfl : j = i := by omega
   exact h
 · exact fun h => ⟨i,h,rfl⟩
def nxC (q : Au) (i : Nat) (e : Int) : Int := posK (foundV q) (nextV q.ed ((foundV q).getD i 0) e)
theorem idxV_pos {l : List Int} (hn : l.Nodup) {x : Int} (h : x ∈ l) : idxV l x = posK l x := by
 obtain ⟨j,h1,h2⟩ := idxV_in h;rw [h1,posK_get hn h2]
theorem fmCongr {α β : Type} {f g : α → Option β} : ∀ {l : List α},(∀ x,x ∈ l → f x = g x) → l.filterMap f = l.filterMap g
 | [],_ => rfl
 | a :: l,h => by
   rw [List.filterMap_cons,List.filterMap_cons,h a (by simp),fmCongr fun x hx => h x (by simp [hx])]
theorem canon_rows (hq : q.Right) (k : Nat) (hk : k ≤ (foundV q).length) : rowsV q.ed (foundV q) q.al k = rowsG q.al (nxC q) k := by
 have hf := foundV_ok hq.raw.ld hq.n0;induction k with
 | zero => rfl
 | succ k ih =>
   rw [rowsV_succ,rowsG_succ,ih (by omega)];congr 1
   unfold rowV rowG
   refine fmCongr fun e he => ?_;obtain ⟨s,hs⟩ : ∃ s,(foundV q)[k]? = some s := ⟨_,List.getElem?_eq_getElem (by omega)⟩;have hg : (foundV q).getD k 0 = s := by rw [List.getD_eq_getElem?_getD,hs]; rfl
   unfold nxC
   rw [hg];by_cases h0 : 0 ≤ nextV q.ed s e
   · have hm := hf.cl k s e (by omega) hs he h0;rw [if_pos h0,if_pos (posK_mem.2 hm),idxV_pos hf.st.nd hm]
   · rw [if_neg h0,if_neg];intro h;have := hf.st.rg _ (posK_mem.1 h);exact h0 this.1
theorem canon_eq (hq : q.Right) : canonV q = ⟨q.al,(foundV q).length,marksV q.mr (foundV q) (foundV q).length,rowsG q.al (nxC q) (foundV q).length⟩ := by
 unfold canonV
 rw [canon_rows hq _ (Nat.le_refl _)]
theorem canon_run (hq : q.Right) (s : Int) (hs : s = -1 ∨ s ∈ foundV q) (w : List Int) : runV (canonV q).ed (posK (foundV q) s) w = posK (foundV q) (runV q.ed s w) := by
 have hf := foundV_ok hq.raw.ld hq.n0;have hr := canonV_right hq.raw;rw [canon_eq hq] at hr ⊢;rw [← hq.fold w s (hs.imp id fun h => (hf.st.rg s h).1)];have hneg : ¬ (-1 : Int) ∈ foundV q := fun h => by have := (hf.st.rg _ h).1; omega
 refine rowsG_run hr (nextV q.ed) (posK (foundV q)) (fun s => s = -1 ∨ s ∈ foundV q) (fun s e hs => ?_) (fun s => posK_cases _ s) (fun s e hs h0 he => ?_) (fun s e hs h => ?_) (fun s e hs he => ?_) w s hs
 · rcases hs with rfl | hs
   · exact .inl (hq.next_neg e)
   · rcases hq.next_cases s e with g | g
     · exact .inl g
     · by_cases he : e ∈ q.al
       · obtain ⟨j,hj,hjs⟩ := List.mem_iff_getElem.1 hs;exact .inr (hf.cl j s e hj (by rw [List.getElem?_eq_getElem hj,hjs]) he g.1)
       · exact .inl (hq.next_out he)
 · have h1 := posK_some h0;have : nxC q (posK (foundV q) s).toNat e = posK (foundV q) (nextV q.ed s e) := by
    unfold nxC
    rw [List.getD_eq_getElem?_getD,h1];rfl
   rw [this];rcases posK_cases (foundV q) (nextV q.ed s e) with g | g
   · rw [g]; rfl
   · rw [if_pos g.1]
 · have : ¬ s ∈ foundV q := fun hm => by have := posK_mem.2 hm; omega
   rcases hs with rfl | hs
   · rw [hq.next_neg]; exact h
   · exact absurd hs this
 · rw [hq.next_out he];exact posK_no hneg
theorem canon_mark (hq : q.Right) {s : Int} (hs : s = -1 ∨ s ∈ foundV q) : posK (foundV q) s ∈ (canonV q).mr ↔ s ∈ q.mr := by
 have hf := foundV_ok hq.raw.ld hq.n0;rcases hs with rfl | hs
 · have hneg : ¬ (-1 : Int) ∈ foundV q := fun h => by have := (hf.st.rg _ h).1; omega
   rw [posK_no hneg];exact ⟨fun h => by have := (mem_marksV h).1; omega,fun h => by have := (hq.mem h).1; omega⟩
 · have h0 := posK_mem.2 hs;have h1 := posK_some h0;have e : posK (foundV q) s = (((posK (foundV q) s).toNat : Nat) : Int) := (Int.toNat_of_nonneg h0).symm;rw [e];show _ ∈ marksV q.mr (foundV q) (foundV q).length ↔ _
   rw [mem_marksV',List.getD_eq_getElem?_getD,h1];exact ⟨fun h => h.2,fun h => ⟨(List.getElem?_eq_some_iff.1 h1).1,h⟩⟩
theorem found_run (hq : q.Right) {s : Int} (hs : s = -1 ∨ s ∈ foundV q) (w : List Int) : runV q.ed s w = -1 ∨ runV q.ed s w ∈ foundV q := by
 have hf := foundV_ok hq.raw.ld hq.n0;induction w generalizing s with
 | nil => exact hs
 | cons e w ih =>
   rw [runV];rcases hs with rfl | hs
   · rw [if_neg (by omega)]; exact .inl rfl
   · rw [if_pos (hf.st.rg s hs).1];refine ih ?_;rcases hq.next_cases s e with g | g
     · exact .inl g
     · by_cases he : e ∈ q.al
       · obtain ⟨j,hj,hjs⟩ := List.mem_iff_getElem.1 hs;exact .inr (hf.cl j s e hj (by rw [List.getElem?_eq_getElem hj,hjs]) he g.1)
       · exact .inl (hq.next_out he)
theorem canon_isMin (hq : q.Right) (hn : 0 < q.n) (hco : ∀ s,0 ≤ s → s < q.n → ∃ w,runV q.ed s w ∈ q.mr) (hds : ∀ s t,0 ≤ s → s < q.n → 0 ≤ t → t < q.n → (∀ w,runV q.ed s w ∈ q.mr ↔ runV q.ed t w ∈ q.mr) → s = t) : IsMin (canonV q) (fun w => rn q w ∈ q.mr) := by
 have hf := foundV_ok hq.raw.ld hq.n0;obtain ⟨ws,hws⟩ := bfs_found hq hn;have hz := hf.z hn;have hlen : 0 < (foundV q).length := (List.getElem?_eq_some_iff.1 hz).1;have h0m : (0 : Int) ∈ foundV q := List.mem_of_getElem? hz;have hst : (canonV q).st = posK (foundV q) 0 := by
  rw [posK_get hf.st.nd hz];unfold Au.st
  rw [if_neg]
  · rfl
  · show ¬ (((foundV q).length : Nat) : Int) = 0
    omega
 have hqst : q.st = 0 := by unfold Au.st; rw [if_neg (by omega)]
 have hrn : ∀ w,rn (canonV q) w = posK (foundV q) (rn q w) := fun w => by
  unfold rn
  rw [hst,hqst];exact canon_run hq 0 (.inr h0m) w
 have hin : ∀ w,rn q w = -1 ∨ rn q w ∈ foundV q := fun w => by
  unfold rn
  rw [hqst];exact found_run hq (.inr h0m) w
 have hat : ∀ i : Int,0 ≤ i → i < (canonV q).n → ∃ s,s ∈ foundV q ∧ posK (foundV q) s = i := fun i h0 h1 => by
  have h1' : i < (((foundV q).length : Nat) : Int) := h1;obtain ⟨k,rfl⟩ := Int.eq_ofNat_of_zero_le h0;have hk : k < (foundV q).length := by omega
  exact ⟨(foundV q)[k],List.getElem_mem hk,posK_get hf.st.nd (List.getElem?_eq_getElem hk)⟩
 have hmk : ∀ s,s ∈ foundV q → ∀ w,runV (canonV q).ed (posK (foundV q) s) w ∈ (canonV q).mr ↔ runV q.ed s w ∈ q.mr := fun s hs w => by
  rw [canon_run hq s (.inr hs) w];exact canon_mark hq (found_run hq (.inr hs) w)
 refine ⟨canonV_right hq.raw,⟨ws,?_,hws.asc,fun i w hw => ?_⟩,fun i h0 h1 => ?_,fun i j h0 h1 k0 k1 h => ?_,fun w => ?_⟩
 · rw [hws.len];show (foundV q).length = (((foundV q).length : Nat) : Int).toNat
   simp
 · obtain ⟨v,hv⟩ : ∃ v,(foundV q)[i]? = some v := ⟨_,List.getElem?_eq_getElem (by rw [← hws.len]; exact (List.getElem?_eq_some_iff.1 hw).1)⟩;have hvm := List.mem_of_getElem? hv;have hv0 := (hf.st.rg v hvm).1;have hl := hws.leastAt (P := fun s => s = v) (fun s e hs => by rw [hs]; exact hq.next_neg e) (fun s hs h => by omega) (fun j u hj hu h => by
    subst h;have := (List.getElem?_inj (List.getElem?_eq_some_iff.1 hu).1 hf.st.nd).1 (hu.trans hv.symm);omega) hv hw rfl
   refine hl.congr fun u => ?_;unfold LeadsTo
   have hfold : u.foldl (nextV q.ed) 0 = rn q u := by unfold rn; rw [hqst]; exact hq.fold u 0 (.inr (Int.le_refl _))
   simp only [hfold,hrn];constructor
   · rintro ⟨_,h⟩;rw [h];exact posK_get hf.st.nd hv
   · intro h;have hm : rn q u ∈ foundV q := posK_mem.1 (by omega);have h1 := posK_some (l := foundV q) (k := rn q u) (by omega);rw [h,Int.toNat_natCast,hv] at h1;have e := (Option.some.inj h1).symm;exact ⟨rn_over hq u (by rw [e]; exact hv0),e⟩
 · obtain ⟨s,hs,rfl⟩ := hat i h0 h1;obtain ⟨w,hw⟩ := hco s (hf.st.rg s hs).1 (hf.st.rg s hs).2;exact ⟨w,(hmk s hs w).2 hw⟩
 · obtain ⟨s,hs,rfl⟩ := hat i h0 h1;obtain ⟨t,ht,rfl⟩ := hat j k0 k1;rw [hds s t (hf.st.rg s hs).1 (hf.st.rg s hs).2 (hf.st.rg t ht).1 (hf.st.rg t ht).2 fun w => by rw [← hmk s hs,← hmk t ht]; exact h w]
 · rw [hrn];exact canon_mark hq (hin w)
end
theorem empty_isMin {al : List Int} (hal : setOk al 32 al.length) {L : List Int → Prop} (hL : ∀ w,¬ L w) : IsMin ⟨al,0,[],[]⟩ L := by
 have hr : (⟨al,0,[],[]⟩ : Au).Right := ⟨hal,Int.le_refl _,by show (0 : Int) ≤ 4096; decide,fun i x hi => by simp at hi,fun i hi => by simp at hi⟩;refine ⟨hr,⟨[],rfl,fun i j u v _ hu => by simp at hu,fun i w hw => by simp at hw⟩,fun i h0 h1 => by simp only at h1; omega,fun i j h0 h1 => by simp only at h1; omega,fun w => ⟨fun h => by simp at h,fun h => absurd h (hL w)⟩⟩
end
section

def numO {κ : Type} [DecidableEq κ] (l : List (Option κ)) : List Int := l.map fun o => match o with
 | none => 0
 | some k => 1 + ((idxK (seenK [] (l.filterMap id)) k : Nat) : Int)
def cntO {κ : Type} [DecidableEq κ] (l : List (Option κ)) : Nat := (seenK [] (l.filterMap id)).length
section
variable {κ : Type} [DecidableEq κ]
theorem numO_len (l : List (Option κ)) : (numO l).length = l.length := by simp [numO]
theorem mem_seen {l : List κ} {k : κ} : k ∈ seenK [] l ↔ k ∈ l := by rw [mem_seenK]; simp
theorem numO_get {l : List (Option κ)} {i : Nat} {k : κ} (h : l[i]? = some (some k)) : (numO l)[i]? = some (1 + ((idxK (seenK [] (l.filterMap id)) k : Nat) : Int)) := by
 unfold numO
 rw [List.getElem?_map,h];rfl
theorem numO_none {l : List (Option κ)} {i : Nat} (h : l[i]? = some none) : (numO l)[i]? = some 0 := by
 unfold numO
 rw [List.getElem?_map,h];rfl
theorem fm_mem {τ : Type} {l : List (Option τ)} {i : Nat} {k : τ} (h : l[i]? = some (some k)) : k ∈ l.filterMap id := List.mem_filterMap.2 ⟨some k,List.mem_of_getElem? h,rfl⟩
theorem numO_snoc_none (l : List (Option κ)) : numO (l ++ [none]) = numO l ++ [0] := by
 unfold numO
 rw [List.map_append,List.filterMap_append];simp
theorem numO_snoc_some (l : List (Option κ)) (k : κ) : numO (l ++ [some k]) = numO l ++ [if k ∈ l.filterMap id then 1 + ((idxK (seenK [] (l.filterMap id)) k : Nat) : Int) else 1 + (cntO l : Int)] := by
 unfold numO cntO
 rw [List.map_append,List.filterMap_append];congr 1
 · refine List.map_congr_left fun o ho => ?_;cases o with
   | none => rfl
   | some y =>
     simp only [List.filterMap_cons,List.filterMap_nil,id_eq];rw [seenK_snoc];split
     · rfl
     · rw [idxK_app (mem_seen.2 (List.mem_filterMap.2 ⟨some y,ho,rfl⟩ : y ∈ l.filterMap id))]
 · simp only [List.map_cons,List.map_nil,List.filterMap_cons,List.filterMap_nil,id_eq];rw [seenK_snoc];by_cases h : k ∈ l.filterMap id
   · rw [if_pos h,if_pos (mem_seen.2 h)]
   · rw [if_neg h,if_neg (fun g => h (mem_seen.1 g)),idxK_new (fun g => h (mem_seen.1 g))]
theorem cntO_none (l : List (Option κ)) : cntO (l ++ [none]) = cntO l := by unfold cntO; rw [List.filterMap_append]; simp
theorem cntO_some (l : List (Option κ)) (k : κ) : cntO (l ++ [some k]) = if k ∈ l.filterMap id then cntO l else cntO l + 1 := by
 unfold cntO
 rw [List.filterMap_append];simp only [List.filterMap_cons,List.filterMap_nil,id_eq];rw [seenK_snoc];by_cases h : k ∈ l.filterMap id
 · rw [if_pos (mem_seen.2 h),if_pos h]
 · rw [if_neg (fun g => h (mem_seen.1 g)),if_neg h]; simp
theorem numO_can : ∀ (l : List (Option κ)),(∀ (i : Nat) (x : Int),(numO l)[i]? = some x → 0 ≤ x ∧ x ≤ cntO l) ∧ (∀ (i : Nat) (v : Nat),(numO l)[i]? = some ((v : Int) + 2) → ∃ j : Nat,j < i ∧ (numO l)[j]? = some ((v : Int) + 1)) ∧ (∀ x : Nat,x < cntO l → ∃ i : Nat,(numO l)[i]? = some ((x : Int) + 1)) := by
 refine snoc_ind (P := fun l : List (Option κ) => (∀ (i : Nat) (x : Int),(numO l)[i]? = some x → 0 ≤ x ∧ x ≤ cntO l) ∧ (∀ (i : Nat) (v : Nat),(numO l)[i]? = some ((v : Int) + 2) → ∃ j : Nat,j < i ∧ (numO l)[j]? = some ((v : Int) + 1)) ∧ (∀ x : Nat,x < cntO l → ∃ i : Nat,(numO l)[i]? = some ((x : Int) + 1))) ?_ ?_
 · exact ⟨fun i x h => by simp [numO] at h,fun i v h => by simp [numO] at h,fun x h => by simp [cntO,seenK] at h⟩
 · intro l o ih;obtain ⟨h1,h2,h3⟩ := ih;have keep : ∀ {i : Nat} {x y : Int},(numO l)[i]? = some x → (numO l ++ [y])[i]? = some x := fun h => get_keep h _;cases o with
   | none =>
     rw [numO_snoc_none,cntO_none];refine ⟨fun i x h => ?_,fun i v h => ?_,fun x h => ?_⟩
     · rcases getElem?_snoc h with g | ⟨_,rfl⟩
       · exact h1 i x g
       · exact ⟨by omega,by omega⟩
     · rcases getElem?_snoc h with g | ⟨_,g⟩
       · obtain ⟨j,hj,hg⟩ := h2 i v g;exact ⟨j,hj,keep hg⟩
       · omega
     · obtain ⟨i,hi⟩ := h3 x h;exact ⟨i,keep hi⟩
   | some k =>
     rw [numO_snoc_some,cntO_some];by_cases hk : k ∈ l.filterMap id
     · rw [if_pos hk,if_pos hk];obtain ⟨a,ha,hak⟩ := List.mem_filterMap.1 hk;obtain rfl : a = some k := hak;obtain ⟨q,hq,hqe⟩ := List.mem_iff_getElem.1 ha;have hqg : l[q]? = some (some k) := by rw [List.getElem?_eq_getElem hq,hqe]
       have hn := numO_get hqg;refine ⟨fun i x h => ?_,fun i v h => ?_,fun x h => ?_⟩
       · rcases getElem?_snoc h with g | ⟨_,rfl⟩
         · exact h1 i x g
         · exact h1 q _ hn
       · rcases getElem?_snoc h with g | ⟨hi,g⟩
         · obtain ⟨j,hj,hg⟩ := h2 i v g;exact ⟨j,hj,keep hg⟩
         · rw [← g] at hn;obtain ⟨j,hj,hg⟩ := h2 q v hn;rw [numO_len] at hi;exact ⟨j,by omega,keep hg⟩
       · obtain ⟨i,hi⟩ := h3 x h;exact ⟨i,keep hi⟩
     · rw [if_neg hk,if_neg hk];refine ⟨fun i x h => ?_,fun i v h => ?_,fun x h => ?_⟩
       · rcases getElem?_snoc h with g | ⟨_,rfl⟩
         · have := h1 i x g; omega
         · omega
       · rcases getElem?_snoc h with g | ⟨hi,g⟩
         · obtain ⟨j,hj,hg⟩ := h2 i v g;exact ⟨j,hj,keep hg⟩
         · obtain ⟨j,hj⟩ := h3 v (by omega);exact ⟨j,by rw [hi]; exact (List.getElem?_eq_some_iff.1 hj).1,keep hj⟩
       · by_cases e : x < cntO l
         · obtain ⟨i,hi⟩ := h3 x e;exact ⟨i,keep hi⟩
         · obtain rfl : x = cntO l := by omega
           exact ⟨(numO l).length,by rw [List.getElem?_append_right (Nat.le_refl _),Nat.sub_self]; simp; omega⟩
theorem numO_ker {l : List (Option κ)} {i j : Nat} {x y : κ} (hx : l[i]? = some (some x)) (hy : l[j]? = some (some y)) : (numO l)[i]? = (numO l)[j]? ↔ x = y := by
 rw [numO_get hx,numO_get hy];constructor
 · intro h;have := Option.some.inj h;exact idxK_inj (mem_seen.2 (fm_mem hx)) (mem_seen.2 (fm_mem hy)) (by omega)
 · rintro rfl; rfl
end
theorem btrue {b : Bool} (h : ¬ b = false) : b = true := by cases b with
 | true => rfl
 | false => exact absurd rfl h
def Good (q : Au) (s : Int) : Prop := ∃ w,runV q.ed s w ∈ q.mr
def Res (q : Au) (s t : Int) : Prop := ∀ w,runV q.ed s w ∈ q.mr ↔ runV q.ed t w ∈ q.mr
def clsI (c : List Int) (x : Int) : Int := if 0 ≤ x then c.getD x.toNat 0 else 0
def keyC (q : Au) (c : List Int) (s : Nat) : Int × Bool × List Int := (c.getD s 0,decide ((s : Int) ∈ q.mr),q.al.map fun e => clsI c (nextV q.ed s e))
def keysC (q : Au) (gd : Nat → Bool) (c : List Int) : List (Option (Int × Bool × List Int)) := (List.range q.n.toNat).map fun s => if gd s then some (keyC q c s) else none
def nextC (q : Au) (gd : Nat → Bool) (c : List Int) : List Int := numO (keysC q gd c)
def cls0 (q : Au) (gd : Nat → Bool) : List Int := (List.range q.n.toNat).map fun (s : Nat) => if ((s : Nat) : Int) ∈ q.mr then 2 else if gd s then 1 else 0
def clsN (q : Au) (gd : Nat → Bool) : Nat → List Int
 | 0 => cls0 q gd
 | r + 1 => nextC q gd (clsN q gd r)
section
variable {q : Au} {gd : Nat → Bool}
theorem keysC_get (c : List Int) {s : Nat} (hs : s < q.n.toNat) : (keysC q gd c)[s]? = some (if gd s then some (keyC q c s) else none) := by
 unfold keysC
 rw [List.getElem?_map,List.getElem?_range hs];rfl
theorem clsN_len (r : Nat) : (clsN q gd r).length = q.n.toNat := by
 cases r with
 | zero => simp [clsN,cls0]
 | succ r => simp [clsN,nextC,numO_len,keysC]
structure Pre (q : Au) (gd : Nat → Bool) (c : List Int) : Prop where
 len : c.length = q.n.toNat
 z : ∀ s : Nat,s < q.n.toNat → (c.getD s 0 = 0 ↔ gd s = false)
 rs : ∀ s t : Nat,s < q.n.toNat → t < q.n.toNat → gd s = true → gd t = true → Res q s t → c.getD s 0 = c.getD t 0
theorem Res.next {s t : Int} (h : Res q s t) (hs : 0 ≤ s) (ht : 0 ≤ t) (e : Int) : Res q (nextV q.ed s e) (nextV q.ed t e) := fun w => by
 have := h (e :: w);simp only [runV,hs,ht,if_true] at this;exact this
theorem Res.good {s t : Int} (h : Res q s t) : Good q s ↔ Good q t := ⟨fun ⟨w,hw⟩ => ⟨w,(h w).1 hw⟩,fun ⟨w,hw⟩ => ⟨w,(h w).2 hw⟩⟩
theorem good_neg (hr : q.Right) {s : Int} (h : s < 0) : ¬ Good q s := fun ⟨w,hw⟩ => by
 rw [runV_neg _ h] at hw;have := (hr.mem hw).1;omega
theorem Pre.clsI_res (hr : q.Right) (hg : ∀ s : Nat,s < q.n.toNat → (gd s = true ↔ Good q s)) {c : List Int} (h : Pre q gd c) {x y : Int} (hx : x = -1 ∨ 0 ≤ x ∧ x < q.n) (hy : y = -1 ∨ 0 ≤ y ∧ y < q.n) (hxy : Res q x y) : clsI c x = clsI c y := by
 have bad : ∀ {x : Int},(x = -1 ∨ 0 ≤ x ∧ x < q.n) → ¬ Good q x → clsI c x = 0 := fun {x} hx hb => by
  rcases hx with rfl | hx
  · rfl
  · unfold clsI
    rw [if_pos hx.1];refine (h.z x.toNat (by omega)).2 ?_;refine Bool.eq_false_iff.2 fun g => hb ?_;have := (hg x.toNat (by omega)).1 g;rwa [Int.toNat_of_nonneg hx.1] at this
 by_cases hgx : Good q x
 · have hgy := hxy.good.1 hgx;rcases hx with rfl | hx
   · exact absurd hgx (good_neg hr (by omega))
   rcases hy with rfl | hy
   · exact absurd hgy (good_neg hr (by omega))
   unfold clsI
   rw [if_pos hx.1,if_pos hy.1];have e1 := Int.toNat_of_nonneg hx.1;have e2 := Int.toNat_of_nonneg hy.1;exact h.rs x.toNat y.toNat (by omega) (by omega) ((hg _ (by omega)).2 (by rw [e1]; exact hgx)) ((hg _ (by omega)).2 (by rw [e2]; exact hgy)) (by rw [e1,e2]; exact hxy)
 · rw [bad hx hgx,bad hy (fun g => hgx (hxy.good.2 g))]
theorem Pre.key (hr : q.Right) (hg : ∀ s : Nat,s < q.n.toNat → (gd s = true ↔ Good q s)) {c : List Int} (h : Pre q gd c) {s t : Nat} (hs : s < q.n.toNat) (ht : t < q.n.toNat) (gs : gd s = true) (gt : gd t = true) (hst : Res q s t) : keyC q c s = keyC q c t := by
 unfold keyC
 rw [h.rs s t hs ht gs gt hst];have hm : ((s : Int) ∈ q.mr) = ((t : Int) ∈ q.mr) := propext (hst []);simp only [hm];congr 2
 refine List.map_congr_left fun e _ => ?_;exact h.clsI_res hr hg (next_rg hr s e) (next_rg hr t e) (hst.next (by omega) (by omega) e)
where
 next_rg (hr : q.Right) (s e : Int) : nextV q.ed s e = -1 ∨ 0 ≤ nextV q.ed s e ∧ nextV q.ed s e < q.n := by
  rcases hr.next_cases s e with g | g
  · exact .inl g
  · exact .inr ⟨g.1,g.2.1⟩
theorem getD_of {l : List Int} {i : Nat} {x : Int} (h : l[i]? = some x) : l.getD i 0 = x := by rw [List.getD_eq_getElem?_getD,h]; rfl
theorem nextC_good (c : List Int) {s : Nat} (hs : s < q.n.toNat) (g : gd s = true) : (nextC q gd c)[s]? = some (1 + ((idxK (seenK [] ((keysC q gd c).filterMap id)) (keyC q c s) : Nat) : Int)) :=
 numO_get (by rw [keysC_get c hs,g]; rfl)
theorem nextC_bad (c : List Int) {s : Nat} (hs : s < q.n.toNat) (g : gd s = false) : (nextC q gd c)[s]? = some 0 :=
 numO_none (by rw [keysC_get c hs,g]; rfl)
theorem nextC_ker (c : List Int) {s t : Nat} (hs : s < q.n.toNat) (ht : t < q.n.toNat) (gs : gd s = true) (gt : gd t = true) : (nextC q gd c).getD s 0 = (nextC q gd c).getD t 0 ↔ keyC q c s = keyC q c t := by
 have h := numO_ker (l := keysC q gd c) (i := s) (j := t) (x := keyC q c s) (y := keyC q c t) (by rw [keysC_get c hs,gs]; rfl) (by rw [keysC_get c ht,gt]; rfl);rw [← h,getD_of (nextC_good c hs gs),getD_of (nextC_good c ht gt)];show _ ↔ (nextC q gd c)[s]? = (nextC q gd c)[t]?
 rw [nextC_good c hs gs,nextC_good c ht gt];exact ⟨fun h => by rw [h],fun h => Option.some.inj h⟩
theorem Pre.next (hr : q.Right) (hg : ∀ s : Nat,s < q.n.toNat → (gd s = true ↔ Good q s)) {c : List Int} (h : Pre q gd c) : Pre q gd (nextC q gd c) := by
 refine ⟨by simp [nextC,numO_len,keysC],fun s hs => ?_,fun s t hs ht gs gt hst => (nextC_ker c hs ht gs gt).2 (h.key hr hg hs ht gs gt hst)⟩;cases hgs : gd s with
 | false => rw [getD_of (nextC_bad c hs hgs)]; simp
 | true => rw [getD_of (nextC_good c hs hgs)]; simp; omega
theorem Pre.zero (hr : q.Right) (hg : ∀ s : Nat,s < q.n.toNat → (gd s = true ↔ Good q s)) : Pre q gd (cls0 q gd) := by
 have hget : ∀ s : Nat,s < q.n.toNat → (cls0 q gd).getD s 0 = if (s : Int) ∈ q.mr then 2 else if gd s then 1 else 0 := fun s hs => by
  refine getD_of ?_;unfold cls0
  rw [List.getElem?_map,List.getElem?_range hs];rfl
 have hm : ∀ s : Nat,s < q.n.toNat → (s : Int) ∈ q.mr → gd s = true := fun s hs h => (hg s hs).2 ⟨[],h⟩;refine ⟨by simp [cls0],fun s hs => ?_,fun s t hs ht gs gt hst => ?_⟩
 · rw [hget s hs];by_cases h : (s : Int) ∈ q.mr
   · rw [if_pos h,hm s hs h]; simp
   · rw [if_neg h];cases gd s <;> simp
 · rw [hget s hs,hget t ht,gs,gt];have e : ((s : Int) ∈ q.mr) = ((t : Int) ∈ q.mr) := propext (hst []);simp only [e]
theorem clsN_pre (hr : q.Right) (hg : ∀ s : Nat,s < q.n.toNat → (gd s = true ↔ Good q s)) : ∀ r,Pre q gd (clsN q gd r)
 | 0 => Pre.zero hr hg
 | r + 1 => (clsN_pre hr hg r).next hr hg
def Stb (q : Au) (gd : Nat → Bool) (c : List Int) : Prop := ∀ s t : Nat,s < q.n.toNat → t < q.n.toNat → gd s = true → gd t = true → c.getD s 0 = c.getD t 0 → keyC q c s = keyC q c t
theorem keyC_fst {c : List Int} {s t : Nat} (h : keyC q c s = keyC q c t) : c.getD s 0 = c.getD t 0 := (Prod.mk.inj h).1
theorem Stb.next (hr : q.Right) {c : List Int} (hp : Pre q gd c) (hp' : Pre q gd (nextC q gd c)) (h : Stb q gd c) : Stb q gd (nextC q gd c) := by
 intro s t hs ht gs gt e;have hk := (nextC_ker c hs ht gs gt).1 e;obtain ⟨_,k2⟩ := Prod.mk.inj hk;obtain ⟨k2,k3⟩ := Prod.mk.inj k2;unfold keyC
 rw [e,k2];congr 2
 refine List.map_congr_left fun ev hev => ?_;have h3 : clsI c (nextV q.ed s ev) = clsI c (nextV q.ed t ev) := List.map_inj_left.1 k3 ev hev;have same : ∀ x y : Int,(x = -1 ∨ 0 ≤ x ∧ x < q.n) → (y = -1 ∨ 0 ≤ y ∧ y < q.n) → clsI c x = clsI c y → clsI (nextC q gd c) x = clsI (nextC q gd c) y := fun x y hx hy hxy => by
  have zero : ∀ x : Int,(x = -1 ∨ 0 ≤ x ∧ x < q.n) → (clsI c x = 0 ↔ clsI (nextC q gd c) x = 0) := fun x hx => by
   rcases hx with rfl | hx
   · exact ⟨fun _ => rfl,fun _ => rfl⟩
   · unfold clsI
     rw [if_pos hx.1,if_pos hx.1,hp.z _ (by omega),hp'.z _ (by omega)]
  by_cases h0 : clsI c x = 0
  · rw [(zero x hx).1 h0,(zero y hy).1 (hxy ▸ h0)]
  · have h0y : ¬ clsI c y = 0 := hxy ▸ h0;rcases hx with rfl | hx
    · exact absurd rfl h0
    rcases hy with rfl | hy
    · exact absurd rfl h0y
    unfold clsI at h0 h0y hxy ⊢
    rw [if_pos hx.1] at h0 hxy ⊢;rw [if_pos hy.1] at h0y hxy ⊢;have gx : gd x.toNat = true := by cases hb : gd x.toNat with
     | true => rfl
     | false => exact absurd ((hp.z _ (by omega)).2 hb) h0
    have gy : gd y.toNat = true := by cases hb : gd y.toNat with
     | true => rfl
     | false => exact absurd ((hp.z _ (by omega)).2 hb) h0y
    exact (nextC_ker c (by omega) (by omega) gx gy).2 (h x.toNat y.toNat (by omega) (by omega) gx gy hxy)
 exact same _ _ (Pre.key.next_rg hr _ _) (Pre.key.next_rg hr _ _) h3
structure Mx (q : Au) (c : List Int) (m : Nat) : Prop where
 rg : ∀ s : Nat,s < q.n.toNat → 0 ≤ c.getD s 0 ∧ c.getD s 0 ≤ m
 su : ∀ x : Nat,x < m → ∃ s,s < q.n.toNat ∧ c.getD s 0 = (x : Int) + 1
 can : ∀ s v : Nat,s < q.n.toNat → c.getD s 0 = (v : Int) + 2 → ∃ j,j < s ∧ c.getD j 0 = (v : Int) + 1
theorem nextC_mx (c : List Int) : Mx q (nextC q gd c) (cntO (keysC q gd c)) := by
 obtain ⟨h1,h2,h3⟩ := numO_can (keysC q gd c);have hl : (nextC q gd c).length = q.n.toNat := by simp [nextC,numO_len,keysC]
 have at_ : ∀ s,s < q.n.toNat → (nextC q gd c)[s]? = some ((nextC q gd c).getD s 0) := fun s hs => by
  rw [List.getD_eq_getElem?_getD,List.getElem?_eq_getElem (by omega)]; rfl
 refine ⟨fun s hs => h1 s _ (at_ s hs),fun x hx => ?_,fun s v hs hv => ?_⟩
 · obtain ⟨i,hi⟩ := h3 x hx;have := (List.getElem?_eq_some_iff.1 hi).1;rw [show numO (keysC q gd c) = nextC q gd c from rfl,hl] at this;exact ⟨i,this,getD_of hi⟩
 · obtain ⟨j,hj,hg⟩ := h2 s v (by rw [← hv]; exact at_ s hs);exact ⟨j,hj,getD_of hg⟩
theorem stb_of_count {c : List Int} {m : Nat} (hz : ∀ s : Nat,s < q.n.toNat → (c.getD s 0 = 0 ↔ gd s = false)) (hm : Mx q c m) (hle : cntO (keysC q gd c) ≤ m) : Stb q gd c := by
 have hm' := nextC_mx (q := q) (gd := gd) c;have hz' : ∀ s : Nat,s < q.n.toNat → ((nextC q gd c).getD s 0 = 0 ↔ gd s = false) := fun s hs => by
  cases hgs : gd s with
  | false => rw [getD_of (nextC_bad c hs hgs)]; simp
  | true => rw [getD_of (nextC_good c hs hgs)]; simp; omega
 classical
 let f : Nat → Nat := fun y => if h : ∃ s,s < q.n.toNat ∧ (nextC q gd c).getD s 0 = (y : Int) + 1 then (c.getD h.choose 0).toNat - 1 else 0
 have good : ∀ s,s < q.n.toNat → c.getD s 0 ≠ 0 → gd s = true := fun s hs h => by
  cases hb : gd s with
  | true => rfl
  | false => exact absurd ((hz s hs).2 hb) h
 have fval : ∀ s,s < q.n.toNat → gd s = true → ∀ y : Nat,(nextC q gd c).getD s 0 = (y : Int) + 1 → (f y : Int) + 1 = c.getD s 0 := fun s hs gs y hy => by
  have hex : ∃ s,s < q.n.toNat ∧ (nextC q gd c).getD s 0 = (y : Int) + 1 := ⟨s,hs,hy⟩;have hc := hex.choose_spec;have gc : gd hex.choose = true := by
   cases hb : gd hex.choose with
   | true => rfl
   | false => have := (hz' _ hc.1).2 hb; omega
  have hk := (nextC_ker c hc.1 hs gc gs).1 (hc.2.trans hy.symm);have he := keyC_fst hk;have h0 := (hm.rg _ hc.1).1;have hne : c.getD hex.choose 0 ≠ 0 := fun h => by have := (hz _ hc.1).1 h; rw [gc] at this; cases this
  show ((if h : ∃ s,s < q.n.toNat ∧ (nextC q gd c).getD s 0 = (y : Int) + 1 then (c.getD h.choose 0).toNat - 1 else 0 : Nat) : Int) + 1 = _
  rw [dif_pos hex,← he];omega
 have sur : ∀ x,x < m → ∃ y,y < cntO (keysC q gd c) ∧ f y = x := fun x hx => by
  obtain ⟨s,hs,hsx⟩ := hm.su x hx;have gs := good s hs (by omega);have h1 := hm'.rg s hs;have hne : (nextC q gd c).getD s 0 ≠ 0 := fun h => by have := (hz' s hs).1 h; rw [gs] at this; cases this
  obtain ⟨y,hy⟩ : ∃ y : Nat,(nextC q gd c).getD s 0 = (y : Int) + 1 := ⟨((nextC q gd c).getD s 0).toNat - 1,by omega⟩;have := fval s hs gs y hy;exact ⟨y,by omega,by omega⟩
 obtain ⟨p1,p2⟩ := pigeon f m _ sur;have inj := p2 (by omega);intro s t hs ht gs gt e;have h1 := hm'.rg s hs;have h2 := hm'.rg t ht;have n1 : (nextC q gd c).getD s 0 ≠ 0 := fun h => by have := (hz' s hs).1 h; rw [gs] at this; cases this
 have n2 : (nextC q gd c).getD t 0 ≠ 0 := fun h => by have := (hz' t ht).1 h; rw [gt] at this; cases this
 obtain ⟨y,hy⟩ : ∃ y : Nat,(nextC q gd c).getD s 0 = (y : Int) + 1 := ⟨((nextC q gd c).getD s 0).toNat - 1,by omega⟩;obtain ⟨y',hy'⟩ : ∃ y : Nat,(nextC q gd c).getD t 0 = (y : Int) + 1 := ⟨((nextC q gd c).getD t 0).toNat - 1,by omega⟩;have f1 := fval s hs gs y hy;have f2 := fval t ht gt y' hy';have := inj y y' (by omega) (by omega) (by omega);exact (nextC_ker c hs ht gs gt).1 (by rw [hy,hy',this])
theorem clsN_stb (hr : q.Right) (hg : ∀ s : Nat,s < q.n.toNat → (gd s = true ↔ Good q s)) : ∀ r : Nat,Stb q gd (clsN q gd (r + 1)) ∨ r + 1 ≤ cntO (keysC q gd (clsN q gd r))
 | 0 => by
   by_cases h : cntO (keysC q gd (clsN q gd 0)) = 0
   · refine .inl fun s t hs ht gs _ _ => ?_;have h1 := (nextC_mx (q := q) (gd := gd) (clsN q gd 0)).rg s hs;have := getD_of (nextC_good (clsN q gd 0) hs gs);omega
   · exact .inr (by omega)
 | r + 1 => by
   have pn := clsN_pre hr hg (r + 1);have pn' := clsN_pre hr hg (r + 2);have st : Stb q gd (clsN q gd (r + 1)) → Stb q gd (clsN q gd (r + 2)) := fun h => Stb.next hr pn pn' h;rcases clsN_stb hr hg r with h | h
   · exact .inl (st h)
   · by_cases hle : cntO (keysC q gd (clsN q gd (r + 1))) ≤ cntO (keysC q gd (clsN q gd r))
     · exact .inl (st (stb_of_count pn.z (nextC_mx _) hle))
     · exact .inr (by omega)
theorem clsN_fin (hr : q.Right) (hg : ∀ s : Nat,s < q.n.toNat → (gd s = true ↔ Good q s)) (hn : 0 < q.n) : Stb q gd (clsN q gd q.n.toNat) ∧ ∃ m,Mx q (clsN q gd q.n.toNat) m := by
 obtain ⟨r,hrn⟩ : ∃ r,q.n.toNat = r + 1 := ⟨q.n.toNat - 1,by omega⟩;rw [hrn];refine ⟨?_,_,nextC_mx _⟩;rcases clsN_stb hr hg r with h | h
 · exact h
 · have hm := nextC_mx (q := q) (gd := gd) (clsN q gd r);have hz := (clsN_pre hr hg (r + 1)).z;obtain ⟨p1,p2⟩ := pigeon (fun s => ((clsN q gd (r + 1)).getD s 0).toNat - 1) (cntO (keysC q gd (clsN q gd r))) q.n.toNat (fun x hx => by
    obtain ⟨s,hs,hsx⟩ := hm.su x hx;exact ⟨s,hs,by show ((nextC q gd (clsN q gd r)).getD s 0).toNat - 1 = x; omega⟩)
   have inj := p2 (by omega);intro s t hs ht gs gt e;rw [inj s t hs ht (by simp only [e])]
theorem Stb.res (hr : q.Right) (hg : ∀ s : Nat,s < q.n.toNat → (gd s = true ↔ Good q s)) {c : List Int} (hp : Pre q gd c) (h : Stb q gd c) : ∀ (w : List Int) (x y : Int),(x = -1 ∨ 0 ≤ x ∧ x < q.n) → (y = -1 ∨ 0 ≤ y ∧ y < q.n) → clsI c x = clsI c y → (runV q.ed x w ∈ q.mr ↔ runV q.ed y w ∈ q.mr) := by
 have bad : ∀ x : Int,(x = -1 ∨ 0 ≤ x ∧ x < q.n) → clsI c x = 0 → ¬ Good q x := fun x hx h0 => by
  rcases hx with rfl | hx
  · exact good_neg hr (by omega)
  · unfold clsI at h0
    rw [if_pos hx.1] at h0;intro g;have := (hg x.toNat (by omega)).2 (by rw [Int.toNat_of_nonneg hx.1]; exact g);have h2 := (hp.z _ (by omega)).1 h0;rw [this] at h2;cases h2
 intro w;induction w with
 | nil =>
   intro x y hx hy hxy;by_cases h0 : clsI c x = 0
   · exact ⟨fun g => absurd ⟨[],g⟩ (bad x hx h0),fun g => absurd ⟨[],g⟩ (bad y hy (hxy ▸ h0))⟩
   · have h0y : ¬ clsI c y = 0 := hxy ▸ h0;rcases hx with rfl | hx
     · exact absurd rfl h0
     rcases hy with rfl | hy
     · exact absurd rfl h0y
     unfold clsI at h0 h0y hxy
     rw [if_pos hx.1] at h0 hxy;rw [if_pos hy.1] at h0y hxy;have gx : gd x.toNat = true := btrue fun hb => h0 ((hp.z _ (by omega)).2 hb);have gy : gd y.toNat = true := btrue fun hb => h0y ((hp.z _ (by omega)).2 hb);have hk := h x.toNat y.toNat (by omega) (by omega) gx gy hxy;have := (Prod.mk.inj (Prod.mk.inj hk).2).1;rw [Int.toNat_of_nonneg hx.1,Int.toNat_of_nonneg hy.1] at this;simpa [runV] using this
 | cons e w ih =>
   intro x y hx hy hxy;by_cases h0 : clsI c x = 0
   · exact ⟨fun g => absurd ⟨_,g⟩ (bad x hx h0),fun g => absurd ⟨_,g⟩ (bad y hy (hxy ▸ h0))⟩
   · have h0y : ¬ clsI c y = 0 := hxy ▸ h0;rcases hx with rfl | hx
     · exact absurd rfl h0
     rcases hy with rfl | hy
     · exact absurd rfl h0y
     rw [runV,if_pos hx.1,runV,if_pos hy.1];refine ih _ _ (Pre.key.next_rg hr _ _) (Pre.key.next_rg hr _ _) ?_;by_cases he : e ∈ q.al
     · unfold clsI at h0 h0y hxy
       rw [if_pos hx.1] at h0 hxy;rw [if_pos hy.1] at h0y hxy;have gx : gd x.toNat = true := btrue fun hb => h0 ((hp.z _ (by omega)).2 hb);have gy : gd y.toNat = true := btrue fun hb => h0y ((hp.z _ (by omega)).2 hb);have hk := h x.toNat y.toNat (by omega) (by omega) gx gy hxy;have h3 := (Prod.mk.inj (Prod.mk.inj hk).2).2;rw [Int.toNat_of_nonneg hx.1,Int.toNat_of_nonneg hy.1] at h3;exact List.map_inj_left.1 h3 e he
     · rw [hr.next_out he,hr.next_out he]
end
end
end Go.Proofs.YtkifgffhoenaoaaDoor
