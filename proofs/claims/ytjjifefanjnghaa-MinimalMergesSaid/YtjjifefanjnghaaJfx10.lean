/-
  What the row leans on.
-/
import Derived.Test.YtjjifefanjnghaaBas01
import Derived.Test.YtjjifefanjnghaaJfx07
import Derived.Test.YtjjifefanjnghaaJfx09
import Derived.Test.YtjjifefanjnghaaJfx08
import Derived.Test.YtjjifefanjnghaaJfx06
set_option linter.unusedSimpArgs false
set_option linter.unusedVariables false
namespace Go.Proofs.Ytjjifefanjnghaa
open Go.RowKit
set_option maxRecDepth 100000
section
attribute [local go_sem] Oper.semAt_some

theorem within8_c (A : Option Addr) (cA : Nat) (l : List Int) (n : Int) (w : World) (hA : IntsAt w A l) (hl : l.length ≤ 1000000) :
 Calls Try.prog 25 #[.slice A l.length cA,.int .i64 n] w (Tells (∀ x,x ∈ l → 0 ≤ x ∧ x < n) w) := by
 have HA := Lib.hid hA;clear hA;go_enter Try.func25,Try.ntmps25
 go_wp2_with fail
 go_loopw [5] (fun v wr => ∃ k : Nat,v = .int .i64 ↑k ∧ k ≤ l.length ∧ Hid (∀ (q : Nat) x,q < k → l[q]? = some x → 0 ≤ x ∧ x < n) ∧ Hid (Below w.heap.size w wr)) (fun v _ => l.length - (intOf v).toNat)
 case atStart => exact ⟨0,rfl,Nat.zero_le _,fun q x h => absurd h (by omega),Below.refl _ _⟩
 case round =>
  obtain ⟨k,rfl,hk,HQ,HB⟩ := hrel;by_cases hkl : k < l.length
  · have hkl' : decide ((k : Int) < (l.length : Int)) = true := decide_eq_true (by omega);obtain ⟨g,o,x,rfl,_,hx,hxc⟩ := IntsAt.at (HA.out.below IntE.stays HB.out) hkl;have HX := Lib.hid hx;clear hx;by_cases h1 : x < 0
    · have h1' : decide (x < 0) = true := decide_eq_true h1;have HN : Hid (¬ ∀ x,x ∈ l → 0 ≤ x ∧ x < n) := fun h => by have := h x (List.mem_of_getElem? HX.out); omega
      clear h1;go_wp2_with fail
      go_ret
      exact Tells.no HN.out HB.out
    · have h1' : decide (x < 0) = false := decide_eq_false h1;by_cases h2 : x ≥ n
      · have h2' : decide (x ≥ n) = true := decide_eq_true h2;have HN : Hid (¬ ∀ x,x ∈ l → 0 ≤ x ∧ x < n) := fun h => by have := h x (List.mem_of_getElem? HX.out); omega
        have h2n : decide (n ≤ x) = true := decide_eq_true h2;clear h1 h2;go_wp2_with fail
        go_ret
        exact Tells.no HN.out HB.out
      · have h2' : decide (x ≥ n) = false := decide_eq_false h2;have h2n : decide (n ≤ x) = false := decide_eq_false h2;have HX2 : Hid (0 ≤ x ∧ x < n) := by simp only [Hid]; omega
        clear h1 h2;go_wp2_with fail
        go_roundw
        case rel => exact ⟨k + 1,by go_num,hkl,fun q y hq hy => by
         by_cases e : q = k
         · subst e; rw [HX.out] at hy; cases hy; exact HX2.out
         · exact HQ.out q y (by omega) hy,HB.out⟩
        case measure => simp [intOf]; omega
  · obtain rfl : k = l.length := by omega
    have hkl' : decide ((l.length : Int) < (l.length : Int)) = false := decide_eq_false (by omega);go_wp2_with fail
    go_ret
    exact Tells.yes (fun x hx => by
     obtain ⟨q,hq,rfl⟩ := List.mem_iff_getElem.1 hx;exact HQ.out q _ hq (List.getElem?_eq_getElem hq)) HB.out
def RowOk (a : Au) (c : List Int) (x k : Nat) : Prop := ∀ y : Nat,y < k → c[x]? = c[y]? → RefS a c x y
def EvOk (a : Au) (c : List Int) (x y : Nat) (k : Nat) : Prop := ∀ (q : Nat) e,q < k → a.al[q]? = some e → (0 ≤ nextV a.ed x e ↔ 0 ≤ nextV a.ed y e) ∧ (0 ≤ nextV a.ed x e → clsV c (nextV a.ed x e) = clsV c (nextV a.ed y e))
theorem EvOk.next {a : Au} {c : List Int} {x y k : Nat} {e : Int} (h : EvOk a c x y k) (he : a.al[k]? = some e) (h2 : (0 ≤ nextV a.ed x e ↔ 0 ≤ nextV a.ed y e) ∧ (0 ≤ nextV a.ed x e → clsV c (nextV a.ed x e) = clsV c (nextV a.ed y e))) : EvOk a c x y (k + 1) := fun q e' hq he' => by
 by_cases g : q = k
 · subst g; rw [he] at he'; cases he'; exact h2
 · exact h q e' (by omega) he'
set_option maxHeartbeats 8000000 in
theorem consR_c (a : Au) (pa : AuP) (AC : Option Addr) (cC : Nat) (c : List Int) (w : World) (hr : a.Right) (hA : Au.At w a pa) (hC : IntsAt w AC c) (hl : (c.length : Int) = a.n) :
 Calls Try.prog 26 #[a.val pa,.slice AC c.length cC] w (Tells (RefC a c) w) := by
 have n0 := hr.n0;have n1 := hr.n1;have HR := Lib.hid hr;have HA := Lib.hid hA;have HC := Lib.hid hC;obtain ⟨al,n,mr,ed⟩ := a;obtain ⟨A1,c1,A2,c2,A3,c3⟩ := pa;(try dsimp only [Au.val] at *);obtain ⟨N,rfl⟩ := Int.eq_ofNat_of_zero_le n0;have hN4 : N ≤ 4096 := by omega
 have HCL : Hid (c.length = N) := by simp only [Hid]; omega
 have hal : al.length ≤ 32 := al_len HR.out;have hcl : c.length ≤ 4096 := by have := HCL.out; omega
 clear hr hA hC n0 n1 hl;go_enter Try.func26,Try.ntmps26
 go_upto_region 1 with fail
 refine wp_world (fun W => Sep w.heap.size w [eBlk w.heap.size 25 [.slice A1 al.length c1,.int .i64 ↑N,.slice A2 mr.length c2,.slice A3 ed.length c3]] W) ?_ fun W S => ?_
 · exact (Sep.here w).alloc' _ [_,_,_,_] rfl rfl
 have S0 := Lib.hid S;clear S;go_wp2_with fail
 go_loopw [5] (fun v wr => ∃ i : Nat,v = .int .i64 ↑i ∧ i ≤ N ∧ Hid (∀ x : Nat,x < i → RowOk ⟨al,↑N,mr,ed⟩ c x x) ∧ (SepW w [eBlk w.heap.size 25 [.slice A1 al.length c1,.int .i64 ↑N,.slice A2 mr.length c2,.slice A3 ed.length c3]] wr)) (fun v _ => N - (intOf v).toNat)
 case atStart => exact ⟨0,rfl,Nat.zero_le _,fun x h => absurd h (by omega),S0.out⟩
 case round =>
  clear S0;obtain ⟨i,rfl,hi,HROWS,S⟩ := hrel;have a0 := BlkAt.cell (S.out.get 0 rfl) 0; have a1 := BlkAt.cell (S.out.get 0 rfl) 1; have a2 := BlkAt.cell (S.out.get 0 rfl) 2; have a3 := BlkAt.cell (S.out.get 0 rfl) 3; simp only [List.getElem?_cons_succ,List.getElem?_cons_zero] at a0 a1 a2 a3;by_cases hlt : i < N
  · have hlt' : decide ((i : Int) < (N : Int)) = true := decide_eq_true (by omega);have hic : i < c.length := by rw [HCL.out]; exact hlt
    go_wp2_with fail
    go_loopw [6] (fun v wr => ∃ j : Nat,v = .int .i64 ↑j ∧ j ≤ i ∧ Hid (RowOk ⟨al,↑N,mr,ed⟩ c i j) ∧ (SepW w [eBlk w.heap.size 25 [.slice A1 al.length c1,.int .i64 ↑N,.slice A2 mr.length c2,.slice A3 ed.length c3]] wr)) (fun v _ => i - (intOf v).toNat)
    case atStart => exact ⟨0,rfl,Nat.zero_le _,fun y h => absurd h (by omega),S.out⟩
    case round =>
     clear S a0 a1 a2 a3;obtain ⟨j,rfl,hj,HROW,S⟩ := hrel;by_cases hji : j < i
     · have hji' : decide ((j : Int) < (i : Int)) = true := decide_eq_true (by omega);have hjc : j < c.length := by omega
       obtain ⟨gC,oC,x,rfl,hgC,hx,hxc⟩ := IntsAt.at (HC.out.below IntE.stays S.out.below) hic;obtain ⟨gC',oC',y,hgz,_,hy,hyc⟩ := IntsAt.at (HC.out.below IntE.stays S.out.below) hjc;obtain ⟨rfl,rfl⟩ : gC' = gC ∧ oC' = oC := by cases hgz; exact ⟨rfl,rfl⟩
       have HX := Lib.hid hx;have HY := Lib.hid hy;clear hx hy hgz;obtain ⟨b7,hb7⟩ : ∃ b,(x != y) = b := ⟨_,rfl⟩;have HB7 := Lib.hid hb7;go_upto_region 7 with fail
       go_cut [29] (fun v wx => v = .bool b7 ∧ (SepW w [eBlk w.heap.size 25 [.slice A1 al.length c1,.int .i64 ↑N,.slice A2 mr.length c2,.slice A3 ed.length c3]] wx))
       case first =>
        go_quiet (fail)
        go_wp2_with fail
        go_meet
        exact ⟨by rw [← hb7],S.out.draws _⟩
       case rest =>
        clear S hb7 hxc hyc;obtain ⟨rfl,S⟩ := hcut;cases b7
        · obtain rfl : x = y := by have := HB7.out; simpa using this
          have HCE : Hid (c[i]? = c[j]?) := by rw [Hid,HX.out,HY.out]
          obtain ⟨m1,hm1⟩ : ∃ m,decide ((i : Int) ∈ mr) = m := ⟨_,rfl⟩;obtain ⟨m2,hm2⟩ : ∃ m,decide ((j : Int) ∈ mr) = m := ⟨_,rfl⟩;have Hm1 := Lib.hid hm1;have Hm2 := Lib.hid hm2;clear hm1 hm2 HB7;obtain ⟨b8,hb8⟩ : ∃ b,(m1 != m2) = b := ⟨_,rfl⟩;have HB8 := Lib.hid hb8;clear hb8;go_upto_region 8 with fail
          go_cut [36] (fun v wx => v = .bool b8 ∧ (SepW w [eBlk w.heap.size 25 [.slice A1 al.length c1,.int .i64 ↑N,.slice A2 mr.length c2,.slice A3 ed.length c3]] wx))
          case first =>
           have S1 := Lib.hid S.out.drew;refine wp_region_held_drew (S := (fun V => Sep w.heap.size w [eBlk w.heap.size 25 [.slice A1 al.length c1,.int .i64 ↑N,.slice A2 mr.length c2,.slice A3 ed.length c3]] V)) (by kernel_rfl) ?_ (fun hH => ?_)
           · exact S1.out.pick [0] (by decide)
           generalize hwz : wc.drew = w1 at *;clear hwz;rw [show Array.replicate _ false = #[false,false,false,false,false,false,false] from rfl];refine tkH 0 rfl (v := ?_) (by kernel_rfl) ?_ hH ?_;rotate_left
           · intro V hs_;have a0 := ckC hs_ 0 rfl 0 rfl;have a1 := ckC hs_ 0 rfl 1 rfl;have a2 := ckC hs_ 0 rfl 2 rfl;have a3 := ckC hs_ 0 rfl 3 rfl;clear hs_;first | (go_simp; done) | (go_simp; with_reducible rfl)
           (try simp only [sx]);refine tkP 1 rfl (v := ?_) hH ?_;(try simp only [sx]);refine tkH 3 rfl (v := ?_) (by kernel_rfl) ?_ hH ?_;rotate_left
           · intro V hs_;have a0 := ckC hs_ 0 rfl 0 rfl;have a1 := ckC hs_ 0 rfl 1 rfl;have a2 := ckC hs_ 0 rfl 2 rfl;have a3 := ckC hs_ 0 rfl 3 rfl;clear hs_;first | (go_simp; done) | (go_simp; with_reducible rfl)
           (try simp only [sx]);refine tkP 4 rfl (v := ?_) hH ?_;(try simp only [sx]);refine act_name ?_;intro A0 hA0;obtain ⟨F,hF⟩ : ∃ F : Value → Value → Value → Act,Hid (∀ x32 x35 x36,F x32 x35 x36 = (((A0.put (some 32) x32).put (some 35) x35).put (some 36) x36)) := ⟨fun x32 x35 x36 => (((A0.put (some 32) x32).put (some 35) x35).put (some 36) x36),fun _ _ _ => rfl⟩;subst hA0;unfold Hid at hF
           simp only [List.getElem_toArray,List.getElem_cons_zero,List.getElem_cons_succ,Act.put,List.setIfInBounds_toArray,List.set_cons_zero,List.set_cons_succ] at hF;have HF := Lib.hid hF;clear hF;obtain ⟨INV,hI⟩ : ∃ I : Array Bool → Act → World → Prop,Hid (∀ l_ a_ W_,I l_ a_ W_ ↔ ∃ (fb2 fb5 fb6 : Bool) (x32 x35 x36 : Value),l_ = #[true,true,fb2,true,true,fb5,fb6] ∧ a_ = F x32 x35 x36 ∧ (SepW w [eBlk w.heap.size 25 [.slice A1 al.length c1,.int .i64 ↑N,.slice A2 mr.length c2,.slice A3 ed.length c3]] W_) ∧ True ∧ Hid (fb5 = true → fb2 = true) ∧ Hid (fb6 = true → fb5 = true) ∧ Hid (fb2 = true → x32 = .bool m1) ∧ Hid (fb5 = true → x35 = .bool m2) ∧ Hid (fb6 = true → x36 = .bool (m1 != m2))) := ⟨_,fun _ _ _ => Iff.rfl⟩;refine wpAnyH_inv (INV := INV) (D := [[],[],[0,1],[],[],[2,3,4],[2,5]]) [2,5,6] (by kernel_rfl) (fun l_ a_ W_ h => ?_) (fun l_ a_ W_ h => ?_) (fun l_ a_ W_ h hall => ?_) ?_ _ _ _ _ (by decide) ?_
           · obtain ⟨fb2,fb5,fb6,x32,x35,x36,rfl,rfl,S_,_,mf2_5,mf5_6,cf2,cf5,cf6⟩ := (hI.out _ _ _).1 h;exact S_.out.pick [0] (by decide)
           · obtain ⟨fb2,fb5,fb6,x32,x35,x36,rfl,rfl,S_,_,mf2_5,mf5_6,cf2,cf5,cf6⟩ := (hI.out _ _ _).1 h;rfl
           · obtain ⟨fb2,fb5,fb6,x32,x35,x36,rfl,rfl,S_,_,mf2_5,mf5_6,cf2,cf5,cf6⟩ := (hI.out _ _ _).1 h;obtain rfl : fb2 = true := hall 2 (by decide);obtain rfl : fb5 = true := hall 5 (by decide);obtain rfl : fb6 = true := hall 6 (by decide);clear hall h hI INV;rw [HF.out];clear HF F;obtain rfl := cf2.out rfl;obtain rfl := cf5.out rfl;obtain rfl := cf6.out rfl;clear mf2_5 mf5_6 cf2 cf5 cf6;have S9 := S_;go_wp2_with fail
             go_meet
             exact ⟨by rw [← HB8.out],S9.out⟩
           · clear hH S1;refine StepsI.cons rfl (fun l_ a_ W_ h hf hd K hK => ?_) (StepsI.cons rfl (fun l_ a_ W_ h hf hd K hK => ?_) (StepsI.cons rfl (fun l_ a_ W_ h hf hd K hK => ?_) (StepsI.nil)))
             · obtain ⟨fb2,fb5,fb6,x32,x35,x36,rfl,rfl,S_,_,mf2_5,mf5_6,cf2,cf5,cf6⟩ := (hI.out _ _ _).1 h;obtain rfl : fb2 = false := hf;clear h;obtain rfl : fb5 = false := by cases fb5 with | false => rfl | true => exact nomatch (mf2_5.out rfl)
               obtain rfl : fb6 = false := by cases fb6 with | false => rfl | true => exact nomatch (mf5_6.out rfl)
               clear hd;rw [HF.out];go_simp;refine (marked8_d ⟨al,↑N,mr,ed⟩ ⟨A1,c1,A2,c2,A3,c3⟩ (i : Int) m1 W_ (HA.out.below S_.out.below).mr HA.out.lmk Hm1.out).mono ?_;rintro e_ W2 ⟨rfl,hb⟩;have S2 := Lib.hid (S_.out.next hb);clear hb;(try simp only [sx]);refine hK.out _ _ ((hI.out _ _ _).2 ⟨true,false,false,_,_,_,rfl,(HF.out _ _ _).symm,S2,trivial,(fun _ => rfl),(fun h => nomatch h),(fun _ => rfl),(fun h => nomatch h),(fun h => nomatch h)⟩)
             · obtain ⟨fb2,fb5,fb6,x32,x35,x36,rfl,rfl,S_,_,mf2_5,mf5_6,cf2,cf5,cf6⟩ := (hI.out _ _ _).1 h;obtain rfl : fb5 = false := hf;clear h;obtain rfl : fb2 = true := hd 2 (by decide);obtain rfl : fb6 = false := by cases fb6 with | false => rfl | true => exact nomatch (mf5_6.out rfl)
               clear hd;rw [HF.out];obtain rfl := cf2.out rfl;go_simp;refine (marked8_d ⟨al,↑N,mr,ed⟩ ⟨A1,c1,A2,c2,A3,c3⟩ (j : Int) m2 W_ (HA.out.below S_.out.below).mr HA.out.lmk Hm2.out).mono ?_;rintro e_ W2 ⟨rfl,hb⟩;have S2 := Lib.hid (S_.out.next hb);clear hb;(try simp only [sx]);refine hK.out _ _ ((hI.out _ _ _).2 ⟨true,true,false,_,_,_,rfl,(HF.out _ _ _).symm,S2,trivial,(fun _ => rfl),(fun _ => rfl),cf2,(fun _ => rfl),(fun h => nomatch h)⟩)
             · obtain ⟨fb2,fb5,fb6,x32,x35,x36,rfl,rfl,S_,_,mf2_5,mf5_6,cf2,cf5,cf6⟩ := (hI.out _ _ _).1 h;obtain rfl : fb6 = false := hf;clear h;obtain rfl : fb2 = true := hd 2 (by decide);obtain rfl : fb5 = true := hd 5 (by decide);clear hd;rw [HF.out];obtain rfl := cf2.out rfl;obtain rfl := cf5.out rfl;go_simp;(try simp only [sx]);refine hK.out _ _ ((hI.out _ _ _).2 ⟨true,true,true,_,_,_,rfl,(HF.out _ _ _).symm,S_,trivial,(fun _ => rfl),(fun _ => rfl),cf2,cf5,(fun _ => rfl)⟩)
           · refine (hI.out _ _ _).2 ⟨false,false,false,_,_,_,rfl,(HF.out _ _ _).symm,(S1.out : Sep w.heap.size w [eBlk w.heap.size 25 [.slice A1 al.length c1,.int .i64 ↑N,.slice A2 mr.length c2,.slice A3 ed.length c3]] w1),trivial,(fun h => nomatch h),(fun h => nomatch h),(fun h => nomatch h),(fun h => nomatch h),(fun h => nomatch h)⟩
          case rest =>
           clear S;obtain ⟨rfl,S⟩ := hcut;cases b8
           · have hmm : m1 = m2 := by have := HB8.out; simpa using this
             have HMK : Hid ((i : Int) ∈ mr ↔ (j : Int) ∈ mr) := by
              exact decide_eq_decide.1 (Hm1.out.trans (hmm.trans Hm2.out.symm))
             clear hmm Hm1 Hm2;go_wp2_with fail
             go_loopw [7] (fun v wr => ∃ k : Nat,v = .int .i64 ↑k ∧ k ≤ al.length ∧ Hid (EvOk ⟨al,↑N,mr,ed⟩ c i j k) ∧ (SepW w [eBlk w.heap.size 25 [.slice A1 al.length c1,.int .i64 ↑N,.slice A2 mr.length c2,.slice A3 ed.length c3]] wr)) (fun v _ => al.length - (intOf v).toNat)
             case atStart => exact ⟨0,rfl,Nat.zero_le _,fun q e h => absurd h (by omega),S.out⟩
             case round =>
              clear S;obtain ⟨k,rfl,hk,HEV,S⟩ := hrel;have a0 := BlkAt.cell (S.out.get 0 rfl) 0; simp only [List.getElem?_cons_succ,List.getElem?_cons_zero] at a0;by_cases hkl : k < al.length
              · have hkl' : decide ((k : Int) < (al.length : Int)) = true := decide_eq_true (by omega);obtain ⟨gA,oA,e,rfl,hgA,he,hec⟩ := IntsAt.at HA.out.al hkl;have HAL : Hid (∀ V,Below w.heap.size w V → V.cell? ⟨gA,oA + k,none⟩ = some (.int .i64 e)) := fun V hV => (hV.cell hgA).trans hec;have HEK := Lib.hid he;clear he hec hgA;obtain ⟨tp,htp⟩ : ∃ t,nextV ed i e = t := ⟨_,rfl⟩;obtain ⟨tq,htq⟩ : ∃ t,nextV ed j e = t := ⟨_,rfl⟩;have Htp := Lib.hid htp;have Htq := Lib.hid htq;have gP : tp = -1 ∨ 0 ≤ tp ∧ tp < N := by
                 rcases HR.out.next_cases (i : Int) e with g | ⟨g1,g2,_⟩
                 · exact .inl (htp.symm.trans g)
                 · rw [← htp]; exact .inr ⟨g1,g2⟩
                have gQ : tq = -1 ∨ 0 ≤ tq ∧ tq < N := by
                 rcases HR.out.next_cases (j : Int) e with g | ⟨g1,g2,_⟩
                 · exact .inl (htq.symm.trans g)
                 · rw [← htq]; exact .inr ⟨g1,g2⟩
                have HNEW : Hid ((0 ≤ tp ↔ 0 ≤ tq) ∧ (0 ≤ tp → clsV c tp = clsV c tq) → EvOk ⟨al,↑N,mr,ed⟩ c i j (k + 1)) := fun h => HEV.out.next HEK.out (by
                 show (0 ≤ nextV ed i e ↔ 0 ≤ nextV ed j e) ∧ (0 ≤ nextV ed i e → clsV c (nextV ed i e) = clsV c (nextV ed j e))
                 rw [htp,htq]; exact h)
                have HBAD : Hid (¬ ((0 ≤ tp ↔ 0 ≤ tq) ∧ (0 ≤ tp → clsV c tp = clsV c tq)) → ¬ RefC ⟨al,↑N,mr,ed⟩ c) := fun h hc => by
                 have h1 := (hc i j (by rw [HCL.out]; exact hlt) hji HCE.out).2 e (List.mem_of_getElem? HEK.out);have h2 : (0 ≤ nextV ed i e ↔ 0 ≤ nextV ed j e) ∧ (0 ≤ nextV ed i e → clsV c (nextV ed i e) = clsV c (nextV ed j e)) := h1;rw [htp,htq] at h2;exact h h2
                clear htp htq;go_upto_region 13 with fail
                go_cut [8,9] (fun u v wx => u = .int .i64 tp ∧ v = .int .i64 tq ∧ (SepW w [eBlk w.heap.size 25 [.slice (some ⟨gA,oA,none⟩) al.length c1,.int .i64 ↑N,.slice A2 mr.length c2,.slice A3 ed.length c3]] wx))
                case first =>
                 have S2 := Lib.hid S.out.drew;refine wp_region_held_drew (S := (fun V => Sep w.heap.size w [eBlk w.heap.size 25 [.slice (some ⟨gA,oA,none⟩) al.length c1,.int .i64 ↑N,.slice A2 mr.length c2,.slice A3 ed.length c3]] V)) (by kernel_rfl) ?_ (fun hH => ?_)
                 · exact S2.out.pick [0] (by decide)
                 generalize hwz : wr.drew = w2 at *;clear hwz;rw [show Array.replicate _ false = #[false,false,false,false,false,false,false,false,false,false,false,false,false,false,false,false,false,false] from rfl];refine tkH 0 rfl (v := ?_) (by kernel_rfl) ?_ hH ?_;rotate_left
                 · intro V hs_;have a0 := ckC hs_ 0 rfl 0 rfl;have a1 := ckC hs_ 0 rfl 1 rfl;have a2 := ckC hs_ 0 rfl 2 rfl;have a3 := ckC hs_ 0 rfl 3 rfl;clear hs_;first | (go_simp; done) | (go_simp; with_reducible rfl)
                 (try simp only [sx]);refine tkP 1 rfl (v := ?_) hH ?_;(try simp only [sx]);refine tkP 2 rfl (v := ?_) hH ?_;(try simp only [sx]);refine tkH 3 rfl (v := ?_) (by kernel_rfl) ?_ hH ?_;rotate_left
                 · intro V hs_;have a0 := ckC hs_ 0 rfl 0 rfl;clear hs_;first | (go_simp; done) | (go_simp; with_reducible rfl)
                 (try simp only [sx]);refine tkP 4 rfl (v := ?_) hH ?_;(try simp only [sx]);refine tkP 5 rfl (v := ?_) hH ?_;(try simp only [sx]);refine tkH 6 rfl (v := ?_) (by kernel_rfl) ?_ hH ?_;rotate_left
                 · intro V hs_;have z9 := HAL.out V (Sep.below (show Sep w.heap.size w _ V from hs_));clear hs_;first | (go_simp; done) | (go_simp; with_reducible rfl)
                 (try simp only [sx]);refine tkH 8 rfl (v := ?_) (by kernel_rfl) ?_ hH ?_;rotate_left
                 · intro V hs_;have a0 := ckC hs_ 0 rfl 0 rfl;have a1 := ckC hs_ 0 rfl 1 rfl;have a2 := ckC hs_ 0 rfl 2 rfl;have a3 := ckC hs_ 0 rfl 3 rfl;clear hs_;first | (go_simp; done) | (go_simp; with_reducible rfl)
                 (try simp only [sx]);refine tkP 9 rfl (v := ?_) hH ?_;(try simp only [sx]);refine tkP 10 rfl (v := ?_) hH ?_;(try simp only [sx]);refine tkH 11 rfl (v := ?_) (by kernel_rfl) ?_ hH ?_;rotate_left
                 · intro V hs_;have a0 := ckC hs_ 0 rfl 0 rfl;clear hs_;first | (go_simp; done) | (go_simp; with_reducible rfl)
                 (try simp only [sx]);refine tkP 12 rfl (v := ?_) hH ?_;(try simp only [sx]);refine tkP 13 rfl (v := ?_) hH ?_;(try simp only [sx]);refine tkH 14 rfl (v := ?_) (by kernel_rfl) ?_ hH ?_;rotate_left
                 · intro V hs_;have z9 := HAL.out V (Sep.below (show Sep w.heap.size w _ V from hs_));clear hs_;first | (go_simp; done) | (go_simp; with_reducible rfl)
                 (try simp only [sx]);refine act_name ?_;intro A0 hA0;obtain ⟨F,hF⟩ : ∃ F : Value → Value → Value → Value → Act,Hid (∀ x51 x59 x8 x9,F x51 x59 x8 x9 = ((((A0.put (some 51) x51).put (some 59) x59).put (some 8) x8).put (some 9) x9)) := ⟨fun x51 x59 x8 x9 => ((((A0.put (some 51) x51).put (some 59) x59).put (some 8) x8).put (some 9) x9),fun _ _ _ _ => rfl⟩;subst hA0;unfold Hid at hF
                 simp only [List.getElem_toArray,List.getElem_cons_zero,List.getElem_cons_succ,Act.put,List.setIfInBounds_toArray,List.set_cons_zero,List.set_cons_succ] at hF;have HF := Lib.hid hF;clear hF;obtain ⟨INV,hI⟩ : ∃ I : Array Bool → Act → World → Prop,Hid (∀ l_ a_ W_,I l_ a_ W_ ↔ ∃ (fb7 fb15 fb16 fb17 : Bool) (x51 x59 x8 x9 : Value),l_ = #[true,true,true,true,true,true,true,fb7,true,true,true,true,true,true,true,fb15,fb16,fb17] ∧ a_ = F x51 x59 x8 x9 ∧ (SepW w [eBlk w.heap.size 25 [.slice (some ⟨gA,oA,none⟩) al.length c1,.int .i64 ↑N,.slice A2 mr.length c2,.slice A3 ed.length c3]] W_) ∧ True ∧ Hid (fb15 = true → fb7 = true) ∧ Hid (fb16 = true → fb15 = true) ∧ Hid (fb17 = true → fb16 = true) ∧ Hid (fb7 = true → x51 = .int .i64 tp) ∧ Hid (fb15 = true → x59 = .int .i64 tq) ∧ Hid (fb16 = true → x8 = x51) ∧ Hid (fb17 = true → x9 = x59)) := ⟨_,fun _ _ _ => Iff.rfl⟩;refine wpAnyH_inv (INV := INV) (D := [[],[],[],[2],[],[3,4],[5],[0,1,6],[],[],[],[10],[],[11,12],[13],[7,8,9,14],[0,1,2,3,4,5,6,7,15],[0,1,2,3,4,5,6,7,8,9,10,11,12,13,14,15,16]]) [7,15,16,17] (by kernel_rfl) (fun l_ a_ W_ h => ?_) (fun l_ a_ W_ h => ?_) (fun l_ a_ W_ h hall => ?_) ?_ _ _ _ _ (by decide) ?_
                 · obtain ⟨fb7,fb15,fb16,fb17,x51,x59,x8,x9,rfl,rfl,S_,_,mf7_15,mf15_16,mf16_17,cf7,cf15,cf16,cf17⟩ := (hI.out _ _ _).1 h;exact S_.out.pick [0] (by decide)
                 · obtain ⟨fb7,fb15,fb16,fb17,x51,x59,x8,x9,rfl,rfl,S_,_,mf7_15,mf15_16,mf16_17,cf7,cf15,cf16,cf17⟩ := (hI.out _ _ _).1 h;rfl
                 · obtain ⟨fb7,fb15,fb16,fb17,x51,x59,x8,x9,rfl,rfl,S_,_,mf7_15,mf15_16,mf16_17,cf7,cf15,cf16,cf17⟩ := (hI.out _ _ _).1 h;obtain rfl : fb7 = true := hall 7 (by decide);obtain rfl : fb15 = true := hall 15 (by decide);obtain rfl : fb16 = true := hall 16 (by decide);obtain rfl : fb17 = true := hall 17 (by decide);clear hall h hI INV;rw [HF.out];clear HF F;obtain rfl := cf7.out rfl;obtain rfl := cf15.out rfl;obtain rfl := cf16.out rfl;obtain rfl := cf17.out rfl;clear mf7_15 mf15_16 mf16_17 cf7 cf15 cf16 cf17;have S9 := S_;go_wp2_with fail
                   go_meet
                   exact ⟨rfl,rfl,S9.out⟩
                 · clear hH S2;refine StepsI.cons rfl (fun l_ a_ W_ h hf hd K hK => ?_) (StepsI.cons rfl (fun l_ a_ W_ h hf hd K hK => ?_) (StepsI.cons rfl (fun l_ a_ W_ h hf hd K hK => ?_) (StepsI.cons rfl (fun l_ a_ W_ h hf hd K hK => ?_) (StepsI.nil))))
                   · obtain ⟨fb7,fb15,fb16,fb17,x51,x59,x8,x9,rfl,rfl,S_,_,mf7_15,mf15_16,mf16_17,cf7,cf15,cf16,cf17⟩ := (hI.out _ _ _).1 h;obtain rfl : fb7 = false := hf;clear h;obtain rfl : fb15 = false := by cases fb15 with | false => rfl | true => exact nomatch (mf7_15.out rfl)
                     obtain rfl : fb16 = false := by cases fb16 with | false => rfl | true => exact nomatch (mf15_16.out rfl)
                     obtain rfl : fb17 = false := by cases fb17 with | false => rfl | true => exact nomatch (mf16_17.out rfl)
                     clear hd;rw [HF.out];go_simp;refine (next8_d ⟨al,↑N,mr,ed⟩ ⟨(some ⟨gA,oA,none⟩),c1,A2,c2,A3,c3⟩ (i : Int) e tp W_ (HA.out.below S_.out.below).ed HA.out.led Htp.out).mono ?_;rintro e_ W2 ⟨rfl,hb⟩;have S2 := Lib.hid (S_.out.next hb);clear hb;(try simp only [sx]);refine hK.out _ _ ((hI.out _ _ _).2 ⟨true,false,false,false,_,_,_,_,rfl,(HF.out _ _ _ _).symm,S2,trivial,(fun _ => rfl),(fun h => nomatch h),(fun h => nomatch h),(fun _ => rfl),(fun h => nomatch h),(fun h => nomatch h),(fun h => nomatch h)⟩)
                   · obtain ⟨fb7,fb15,fb16,fb17,x51,x59,x8,x9,rfl,rfl,S_,_,mf7_15,mf15_16,mf16_17,cf7,cf15,cf16,cf17⟩ := (hI.out _ _ _).1 h;obtain rfl : fb15 = false := hf;clear h;obtain rfl : fb7 = true := hd 7 (by decide);obtain rfl : fb16 = false := by cases fb16 with | false => rfl | true => exact nomatch (mf15_16.out rfl)
                     obtain rfl : fb17 = false := by cases fb17 with | false => rfl | true => exact nomatch (mf16_17.out rfl)
                     clear hd;rw [HF.out];obtain rfl := cf7.out rfl;go_simp;refine (next8_d ⟨al,↑N,mr,ed⟩ ⟨(some ⟨gA,oA,none⟩),c1,A2,c2,A3,c3⟩ (j : Int) e tq W_ (HA.out.below S_.out.below).ed HA.out.led Htq.out).mono ?_;rintro e_ W2 ⟨rfl,hb⟩;have S2 := Lib.hid (S_.out.next hb);clear hb;(try simp only [sx]);refine hK.out _ _ ((hI.out _ _ _).2 ⟨true,true,false,false,_,_,_,_,rfl,(HF.out _ _ _ _).symm,S2,trivial,(fun _ => rfl),(fun _ => rfl),(fun h => nomatch h),cf7,(fun _ => rfl),(fun h => nomatch h),(fun h => nomatch h)⟩)
                   · obtain ⟨fb7,fb15,fb16,fb17,x51,x59,x8,x9,rfl,rfl,S_,_,mf7_15,mf15_16,mf16_17,cf7,cf15,cf16,cf17⟩ := (hI.out _ _ _).1 h;obtain rfl : fb16 = false := hf;clear h;obtain rfl : fb7 = true := hd 7 (by decide);obtain rfl : fb15 = true := hd 15 (by decide);obtain rfl : fb17 = false := by cases fb17 with | false => rfl | true => exact nomatch (mf16_17.out rfl)
                     clear hd;rw [HF.out];obtain rfl := cf7.out rfl;obtain rfl := cf15.out rfl;go_simp;(try simp only [sx]);refine hK.out _ _ ((hI.out _ _ _).2 ⟨true,true,true,false,_,_,_,_,rfl,(HF.out _ _ _ _).symm,S_,trivial,(fun _ => rfl),(fun _ => rfl),(fun _ => rfl),cf7,cf15,(fun _ => rfl),(fun h => nomatch h)⟩)
                   · obtain ⟨fb7,fb15,fb16,fb17,x51,x59,x8,x9,rfl,rfl,S_,_,mf7_15,mf15_16,mf16_17,cf7,cf15,cf16,cf17⟩ := (hI.out _ _ _).1 h;obtain rfl : fb17 = false := hf;clear h;obtain rfl : fb7 = true := hd 7 (by decide);obtain rfl : fb15 = true := hd 15 (by decide);obtain rfl : fb16 = true := hd 16 (by decide);clear hd;rw [HF.out];obtain rfl := cf7.out rfl;obtain rfl := cf15.out rfl;obtain rfl := cf16.out rfl;go_simp;(try simp only [sx]);refine hK.out _ _ ((hI.out _ _ _).2 ⟨true,true,true,true,_,_,_,_,rfl,(HF.out _ _ _ _).symm,S_,trivial,(fun _ => rfl),(fun _ => rfl),(fun _ => rfl),cf7,cf15,cf16,(fun _ => rfl)⟩)
                 · refine (hI.out _ _ _).2 ⟨false,false,false,false,_,_,_,_,rfl,(HF.out _ _ _ _).symm,(S2.out : Sep w.heap.size w [eBlk w.heap.size 25 [.slice (some ⟨gA,oA,none⟩) al.length c1,.int .i64 ↑N,.slice A2 mr.length c2,.slice A3 ed.length c3]] w2),trivial,(fun h => nomatch h),(fun h => nomatch h),(fun h => nomatch h),(fun h => nomatch h),(fun h => nomatch h),(fun h => nomatch h),(fun h => nomatch h)⟩
                case rest =>
                 clear S a0;obtain ⟨rfl,rfl,S⟩ := hcut;rcases gP with rfl | ⟨p0,p1⟩
                 · rcases gQ with rfl | ⟨q0,q1⟩
                   · have HN2 := Lib.hid (HNEW.out ⟨Iff.rfl,fun _ => rfl⟩);go_upto_region 14 with fail
                     go_quiet (fail)
                     go_wp2_with fail
                     go_roundw
                     case rel => exact ⟨k + 1,by go_num,hkl,HN2.out,S.out.draws _⟩
                     case measure => simp [intOf]; omega
                   · have hq' : decide (tq < 0) = false := decide_eq_false (by omega);have HB2 := Lib.hid (HBAD.out (fun h => by have := h.1.2 q0; omega));go_upto_region 14 with fail
                     go_quiet (fail)
                     go_wp2_with fail
                     go_ret
                     exact Tells.no HB2.out (S.out.draws _).below
                 · have hp' : decide (tp < 0) = false := decide_eq_false (by omega);have hp2 : decide (tp ≥ 0) = true := decide_eq_true p0;rcases gQ with rfl | ⟨q0,q1⟩
                   · have HB2 := Lib.hid (HBAD.out (fun h => by have := h.1.1 p0; omega));go_upto_region 14 with fail
                     go_quiet (fail)
                     go_wp2_with fail
                     go_ret
                     exact Tells.no HB2.out (S.out.draws _).below
                   · have hq' : decide (tq < 0) = false := decide_eq_false (by omega);obtain ⟨tp,rfl⟩ := Int.eq_ofNat_of_zero_le p0;obtain ⟨tq,rfl⟩ := Int.eq_ofNat_of_zero_le q0;have hpc : tp < c.length := by have := HCL.out; omega
                     have hqc : tq < c.length := by have := HCL.out; omega
                     obtain ⟨g1,o1,u,hg1,_,hu,huc⟩ := IntsAt.at (HC.out.below IntE.stays S.out.below) hpc;obtain ⟨g2,o2,v,hg2,_,hv,hvc⟩ := IntsAt.at (HC.out.below IntE.stays S.out.below) hqc;obtain ⟨rfl,rfl⟩ : g1 = gC' ∧ o1 = oC' := by cases hg1; exact ⟨rfl,rfl⟩
                     obtain ⟨rfl,rfl⟩ : g2 = g1 ∧ o2 = o1 := by cases hg2; exact ⟨rfl,rfl⟩
                     have HU : Hid (clsV c (tp : Int) = u) := by unfold Hid clsV; rw [Int.toNat_natCast]; exact getD_some hu 0
                     have HV : Hid (clsV c (tq : Int) = v) := by unfold Hid clsV; rw [Int.toNat_natCast]; exact getD_some hv 0
                     clear hu hv hg1 hg2;by_cases huv : u = v
                     · have huv' : (u != v) = false := by simpa using huv
                       have HN2 := Lib.hid (HNEW.out ⟨⟨fun _ => q0,fun _ => p0⟩,fun _ => by rw [HU.out,HV.out,huv]⟩);clear huv;go_upto_region 14 with fail
                       go_quiet (fail)
                       go_wp2_with fail
                       go_roundw
                       case rel => exact ⟨k + 1,by go_num,hkl,HN2.out,S.out.draws _⟩
                       case measure => simp [intOf]; omega
                     · have huv' : (u != v) = true := by simpa using huv
                       have HB2 := Lib.hid (HBAD.out (fun h => huv (by rw [← HU.out,← HV.out]; exact h.2 p0)));clear huv;go_upto_region 14 with fail
                       go_quiet (fail)
                       go_wp2_with fail
                       go_ret
                       exact Tells.no HB2.out (S.out.draws _).below
              · obtain rfl : k = al.length := by omega
                have hkl' : decide ((al.length : Int) < (al.length : Int)) = false := decide_eq_false (by omega);have HROW2 : Hid (RowOk ⟨al,↑N,mr,ed⟩ c i (j + 1)) := fun q hq he => by
                 by_cases e : q = j
                 · subst e;exact ⟨HMK.out,fun e he => by
                    obtain ⟨z,hz,rfl⟩ := List.mem_iff_getElem.1 he;exact HEV.out z _ hz (List.getElem?_eq_getElem hz)⟩
                 · exact HROW.out q (by omega) he
                go_wp2_with fail
                go_roundw
                case rel => exact ⟨j + 1,by go_num,hji,HROW2.out,S.out⟩
                case measure => simp [intOf]; omega
           · have hmm : ¬ m1 = m2 := by have := HB8.out; simpa using this
             have HB2 : Hid (¬ RefC ⟨al,↑N,mr,ed⟩ c) := fun hc => hmm (by
              have h1 : ((i : Int) ∈ mr ↔ (j : Int) ∈ mr) := (hc i j (by rw [HCL.out]; exact hlt) hji HCE.out).1;rw [← Hm1.out,← Hm2.out];exact decide_eq_decide.2 h1)
             clear hmm;go_wp2_with fail
             go_ret
             exact Tells.no HB2.out S.out.below
        · have HROW2 : Hid (RowOk ⟨al,↑N,mr,ed⟩ c i (j + 1)) := fun q hq he => by
           by_cases e : q = j
           · subst e;rw [HX.out,HY.out] at he;cases he;have := HB7.out;simp at this
           · exact HROW.out q (by omega) he
          go_wp2_with fail
          go_roundw
          case rel => exact ⟨j + 1,by go_num,hji,HROW2.out,S.out⟩
          case measure => simp [intOf]; omega
     · obtain rfl : j = i := by omega
       have hji' : decide ((j : Int) < (j : Int)) = false := decide_eq_false (by omega);go_wp2_with fail
       go_roundw
       case rel => exact ⟨j + 1,by go_num,hlt,fun x hx => by
        by_cases e : x = j
        · subst e; exact HROW.out
        · exact HROWS.out x (by omega),S.out⟩
       case measure => simp [intOf]; omega
  · obtain rfl : i = N := by omega
    have hlt' : decide ((i : Int) < (i : Int)) = false := decide_eq_false (by omega);go_wp2_with fail
    go_ret
    exact Tells.yes (fun x y hx hy he => HROWS.out x (by have := HCL.out; omega) y hy he) S.out.below
end
section
attribute [local go_sem] Oper.semAt_some

def GivesSw (a : Au) (pa : AuP) (p q : Int) (w : World) (e : Ending) (w' : World) : Prop := ∃ (A2 A3 : Option Addr) (c2 c3 : Nat),e = .returned ((swA a p q).val ⟨pa.A1,pa.c1,A2,c2,A3,c3⟩) ∧ (SepW w [eInts (swA a p q).mr (.slice A2 (swA a p q).mr.length c2),eEds (swA a p q).ed (.slice A3 (swA a p q).ed.length c3)] w')
end
theorem Sm4.need {d : Sm4} (h : d.Ok) : (d.au.n.toNat + 2) * (d.au.n.toNat + 2) ≤ 1000000 := by
 have h1 := d.n_rg h;have e : d.au.n.toNat + 2 ≤ 8 := by
  show (d.n : Int).toNat + 2 ≤ 8
  omega
 exact Nat.le_trans (Nat.mul_le_mul e e) (by decide)
def eLs (a : Au) (p : AuP) : Ent := (eInts a.al (.slice p.A1 a.al.length p.c1)).and ((eInts a.mr (.slice p.A2 a.mr.length p.c2)).and (eEds a.ed (.slice p.A3 a.ed.length p.c3)))
theorem Sep.ls {n : Nat} {w0 w : World} {a : Au} {p : AuP} (S : Sep n w0 (eAu a p) w) : Sep n w0 [eLs a p] w := by
 refine ⟨S.fro,fun x hx => ?_,fun x hx => ?_,by simp⟩
 · simp only [List.mem_singleton] at hx; subst hx;exact ⟨S.get 0 rfl,S.get 1 rfl,S.get 2 rfl⟩
 · simp only [List.mem_singleton] at hx; subst hx;intro g hg;rcases List.mem_append.1 hg with h | h
   · exact S.ge _ (List.mem_of_getElem? (i := 0) (l := eAu a p) rfl) g h
   rcases List.mem_append.1 h with h | h
   · exact S.ge _ (List.mem_of_getElem? (i := 1) (l := eAu a p) rfl) g h
   · exact S.ge _ (List.mem_of_getElem? (i := 2) (l := eAu a p) rfl) g h
theorem eLs.at {a : Au} {p : AuP} {w : World} (h : (eLs a p).ok w) (hl : Lens a) : Au.At w a p :=
 ⟨OwnI.ints h.1,OwnI.ints h.2.1,Own.reads (enc := Ed.cells) (k := 3) (T := 70) (B := 0) (fun _ => rfl) h.2.2,hl.1,hl.2.1,hl.2.2⟩
theorem eLs.caps {a : Au} {p : AuP} {w : World} (h : (eLs a p).ok w) : Caps a p := ⟨Own.cap h.1,Own.cap h.2.1,Own.cap h.2.2⟩
theorem eLs.none_ {n : Nat} {w0 w : World} {a : Au} {p : AuP} {es : List Ent} (i : Nat) (S : Sep n w0 es w) (hi : es[i]? = some (eLs a p)) : Sep n w0 (es.set i (eLs ⟨[],0,[],[]⟩ ⟨none,0,none,0,none,0⟩)) w :=
 S.as i hi _ (fun h => ⟨Own.nil w,Own.nil w,Own.nil w⟩) (fun g hg => by
  rcases List.mem_append.1 hg with h | h
  · simp [eOwn,Value.ownBlock] at h
  · rcases List.mem_append.1 h with h | h <;> simp [eOwn,Value.ownBlock] at h)
structure Good4 (a : Au) : Prop where
 rt : a.Right
 ln : Lens a
 n : a.n.toNat ≤ 6
 ev : ∀ x,x ∈ a.ed → 0 ≤ x.ev ∧ x.ev ≤ 3
 ed : a.ed.length ≤ 100000
theorem Good4.none_ : Good4 ⟨[],0,[],[]⟩ :=
 ⟨⟨fun i x hi hx => by simp at hx,Int.le_refl _,by simp,fun i x hi hx => by simp at hx,fun i hi => by simp at hi⟩,⟨by simp,by simp,by simp⟩,by simp,by simp,by simp⟩
structure Good5 (a : Au) : Prop where
 rt : a.Right
 ln : Lens a
 n : a.n.toNat ≤ 6
theorem Good4.g5 {a : Au} (h : Good4 a) : Good5 a := ⟨h.rt,h.ln,h.n⟩
theorem Good5.need {a b : Au} (h : Good5 a) (g : Good5 b) : (a.n.toNat + 2) * (b.n.toNat + 2) ≤ 1000000 :=
 Nat.le_trans (Nat.mul_le_mul (show a.n.toNat + 2 ≤ 8 by have := h.n; omega) (show b.n.toNat + 2 ≤ 8 by have := g.n; omega)) (by decide)
theorem LeastW.nil {P : List Int → Prop} {l : List Int} (h : LeastW P l) (h0 : P []) : l = [] := by
 rcases h.le [] h0 with (h | h) | h
 · simp at h
 · exact List.eq_nil_of_length_eq_zero (by simpa using h.1)
 · exact h

theorem Clz.uniq {a : Au} {c d : List Int} {m k : Nat} (h : Clz a c m) (g : Clz a d k) (hl : c.length = d.length) : c = d := canon_uniq h.can g.can hl h.eq g.eq
theorem MinB.of_clz {a m : Au} {c : List Int} {k : Nat} (hl : c.length = a.n.toNat) (h : Clz a c k) (g : Mrg a c m) : MinB a m := ⟨c,k,hl,h.can,h.eq,g⟩
theorem MinB.uniq {a m k : Au} (ha : a.Right) (h : MinB a m) (g : MinB a k) : m = k := MinG.uniq (h.mini ha).g (g.mini ha).g (by rw [(h.mini ha).al,(g.mini ha).al])
end Go.Proofs.Ytjjifefanjnghaa
