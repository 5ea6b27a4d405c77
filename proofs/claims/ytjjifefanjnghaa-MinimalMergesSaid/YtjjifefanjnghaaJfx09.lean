/-
  What the row leans on.
-/
import Derived.Test.YtjjifefanjnghaaBas01
import Derived.Test.YtjjifefanjnghaaJfx07
import Derived.Test.YtjjifefanjnghaaJfx08
import Derived.Deep.CutBlock
import Derived.Deep.DeepCutAuto
set_option linter.unusedSimpArgs false
set_option linter.unusedVariables false
namespace Go.Proofs.Ytjjifefanjnghaa
open Go.RowKit
set_option maxRecDepth 100000
section
attribute [local go_sem] Oper.semAt_some

theorem DistW.eqv {a : Au} (ha : a.Right) {x y : Int} (hx : 0 ≤ x) (hy : 0 ≤ y) {f : Bool} {l : List Int} (h : DistW a a x y f l) : f = false ↔ Eqv a x y := by
 rcases h.cases ha ha (.inr hx) (.inr hy) with ⟨h1,h2⟩ | ⟨h1,_,h2⟩
 · rw [h1];exact ⟨(fun h => nomatch h),fun h => absurd (h l) h2.is⟩
 · rw [h1];exact ⟨fun _ => h2,fun _ => rfl⟩
def GivesCR (a : Au) (w : World) (e : Ending) (w' : World) : Prop := ∃ (A : Option Addr) (k : Nat) (c : List Int) (m : Nat),e = .returned (.slice A c.length k) ∧ Hid (c.length = a.n.toNat ∧ Clz a c m) ∧ (SepW w [eInts c (.slice A c.length k)] w')
set_option maxHeartbeats 4000000 in
theorem clsR_c (a : Au) (p : AuP) (w : World) (ha : a.Right) (hA : Au.At w a p) (hN : (a.n.toNat + 2) * (a.n.toNat + 2) ≤ 1000000) :
 Calls Try.prog 28 #[a.val p] w (GivesCR a w) := by
 have n0 := ha.n0;have n1 := ha.n1;have HR := Lib.hid ha;have HA := Lib.hid hA;have HN := Lib.hid hN;obtain ⟨al,n,mr,ed⟩ := a;obtain ⟨A1,c1,A2,c2,A3,c3⟩ := p;(try dsimp only [Au.val] at *);clear ha hA hN;obtain ⟨N,rfl⟩ := Int.eq_ofNat_of_zero_le n0;have hN4 : N ≤ 4096 := by omega
 clear n0 n1;go_enter Try.func28,Try.ntmps28
 go_upto_region 1 with fail
 refine wp_world (fun W => Sep w.heap.size w [eBlk w.heap.size 25 [.slice A1 al.length c1,.int .i64 ↑N,.slice A2 mr.length c2,.slice A3 ed.length c3]] W) ?_ fun W S => ?_
 · exact (Sep.here w).alloc' _ [_,_,_,_] rfl rfl
 have S0 : (SepW w [eInts [] (.slice none 0 0),eBlk w.heap.size 25 [.slice A1 al.length c1,.int .i64 ↑N,.slice A2 mr.length c2,.slice A3 ed.length c3]] W) := S.nilOwn encI 1 3;clear S;go_wp2_with fail
 go_loopw [3,4,5] (fun vo vn vi wr => ∃ (i m : Nat) (c : List Int) (AC : Option Addr) (cC : Nat),vi = .int .i64 ↑i ∧ vn = .int .i64 ↑m ∧ vo = .slice AC c.length cC ∧ Hid (c.length = i) ∧ i ≤ N ∧ m ≤ i ∧ Hid (Clz ⟨al,↑N,mr,ed⟩ c m) ∧ (SepW w [eInts c (.slice AC c.length cC),eBlk w.heap.size 25 [.slice A1 al.length c1,.int .i64 ↑N,.slice A2 mr.length c2,.slice A3 ed.length c3]] wr)) (fun _ _ vi _ => N - (intOf vi).toNat)
 case atStart => exact ⟨0,0,[],none,0,rfl,rfl,rfl,rfl,Nat.zero_le _,Nat.le_refl _,Clz.start _,S0.out⟩
 case round =>
  clear S0;obtain ⟨i,m,c,AC,cC,rfl,rfl,rfl,HCI,hi,hm,HC,S⟩ := hrel;have a0 := BlkAt.cell (S.out.get 1 rfl) 0; have a1 := BlkAt.cell (S.out.get 1 rfl) 1; have a2 := BlkAt.cell (S.out.get 1 rfl) 2; have a3 := BlkAt.cell (S.out.get 1 rfl) 3; simp only [List.getElem?_cons_succ,List.getElem?_cons_zero] at a0 a1 a2 a3;by_cases hlt : i < N
  · have hlt' : decide ((i : Int) < (N : Int)) = true := decide_eq_true (by omega);go_wp2_with fail
    go_loopw [6,7] (fun vv vk wr => ∃ (k : Nat) (v : Int),vv = .int .i64 v ∧ vk = .int .i64 ↑k ∧ k ≤ i ∧ Hid ((v = -1 ∧ ∀ q : Nat,q < k → ¬ Eqv ⟨al,↑N,mr,ed⟩ q (i : Nat)) ∨ (0 ≤ v ∧ ∃ q : Nat,q < k ∧ c[q]? = some v ∧ Eqv ⟨al,↑N,mr,ed⟩ q (i : Nat))) ∧ (SepW w [eInts c (.slice AC c.length cC),eBlk w.heap.size 25 [.slice A1 al.length c1,.int .i64 ↑N,.slice A2 mr.length c2,.slice A3 ed.length c3]] wr)) (fun _ vk _ => i - (intOf vk).toNat)
    case atStart => exact ⟨0,-1,rfl,rfl,Nat.zero_le _,.inl ⟨rfl,fun q h => absurd h (by omega)⟩,S.out⟩
    case round =>
     clear S a0 a1 a2 a3;obtain ⟨k,v,rfl,rfl,hk,HV,S⟩ := hrel;by_cases hgo : k < i ∧ v < 0
     · obtain ⟨hki,hv0⟩ := hgo;have hki' : decide ((k : Int) < (i : Int)) = true := decide_eq_true (by omega);have hkiN : decide (k < i) = true := decide_eq_true hki;have hv0' : decide (v < 0) = true := decide_eq_true hv0;have HV2 : Hid (∀ q : Nat,q < k → ¬ Eqv ⟨al,↑N,mr,ed⟩ q (i : Nat)) := by
        rcases HV.out with ⟨_,h⟩ | ⟨h,_⟩
        · exact h
        · omega
       obtain rfl : v = -1 := by
        rcases HV.out with ⟨h,_⟩ | ⟨h,_⟩
        · exact h
        · omega
       have a0 := BlkAt.cell (S.out.get 1 rfl) 0; have a1 := BlkAt.cell (S.out.get 1 rfl) 1; have a2 := BlkAt.cell (S.out.get 1 rfl) 2; have a3 := BlkAt.cell (S.out.get 1 rfl) 3; simp only [List.getElem?_cons_succ,List.getElem?_cons_zero] at a0 a1 a2 a3;go_wp2_with fail
       refine (least8_c ⟨al,↑N,mr,ed⟩ ⟨al,↑N,mr,ed⟩ ⟨A1,c1,A2,c2,A3,c3⟩ ⟨A1,c1,A2,c2,A3,c3⟩ (k : Int) (i : Int) wr HR.out HR.out (HA.out.below S.out.below) (HA.out.below S.out.below) (by dsimp only; omega) (by dsimp only; omega) (fun h => by have := (Prod.mk.inj h).1; omega) HN.out).mono ?_;rintro e w5 ⟨AW,cW,l,f,rfl,HW,hb,HD⟩;have HE := Lib.hid (DistW.eqv HR.out (Int.natCast_nonneg k) (Int.natCast_nonneg i) HD.out.1);have S2 := Lib.hid (S.out.next hb);clear hb S HD HW HV a0 a1 a2 a3;cases f
       · have HQ : Hid (Eqv ⟨al,↑N,mr,ed⟩ (k : Nat) (i : Nat)) := HE.out.1 rfl;have hkc : k < c.length := by have := HCI.out; omega
         obtain ⟨gC,oC,z,rfl,_,hz,hzc⟩ := IntsAt.at (S2.out.ints 0 rfl) hkc;have HZ := Lib.hid hz;have hz0 : 0 ≤ z := (HC.out.can.rg k z hz).1;clear hz;go_wp2_with fail
         go_roundw
         case rel => exact ⟨k + 1,z,rfl,by go_num,hki,.inr ⟨hz0,k,by omega,HZ.out,HQ.out⟩,S2.out⟩
         case measure => simp [intOf]; omega
       · have HV3 : Hid (∀ q : Nat,q < k + 1 → ¬ Eqv ⟨al,↑N,mr,ed⟩ q (i : Nat)) := fun q hq => by
          by_cases e : q = k
          · subst e; exact fun h => nomatch HE.out.2 h
          · exact HV2.out q (by omega)
         go_wp2_with fail
         go_roundw
         case rel => exact ⟨k + 1,-1,rfl,by go_num,hki,.inl ⟨rfl,HV3.out⟩,S2.out⟩
         case measure => simp [intOf]; omega
     · have hpush : c.length ≤ 1000000 := by have := HCI.out; omega
       by_cases hv0 : v < 0
       · have hki : k = i := by
          by_cases h : k < i
          · exact absurd ⟨h,hv0⟩ hgo
          · omega
         subst hki;have hki' : decide ((k : Int) < (k : Int)) = false := decide_eq_false (by omega);have hkiN : decide (k < k) = false := decide_eq_false (by omega);have hv0' : decide (v < 0) = true := decide_eq_true hv0;have HNEW : Hid (Clz ⟨al,↑N,mr,ed⟩ (c ++ [(m : Int)]) (m + 1)) := HC.out.new fun q hq => by
          rw [HCI.out];rcases HV.out with ⟨_,h⟩ | ⟨h,_⟩
          · exact h q (by have := HCI.out; omega)
          · omega
         go_wp2_with (at_builtin; refine wpList_pushS rfl _ _ 22 rfl (S.out.alloc 3 [.int .i64 ↑m]) 1 rfl Try.underlying22 _ 8 intInfo rfl (by decide) rfl (m : Int) _ rfl rfl (one_cell _ _ [_] _ rfl) (encI_one _) (by omega) (by decide) ?_)
         intro A5 c5 w6 S9 _;have S10 : (SepW w [eInts (c ++ [(m : Int)]) (.slice A5 (c ++ [(m : Int)]).length c5),eBlk w.heap.size 25 [.slice A1 al.length c1,.int .i64 ↑N,.slice A2 mr.length c2,.slice A3 ed.length c3]] w6) := by rw [List.length_append]; exact S9.drop1
         clear S9 S;go_wp2_with fail
         go_roundw
         case rel => exact ⟨k + 1,m + 1,c ++ [(m : Int)],A5,c5,by go_num,by go_num,by rw [List.length_append]; rfl,by rw [Hid,List.length_append,HCI.out]; rfl,by omega,by omega,HNEW.out,S10.out⟩
         case measure => simp [intOf]; omega
       · have hv0' : decide (v < 0) = false := decide_eq_false hv0;have HOLD : Hid (Clz ⟨al,↑N,mr,ed⟩ (c ++ [v]) m) := by
          rcases HV.out with ⟨h,_⟩ | ⟨_,q,_,h2,h3⟩
          · omega
          · exact HC.out.old h2 (by rw [HCI.out]; exact h3)
         have hkb : decide ((k : Int) < (i : Int)) = true ∨ decide ((k : Int) < (i : Int)) = false := by cases decide ((k : Int) < (i : Int)) <;> simp
         have hkbN : decide (k < i) = decide ((k : Int) < (i : Int)) := by simp
         rcases hkb with hkb | hkb
         all_goals
          rw [hkb] at hkbN;go_wp2_with (at_builtin; refine wpList_pushS rfl _ _ 22 rfl (S.out.alloc 3 [.int .i64 v]) 1 rfl Try.underlying22 _ 8 intInfo rfl (by decide) rfl v _ rfl rfl (one_cell _ _ [_] _ rfl) (encI_one _) (by omega) (by decide) ?_)
          intro A5 c5 w6 S9 _;have S10 : (SepW w [eInts (c ++ [v]) (.slice A5 (c ++ [v]).length c5),eBlk w.heap.size 25 [.slice A1 al.length c1,.int .i64 ↑N,.slice A2 mr.length c2,.slice A3 ed.length c3]] w6) := by rw [List.length_append]; exact S9.drop1
          clear S9 S;go_wp2_with fail
          go_roundw
          case rel => exact ⟨i + 1,m,c ++ [v],A5,c5,by go_num,rfl,by rw [List.length_append]; rfl,by rw [Hid,List.length_append,HCI.out]; rfl,by omega,by omega,HOLD.out,S10.out⟩
          case measure => simp [intOf]; omega
  · obtain rfl : i = N := by omega
    have hlt' : decide ((i : Int) < (i : Int)) = false := decide_eq_false (by omega);go_wp2_with fail
    go_ret
    exact ⟨AC,cC,c,m,rfl,⟨by have := HCI.out; dsimp only; omega,HC.out⟩,S.out.pick [0] (by decide)⟩
end
section
attribute [local go_sem] Oper.semAt_some

def GivesRM (a : Au) (pa : AuP) (c : List Int) (w : World) (e : Ending) (w' : World) : Prop := ∃ (m : Au) (A2 A3 : Option Addr) (c2 c3 : Nat),e = .returned (m.val ⟨pa.A1,pa.c1,A2,c2,A3,c3⟩) ∧ (SepW w [eInts m.mr (.slice A2 m.mr.length c2),eEds m.ed (.slice A3 m.ed.length c3)] w') ∧ Hid (Lens m) ∧ Hid (m.al = a.al ∧ Mrg a c m)
set_option maxHeartbeats 16000000 in
theorem rmerge_c (a : Au) (pa : AuP) (AC : Option Addr) (cC : Nat) (c : List Int) (w : World) (hr : a.Right) (h1 : 0 < a.n) (hA : Au.At w a pa) (hC : IntsAt w AC c) (hl : c.length = a.n.toNat) :
 Calls Try.prog 27 #[a.val pa,.slice AC c.length cC] w (GivesRM a pa c w) := by
 have n0 := hr.n0;have n1 := hr.n1;have HR := Lib.hid hr;have HA := Lib.hid hA;have HC := Lib.hid hC;obtain ⟨al,n,mr,ed⟩ := a;obtain ⟨A1,c1,A2,c2,A3,c3⟩ := pa;(try dsimp only [Au.val] at *);obtain ⟨N,rfl⟩ := Int.eq_ofNat_of_zero_le n0;have hN0 : 0 < N := by omega
 have hN4 : N ≤ 4096 := by omega
 have HCL : Hid (c.length = N) := by rw [Hid,hl]; rfl
 have hNz : ((N : Int) == 0) = false := by simp; omega
 have hal : al.length ≤ 32 := al_len HR.out;clear hr hA hC n0 n1 h1 hl;go_enter Try.func27,Try.ntmps27
 go_upto_region 1 with fail
 refine wp_world (fun W => W.heap.size = w.heap.size + 2 ∧ Sep w.heap.size w [eBlk (w.heap.size + 1) 25 [.slice none 0 0,.int .i64 0,.slice none 0 0,.slice none 0 0],eBlk w.heap.size 25 [.slice A1 al.length c1,.int .i64 ↑N,.slice A2 mr.length c2,.slice A3 ed.length c3]] W) ?_ fun W S => ?_
 · exact ⟨by simp,((Sep.here w).alloc' _ [_,_,_,_] rfl rfl).alloc' _ [_,_,_,_] rfl (by simp)⟩
 obtain ⟨z0,S⟩ := S;have S0 := Lib.hid S;clear S;have a0 := BlkAt.cell (S0.out.get 1 rfl) 0; have a1 := BlkAt.cell (S0.out.get 1 rfl) 1; have a2 := BlkAt.cell (S0.out.get 1 rfl) 2; have a3 := BlkAt.cell (S0.out.get 1 rfl) 3; simp only [List.getElem?_cons_succ,List.getElem?_cons_zero] at a0 a1 a2 a3;go_upto_region 2 with fail
 refine wp_world (fun W => Sep w.heap.size w [eBlk (w.heap.size + 2) 25 [.slice A1 al.length c1,.int .i64 0,(.slice none 0 0),(.slice none 0 0)],eBlk (w.heap.size + 1) 25 [.slice none 0 0,.int .i64 0,.slice none 0 0,.slice none 0 0],eBlk w.heap.size 25 [.slice A1 al.length c1,.int .i64 ↑N,.slice A2 mr.length c2,.slice A3 ed.length c3]] W) ?_ fun W1 S => ?_
 · exact S0.out.alloc' 25 [_,_,_,_] rfl (g := w.heap.size + 2) (by omega)
 have S1 := Lib.hid S;clear S S0 a0 a1 a2 a3 z0;have a0 := BlkAt.cell (S1.out.get 2 rfl) 0; have a1 := BlkAt.cell (S1.out.get 2 rfl) 1; have a2 := BlkAt.cell (S1.out.get 2 rfl) 2; have a3 := BlkAt.cell (S1.out.get 2 rfl) 3; simp only [List.getElem?_cons_succ,List.getElem?_cons_zero] at a0 a1 a2 a3;have hc0 : 0 < c.length := by rw [HCL.out]; exact hN0
 obtain ⟨gC,oC,x0,rfl,hgC,hx0,cc0⟩ := IntsAt.at (HC.out.below IntE.stays S1.out.below) hc0;rw [Nat.add_zero] at cc0;obtain ⟨b6,hb6⟩ : ∃ b,b = W1.heap.size := ⟨_,rfl⟩;have HX0 : Hid ([x0] = [(0 : Int)].map (clsV c)) := by
  show [x0] = [clsV c 0]
  unfold clsV
  rw [show (0 : Int).toNat = 0 from rfl,getD_some hx0 0]
 clear hx0;go_upto_region 5 with fail
 rw [← hb6];refine wp_world (fun V => (Sep w.heap.size w [eInts [x0] (.slice (some ⟨b6,0,none⟩) 1 1),eInts [(0 : Int)] (.slice (some ⟨b6 + 1,0,none⟩) 1 1),eEds [] (.slice none 0 0),eBlk (w.heap.size + 2) 25 [.slice A1 al.length c1,.int .i64 0,(.slice none 0 0),(.slice none 0 0)],eBlk (w.heap.size + 1) 25 [.slice none 0 0,.int .i64 0,.slice none 0 0,.slice none 0 0],eBlk w.heap.size 25 [.slice A1 al.length c1,.int .i64 ↑N,.slice A2 mr.length c2,.slice A3 ed.length c3]] V)) ?_ fun W2 S => ?_
 · exact ((((S1.out.alloc' 3 [.int .i64 x0] rfl hb6).own 0 rfl encI 1 [x0] rfl (fun _ => rfl) (by simp [maxLen])).alloc' 3 [.int .i64 0] rfl (g := b6 + 1) (by rw [hb6]; simp)).own 0 rfl encI 1 [0] rfl (fun _ => rfl) (by simp [maxLen])).nilOwn Ed.cells 3 70 |>.pick [2,1,0,3,4,5] (by decide)
 have S2 := Lib.hid S;clear S S1 hb6 cc0 hgC a0 a1 a2 a3;go_wp2_with fail
 go_loopw [6,7,8] (fun vo vs vi wr => ∃ (i : Nat) (fs od : List Int) (E : List Ed) (AF : Option Addr) (cF : Nat) (AO : Option Addr) (cO : Nat) (vE : Value),vi = .int .i64 ↑i ∧ vs = .slice AF fs.length cF ∧ vo = .slice AO od.length cO ∧ i ≤ fs.length ∧ fs.length ≤ N ∧ E.length ≤ i * 32 ∧ Hid (od = fs.map (clsV c)) ∧ Hid (Bld (clsV c) (outK ⟨al,↑N,mr,ed⟩ fun _ => true) 0 i 0 fs E) ∧ Hid (∀ v,v ∈ fs → 0 ≤ v ∧ v < N) ∧ (SepW w [eInts od (.slice AO od.length cO),eInts fs (.slice AF fs.length cF),eEds (E) vE,eBlk (w.heap.size + 2) 25 [.slice A1 al.length c1,.int .i64 0,(.slice none 0 0),vE],eBlk (w.heap.size + 1) 25 [.slice none 0 0,.int .i64 0,.slice none 0 0,.slice none 0 0],eBlk w.heap.size 25 [.slice A1 al.length c1,.int .i64 ↑N,.slice A2 mr.length c2,.slice A3 ed.length c3]] wr)) (fun _ _ vi _ => N - (intOf vi).toNat)
 case atStart => exact ⟨0,[0],[x0],[],_,_,_,_,_,rfl,rfl,rfl,Nat.zero_le _,hN0,Nat.le_refl _,HX0.out,Bld.start,fun v hv => by simp at hv; subst hv; omega,S2.out⟩
 case round =>
  clear S2 HX0;obtain ⟨i,fs,od,E,AF,cF,AO,cO,vE,rfl,rfl,rfl,hi,hfs,hEl,HOD,B,RG,S⟩ := hrel;have HOL : Hid (od.length = fs.length) := by rw [Hid,HOD.out,List.length_map]
  by_cases hlt : i < fs.length
  · have hlo : i < od.length := by rw [HOL.out]; exact hlt
    have hlo' : decide ((i : Int) < (od.length : Int)) = true := decide_eq_true (by omega);obtain ⟨s,hs⟩ : ∃ s,fs[i]? = some s := ⟨_,List.getElem?_eq_getElem hlt⟩;have FS := Lib.hid hs;have hsr := RG.out s (List.mem_of_getElem? hs);clear hs;have a0 := BlkAt.cell (S.out.get 5 rfl) 0; have a1 := BlkAt.cell (S.out.get 5 rfl) 1; have a2 := BlkAt.cell (S.out.get 5 rfl) 2; have a3 := BlkAt.cell (S.out.get 5 rfl) 3; simp only [List.getElem?_cons_succ,List.getElem?_cons_zero] at a0 a1 a2 a3;go_wp2_with fail
    go_loopw [6,7,9] (fun vo vs vk wr => ∃ (k : Nat) (fs od : List Int) (E : List Ed) (AF : Option Addr) (cF : Nat) (AO : Option Addr) (cO : Nat) (vE : Value),vk = .int .i64 ↑k ∧ vs = .slice AF fs.length cF ∧ vo = .slice AO od.length cO ∧ k ≤ al.length ∧ i < fs.length ∧ fs.length ≤ N ∧ E.length ≤ i * 32 + k ∧ Hid (od = fs.map (clsV c)) ∧ Hid (Bld (clsV c) (outK ⟨al,↑N,mr,ed⟩ fun _ => true) 0 i (outA ⟨al,↑N,mr,ed⟩ s (al.take k)).length fs E) ∧ Hid (fs[i]? = some s) ∧ Hid (∀ v,v ∈ fs → 0 ≤ v ∧ v < N) ∧ (SepW w [eInts od (.slice AO od.length cO),eInts fs (.slice AF fs.length cF),eEds (E) vE,eBlk (w.heap.size + 2) 25 [.slice A1 al.length c1,.int .i64 0,(.slice none 0 0),vE],eBlk (w.heap.size + 1) 25 [.slice none 0 0,.int .i64 0,.slice none 0 0,.slice none 0 0],eBlk w.heap.size 25 [.slice A1 al.length c1,.int .i64 ↑N,.slice A2 mr.length c2,.slice A3 ed.length c3]] wr)) (fun _ _ vk _ => al.length - (intOf vk).toNat)
    case atStart => exact ⟨0,fs,od,E,AF,cF,AO,cO,vE,rfl,rfl,rfl,Nat.zero_le _,hlt,hfs,hEl,HOD.out,B.out,FS.out,RG.out,S.out⟩
    case round =>
     clear S B FS RG HOD HOL hEl hfs hi hlt hlo hlo' a0 a1 a2 a3;obtain ⟨k,fs,od,E,AF,cF,AO,cO,vE,rfl,rfl,rfl,hk,hif,hfs,hEl,HOD,B,FS,RG,S⟩ := hrel;have HOL : Hid (od.length = fs.length) := by rw [Hid,HOD.out,List.length_map]
     by_cases hkl : k < al.length
     · have hkl' : decide ((k : Int) < (al.length : Int)) = true := decide_eq_true (by omega);obtain ⟨gA,oA,e,rfl,hgA,he,hec⟩ := IntsAt.at HA.out.al hkl;have HAL : Hid (∀ V,Below w.heap.size w V → V.cell? ⟨gA,oA + k,none⟩ = some (.int .i64 e)) := fun V hV => (hV.cell hgA).trans hec;have HEK := Lib.hid he;clear he hec hgA;obtain ⟨t,ht⟩ : ∃ t,nextV ed s e = t := ⟨_,rfl⟩;have HTO := Lib.hid ht;clear ht;obtain ⟨gf,of,s',rfl,_,_,_⟩ := IntsAt.at (S.out.ints 1 rfl) hif;have a0 := BlkAt.cell (S.out.get 5 rfl) 0; simp only [List.getElem?_cons_succ,List.getElem?_cons_zero] at a0;go_upto_region 11 with fail
       go_cut [10] (fun v wx => v = .int .i64 t ∧ (SepW w [eInts od (.slice AO od.length cO),eInts fs (.slice (some ⟨gf,of,none⟩) fs.length cF),eEds (E) vE,eBlk (w.heap.size + 2) 25 [.slice (some ⟨gA,oA,none⟩) al.length c1,.int .i64 0,(.slice none 0 0),vE],eBlk (w.heap.size + 1) 25 [.slice none 0 0,.int .i64 0,.slice none 0 0,.slice none 0 0],eBlk w.heap.size 25 [.slice (some ⟨gA,oA,none⟩) al.length c1,.int .i64 ↑N,.slice A2 mr.length c2,.slice A3 ed.length c3]] wx))
       case first =>
        have S1 := Lib.hid S.out.drew;refine wp_region_held_drew (S := (fun V => Sep w.heap.size w [eInts fs (.slice (some ⟨gf,of,none⟩) fs.length cF),eBlk w.heap.size 25 [.slice (some ⟨gA,oA,none⟩) al.length c1,.int .i64 ↑N,.slice A2 mr.length c2,.slice A3 ed.length c3]] V)) (by kernel_rfl) ?_ (fun hH => ?_)
        · exact S1.out.pick [1,5] (by decide)
        generalize hwz : wr.drew = w1 at *;clear hwz;refine tkH 0 rfl (v := ?_) (by kernel_rfl) ?_ hH ?_;rotate_left
        · intro V hs_;have a0 := ckC hs_ 1 rfl 0 rfl;have a1 := ckC hs_ 1 rfl 1 rfl;have a2 := ckC hs_ 1 rfl 2 rfl;have a3 := ckC hs_ 1 rfl 3 rfl;clear hs_;first | (go_simp; done) | (go_simp; with_reducible rfl)
        (try simp only [sx]);refine tkP 1 rfl (v := ?_) hH ?_;(try simp only [sx]);refine tkP 2 rfl (v := ?_) hH ?_;(try simp only [sx]);refine tkP 3 rfl (v := ?_) hH ?_;(try simp only [sx]);refine tkH 4 rfl (v := ?_) (by kernel_rfl) ?_ hH ?_;rotate_left
        · intro V hs_;have z4 := (Sep.intAt (show Sep w.heap.size w _ V from hs_) 0 rfl FS.out);clear hs_;first | (go_simp; done) | (go_simp; with_reducible rfl)
        (try simp only [sx]);refine tkP 5 rfl (v := ?_) hH ?_;(try simp only [sx]);refine tkH 6 rfl (v := ?_) (by kernel_rfl) ?_ hH ?_;rotate_left
        · intro V hs_;have a0 := ckC hs_ 1 rfl 0 rfl;clear hs_;first | (go_simp; done) | (go_simp; with_reducible rfl)
        (try simp only [sx]);refine tkP 7 rfl (v := ?_) hH ?_;(try simp only [sx]);refine tkP 8 rfl (v := ?_) hH ?_;(try simp only [sx]);refine tkH 9 rfl (v := ?_) (by kernel_rfl) ?_ hH ?_;rotate_left
        · intro V hs_;have z9 := HAL.out V (Sep.below (show Sep w.heap.size w _ V from hs_));clear hs_;first | (go_simp; done) | (go_simp; with_reducible rfl)
        (try simp only [sx]);refine rdH 10 rfl fun K hK => ?_;go_simp;refine (next8_d ⟨al,↑N,mr,ed⟩ ⟨(some ⟨gA,oA,none⟩),c1,A2,c2,A3,c3⟩ s e t w1 (HA.out.below S1.out.below).ed HA.out.led HTO.out).mono ?_;rintro e w2 ⟨rfl,hb⟩;have S2 := Lib.hid (S1.out.next hb);clear hb;refine hK.out _ _ (S2.out.pick [1,5] (by decide)) fun hH => ?_;clear hK K;(try simp only [sx]);refine tkP 11 rfl (v := ?_) hH ?_;(try simp only [sx]);refine wpAnyH_done (by kernel_rfl) ?_ _;have S9 := S2;go_wp2_with fail
        go_meet
        exact ⟨rfl,S9.out⟩
       case rest =>
        clear S a0;obtain ⟨rfl,S⟩ := hcut;by_cases ht0 : t < 0
        · have ht0' : decide (t < 0) = true := decide_eq_true ht0;have B2 : Hid (Bld (clsV c) (outK ⟨al,↑N,mr,ed⟩ fun _ => true) 0 i (outA ⟨al,↑N,mr,ed⟩ s (al.take (k + 1))).length fs E) := by
           rw [Hid,outA_no HEK.out (show ¬ 0 ≤ nextV ed s e by rw [HTO.out]; omega)]; exact B.out
          clear B;go_wp2_with fail
          go_roundw
          case rel => exact ⟨k + 1,fs,od,E,_,cF,AO,cO,vE,by go_num,rfl,rfl,hkl,hif,hfs,by omega,HOD.out,B2.out,FS.out,RG.out,S.out⟩
          case measure => simp [intOf]; omega
        · have ht0' : decide (t < 0) = false := decide_eq_false ht0;have htN : t < N := by
           rcases HR.out.next_cases s e with g | ⟨_,g,_⟩
           · have := HTO.out; have g : nextV ed s e = -1 := g; omega
           · have := HTO.out; have g : nextV ed s e < N := g; omega
          obtain ⟨t',rfl⟩ := Int.eq_ofNat_of_zero_le (show 0 ≤ t by omega);obtain ⟨gC',oC',z,hgz,hgC,hz,hzc⟩ := IntsAt.at HC.out (show t' < c.length by rw [HCL.out]; omega);obtain ⟨rfl,rfl⟩ : gC' = gC ∧ oC' = oC := by cases hgz; exact ⟨rfl,rfl⟩
          have HZ : Hid (∀ V,Below w.heap.size w V → V.cell? ⟨gC',oC' + t',none⟩ = some (.int .i64 z)) := fun V hV => (hV.cell hgC).trans hzc;have HZC : Hid (clsV c (t' : Int) = z) := by unfold Hid clsV; rw [Int.toNat_natCast]; exact getD_some hz 0
          have htc : t' < c.length := by rw [HCL.out]; omega
          have OX : Hid (((outK ⟨al,↑N,mr,ed⟩ fun _ => true) s)[(outA ⟨al,↑N,mr,ed⟩ s (al.take k)).length]? = some (e,(t' : Int))) := by
           have h := outK_at HR.out hsr.1 HEK.out (show 0 ≤ nextV ed s e by rw [HTO.out]; omega);have e2 : nextV ed s e = (t' : Int) := HTO.out;rw [show nextV (⟨al,↑N,mr,ed⟩ : Au).ed s e = (t' : Int) from e2] at h;exact h
          have hoY : (outA ⟨al,↑N,mr,ed⟩ s (al.take (k + 1))).length = (outA ⟨al,↑N,mr,ed⟩ s (al.take k)).length + 1 := outA_yes HEK.out (show 0 ≤ nextV ed s e by rw [HTO.out]; omega);have HOY := Lib.hid hoY;clear hz hzc hgz hgC hoY;have hE1 : E.length ≤ 1000000 := by omega
          have hon : od.length ≤ N := by rw [HOL.out]; exact hfs
          go_upto_block 4 with fail
          go_cut [11] (fun v wx => ∃ d : Nat,v = .int .i64 ↑d ∧ d ≤ od.length ∧ Hid (∀ (q : Nat) y,q < d → od[q]? = some y → y ≠ z) ∧ Hid (d < od.length → od[d]? = some z) ∧ (SepW w [eInts od (.slice AO od.length cO),eInts fs (.slice (some ⟨gf,of,none⟩) fs.length cF),eEds (E) vE,eBlk (w.heap.size + 2) 25 [.slice (some ⟨gA,oA,none⟩) al.length c1,.int .i64 0,(.slice none 0 0),vE],eBlk (w.heap.size + 1) 25 [.slice none 0 0,.int .i64 0,.slice none 0 0,.slice none 0 0],eBlk w.heap.size 25 [.slice (some ⟨gA,oA,none⟩) al.length c1,.int .i64 ↑N,.slice A2 mr.length c2,.slice A3 ed.length c3]] wx))
          case first =>
           go_wp2_with fail
           go_loopw [11] (fun v wr => ∃ u : Nat,v = .int .i64 ↑u ∧ u ≤ od.length ∧ Hid (∀ (q : Nat) y,q < u → od[q]? = some y → y ≠ z) ∧ (SepW w [eInts od (.slice AO od.length cO),eInts fs (.slice (some ⟨gf,of,none⟩) fs.length cF),eEds (E) vE,eBlk (w.heap.size + 2) 25 [.slice (some ⟨gA,oA,none⟩) al.length c1,.int .i64 0,(.slice none 0 0),vE],eBlk (w.heap.size + 1) 25 [.slice none 0 0,.int .i64 0,.slice none 0 0,.slice none 0 0],eBlk w.heap.size 25 [.slice (some ⟨gA,oA,none⟩) al.length c1,.int .i64 ↑N,.slice A2 mr.length c2,.slice A3 ed.length c3]] wr)) (fun v _ => od.length - (intOf v).toNat)
           case atStart => exact ⟨0,rfl,Nat.zero_le _,fun q y h => absurd h (by omega),S.out⟩
           case round =>
            clear S;obtain ⟨u,rfl,hu,HQ,S⟩ := hrel;by_cases hul : u < od.length
            · have hul' : decide ((u : Int) < (od.length : Int)) = true := decide_eq_true (by omega);obtain ⟨go,oo,y,rfl,_,hy,hyc⟩ := IntsAt.at (S.out.ints 0 rfl) hul;have HY := Lib.hid hy;have hzc := HZ.out wr S.out.below;clear hy;by_cases hyz : y = z
              · have hyz' : (y != z) = false := by simpa using hyz
                have HYZ := Lib.hid hyz;clear hyz;go_upto_region 14 with fail
                go_quiet (fail)
                go_wp2_with fail
                go_meet
                exact ⟨u,rfl,hu,HQ.out,fun _ => by rw [← HYZ.out]; exact HY.out,S.out.draws _⟩
              · have hyz' : (y != z) = true := by simpa using hyz
                have HYZ := Lib.hid hyz;clear hyz;go_upto_region 14 with fail
                go_quiet (fail)
                go_wp2_with fail
                go_roundw
                case rel => exact ⟨u + 1,by go_num,hul,fun q x hq hx => by
                 by_cases e : q = u
                 · subst e; rw [HY.out] at hx; cases hx; exact HYZ.out
                 · exact HQ.out q x (by omega) hx,S.out.draws _⟩
                case measure => simp [intOf]; omega
            · obtain rfl : u = od.length := by omega
              have hul' : decide ((od.length : Int) < (od.length : Int)) = false := decide_eq_false (by omega);go_upto_region 14 with fail
              go_quiet (fail)
              go_wp2_with fail
              go_meet
              exact ⟨od.length,rfl,hu,HQ.out,fun h => absurd h (by omega),S.out.draws _⟩
          case rest =>
           clear S;obtain ⟨d,rfl,hd,HQ,HD,S⟩ := hcut;obtain ⟨ME,mE,rfl⟩ := S.out.form 2 rfl;obtain ⟨bd,hbd⟩ : ∃ b,((d : Int) == (od.length : Int)) = b := ⟨_,rfl⟩;have HBD := Lib.hid hbd;clear hbd;go_upto_region 16 with fail
           go_cut [71] (fun v wx => v = .bool bd ∧ (SepW w [eInts od (.slice AO od.length cO),eInts fs (.slice (some ⟨gf,of,none⟩) fs.length cF),eEds (E) (.slice ME E.length mE),eBlk (w.heap.size + 2) 25 [.slice (some ⟨gA,oA,none⟩) al.length c1,.int .i64 0,(.slice none 0 0),(.slice ME E.length mE)],eBlk (w.heap.size + 1) 25 [.slice none 0 0,.int .i64 0,.slice none 0 0,.slice none 0 0],eBlk w.heap.size 25 [.slice (some ⟨gA,oA,none⟩) al.length c1,.int .i64 ↑N,.slice A2 mr.length c2,.slice A3 ed.length c3]] wx))
           case first =>
            have hbd := HBD.out;go_wp2_with fail
            go_meet
            exact ⟨by rw [← HBD.out],S.out⟩
           case rest =>
            clear S;obtain ⟨rfl,S⟩ := hcut;go_upto_if 71 with fail
            go_cut [6,7] (fun x y wx => ∃ (fs2 od2 : List Int) (AF2 AO2 : Option Addr) (cF2 cO2 : Nat),x = .slice AO2 od2.length cO2 ∧ y = .slice AF2 fs2.length cF2 ∧ i < fs2.length ∧ fs2.length ≤ N ∧ Hid (od2 = fs2.map (clsV c)) ∧ Hid (Bld (clsV c) (outK ⟨al,↑N,mr,ed⟩ fun _ => true) 0 i (outA ⟨al,↑N,mr,ed⟩ s (al.take (k + 1))).length fs2 (E ++ [⟨(i : Int),e,(d : Int)⟩])) ∧ Hid (fs2[i]? = some s) ∧ Hid (∀ v,v ∈ fs2 → 0 ≤ v ∧ v < N) ∧ (SepW w [eInts od2 (.slice AO2 od2.length cO2),eInts fs2 (.slice AF2 fs2.length cF2),eEds (E) (.slice ME E.length mE),eBlk (w.heap.size + 2) 25 [.slice (some ⟨gA,oA,none⟩) al.length c1,.int .i64 0,(.slice none 0 0),(.slice ME E.length mE)],eBlk (w.heap.size + 1) 25 [.slice none 0 0,.int .i64 0,.slice none 0 0,.slice none 0 0],eBlk w.heap.size 25 [.slice (some ⟨gA,oA,none⟩) al.length c1,.int .i64 ↑N,.slice A2 mr.length c2,.slice A3 ed.length c3]] wx))
            case first =>
             cases bd
             · have hdl : d < od.length := by
                have := HBD.out;simp at this; omega
               have B2 : Hid (Bld (clsV c) (outK ⟨al,↑N,mr,ed⟩ fun _ => true) 0 i (outA ⟨al,↑N,mr,ed⟩ s (al.take (k + 1))).length fs (E ++ [⟨(i : Int),e,(d : Int)⟩])) := by
                have h1 := HD.out hdl;rw [HOD.out,List.getElem?_map,Option.map_eq_some_iff] at h1;obtain ⟨u,hu,hz⟩ := h1;rw [Hid,HOY.out];exact B.out.old FS.out (outK_ups HR.out _ _) OX.out hu (hz.trans HZC.out.symm)
               go_wp2_with fail
               go_meet
               exact ⟨fs,od,_,AO,cF,cO,rfl,rfl,hif,hfs,HOD.out,B2.out,FS.out,RG.out,S.out⟩
             · obtain rfl : d = od.length := by
                have := HBD.out;simp at this; omega
               have hn : ∀ u,u ∈ fs → clsV c u ≠ clsV c (t' : Int) := fun u hu h => by
                obtain ⟨q,hq,rfl⟩ := List.mem_iff_getElem.1 hu;have hq2 : q < od.length := by rw [HOL.out]; exact hq
                refine HQ.out q (clsV c fs[q]) hq2 ?_ (h.trans HZC.out);rw [HOD.out,List.getElem?_map,List.getElem?_eq_getElem hq]; rfl
               have RG2 : Hid (∀ v,v ∈ fs ++ [(t' : Int)] → 0 ≤ v ∧ v < N) := fun v hv => by
                rcases List.mem_append.1 hv with h | h
                · exact RG.out v h
                · simp at h; subst h; exact ⟨Int.natCast_nonneg _,htN⟩
               have B2 : Hid (Bld (clsV c) (outK ⟨al,↑N,mr,ed⟩ fun _ => true) 0 i (outA ⟨al,↑N,mr,ed⟩ s (al.take (k + 1))).length (fs ++ [(t' : Int)]) (E ++ [⟨(i : Int),e,(od.length : Int)⟩])) := by
                rw [Hid,HOY.out,HOL.out];exact B.out.new FS.out (outK_ups HR.out _ _) OX.out hn
               have hfn : (fs ++ [(t' : Int)]).length ≤ N := B2.out.len RG2.out;have HOD2 : Hid (od ++ [z] = (fs ++ [(t' : Int)]).map (clsV c)) := by rw [Hid,List.map_append,HOD.out]; simp [HZC.out]
               have FS2 : Hid ((fs ++ [(t' : Int)])[i]? = some s) := by rw [Hid,List.getElem?_append_left hif]; exact FS.out
               have HFN := Lib.hid hfn;clear hn hfn B HQ HD;have hzc := HZ.out wc S.out.below;have hol : od.length ≤ 1000000 := by omega
               have hfl : fs.length ≤ 1000000 := by omega
               go_wp2_with (at_builtin; refine wpList_pushS rfl _ _ 22 rfl (S.out.alloc 3 [.int .i64 z]) 1 rfl Try.underlying22 _ 8 intInfo rfl (by decide) rfl z _ rfl rfl (one_cell _ _ [_] _ rfl) (encI_one _) (Nat.le_trans hol (by decide)) (by decide) ?_)
               intro A5 c5 w5 S5' _;have S5 := Lib.hid S5'.drop1;clear S5' S hzc;go_wp2_with (at_builtin; refine wpList_pushS rfl _ _ 22 rfl (S5.out.alloc 3 [.int .i64 (t' : Int)]) 2 rfl Try.underlying22 _ 8 intInfo rfl (by decide) rfl (t' : Int) _ rfl rfl (one_cell _ _ [_] _ rfl) (encI_one _) (Nat.le_trans hfl (by decide)) (by decide) ?_)
               intro A6 c6 w6 S6' _;have S6 := Lib.hid S6'.drop1;clear S6' S5;go_wp2_with fail
               go_meet
               exact ⟨fs ++ [(t' : Int)],od ++ [z],A6,A5,c6,c5,by rw [List.length_append]; rfl,by rw [List.length_append]; rfl,by rw [List.length_append]; omega,HFN.out,HOD2.out,B2.out,FS2.out,RG2.out,by rw [List.length_append,List.length_append]; exact S6.out⟩
            case rest =>
             clear S B FS RG HOD HOL HQ HD;obtain ⟨fs2,od2,AF2,AO2,cF2,cO2,rfl,rfl,hif2,hfs2,HOD2,B2,FS2,RG2,S⟩ := hcut;obtain ⟨wd,hwd⟩ : ∃ v,v = wc := ⟨_,rfl⟩;rw [← hwd] at S ⊢;clear hwd;go_upto_region 18 with fail
             have S3 := Lib.hid S.out.drew;refine wp_region_held_drew (S := (fun _ => True)) (by kernel_rfl) ?_ (fun hH => ?_)
             · trivial
             generalize hwz : wd.drew = w3 at *;clear hwz;rw [show Array.replicate _ false = #[false,false,false,false,false,false,false,false,false,false,false,false,false,false] from rfl];refine tkP 0 rfl (v := ?_) hH ?_;(try simp only [sx]);refine tkP 2 rfl (v := ?_) hH ?_;(try simp only [sx]);refine tkP 3 rfl (v := ?_) hH ?_;(try simp only [sx]);refine tkP 5 rfl (v := ?_) hH ?_;(try simp only [sx]);refine tkP 8 rfl (v := ?_) hH ?_;(try simp only [sx]);refine act_name ?_;intro A0 hA0;obtain ⟨F,hF⟩ : ∃ F : Value → Value → Value → Value → Value → Value → Value → Value → Act,Hid (∀ x84 x87 x89 x90 x92 x93 x94 x95,F x84 x87 x89 x90 x92 x93 x94 x95 = ((((((((A0.put (some 84) x84).put (some 87) x87).put (some 89) x89).put (some 90) x90).put (some 92) x92).put (some 93) x93).put (some 94) x94).put (some 95) x95)) := ⟨fun x84 x87 x89 x90 x92 x93 x94 x95 => ((((((((A0.put (some 84) x84).put (some 87) x87).put (some 89) x89).put (some 90) x90).put (some 92) x92).put (some 93) x93).put (some 94) x94).put (some 95) x95),fun _ _ _ _ _ _ _ _ => rfl⟩;subst hA0;unfold Hid at hF
             simp only [List.getElem_toArray,List.getElem_cons_zero,List.getElem_cons_succ,Act.put,List.setIfInBounds_toArray,List.set_cons_zero,List.set_cons_succ] at hF;have HF := Lib.hid hF;clear hF
             obtain ⟨INV,hI⟩ : ∃ I : Array Bool → Act → World → Prop,Hid (∀ l_ a_ W_,I l_ a_ W_ ↔ ∃ (fb1 fb4 fb6 fb7 fb9 fb10 fb11 fb12 fb13 : Bool) (x84 x87 x89 x90 x92 x93 x94 x95 : Value) (E_nb E_ed E_out : Ent),l_ = #[true,fb1,true,true,fb4,true,fb6,fb7,true,fb9,fb10,fb11,fb12,fb13] ∧ a_ = F x84 x87 x89 x90 x92 x93 x94 x95 ∧ (SepW w [E_nb,E_ed,E_out,eInts od2 (.slice AO2 od2.length cO2),eInts fs2 (.slice AF2 fs2.length cF2),eBlk (w.heap.size + 1) 25 [.slice none 0 0,.int .i64 0,.slice none 0 0,.slice none 0 0],eBlk w.heap.size 25 [.slice (some ⟨gA,oA,none⟩) al.length c1,.int .i64 ↑N,.slice A2 mr.length c2,.slice A3 ed.length c3]] W_) ∧ True ∧ Hid (fb6 = true → fb4 = true) ∧ Hid (fb7 = true → fb6 = true) ∧ Hid (fb9 = true → fb7 = true) ∧ Hid (fb10 = true → fb9 = true) ∧ Hid (fb11 = true → fb1 = true) ∧ Hid (fb11 = true → fb10 = true) ∧ Hid (fb12 = true → fb11 = true) ∧ Hid (fb13 = true → fb12 = true) ∧ Hid (fb1 = true → x84 = .slice ME E.length mE) ∧ Hid (fb4 = true → x87 = .slice (some ⟨gA,oA,none⟩) al.length c1) ∧ Hid (fb6 = true → x89 = .pointer (some ⟨gA,oA + k,none⟩)) ∧ Hid (fb7 = true → x90 = .int .i64 e) ∧ Hid (fb9 = true → x92 = .agg #[.int .i64 ↑i,.int .i64 e,.int .i64 ↑d]) ∧ Hid (fb12 = true → x95 = .pointer (some ⟨w.heap.size + 2,3,none⟩)) ∧ Hid (fb10 = false → E_nb = eNo) ∧ Hid (fb10 = true → ∃ g,x93 = .slice (some ⟨g,0,none⟩) 1 1 ∧ E_nb = eBlk g 70 [.int .i64 ↑i,.int .i64 e,.int .i64 ↑d]) ∧ Hid (fb11 = false → E_ed = eEds (E) (.slice ME E.length mE)) ∧ Hid (fb11 = true → ∃ A c,x94 = .slice A (E.length + 1) c ∧ E_ed = eEds (E ++ [⟨(i : Int),e,(d : Int)⟩]) (.slice A (E.length + 1) c)) ∧ Hid (fb13 = false → E_out = eBlk (w.heap.size + 2) 25 [.slice (some ⟨gA,oA,none⟩) al.length c1,.int .i64 0,(.slice none 0 0),(.slice ME E.length mE)]) ∧ Hid (fb13 = true → ∃ A c,x94 = .slice A (E.length + 1) c ∧ E_out = eBlk (w.heap.size + 2) 25 [.slice (some ⟨gA,oA,none⟩) al.length c1,.int .i64 0,(.slice none 0 0),(.slice A (E.length + 1) c)])) := ⟨_,fun _ _ _ => Iff.rfl⟩
             refine wpAnyH_inv (INV := INV) (D := [[],[0],[],[],[3],[],[4,5],[6],[],[2,7,8],[9],[1,10],[0,1,2,3,4,5,6,7,8,9,10,11],[0,1,2,3,4,5,6,7,8,9,10,11,12]]) [1,4,6,7,9,10,11,12,13] (by kernel_rfl) (fun l_ a_ W_ h => ?_) (fun l_ a_ W_ h => ?_) (fun l_ a_ W_ h hall => ?_) ?_ _ _ _ _ (by decide) ?_
             · obtain ⟨fb1,fb4,fb6,fb7,fb9,fb10,fb11,fb12,fb13,x84,x87,x89,x90,x92,x93,x94,x95,E_nb,E_ed,E_out,rfl,rfl,S_,_,mf4_6,mf6_7,mf7_9,mf9_10,mf1_11,mf10_11,mf11_12,mf12_13,cf1,cf4,cf6,cf7,cf9,cf12,d_nb,d_nb0,d_ed,d_ed0,d_out,d_out0⟩ := (hI.out _ _ _).1 h;trivial
             · obtain ⟨fb1,fb4,fb6,fb7,fb9,fb10,fb11,fb12,fb13,x84,x87,x89,x90,x92,x93,x94,x95,E_nb,E_ed,E_out,rfl,rfl,S_,_,mf4_6,mf6_7,mf7_9,mf9_10,mf1_11,mf10_11,mf11_12,mf12_13,cf1,cf4,cf6,cf7,cf9,cf12,d_nb,d_nb0,d_ed,d_ed0,d_out,d_out0⟩ := (hI.out _ _ _).1 h;rfl
             · obtain ⟨fb1,fb4,fb6,fb7,fb9,fb10,fb11,fb12,fb13,x84,x87,x89,x90,x92,x93,x94,x95,E_nb,E_ed,E_out,rfl,rfl,S_,_,mf4_6,mf6_7,mf7_9,mf9_10,mf1_11,mf10_11,mf11_12,mf12_13,cf1,cf4,cf6,cf7,cf9,cf12,d_nb,d_nb0,d_ed,d_ed0,d_out,d_out0⟩ := (hI.out _ _ _).1 h;obtain rfl : fb1 = true := hall 1 (by decide);obtain rfl : fb4 = true := hall 4 (by decide);obtain rfl : fb6 = true := hall 6 (by decide);obtain rfl : fb7 = true := hall 7 (by decide);obtain rfl : fb9 = true := hall 9 (by decide);obtain rfl : fb10 = true := hall 10 (by decide);obtain rfl : fb11 = true := hall 11 (by decide);obtain rfl : fb12 = true := hall 12 (by decide);obtain rfl : fb13 = true := hall 13 (by decide);clear hall h hI INV;rw [HF.out];clear HF F;obtain rfl := cf1.out rfl;obtain rfl := cf4.out rfl;obtain rfl := cf6.out rfl;obtain rfl := cf7.out rfl;obtain rfl := cf9.out rfl;obtain rfl := cf12.out rfl;have v_nb := d_nb0.out rfl;have v_ed := d_ed0.out rfl;have v_out := d_out0.out rfl;clear mf4_6 mf6_7 mf7_9 mf9_10 mf1_11 mf10_11 mf11_12 mf12_13 cf1 cf4 cf6 cf7 cf9 cf12 d_nb d_nb0 d_ed d_ed0 d_out d_out0;obtain ⟨A,c',rfl,rfl⟩ := v_ed;obtain ⟨A',c'',h2,rfl⟩ := v_out;simp only [Value.slice.injEq,true_and] at h2;obtain ⟨rfl,rfl⟩ := h2;have S9 := S_;go_wp2_with fail
               go_roundw
               case rel => exact ⟨k + 1,fs2,od2,E ++ [(⟨(i : Int),e,(d : Int)⟩ : Ed)],AF2,cF2,AO2,cO2,_,by go_num,rfl,rfl,hkl,hif2,hfs2,by rw [List.length_append]; simp only [List.length_singleton]; omega,HOD2.out,B2.out,FS2.out,RG2.out,S9.out.pick [3,4,1,2,5,6] (by decide)⟩
               case measure => simp [intOf]; omega
             · clear hH S3;refine StepsI.cons rfl (fun l_ a_ W_ h hf hd K hK => ?_) (StepsI.cons rfl (fun l_ a_ W_ h hf hd K hK => ?_) (StepsI.cons rfl (fun l_ a_ W_ h hf hd K hK => ?_) (StepsI.cons rfl (fun l_ a_ W_ h hf hd K hK => ?_) (StepsI.cons rfl (fun l_ a_ W_ h hf hd K hK => ?_) (StepsI.cons rfl (fun l_ a_ W_ h hf hd K hK => ?_) (StepsI.cons rfl (fun l_ a_ W_ h hf hd K hK => ?_) (StepsI.cons rfl (fun l_ a_ W_ h hf hd K hK => ?_) (StepsI.cons rfl (fun l_ a_ W_ h hf hd K hK => ?_) (StepsI.nil)))))))))
               · obtain ⟨fb1,fb4,fb6,fb7,fb9,fb10,fb11,fb12,fb13,x84,x87,x89,x90,x92,x93,x94,x95,E_nb,E_ed,E_out,rfl,rfl,S_,_,mf4_6,mf6_7,mf7_9,mf9_10,mf1_11,mf10_11,mf11_12,mf12_13,cf1,cf4,cf6,cf7,cf9,cf12,d_nb,d_nb0,d_ed,d_ed0,d_out,d_out0⟩ := (hI.out _ _ _).1 h;obtain rfl : fb1 = false := hf;clear h;obtain rfl : fb11 = false := by cases fb11 with | false => rfl | true => exact nomatch (mf1_11.out rfl)
                 obtain rfl : fb12 = false := by cases fb12 with | false => rfl | true => exact nomatch (mf11_12.out rfl)
                 obtain rfl : fb13 = false := by cases fb13 with | false => rfl | true => exact nomatch (mf12_13.out rfl)
                 clear hd;rw [HF.out];have v_ed := d_ed.out rfl;have v_out := d_out.out rfl;obtain rfl := v_out;have z3 := ckC S_.out 2 rfl 3 rfl;go_simp;(try simp only [sx]);refine hK.out _ _ ((hI.out _ _ _).2 ⟨true,fb4,fb6,fb7,fb9,fb10,false,false,false,_,_,_,_,_,_,_,_,_,_,_,rfl,(HF.out _ _ _ _ _ _ _ _).symm,S_,trivial,mf4_6,mf6_7,mf7_9,mf9_10,(fun _ => rfl),(fun h => nomatch h),(fun h => nomatch h),(fun h => nomatch h),(fun _ => rfl),cf4,cf6,cf7,cf9,(fun h => nomatch h),d_nb,d_nb0,d_ed,(fun h => nomatch h),d_out,(fun h => nomatch h)⟩)
               · obtain ⟨fb1,fb4,fb6,fb7,fb9,fb10,fb11,fb12,fb13,x84,x87,x89,x90,x92,x93,x94,x95,E_nb,E_ed,E_out,rfl,rfl,S_,_,mf4_6,mf6_7,mf7_9,mf9_10,mf1_11,mf10_11,mf11_12,mf12_13,cf1,cf4,cf6,cf7,cf9,cf12,d_nb,d_nb0,d_ed,d_ed0,d_out,d_out0⟩ := (hI.out _ _ _).1 h;obtain rfl : fb4 = false := hf;clear h;obtain rfl : fb6 = false := by cases fb6 with | false => rfl | true => exact nomatch (mf4_6.out rfl)
                 obtain rfl : fb7 = false := by cases fb7 with | false => rfl | true => exact nomatch (mf6_7.out rfl)
                 obtain rfl : fb9 = false := by cases fb9 with | false => rfl | true => exact nomatch (mf7_9.out rfl)
                 obtain rfl : fb10 = false := by cases fb10 with | false => rfl | true => exact nomatch (mf9_10.out rfl)
                 obtain rfl : fb11 = false := by cases fb11 with | false => rfl | true => exact nomatch (mf10_11.out rfl)
                 obtain rfl : fb12 = false := by cases fb12 with | false => rfl | true => exact nomatch (mf11_12.out rfl)
                 obtain rfl : fb13 = false := by cases fb13 with | false => rfl | true => exact nomatch (mf12_13.out rfl)
                 clear hd;rw [HF.out];have v_nb := d_nb.out rfl;have v_ed := d_ed.out rfl;have v_out := d_out.out rfl;have z0 := ckC S_.out 6 rfl 0 rfl;go_simp;(try simp only [sx]);refine hK.out _ _ ((hI.out _ _ _).2 ⟨fb1,true,false,false,false,false,false,false,false,_,_,_,_,_,_,_,_,_,_,_,rfl,(HF.out _ _ _ _ _ _ _ _).symm,S_,trivial,(fun _ => rfl),(fun h => nomatch h),(fun h => nomatch h),(fun h => nomatch h),(fun h => nomatch h),(fun h => nomatch h),(fun h => nomatch h),(fun h => nomatch h),cf1,(fun _ => rfl),(fun h => nomatch h),(fun h => nomatch h),(fun h => nomatch h),(fun h => nomatch h),d_nb,(fun h => nomatch h),d_ed,(fun h => nomatch h),d_out,(fun h => nomatch h)⟩)
               · obtain ⟨fb1,fb4,fb6,fb7,fb9,fb10,fb11,fb12,fb13,x84,x87,x89,x90,x92,x93,x94,x95,E_nb,E_ed,E_out,rfl,rfl,S_,_,mf4_6,mf6_7,mf7_9,mf9_10,mf1_11,mf10_11,mf11_12,mf12_13,cf1,cf4,cf6,cf7,cf9,cf12,d_nb,d_nb0,d_ed,d_ed0,d_out,d_out0⟩ := (hI.out _ _ _).1 h;obtain rfl : fb6 = false := hf;clear h;obtain rfl : fb4 = true := hd 4 (by decide);obtain rfl : fb7 = false := by cases fb7 with | false => rfl | true => exact nomatch (mf6_7.out rfl)
                 obtain rfl : fb9 = false := by cases fb9 with | false => rfl | true => exact nomatch (mf7_9.out rfl)
                 obtain rfl : fb10 = false := by cases fb10 with | false => rfl | true => exact nomatch (mf9_10.out rfl)
                 obtain rfl : fb11 = false := by cases fb11 with | false => rfl | true => exact nomatch (mf10_11.out rfl)
                 obtain rfl : fb12 = false := by cases fb12 with | false => rfl | true => exact nomatch (mf11_12.out rfl)
                 obtain rfl : fb13 = false := by cases fb13 with | false => rfl | true => exact nomatch (mf12_13.out rfl)
                 clear hd;rw [HF.out];obtain rfl := cf4.out rfl;have v_nb := d_nb.out rfl;have v_ed := d_ed.out rfl;have v_out := d_out.out rfl;go_simp;(try simp only [sx]);refine hK.out _ _ ((hI.out _ _ _).2 ⟨fb1,true,true,false,false,false,false,false,false,_,_,_,_,_,_,_,_,_,_,_,rfl,(HF.out _ _ _ _ _ _ _ _).symm,S_,trivial,(fun _ => rfl),(fun _ => rfl),(fun h => nomatch h),(fun h => nomatch h),(fun h => nomatch h),(fun h => nomatch h),(fun h => nomatch h),(fun h => nomatch h),cf1,cf4,(fun _ => rfl),(fun h => nomatch h),(fun h => nomatch h),(fun h => nomatch h),d_nb,(fun h => nomatch h),d_ed,(fun h => nomatch h),d_out,(fun h => nomatch h)⟩)
               · obtain ⟨fb1,fb4,fb6,fb7,fb9,fb10,fb11,fb12,fb13,x84,x87,x89,x90,x92,x93,x94,x95,E_nb,E_ed,E_out,rfl,rfl,S_,_,mf4_6,mf6_7,mf7_9,mf9_10,mf1_11,mf10_11,mf11_12,mf12_13,cf1,cf4,cf6,cf7,cf9,cf12,d_nb,d_nb0,d_ed,d_ed0,d_out,d_out0⟩ := (hI.out _ _ _).1 h;obtain rfl : fb7 = false := hf;clear h;obtain rfl : fb6 = true := hd 6 (by decide);obtain rfl : fb4 = true := mf4_6.out rfl;obtain rfl : fb9 = false := by cases fb9 with | false => rfl | true => exact nomatch (mf7_9.out rfl)
                 obtain rfl : fb10 = false := by cases fb10 with | false => rfl | true => exact nomatch (mf9_10.out rfl)
                 obtain rfl : fb11 = false := by cases fb11 with | false => rfl | true => exact nomatch (mf10_11.out rfl)
                 obtain rfl : fb12 = false := by cases fb12 with | false => rfl | true => exact nomatch (mf11_12.out rfl)
                 obtain rfl : fb13 = false := by cases fb13 with | false => rfl | true => exact nomatch (mf12_13.out rfl)
                 clear hd;rw [HF.out];obtain rfl := cf4.out rfl;obtain rfl := cf6.out rfl;have v_nb := d_nb.out rfl;have v_ed := d_ed.out rfl;have v_out := d_out.out rfl;have z9 := HAL.out W_ S_.out.below;go_simp;(try simp only [sx]);refine hK.out _ _ ((hI.out _ _ _).2 ⟨fb1,true,true,true,false,false,false,false,false,_,_,_,_,_,_,_,_,_,_,_,rfl,(HF.out _ _ _ _ _ _ _ _).symm,S_,trivial,(fun _ => rfl),(fun _ => rfl),(fun _ => rfl),(fun h => nomatch h),(fun h => nomatch h),(fun h => nomatch h),(fun h => nomatch h),(fun h => nomatch h),cf1,cf4,cf6,(fun _ => rfl),(fun h => nomatch h),(fun h => nomatch h),d_nb,(fun h => nomatch h),d_ed,(fun h => nomatch h),d_out,(fun h => nomatch h)⟩)
               · obtain ⟨fb1,fb4,fb6,fb7,fb9,fb10,fb11,fb12,fb13,x84,x87,x89,x90,x92,x93,x94,x95,E_nb,E_ed,E_out,rfl,rfl,S_,_,mf4_6,mf6_7,mf7_9,mf9_10,mf1_11,mf10_11,mf11_12,mf12_13,cf1,cf4,cf6,cf7,cf9,cf12,d_nb,d_nb0,d_ed,d_ed0,d_out,d_out0⟩ := (hI.out _ _ _).1 h;obtain rfl : fb9 = false := hf;clear h;obtain rfl : fb7 = true := hd 7 (by decide);obtain rfl : fb6 = true := mf6_7.out rfl;obtain rfl : fb4 = true := mf4_6.out rfl;obtain rfl : fb10 = false := by cases fb10 with | false => rfl | true => exact nomatch (mf9_10.out rfl)
                 obtain rfl : fb11 = false := by cases fb11 with | false => rfl | true => exact nomatch (mf10_11.out rfl)
                 obtain rfl : fb12 = false := by cases fb12 with | false => rfl | true => exact nomatch (mf11_12.out rfl)
                 obtain rfl : fb13 = false := by cases fb13 with | false => rfl | true => exact nomatch (mf12_13.out rfl)
                 clear hd;rw [HF.out];obtain rfl := cf4.out rfl;obtain rfl := cf6.out rfl;obtain rfl := cf7.out rfl;have v_nb := d_nb.out rfl;have v_ed := d_ed.out rfl;have v_out := d_out.out rfl;go_simp;(try simp only [sx]);refine hK.out _ _ ((hI.out _ _ _).2 ⟨fb1,true,true,true,true,false,false,false,false,_,_,_,_,_,_,_,_,_,_,_,rfl,(HF.out _ _ _ _ _ _ _ _).symm,S_,trivial,(fun _ => rfl),(fun _ => rfl),(fun _ => rfl),(fun _ => rfl),(fun h => nomatch h),(fun h => nomatch h),(fun h => nomatch h),(fun h => nomatch h),cf1,cf4,cf6,cf7,(fun _ => rfl),(fun h => nomatch h),d_nb,(fun h => nomatch h),d_ed,(fun h => nomatch h),d_out,(fun h => nomatch h)⟩)
               · obtain ⟨fb1,fb4,fb6,fb7,fb9,fb10,fb11,fb12,fb13,x84,x87,x89,x90,x92,x93,x94,x95,E_nb,E_ed,E_out,rfl,rfl,S_,_,mf4_6,mf6_7,mf7_9,mf9_10,mf1_11,mf10_11,mf11_12,mf12_13,cf1,cf4,cf6,cf7,cf9,cf12,d_nb,d_nb0,d_ed,d_ed0,d_out,d_out0⟩ := (hI.out _ _ _).1 h;obtain rfl : fb10 = false := hf;clear h;obtain rfl : fb9 = true := hd 9 (by decide);obtain rfl : fb7 = true := mf7_9.out rfl;obtain rfl : fb6 = true := mf6_7.out rfl;obtain rfl : fb4 = true := mf4_6.out rfl;obtain rfl : fb11 = false := by cases fb11 with | false => rfl | true => exact nomatch (mf10_11.out rfl)
                 obtain rfl : fb12 = false := by cases fb12 with | false => rfl | true => exact nomatch (mf11_12.out rfl)
                 obtain rfl : fb13 = false := by cases fb13 with | false => rfl | true => exact nomatch (mf12_13.out rfl)
                 clear hd;rw [HF.out];obtain rfl := cf4.out rfl;obtain rfl := cf6.out rfl;obtain rfl := cf7.out rfl;obtain rfl := cf9.out rfl;have v_nb := d_nb.out rfl;have v_ed := d_ed.out rfl;have v_out := d_out.out rfl;obtain rfl := v_nb;go_simp;obtain ⟨g2,hg2⟩ : ∃ g,g = W_.heap.size := ⟨_,rfl⟩;obtain ⟨W2,hW2⟩ : ∃ v,v = W_.alloc (.cells #[.int .i64 ↑i,.int .i64 e,.int .i64 ↑d] 70) := ⟨_,rfl⟩;rw [← hW2,← hg2];have S2 := Lib.hid (S_.out.fillAlloc 0 rfl 70 [.int .i64 ↑i,.int .i64 e,.int .i64 ↑d] (o := .cells #[.int .i64 ↑i,.int .i64 e,.int .i64 ↑d] 70) rfl hg2);rw [← hW2] at S2;clear hW2 hg2;(try simp only [sx]);refine hK.out _ _ ((hI.out _ _ _).2 ⟨fb1,true,true,true,true,true,false,false,false,_,_,_,_,_,_,_,_,_,_,_,rfl,(HF.out _ _ _ _ _ _ _ _).symm,S2,trivial,(fun _ => rfl),(fun _ => rfl),(fun _ => rfl),(fun _ => rfl),(fun h => nomatch h),(fun _ => rfl),(fun h => nomatch h),(fun h => nomatch h),cf1,cf4,cf6,cf7,cf9,(fun h => nomatch h),(fun h => nomatch h),(fun _ => ⟨_,rfl,rfl⟩),d_ed,(fun h => nomatch h),d_out,(fun h => nomatch h)⟩)
               · obtain ⟨fb1,fb4,fb6,fb7,fb9,fb10,fb11,fb12,fb13,x84,x87,x89,x90,x92,x93,x94,x95,E_nb,E_ed,E_out,rfl,rfl,S_,_,mf4_6,mf6_7,mf7_9,mf9_10,mf1_11,mf10_11,mf11_12,mf12_13,cf1,cf4,cf6,cf7,cf9,cf12,d_nb,d_nb0,d_ed,d_ed0,d_out,d_out0⟩ := (hI.out _ _ _).1 h;obtain rfl : fb11 = false := hf;clear h;obtain rfl : fb1 = true := hd 1 (by decide);obtain rfl : fb10 = true := hd 10 (by decide);obtain rfl : fb9 = true := mf9_10.out rfl;obtain rfl : fb7 = true := mf7_9.out rfl;obtain rfl : fb6 = true := mf6_7.out rfl;obtain rfl : fb4 = true := mf4_6.out rfl;obtain rfl : fb12 = false := by cases fb12 with | false => rfl | true => exact nomatch (mf11_12.out rfl)
                 obtain rfl : fb13 = false := by cases fb13 with | false => rfl | true => exact nomatch (mf12_13.out rfl)
                 clear hd;rw [HF.out];obtain rfl := cf1.out rfl;obtain rfl := cf4.out rfl;obtain rfl := cf6.out rfl;obtain rfl := cf7.out rfl;obtain rfl := cf9.out rfl;have v_nb := d_nb0.out rfl;have v_ed := d_ed.out rfl;have v_out := d_out.out rfl;obtain rfl := v_ed;obtain ⟨g,rfl,rfl⟩ := v_nb;refine step_pushS rfl (.tmp 84) (.tmp 93) 23 rfl S_.out 1 rfl Try.underlying23 _ 24 edInfo rfl (by decide) rfl ⟨(i : Int),e,(d : Int)⟩ g rfl rfl (fun j u hj => (BlkAt.cell (S_.out.get 0 rfl) j).trans hj) (edOne _) (by omega) (by decide) ?_;intro A12 c12 W2 S2' _;have S2 := Lib.hid S2';clear S2';(try simp only [sx]);refine hK.out _ _ ((hI.out _ _ _).2 ⟨true,true,true,true,true,true,true,false,false,_,_,_,_,_,_,_,_,_,_,_,rfl,(HF.out _ _ _ _ _ _ _ _).symm,S2,trivial,(fun _ => rfl),(fun _ => rfl),(fun _ => rfl),(fun _ => rfl),(fun _ => rfl),(fun _ => rfl),(fun _ => rfl),(fun h => nomatch h),cf1,cf4,cf6,cf7,cf9,(fun h => nomatch h),(fun h => nomatch h),d_nb0,(fun h => nomatch h),(fun _ => ⟨_,_,rfl,rfl⟩),d_out,(fun h => nomatch h)⟩)
               · obtain ⟨fb1,fb4,fb6,fb7,fb9,fb10,fb11,fb12,fb13,x84,x87,x89,x90,x92,x93,x94,x95,E_nb,E_ed,E_out,rfl,rfl,S_,_,mf4_6,mf6_7,mf7_9,mf9_10,mf1_11,mf10_11,mf11_12,mf12_13,cf1,cf4,cf6,cf7,cf9,cf12,d_nb,d_nb0,d_ed,d_ed0,d_out,d_out0⟩ := (hI.out _ _ _).1 h;obtain rfl : fb12 = false := hf;clear h;obtain rfl : fb1 = true := hd 1 (by decide);obtain rfl : fb4 = true := hd 4 (by decide);obtain rfl : fb6 = true := hd 6 (by decide);obtain rfl : fb7 = true := hd 7 (by decide);obtain rfl : fb9 = true := hd 9 (by decide);obtain rfl : fb10 = true := hd 10 (by decide);obtain rfl : fb11 = true := hd 11 (by decide);obtain rfl : fb13 = false := by cases fb13 with | false => rfl | true => exact nomatch (mf12_13.out rfl)
                 clear hd;rw [HF.out];obtain rfl := cf1.out rfl;obtain rfl := cf4.out rfl;obtain rfl := cf6.out rfl;obtain rfl := cf7.out rfl;obtain rfl := cf9.out rfl;have v_nb := d_nb0.out rfl;have v_ed := d_ed0.out rfl;have v_out := d_out.out rfl;go_simp;(try simp only [sx]);refine hK.out _ _ ((hI.out _ _ _).2 ⟨true,true,true,true,true,true,true,true,false,_,_,_,_,_,_,_,_,_,_,_,rfl,(HF.out _ _ _ _ _ _ _ _).symm,S_,trivial,(fun _ => rfl),(fun _ => rfl),(fun _ => rfl),(fun _ => rfl),(fun _ => rfl),(fun _ => rfl),(fun _ => rfl),(fun _ => rfl),cf1,cf4,cf6,cf7,cf9,(fun _ => rfl),(fun h => nomatch h),d_nb0,(fun h => nomatch h),d_ed0,d_out,(fun h => nomatch h)⟩)
               · obtain ⟨fb1,fb4,fb6,fb7,fb9,fb10,fb11,fb12,fb13,x84,x87,x89,x90,x92,x93,x94,x95,E_nb,E_ed,E_out,rfl,rfl,S_,_,mf4_6,mf6_7,mf7_9,mf9_10,mf1_11,mf10_11,mf11_12,mf12_13,cf1,cf4,cf6,cf7,cf9,cf12,d_nb,d_nb0,d_ed,d_ed0,d_out,d_out0⟩ := (hI.out _ _ _).1 h;obtain rfl : fb13 = false := hf;clear h;obtain rfl : fb1 = true := hd 1 (by decide);obtain rfl : fb4 = true := hd 4 (by decide);obtain rfl : fb6 = true := hd 6 (by decide);obtain rfl : fb7 = true := hd 7 (by decide);obtain rfl : fb9 = true := hd 9 (by decide);obtain rfl : fb10 = true := hd 10 (by decide);obtain rfl : fb11 = true := hd 11 (by decide);obtain rfl : fb12 = true := hd 12 (by decide);clear hd;rw [HF.out];obtain rfl := cf1.out rfl;obtain rfl := cf4.out rfl;obtain rfl := cf6.out rfl;obtain rfl := cf7.out rfl;obtain rfl := cf9.out rfl;obtain rfl := cf12.out rfl;have v_nb := d_nb0.out rfl;have v_ed := d_ed0.out rfl;have v_out := d_out.out rfl;obtain rfl := v_out;obtain ⟨A12,c12,rfl,_⟩ := v_ed;have sc := ckC S_.out 2 rfl 3 rfl;have sf := BlkAt.free (S_.out.get 2 rfl) 3;go_simp;obtain ⟨W2,hW2⟩ : ∃ v,v = (W_.setCell ⟨w.heap.size + 2,3,none⟩ (.slice A12 (E.length + 1) c12)) := ⟨_,rfl⟩;rw [← hW2];have S2 := Lib.hid (S_.out.set 2 rfl 3 (.slice A12 (E.length + 1) c12));rw [← hW2] at S2;clear hW2 sc sf;try simp only [sx]
                 refine hK.out _ _ ((hI.out _ _ _).2 ⟨true,true,true,true,true,true,true,true,true,_,_,_,_,_,_,_,_,_,_,_,rfl,(HF.out _ _ _ _ _ _ _ _).symm,S2,trivial,(fun _ => rfl),(fun _ => rfl),(fun _ => rfl),(fun _ => rfl),(fun _ => rfl),(fun _ => rfl),(fun _ => rfl),(fun _ => rfl),cf1,cf4,cf6,cf7,cf9,cf12,(fun h => nomatch h),d_nb0,(fun h => nomatch h),d_ed0,(fun h => nomatch h),(fun _ => ⟨_,_,rfl,rfl⟩)⟩)
             · refine (hI.out _ _ _).2 ⟨false,false,false,false,false,false,false,false,false,_,_,_,_,_,_,_,_,eNo,eEds (E) (.slice ME E.length mE),eBlk (w.heap.size + 2) 25 [.slice (some ⟨gA,oA,none⟩) al.length c1,.int .i64 0,(.slice none 0 0),(.slice ME E.length mE)],rfl,(HF.out _ _ _ _ _ _ _ _).symm,((S3.out.pick [2,3,0,1,4,5] (by decide)).no : Sep w.heap.size w [eNo,eEds (E) (.slice ME E.length mE),eBlk (w.heap.size + 2) 25 [.slice (some ⟨gA,oA,none⟩) al.length c1,.int .i64 0,(.slice none 0 0),(.slice ME E.length mE)],eInts od2 (.slice AO2 od2.length cO2),eInts fs2 (.slice AF2 fs2.length cF2),eBlk (w.heap.size + 1) 25 [.slice none 0 0,.int .i64 0,.slice none 0 0,.slice none 0 0],eBlk w.heap.size 25 [.slice (some ⟨gA,oA,none⟩) al.length c1,.int .i64 ↑N,.slice A2 mr.length c2,.slice A3 ed.length c3]] w3),trivial,(fun h => nomatch h),(fun h => nomatch h),(fun h => nomatch h),(fun h => nomatch h),(fun h => nomatch h),(fun h => nomatch h),(fun h => nomatch h),(fun h => nomatch h),(fun h => nomatch h),(fun h => nomatch h),(fun h => nomatch h),(fun h => nomatch h),(fun h => nomatch h),(fun h => nomatch h),(fun _ => rfl),(fun h => nomatch h),(fun _ => rfl),(fun h => nomatch h),(fun _ => rfl),(fun h => nomatch h)⟩
     · obtain rfl : k = al.length := by omega
       have hkl' : decide ((al.length : Int) < (al.length : Int)) = false := decide_eq_false (by omega);have B2 : Hid (Bld (clsV c) (outK ⟨al,↑N,mr,ed⟩ fun _ => true) 0 (i + 1) 0 fs E) := by
        have h := B.out;rw [List.take_length] at h;have e2 := outK_eq (a := ⟨al,↑N,mr,ed⟩) HR.out hsr.1;rw [show outA ⟨al,↑N,mr,ed⟩ s al = (outK ⟨al,↑N,mr,ed⟩ fun _ => true) s from e2.symm] at h;exact h.next FS.out
       have a0 := BlkAt.cell (S.out.get 5 rfl) 0; simp only [List.getElem?_cons_succ,List.getElem?_cons_zero] at a0;clear B;go_wp2_with fail
       go_roundw
       case rel => exact ⟨i + 1,fs,od,E,AF,cF,AO,cO,vE,by go_num,rfl,rfl,hif,hfs,by omega,HOD.out,B2.out,RG.out,S.out⟩
       case measure => simp [intOf]; omega
  · obtain rfl : i = fs.length := by omega
    have hlo' : decide ((fs.length : Int) < (od.length : Int)) = false := decide_eq_false (by have := HOL.out; omega);have hloN : decide (fs.length < od.length) = false := decide_eq_false (by have := HOL.out; omega);obtain ⟨L,hL⟩ : ∃ L,L = fs.length := ⟨_,rfl⟩;have HLL := Lib.hid hL;have HOLL : Hid (od.length = L) := by rw [Hid,hL]; exact HOL.out
    have hEl2 : E.length ≤ 140737488355328 := by omega
    have hL4 : L ≤ 4096 := by omega
    clear hL;obtain ⟨ME,mE,rfl⟩ := S.out.form 2 rfl;have o1 := BlkAt.cell (S.out.get 3 rfl) 1; have of1 := BlkAt.free (S.out.get 3 rfl) 1; simp only [List.getElem?_cons_succ,List.getElem?_cons_zero] at o1;go_upto_region 20 with fail
    refine wp_world (fun V => (Sep w.heap.size w [eInts [] (.slice none 0 0),eInts od (.slice AO od.length cO),eInts fs (.slice AF fs.length cF),eEds (E) (.slice ME E.length mE),eBlk (w.heap.size + 2) 25 [.slice A1 al.length c1,.int .i64 (od.length : Int),(.slice none 0 0),(.slice ME E.length mE)],eBlk (w.heap.size + 1) 25 [.slice none 0 0,.int .i64 0,.slice none 0 0,.slice none 0 0],eBlk w.heap.size 25 [.slice A1 al.length c1,.int .i64 ↑N,.slice A2 mr.length c2,.slice A3 ed.length c3]] V)) ?_ fun W5 S' => ?_
    · exact (S.out.set 3 rfl 1 (.int .i64 (od.length : Int))).nilOwn encI 1 3
    have S5 : (SepW w [eInts [] (.slice none 0 0),eInts od (.slice AO od.length cO),eInts fs (.slice AF fs.length cF),eEds (E) (.slice ME E.length mE),eBlk (w.heap.size + 2) 25 [.slice A1 al.length c1,.int .i64 ↑L,(.slice none 0 0),(.slice ME E.length mE)],eBlk (w.heap.size + 1) 25 [.slice none 0 0,.int .i64 0,.slice none 0 0,.slice none 0 0],eBlk w.heap.size 25 [.slice A1 al.length c1,.int .i64 ↑N,.slice A2 mr.length c2,.slice A3 ed.length c3]] W5) := by
     have h := S';rw [show ((od.length : Nat) : Int) = (L : Int) by rw [HOLL.out]] at h;exact h
    clear S' S o1 of1;go_wp2_with fail
    go_loopw [12] (fun v wr => ∃ (j : Nat) (M : List Int) (vM : Value),v = .int .i64 ↑j ∧ j ≤ L ∧ M.length ≤ j ∧ Hid (Mks (· ∈ mr) fs j M) ∧ (SepW w [eInts M vM,eInts od (.slice AO od.length cO),eInts fs (.slice AF fs.length cF),eEds (E) (.slice ME E.length mE),eBlk (w.heap.size + 2) 25 [.slice A1 al.length c1,.int .i64 ↑L,vM,(.slice ME E.length mE)],eBlk (w.heap.size + 1) 25 [.slice none 0 0,.int .i64 0,.slice none 0 0,.slice none 0 0],eBlk w.heap.size 25 [.slice A1 al.length c1,.int .i64 ↑N,.slice A2 mr.length c2,.slice A3 ed.length c3]] wr)) (fun v _ => L - (intOf v).toNat)
    case atStart => exact ⟨0,[],_,rfl,Nat.zero_le _,Nat.le_refl _,Mks.start _ _,S5.out⟩
    case round =>
     clear S5;obtain ⟨j,M,vM,rfl,hj,hMl,K,S⟩ := hrel;by_cases hjl : j < L
     · have hjo : j < od.length := by rw [HOLL.out]; exact hjl
       have hjo' : decide ((j : Int) < (od.length : Int)) = true := decide_eq_true (by omega);have hjf : j < fs.length := by rw [← HLL.out]; exact hjl
       obtain ⟨u,hu⟩ : ∃ u,fs[j]? = some u := ⟨_,List.getElem?_eq_getElem hjf⟩;have FU := Lib.hid hu;clear hu;obtain ⟨gf,of,u',rfl,_,_,_⟩ := IntsAt.at (S.out.ints 2 rfl) hjf;obtain ⟨q,hq⟩ : ∃ q,decide (u ∈ mr) = q := ⟨_,rfl⟩;have HQ := Lib.hid hq;clear hq;go_upto_region 23 with fail
       go_cut [110] (fun v wx => v = .bool q ∧ (SepW w [eInts M vM,eInts od (.slice AO od.length cO),eInts fs (.slice (some ⟨gf,of,none⟩) fs.length cF),eEds (E) (.slice ME E.length mE),eBlk (w.heap.size + 2) 25 [.slice A1 al.length c1,.int .i64 ↑L,vM,(.slice ME E.length mE)],eBlk (w.heap.size + 1) 25 [.slice none 0 0,.int .i64 0,.slice none 0 0,.slice none 0 0],eBlk w.heap.size 25 [.slice A1 al.length c1,.int .i64 ↑N,.slice A2 mr.length c2,.slice A3 ed.length c3]] wx))
       case first =>
        have S4 := Lib.hid S.out.drew;refine wp_region_held_drew (S := (fun V => Sep w.heap.size w [eInts fs (.slice (some ⟨gf,of,none⟩) fs.length cF),eBlk w.heap.size 25 [.slice A1 al.length c1,.int .i64 ↑N,.slice A2 mr.length c2,.slice A3 ed.length c3]] V)) (by kernel_rfl) ?_ (fun hH => ?_)
        · exact S4.out.pick [2,6] (by decide)
        generalize hwz : wr.drew = w4 at *;clear hwz;refine tkH 0 rfl (v := ?_) (by kernel_rfl) ?_ hH ?_;rotate_left
        · intro V hs_;have a0 := ckC hs_ 1 rfl 0 rfl;have a1 := ckC hs_ 1 rfl 1 rfl;have a2 := ckC hs_ 1 rfl 2 rfl;have a3 := ckC hs_ 1 rfl 3 rfl;clear hs_;first | (go_simp; done) | (go_simp; with_reducible rfl)
        (try simp only [sx]);refine tkP 1 rfl (v := ?_) hH ?_;(try simp only [sx]);refine tkP 2 rfl (v := ?_) hH ?_;(try simp only [sx]);refine tkP 3 rfl (v := ?_) hH ?_;(try simp only [sx]);refine tkH 4 rfl (v := ?_) (by kernel_rfl) ?_ hH ?_;rotate_left
        · intro V hs_;have z4 := (Sep.intAt (show Sep w.heap.size w _ V from hs_) 0 rfl FU.out);clear hs_;first | (go_simp; done) | (go_simp; with_reducible rfl)
        (try simp only [sx]);refine rdH 5 rfl fun K hK => ?_;go_simp;refine (marked8_d ⟨al,↑N,mr,ed⟩ ⟨A1,c1,A2,c2,A3,c3⟩ u q w4 (HA.out.below S4.out.below).mr HA.out.lmk HQ.out).mono ?_;rintro e w5 ⟨rfl,hb⟩;have S5 := Lib.hid (S4.out.next hb);clear hb;refine hK.out _ _ (S5.out.pick [2,6] (by decide)) fun hH => ?_;clear hK K;(try simp only [sx]);refine wpAnyH_done (by kernel_rfl) ?_ _;have S9 := S5;go_wp2_with fail
        go_meet
        exact ⟨rfl,S9.out⟩
       case rest =>
        clear S;obtain ⟨rfl,S⟩ := hcut;cases q
        · have hm : ¬ u ∈ mr := of_decide_eq_false HQ.out;have K2 := Lib.hid (K.out.no FU.out hm);clear hm K;go_wp2_with fail
          go_roundw
          case rel => exact ⟨j + 1,M,vM,by go_num,hjl,by omega,K2.out,S.out⟩
          case measure => simp [intOf]; omega
        · have hm : u ∈ mr := of_decide_eq_true HQ.out;have K2 := Lib.hid (K.out.yes FU.out hm);clear hm K;obtain ⟨M2,m2,rfl⟩ := S.out.form 0 rfl;have b2 := ckC S.out 4 rfl 2 rfl;go_wp2_with (at_builtin; refine wpList_pushS rfl _ _ 22 rfl (S.out.alloc 3 [.int .i64 ↑j]) 1 rfl Try.underlying22 _ 8 intInfo rfl (by decide) rfl (j : Int) _ rfl rfl (one_cell _ _ [_] _ rfl) (encI_one _) (by omega) (by decide) ?_)
          intro A5 c5 w6 S9 _;have S10 := Lib.hid S9.drop1;clear S9 b2 S;have b2 := ckC S10.out 4 rfl 2 rfl;have f2 := BlkAt.free (S10.out.get 4 rfl) 2;go_wp2_with fail
          go_roundw
          case rel => exact ⟨j + 1,M ++ [(j : Int)],_,by go_num,hjl,by rw [List.length_append]; simp; omega,K2.out,S10.out.set 4 rfl 2 _⟩
          case measure => simp [intOf]; omega
     · obtain rfl : j = L := by omega
       have hjo' : decide ((j : Int) < (od.length : Int)) = false := decide_eq_false (by have := HOLL.out; omega);have hjoN : decide (j < od.length) = false := decide_eq_false (by have := HOLL.out; omega);obtain ⟨M2,m2,rfl⟩ := S.out.form 0 rfl;have o0 := BlkAt.cell (S.out.get 4 rfl) 0; have o1 := BlkAt.cell (S.out.get 4 rfl) 1; have o2 := BlkAt.cell (S.out.get 4 rfl) 2; have o3 := BlkAt.cell (S.out.get 4 rfl) 3; simp only [List.getElem?_cons_succ,List.getElem?_cons_zero] at o0 o1 o2 o3;have z0 := BlkAt.cell (S.out.get 5 rfl) 0; have z1 := BlkAt.cell (S.out.get 5 rfl) 1; have z2 := BlkAt.cell (S.out.get 5 rfl) 2; have z3 := BlkAt.cell (S.out.get 5 rfl) 3; have zf0 := BlkAt.free (S.out.get 5 rfl) 0; have zf1 := BlkAt.free (S.out.get 5 rfl) 1; have zf2 := BlkAt.free (S.out.get 5 rfl) 2; have zf3 := BlkAt.free (S.out.get 5 rfl) 3; simp only [List.getElem?_cons_succ,List.getElem?_cons_zero] at z0 z1 z2 z3;have hML : M.length ≤ 140737488355328 := by omega
       have K2 : Hid (Mks (· ∈ mr) fs fs.length M) := by rw [← HLL.out]; exact K.out
       have FIN : Hid (Built (clsV c) (outK ⟨al,↑N,mr,ed⟩ fun _ => true) 0 ⟨al,(fs.length : Nat),M,E⟩ fs) := B.out.built (Nat.le_refl _) al M HR.out.al (by omega) K2.out.set (fun v hv x hx => by
        obtain ⟨e',t'⟩ := x;obtain ⟨g1,g2,_⟩ := (mem_outK HR.out (RG.out v hv).1).1 hx;exact HR.out.ev_al (by rw [g1]; exact g2)) (fun v _ => outK_ups HR.out _ v)
       have MK := Lib.hid K2.out.fin;have S9 := Lib.hid ((((S.out.set 5 rfl 0 (.slice A1 al.length c1)).set 5 rfl 1 (.int .i64 ↑j)).set 5 rfl 2 (.slice M2 M.length m2)).set 5 rfl 3 (.slice ME E.length mE));have t0 := BlkAt.cell (S9.out.get 5 rfl) 0;have t1 := BlkAt.cell (S9.out.get 5 rfl) 1;have t2 := BlkAt.cell (S9.out.get 5 rfl) 2;have t3 := BlkAt.cell (S9.out.get 5 rfl) 3;simp only [List.set_cons_succ,List.set_cons_zero,List.getElem?_cons_succ,List.getElem?_cons_zero] at t0 t1 t2 t3;go_wp2_with fail
       refine bodyPost_ret (v := .agg #[.slice A1 al.length c1,.int .i64 ↑j,.slice M2 M.length m2,.slice ME E.length mE]) (by simp [results,Try.results27,go_sem, *]) rfl ?_;exact ⟨⟨al,(j : Int),M,E⟩,M2,ME,m2,mE,rfl,S9.out.pick [0,3] (by decide),⟨by show al.length ≤ _; omega,hML,hEl2⟩,rfl,rfl,.inr ⟨fs,by rw [HLL.out]; exact FIN.out,RG.out,MK.out⟩⟩
end
end Go.Proofs.Ytjjifefanjnghaa
