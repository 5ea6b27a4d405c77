/-
  language.Count of a right automaton.
  Plain: the examples of the chapter.
  language.Intersect, Union, Difference, Complement of right automata.
  overseerref01.Same.
  overseerlaw09.known: the examples of the chapter are as it says.
  Sets of events by bits.
  The laid variables of the rows: what they give the walks, and a start that meets them.
-/
import Derived.Test.YtkifgffhoenaoaaDoorBas09
import Derived.Test.YtkifgffhoenaoaaDoorBas17
import Derived.Test.YtkifgffhoenaoaaDoorBas05
import Derived.Test.YtkifgffhoenaoaaDoorBas04
import Derived.BigRegion
import Derived.Deep.DeepCutAuto
import Derived.Laws.IdiomStrings
import Derived.RegionTactic
import Derived.Test.YtkifgffhoenaoaaDoorRows
import Derived.Test.YtkifgffhoenaoaaDoorTie
import Derived.Test.YtkifgffhoenaoaaDoorCards
import Derived.Test.YtkifgffhoenaoaaDoorBas14
import Derived.WalkKit
import Derived.ProofKit
import Derived.OpenShut
import Derived.ChangeOld
import Derived.Handy
import Derived.Lay
import Derived.SevenTiedAt
set_option linter.unusedSimpArgs false
set_option linter.unusedVariables false
namespace Go.Proofs.YtkifgffhoenaoaaDoor
open Go.RowKit
set_option maxRecDepth 100000
section
attribute [local go_sem] Oper.semAt_some

def cnt (a : Au) (kind : Int) (k : Nat) : Nat := cntL a (fun s => inV a s kind) k
theorem inV_none (a : Au) (kind : Int) : inV a (-1) kind = false := rfl
def GivesCt (a : Au) (kind : Int) (len : Nat) (w : World) (e : Ending) (w' : World) : Prop :=
 (∃ A c,e = .returned (.tuple #[.slice A (len + 1) c,.int .i64 0]) ∧ Hid (Sep w.heap.size w [eInts ((List.range (len + 1)).map fun j => ((cnt a kind j : Nat) : Int)) (.slice A (len + 1) c)] w') ∧ Hid (∀ j,j ≤ len → cnt a kind j ≤ 1125899906842624)) ∨
 (e = .returned (.tuple #[.slice none 0 0,.int .i64 3]) ∧ Below w.heap.size w w' ∧ Hid (∃ j,j ≤ len ∧ 1125899906842624 < cnt a kind j))
set_option maxHeartbeats 16000000 in
theorem count_c (a : Au) (p : AuP) (kind : Int) (len : Nat) (w : World) (hr : a.Right) (hA : Au.At w a p) (hk : kind = 1 ∨ kind = 2) (hlen : len ≤ 32) :
 Calls Tryd.prog 18 #[a.val p,.int .i64 kind,.int .i64 (len : Int)] w (GivesCt a kind len w) := by
 have h0 := hr.n0
 have hn := hr.n1
 have HR := Lib.hid hr
 have HA := Lib.hid hA
 obtain ⟨al,n,mr,ed⟩ := a
 obtain ⟨A1,c1,A2,c2,A3,c3⟩ := p
 obtain ⟨N,rfl⟩ := Int.eq_ofNat_of_zero_le h0
 dsimp only [Au.val] at hn ⊢
 clear hr hA h0
 refine calls_marks Tryd.func18 rfl ?_
 simp only [Tryd.ntmps18,List.size_toArray,List.length_cons,List.length_nil,Nat.reduceAdd,Nat.reduceSub,Array.replicate_succ,Array.replicate_zero,List.push_toArray,List.append_toArray,List.nil_append,List.cons_append]
 go_upto_region 1 with fail
 refine wp_world (fun W => Sep w.heap.size w [eBlk (w.heap.size + 4) 38 [.int .i64 0],eBlk (w.heap.size + 3) 32 [.slice none 0 0],eBlk (w.heap.size + 2) 3 [.int .i64 (len : Int)],eBlk (w.heap.size + 1) 3 [.int .i64 kind],eBlk w.heap.size 35 [.slice A1 al.length c1,.int .i64 (N : Int),.slice A2 mr.length c2,.slice A3 ed.length c3]] W) ?_ fun W S => ?_
 · exact (((((Sep.here w).alloc' _ [_,_,_,_] rfl rfl).alloc' _ [_] rfl (by simp)).alloc' _ [_] rfl (by simp)).alloc' _ [_] rfl (by simp)).alloc' _ [_] rfl (by simp)
 have S0 := Lib.hid S
 clear S
 have k0 := ckC S0.out 3 rfl 0 rfl
 have a0 := ckC S0.out 4 rfl 0 rfl
 have a1 := ckC S0.out 4 rfl 1 rfl
 have a2 := ckC S0.out 4 rfl 2 rfl
 have a3 := ckC S0.out 4 rfl 3 rfl
 go_wp2_with fail
 have CK : SlAt AuE 4 (W.alloc (.cells (auCells ⟨al,(N : Int),mr,ed⟩ ⟨A1,c1,A2,c2,A3,c3⟩).toArray 35)) (some ⟨W.heap.size,0,none⟩) [⟨al,(N : Int),mr,ed⟩] := fun _ => ⟨W.heap.size,0,rfl,by simp,fun i x hx => by
  have hi := (List.getElem?_eq_some_iff.1 hx).1
  simp only [List.length_cons,List.length_nil] at hi
  obtain rfl : i = 0 := by omega
  obtain rfl : (⟨al,(N : Int),mr,ed⟩ : Au) = x := by simpa using hx
  refine ⟨_,rfl,⟨⟨A1,c1,A2,c2,A3,c3⟩,rfl,(HA.out.below S0.out.below).below (Below.new W _)⟩,fun j v hj => ?_⟩
  have := (new_cell W 35 _ _ _ rfl).trans hj
  simpa using this⟩
 refine (check_c (some ⟨W.heap.size,0,none⟩) 1 [⟨al,(N : Int),mr,ed⟩] kind _ CK (by simp) (fun x hx => by rw [List.mem_singleton.1 hx]; exact HR.out) hk).mono ?_
 rintro e w1 ⟨rfl,hb⟩
 have S1 : Hid (Sep w.heap.size w [eBlk (w.heap.size + 4) 38 [.int .i64 0],eBlk (w.heap.size + 3) 32 [.slice none 0 0],eBlk (w.heap.size + 2) 3 [.int .i64 (len : Int)],eBlk (w.heap.size + 1) 3 [.int .i64 kind],eBlk w.heap.size 35 [.slice A1 al.length c1,.int .i64 (N : Int),.slice A2 mr.length c2,.slice A3 ed.length c3]] w1) := (S0.out.next (Below.new W _)).next hb
 clear S0 hb CK a0 a1 a2 a3 k0
 have l0 := ckC S1.out 2 rfl 0 rfl
 have a0 := ckC S1.out 4 rfl 0 rfl
 have a1 := ckC S1.out 4 rfl 1 rfl
 have a2 := ckC S1.out 4 rfl 2 rfl
 have a3 := ckC S1.out 4 rfl 3 rfl
 have e1 : decide ((32 : Int) < (len : Int)) = false := by simp; omega
 have e2 : decide ((len : Int) < 0) = false := by simp
 go_wp2_with fail
 refine (open_c ⟨al,(N : Int),mr,ed⟩ ⟨A1,c1,A2,c2,A3,c3⟩ w1 (HA.out.below S1.out.below)).mono ?_
 rintro e w2 ⟨mx,m1,m2,rfl,hz,HM,hb⟩
 have S2 : Hid (Sep w.heap.size w [eMach mx m1 m2 (⟨al,(N : Int),mr,ed⟩ : Au),eBlk (w.heap.size + 4) 38 [.int .i64 0],eBlk (w.heap.size + 3) 32 [.slice none 0 0],eBlk (w.heap.size + 2) 3 [.int .i64 (len : Int)],eBlk (w.heap.size + 1) 3 [.int .i64 kind],eBlk w.heap.size 35 [.slice A1 al.length c1,.int .i64 (N : Int),.slice A2 mr.length c2,.slice A3 ed.length c3]] w2) := S1.out.newMach hb hz.1 hz.2.1 hz.2.2 HM.out
 clear S1 hb hz HM l0 a0 a1 a2 a3
 obtain ⟨xb,hxb⟩ : ∃ g,g = w2.heap.size := ⟨_,rfl⟩
 obtain ⟨ob,hob⟩ : ∃ g,g = xb + 1 := ⟨_,rfl⟩
 go_upto_region 8 with fail
 rw [← hxb,← hob]
 refine wp_world (fun V => Sep w.heap.size w [eBlk ob 32 [.slice none 0 0],eBlk xb 71 [.pointer (some ⟨mx,0,none⟩)],eMach mx m1 m2 (⟨al,(N : Int),mr,ed⟩ : Au),eBlk (w.heap.size + 4) 38 [.int .i64 0],eBlk (w.heap.size + 3) 32 [.slice none 0 0],eBlk (w.heap.size + 2) 3 [.int .i64 (len : Int)],eBlk (w.heap.size + 1) 3 [.int .i64 kind],eBlk w.heap.size 35 [.slice A1 al.length c1,.int .i64 (N : Int),.slice A2 mr.length c2,.slice A3 ed.length c3]] V) ((S2.out.alloc' _ [_] rfl hxb).alloc' _ [_] (g := ob) rfl (by simp; omega)) fun W3 S' => ?_
 have S3 := Lib.hid S'
 clear S' S2 hxb hob
 have a0 := ckC S3.out 7 rfl 0 rfl
 have a1 := ckC S3.out 7 rfl 1 rfl
 have a2 := ckC S3.out 7 rfl 2 rfl
 have a3 := ckC S3.out 7 rfl 3 rfl
 go_wp2_with fail
 refine (ways_c ⟨al,(N : Int),mr,ed⟩ ⟨A1,c1,A2,c2,A3,c3⟩ 1125899906842625 W3).mono ?_
 rintro e w4 ⟨ba,bl,rfl,TT⟩
 have S4 : Hid (Sep w.heap.size w [eBlk bl 3 [.int .i64 ((1125899906842625 : Nat) : Int)],eBlk ba 35 (auCells ⟨al,(N : Int),mr,ed⟩ ⟨A1,c1,A2,c2,A3,c3⟩),eBlk ob 32 [.slice none 0 0],eInts [] (.slice none 0 0),eBlk xb 71 [.pointer (some ⟨mx,0,none⟩)],eMach mx m1 m2 (⟨al,(N : Int),mr,ed⟩ : Au),eBlk (w.heap.size + 4) 38 [.int .i64 0],eBlk (w.heap.size + 3) 32 [.slice none 0 0],eBlk (w.heap.size + 2) 3 [.int .i64 (len : Int)],eBlk (w.heap.size + 1) 3 [.int .i64 kind],eBlk w.heap.size 35 [.slice A1 al.length c1,.int .i64 (N : Int),.slice A2 mr.length c2,.slice A3 ed.length c3]] w4) := (S3.out.news TT.out).nilOwn encI 1 3 |>.pick [1,2,3,0,4,5,6,7,8,9,10] (by decide)
 clear S3 TT a0 a1 a2 a3
 go_wp2_with fail
 obtain ⟨RR,hRR⟩ : ∃ RR : Nat → List Ent → Prop,Hid (∀ k es,RR k es ↔ (k ≤ len ∧ (∀ j,j < k → cnt (⟨al,(N : Int),mr,ed⟩ : Au) kind j ≤ 1125899906842624) ∧ ∃ AO cO,es = [eBlk bl 3 [.int .i64 ((1125899906842625 : Nat) : Int)],eBlk ba 35 (auCells ⟨al,(N : Int),mr,ed⟩ ⟨A1,c1,A2,c2,A3,c3⟩),eBlk ob 32 [.slice AO k cO],eInts ((List.range k).map fun jj => ((cnt (⟨al,(N : Int),mr,ed⟩ : Au) kind jj : Nat) : Int)) (.slice AO k cO),eBlk xb 71 [.pointer (some ⟨mx,0,none⟩)],eMach mx m1 m2 (⟨al,(N : Int),mr,ed⟩ : Au),eBlk (w.heap.size + 4) 38 [.int .i64 0],eBlk (w.heap.size + 3) 32 [.slice none 0 0],eBlk (w.heap.size + 2) 3 [.int .i64 (len : Int)],eBlk (w.heap.size + 1) 3 [.int .i64 kind],eBlk w.heap.size 35 [.slice A1 al.length c1,.int .i64 (N : Int),.slice A2 mr.length c2,.slice A3 ed.length c3]])) := ⟨_,fun _ _ => Iff.rfl⟩
 obtain ⟨RX,hRX⟩ : ∃ RX : Code → List Ent → Prop,Hid (∀ c es,RX c es ↔ ((c = .exit 0 ∧ (∀ j,j ≤ len → cnt (⟨al,(N : Int),mr,ed⟩ : Au) kind j ≤ 1125899906842624) ∧ ∃ AO cO,es = [eBlk bl 3 [.int .i64 ((1125899906842625 : Nat) : Int)],eBlk ba 35 (auCells ⟨al,(N : Int),mr,ed⟩ ⟨A1,c1,A2,c2,A3,c3⟩),eBlk ob 32 [.slice AO (len + 1) cO],eInts ((List.range (len + 1)).map fun jj => ((cnt (⟨al,(N : Int),mr,ed⟩ : Au) kind jj : Nat) : Int)) (.slice AO (len + 1) cO),eBlk xb 71 [.pointer (some ⟨mx,0,none⟩)],eMach mx m1 m2 (⟨al,(N : Int),mr,ed⟩ : Au),eBlk (w.heap.size + 4) 38 [.int .i64 0],eBlk (w.heap.size + 3) 32 [.slice none 0 0],eBlk (w.heap.size + 2) 3 [.int .i64 (len : Int)],eBlk (w.heap.size + 1) 3 [.int .i64 kind],eBlk w.heap.size 35 [.slice A1 al.length c1,.int .i64 (N : Int),.slice A2 mr.length c2,.slice A3 ed.length c3]]) ∨ (c = .ret ∧ (∃ j,j ≤ len ∧ 1125899906842624 < cnt (⟨al,(N : Int),mr,ed⟩ : Au) kind j) ∧ ∃ l v,es = [eBlk bl 3 [.int .i64 ((1125899906842625 : Nat) : Int)],eBlk ba 35 (auCells ⟨al,(N : Int),mr,ed⟩ ⟨A1,c1,A2,c2,A3,c3⟩),eBlk ob 32 [v],eInts l v,eBlk xb 71 [.pointer (some ⟨mx,0,none⟩)],eMach mx m1 m2 (⟨al,(N : Int),mr,ed⟩ : Au),eBlk (w.heap.size + 4) 38 [.int .i64 3],eBlk (w.heap.size + 3) 32 [.slice none 0 0],eBlk (w.heap.size + 2) 3 [.int .i64 (len : Int)],eBlk (w.heap.size + 1) 3 [.int .i64 kind],eBlk w.heap.size 35 [.slice A1 al.length c1,.int .i64 (N : Int),.slice A2 mr.length c2,.slice A3 ed.length c3]]))) := ⟨_,fun _ _ => Iff.rfl⟩
 refine wp_rangeFunc_upd1 (enc := fun x : Nat × Nat => .slice (some ⟨x.1,0,none⟩) N N) (rfl) (fun _ _ => rfl) 0 (ways_iter ⟨al,(N : Int),mr,ed⟩ ⟨A1,c1,A2,c2,A3,c3⟩ 1125899906842625 ba bl w.heap.size 0 w _ HR.out HA.out.ed rfl (by decide) (by decide)) RR RX S4.out ((hRR.out _ _).2 ⟨Nat.zero_le _,fun j hj => absurd hj (Nat.not_lt_zero j),none,0,rfl⟩) (fun k es hes => ?_)
  (fun a x _ => { tmps := (a.tmps.setIfInBounds 32 (.slice (some ⟨x.1,0,none⟩) N N)).setIfInBounds 11 (.slice (some ⟨x.1,0,none⟩) N N),defers := [] }) (fun _ _ => []) ?_ ?_ ?_ ?_
 · obtain ⟨hkl,_,AO,cO,rfl⟩ := (hRR.out _ _).1 hes
   refine ⟨by omega,fun e he => ?_⟩
   simp only [List.mem_cons,List.not_mem_nil,or_false] at he
   rcases he with rfl | rfl
   · exact List.mem_of_getElem? (i := 0) rfl
   · exact List.mem_of_getElem? (i := 1) rfl
 · clear S4
   rintro l eL eD k x es1 W KK hx hes SW hK
   have HK2 := Lib.hid hK
   have S1 := Lib.hid SW
   clear hK SW
   simp only [List.setIfInBounds_toArray,List.set_cons_succ,List.set_cons_zero]
   gi_wp2
   exact HK2.out 0 W S1.out
 · clear S4
   rintro l eL eD k x es1 bxx W hx hes SW
   obtain ⟨hkl,hcn,AO,cO,rfl⟩ := (hRR.out _ _).1 hes
   obtain ⟨g,k'⟩ := x
   obtain rfl : k = k' := Eq.symm hx
   have HCN := Lib.hid hcn
   have S1 : Hid (Sep w.heap.size w [eBlk g 3 (mkI N (wv (⟨al,(N : Int),mr,ed⟩ : Au) 1125899906842625 k)),eL,eD,eBlk bl 3 [.int .i64 ((1125899906842625 : Nat) : Int)],eBlk ba 35 (auCells ⟨al,(N : Int),mr,ed⟩ ⟨A1,c1,A2,c2,A3,c3⟩),eBlk ob 32 [.slice AO k cO],eInts ((List.range k).map fun jj => ((cnt (⟨al,(N : Int),mr,ed⟩ : Au) kind jj : Nat) : Int)) (.slice AO k cO),eBlk xb 71 [.pointer (some ⟨mx,0,none⟩)],eMach mx m1 m2 (⟨al,(N : Int),mr,ed⟩ : Au),eBlk (w.heap.size + 4) 38 [.int .i64 0],eBlk (w.heap.size + 3) 32 [.slice none 0 0],eBlk (w.heap.size + 2) 3 [.int .i64 (len : Int)],eBlk (w.heap.size + 1) 3 [.int .i64 kind],eBlk w.heap.size 35 [.slice A1 al.length c1,.int .i64 (N : Int),.slice A2 mr.length c2,.slice A3 ed.length c3]] W) := SW
   clear SW hes hcn
   simp only [List.setIfInBounds_toArray,List.set_cons_succ,List.set_cons_zero]
   have hPk : cnt (⟨al,(N : Int),mr,ed⟩ : Au) kind k = sumB (fun s => ledV (⟨al,(N : Int),mr,ed⟩ : Au) k s) (fun s => inV (⟨al,(N : Int),mr,ed⟩ : Au) s kind) N := (sumB_cnt HR.out (fun s => inV (⟨al,(N : Int),mr,ed⟩ : Au) s kind) (inV_none _ _) k).symm
   have HPK := Lib.hid hPk
   clear hPk
   gi_wp2
   gi_loopw [12,35] (fun v12 v35 wr => ∃ (j sj : Nat),v35 = .int .i64 j ∧ j ≤ N ∧ v12 = .int .i64 sj ∧ Hid (sj = min (sumB (fun s => ledV (⟨al,(N : Int),mr,ed⟩ : Au) k s) (fun s => inV (⟨al,(N : Int),mr,ed⟩ : Au) s kind) j) 1125899906842625) ∧ Hid (Sep w.heap.size w [eBlk g 3 (mkI N (wv (⟨al,(N : Int),mr,ed⟩ : Au) 1125899906842625 k)),eL,eD,eBlk bl 3 [.int .i64 ((1125899906842625 : Nat) : Int)],eBlk ba 35 (auCells ⟨al,(N : Int),mr,ed⟩ ⟨A1,c1,A2,c2,A3,c3⟩),eBlk ob 32 [.slice AO k cO],eInts ((List.range k).map fun jj => ((cnt (⟨al,(N : Int),mr,ed⟩ : Au) kind jj : Nat) : Int)) (.slice AO k cO),eBlk xb 71 [.pointer (some ⟨mx,0,none⟩)],eMach mx m1 m2 (⟨al,(N : Int),mr,ed⟩ : Au),eBlk (w.heap.size + 4) 38 [.int .i64 0],eBlk (w.heap.size + 3) 32 [.slice none 0 0],eBlk (w.heap.size + 2) 3 [.int .i64 (len : Int)],eBlk (w.heap.size + 1) 3 [.int .i64 kind],eBlk w.heap.size 35 [.slice A1 al.length c1,.int .i64 (N : Int),.slice A2 mr.length c2,.slice A3 ed.length c3]] wr)) (fun _ v35 _ => N - (intOf v35).toNat)
   case atStart => exact ⟨0,0,rfl,Nat.zero_le _,rfl,by simp [Hid,sumB],S1.out⟩
   case round =>
    clear S1
    obtain ⟨j,sj,rfl,hj,rfl,HSJ,S⟩ := hrel
    by_cases hlt : j < N
    · obtain ⟨c,hc⟩ : ∃ c : Nat,c = min (ledV (⟨al,(N : Int),mr,ed⟩ : Au) k (j : Int)) 1125899906842625 := ⟨_,rfl⟩
      have gc := (BlkAt.cell (S.out.get 0 rfl) j).trans (mkI_get hlt)
      rw [show wv (⟨al,(N : Int),mr,ed⟩ : Au) 1125899906842625 k j = (c : Int) by unfold wv; rw [hc]] at gc
      have xbc := BlkAt.cell (S.out.get 7 rfl) 0
      have kbc := BlkAt.cell (S.out.get 12 rfl) 0
      simp only [List.getElem?_cons_zero] at xbc kbc
      obtain ⟨q,hq⟩ : ∃ q,q = inV (⟨al,(N : Int),mr,ed⟩ : Au) (j : Int) kind := ⟨_,rfl⟩
      have HMI := Lib.hid (min_c mx (⟨al,(N : Int),mr,ed⟩ : Au) (j : Int) kind wr (S.out.get 8 rfl).mach)
      rw [← hq] at HMI
      have HST : Hid (min (sumB (fun s => ledV (⟨al,(N : Int),mr,ed⟩ : Au) k s) (fun s => inV (⟨al,(N : Int),mr,ed⟩ : Au) s kind) (j + 1)) 1125899906842625 = if q = true then min (sj + c) 1125899906842625 else sj) := by
       unfold Hid
       rw [sumB_succ,← hq]
       have h1 := HSJ.out
       cases q
       · simp only [Bool.false_eq_true,if_false]
         omega
       · simp only [if_true]
         omega
      have hsl : sj ≤ 1125899906842625 := by have := HSJ.out; omega
      have hcl : c ≤ 1125899906842625 := by omega
      clear hc hq
      gi_wp2
      refine ⟨trivial,rfl,(CallsIn.inRound l (callsIn_wide.2 HMI.out)).mono ?_⟩
      rintro e w5 ⟨rfl,hw⟩
      subst hw
      clear gc xbc kbc HMI
      cases q
      case true =>
       obtain ⟨z,hz⟩ : ∃ z : Nat,z = min (sj + c) 1125899906842625 := ⟨_,rfl⟩
       have hwr : IntKind.i64.wrap ((sj : Int) + (c : Int)) = (sj : Int) + (c : Int) := IntWalk.i64_in _ (by omega)
       have hmin : (if (1125899906842625 : Int) < (sj : Int) + (c : Int) then (1125899906842625 : Int) else (sj : Int) + (c : Int)) = (z : Int) := by
        split <;> omega
       have hmin2 : min ((sj : Int) + (c : Int)) (1125899906842625 : Int) = (z : Int) := by omega
       have HZ : Hid (z = min (sumB (fun s => ledV (⟨al,(N : Int),mr,ed⟩ : Au) k s) (fun s => inV (⟨al,(N : Int),mr,ed⟩ : Au) s kind) (j + 1)) 1125899906842625) := by unfold Hid; rw [HST.out,if_pos rfl,hz]
       clear hz HST
       gi_wp2
       go_roundw
       case rel => exact ⟨j + 1,z,by go_num,by omega,by first | rfl | rw [hmin2],HZ.out,S.out⟩
       case measure => simp [intOf]; omega
      case false =>
       have HZ : Hid (sj = min (sumB (fun s => ledV (⟨al,(N : Int),mr,ed⟩ : Au) k s) (fun s => inV (⟨al,(N : Int),mr,ed⟩ : Au) s kind) (j + 1)) 1125899906842625) := by unfold Hid; rw [HST.out,if_neg (by simp)]
       clear HST
       gi_wp2
       go_roundw
       case rel => exact ⟨j + 1,sj,by go_num,by omega,rfl,HZ.out,S.out⟩
       case measure => simp [intOf]; omega
    · obtain rfl : j = N := by omega
      have hsum : sj = min (cnt (⟨al,(j : Int),mr,ed⟩ : Au) kind k) 1125899906842625 := by rw [HPK.out]; exact HSJ.out
      have HSUM := Lib.hid hsum
      by_cases hbig : 1125899906842624 < cnt (⟨al,(j : Int),mr,ed⟩ : Au) kind k
      · have hd : decide ((1125899906842624 : Int) < (sj : Int)) = true := by simp; omega
        have f6 := BlkAt.free (S.out.get 10 rfl) 0
        have f7 := BlkAt.free (S.out.get 9 rfl) 0
        have q6 := BlkAt.cell (S.out.get 10 rfl) 0
        have q7 := BlkAt.cell (S.out.get 9 rfl) 0
        simp only [List.getElem?_cons_zero] at q6 q7
        have S2 := (S.out.set 10 rfl 0 (.slice none 0 0)).set 9 rfl 0 (.int .i64 3)
        have S3 := Lib.hid S2
        have HB := Lib.hid hbig
        clear S2 S hsum hbig
        gi_wp2
        exact ⟨_,(hRX.out _ _).2 (.inr ⟨rfl,⟨k,hkl,HB.out⟩,_,_,rfl⟩),S3.out⟩
      · have hd : decide ((1125899906842624 : Int) < (sj : Int)) = false := by simp; omega
        have hsc : sj = cnt (⟨al,(j : Int),mr,ed⟩ : Au) kind k := by omega
        have HNB : Hid (∀ i,i < k + 1 → cnt (⟨al,(j : Int),mr,ed⟩ : Au) kind i ≤ 1125899906842624) := fun i hi => by
         by_cases e : i = k
         · subst e; omega
         · exact HCN.out i (by omega)
        obtain ⟨ls,hls⟩ : ∃ ls : List Int,ls = (List.range k).map fun j' => ((cnt (⟨al,(j : Int),mr,ed⟩ : Au) kind j' : Nat) : Int) := ⟨_,rfl⟩
        have hll : ls.length = k := by rw [hls]; simp
        have HLS : Hid (ls ++ [(sj : Int)] = (List.range (k + 1)).map fun j' => ((cnt (⟨al,(j : Int),mr,ed⟩ : Au) kind j' : Nat) : Int)) := by
         unfold Hid; rw [List.range_succ,List.map_append,← hls,hsc]; rfl
        rw [← hls] at S
        have obc := BlkAt.cell (S.out.get 5 rfl) 0
        have obf := BlkAt.free (S.out.get 5 rfl) 0
        simp only [List.getElem?_cons_zero] at obc
        clear hbig hsum hls hsc
        gi_upto_region 19 with fail
        refine wpIn_region_list (by kernel_rfl) (fun _ _ h => h) ?_
        go_wp2_with (at_builtin; refine wpList_pushS rfl _ _ 32 rfl (S.out.alloc 3 [.int .i64 (sj : Int)]) 7 rfl Tryd.underlying32 _ 8 intInfo rfl (by decide) rfl (sj : Int) _ rfl rfl (one_cell _ _ [_] _ rfl) (encI_one _) (by omega) (by decide) ?_)
        intro A5 c5 w7 S9 _
        try rw [hll] at S9
        try rw [hll]
        have S10 : Hid (Sep w.heap.size w [eBlk g 3 (mkI j (wv (⟨al,(j : Int),mr,ed⟩ : Au) 1125899906842625 k)),eL,eD,eBlk bl 3 [.int .i64 ((1125899906842625 : Nat) : Int)],eBlk ba 35 (auCells ⟨al,(j : Int),mr,ed⟩ ⟨A1,c1,A2,c2,A3,c3⟩),eBlk ob 32 [.slice AO k cO],eInts (ls ++ [(sj : Int)]) (.slice A5 (k + 1) c5),eBlk xb 71 [.pointer (some ⟨mx,0,none⟩)],eMach mx m1 m2 (⟨al,(j : Int),mr,ed⟩ : Au),eBlk (w.heap.size + 4) 38 [.int .i64 0],eBlk (w.heap.size + 3) 32 [.slice none 0 0],eBlk (w.heap.size + 2) 3 [.int .i64 (len : Int)],eBlk (w.heap.size + 1) 3 [.int .i64 kind],eBlk w.heap.size 35 [.slice A1 al.length c1,.int .i64 (j : Int),.slice A2 mr.length c2,.slice A3 ed.length c3]] w7) := S9.drop1
        clear S9 S obc obf
        have obc := BlkAt.cell (S10.out.get 5 rfl) 0
        have obf := BlkAt.free (S10.out.get 5 rfl) 0
        simp only [List.getElem?_cons_zero] at obc
        have S11 : Hid (Sep w.heap.size w [eBlk g 3 (mkI j (wv (⟨al,(j : Int),mr,ed⟩ : Au) 1125899906842625 k)),eL,eD,eBlk bl 3 [.int .i64 ((1125899906842625 : Nat) : Int)],eBlk ba 35 (auCells ⟨al,(j : Int),mr,ed⟩ ⟨A1,c1,A2,c2,A3,c3⟩),eBlk ob 32 [.slice A5 (k + 1) c5],eInts (ls ++ [(sj : Int)]) (.slice A5 (k + 1) c5),eBlk xb 71 [.pointer (some ⟨mx,0,none⟩)],eMach mx m1 m2 (⟨al,(j : Int),mr,ed⟩ : Au),eBlk (w.heap.size + 4) 38 [.int .i64 0],eBlk (w.heap.size + 3) 32 [.slice none 0 0],eBlk (w.heap.size + 2) 3 [.int .i64 (len : Int)],eBlk (w.heap.size + 1) 3 [.int .i64 kind],eBlk w.heap.size 35 [.slice A1 al.length c1,.int .i64 (j : Int),.slice A2 mr.length c2,.slice A3 ed.length c3]] (w7.setCell ⟨ob,0,none⟩ (.slice A5 (k + 1) c5))) := S10.out.set 5 rfl 0 (.slice A5 (k + 1) c5)
        clear S10
        go_wp2_with fail
        have obc := BlkAt.cell (S11.out.get 5 rfl) 0
        have lbc := BlkAt.cell (S11.out.get 11 rfl) 0
        simp only [List.getElem?_cons_zero] at obc lbc
        have S12 : Hid (Sep w.heap.size w [eBlk g 3 (mkI j (wv (⟨al,(j : Int),mr,ed⟩ : Au) 1125899906842625 k)),eL,eD,eBlk bl 3 [.int .i64 ((1125899906842625 : Nat) : Int)],eBlk ba 35 (auCells ⟨al,(j : Int),mr,ed⟩ ⟨A1,c1,A2,c2,A3,c3⟩),eBlk ob 32 [.slice A5 (k + 1) c5],eInts ((List.range (k + 1)).map fun jj => ((cnt (⟨al,(j : Int),mr,ed⟩ : Au) kind jj : Nat) : Int)) (.slice A5 (k + 1) c5),eBlk xb 71 [.pointer (some ⟨mx,0,none⟩)],eMach mx m1 m2 (⟨al,(j : Int),mr,ed⟩ : Au),eBlk (w.heap.size + 4) 38 [.int .i64 0],eBlk (w.heap.size + 3) 32 [.slice none 0 0],eBlk (w.heap.size + 2) 3 [.int .i64 (len : Int)],eBlk (w.heap.size + 1) 3 [.int .i64 kind],eBlk w.heap.size 35 [.slice A1 al.length c1,.int .i64 (j : Int),.slice A2 mr.length c2,.slice A3 ed.length c3]] (w7.setCell ⟨ob,0,none⟩ (.slice A5 (k + 1) c5))) := by have h := S11.out; rw [HLS.out] at h; exact h
        by_cases hk1 : k < len
        · have hd2 : decide ((len : Int) < (k : Int) + 1) = false := by simp; omega
          gi_wp2
          exact ⟨_,(hRR.out _ _).2 ⟨by omega,HNB.out,A5,c5,rfl⟩,S12.out⟩
        · obtain rfl : k = len := by omega
          have hd2 : decide ((k : Int) < (k : Int) + 1) = true := by simp; omega
          gi_wp2
          exact ⟨_,(hRX.out _ _).2 (.inl ⟨rfl,fun i hi => HNB.out i (by omega),A5,c5,rfl⟩),S12.out⟩
 · intro D k es1 W h
   exact h.elim
 · rintro D c es1 W hx SW
   rcases (hRX.out _ _).1 hx with ⟨rfl,hcn,AO,cO,rfl⟩ | ⟨rfl,hcn,ls,v,rfl⟩
   · have HCN := Lib.hid hcn
     have S1 : Hid (Sep w.heap.size w ([eBlk bl 3 [.int .i64 ((1125899906842625 : Nat) : Int)],eBlk ba 35 (auCells ⟨al,(N : Int),mr,ed⟩ ⟨A1,c1,A2,c2,A3,c3⟩),eBlk ob 32 [.slice AO (len + 1) cO],eInts ((List.range (len + 1)).map fun jj => ((cnt (⟨al,(N : Int),mr,ed⟩ : Au) kind jj : Nat) : Int)) (.slice AO (len + 1) cO),eBlk xb 71 [.pointer (some ⟨mx,0,none⟩)],eMach mx m1 m2 (⟨al,(N : Int),mr,ed⟩ : Au),eBlk (w.heap.size + 4) 38 [.int .i64 0],eBlk (w.heap.size + 3) 32 [.slice none 0 0],eBlk (w.heap.size + 2) 3 [.int .i64 (len : Int)],eBlk (w.heap.size + 1) 3 [.int .i64 kind],eBlk w.heap.size 35 [.slice A1 al.length c1,.int .i64 (N : Int),.slice A2 mr.length c2,.slice A3 ed.length c3]] ++ mksE [D]) W) := Sep.marked (Ds := []) (by rw [show mksE [] = [] from rfl,List.append_nil]; exact SW)
     have obc := BlkAt.cell (S1.out.get 2 rfl) 0
     have q6 := BlkAt.cell (S1.out.get 7 rfl) 0
     have q7 := BlkAt.cell (S1.out.get 6 rfl) 0
     have f6 := BlkAt.free (S1.out.get 7 rfl) 0
     have f7 := BlkAt.free (S1.out.get 6 rfl) 0
     simp only [List.getElem?_cons_zero] at obc q6 q7
     have S2 : Hid (Sep w.heap.size w ([eBlk bl 3 [.int .i64 ((1125899906842625 : Nat) : Int)],eBlk ba 35 (auCells ⟨al,(N : Int),mr,ed⟩ ⟨A1,c1,A2,c2,A3,c3⟩),eBlk ob 32 [.slice AO (len + 1) cO],eInts ((List.range (len + 1)).map fun jj => ((cnt (⟨al,(N : Int),mr,ed⟩ : Au) kind jj : Nat) : Int)) (.slice AO (len + 1) cO),eBlk xb 71 [.pointer (some ⟨mx,0,none⟩)],eMach mx m1 m2 (⟨al,(N : Int),mr,ed⟩ : Au),eBlk (w.heap.size + 4) 38 [.int .i64 0],eBlk (w.heap.size + 3) 32 [.slice AO (len + 1) cO],eBlk (w.heap.size + 2) 3 [.int .i64 (len : Int)],eBlk (w.heap.size + 1) 3 [.int .i64 kind],eBlk w.heap.size 35 [.slice A1 al.length c1,.int .i64 (N : Int),.slice A2 mr.length c2,.slice A3 ed.length c3]] ++ mksE [D]) _) := (S1.out.set 7 rfl 0 (.slice AO (len + 1) cO)).set 6 rfl 0 (.int .i64 0)
     clear hx hcn SW S1
     change Code.wp _ _ _ { tmps := _,defers := mksD [D] } W
     go_wp2_with fail
     refine ret_marks [D] S2.out fun w' S5 => ?_
     have r6 := BlkAt.cell (S5.get 7 rfl) 0
     have r7 := BlkAt.cell (S5.get 6 rfl) 0
     simp only [List.getElem?_cons_zero] at r6 r7
     refine ⟨.tuple #[.slice AO (len + 1) cO,.int .i64 0],by simp [results,Tryd.results18,go_sem, *],?_⟩
     exact .inl ⟨AO,cO,rfl,S5.pick [3] (by decide),HCN.out⟩
   · have HCN := Lib.hid hcn
     have S1 : Hid (Sep w.heap.size w ([eBlk bl 3 [.int .i64 ((1125899906842625 : Nat) : Int)],eBlk ba 35 (auCells ⟨al,(N : Int),mr,ed⟩ ⟨A1,c1,A2,c2,A3,c3⟩),eBlk ob 32 [v],eInts ls v,eBlk xb 71 [.pointer (some ⟨mx,0,none⟩)],eMach mx m1 m2 (⟨al,(N : Int),mr,ed⟩ : Au),eBlk (w.heap.size + 4) 38 [.int .i64 3],eBlk (w.heap.size + 3) 32 [.slice none 0 0],eBlk (w.heap.size + 2) 3 [.int .i64 (len : Int)],eBlk (w.heap.size + 1) 3 [.int .i64 kind],eBlk w.heap.size 35 [.slice A1 al.length c1,.int .i64 (N : Int),.slice A2 mr.length c2,.slice A3 ed.length c3]] ++ mksE [D]) W) := Sep.marked (Ds := []) (by rw [show mksE [] = [] from rfl,List.append_nil]; exact SW)
     clear hx hcn SW
     change Code.wp _ _ _ { tmps := _,defers := mksD [D] } W
     go_wp2_with fail
     refine ret_marks [D] S1.out fun w' S5 => ?_
     have r6 := BlkAt.cell (S5.get 7 rfl) 0
     have r7 := BlkAt.cell (S5.get 6 rfl) 0
     simp only [List.getElem?_cons_zero] at r6 r7
     refine ⟨.tuple #[.slice none 0 0,.int .i64 3],by simp [results,Tryd.results18,go_sem, *],?_⟩
     exact .inr ⟨rfl,S5.below,HCN.out⟩
end
theorem allV_right {l : List Int} (h : setOk l 32 l.length) : (allV l).Right := by
 refine ⟨h,by show (0 : Int) ≤ 1; decide,by show (1 : Int) ≤ 4096; decide,?_,fun i hi x hx => ?_⟩
 · intro i x hi hx
   have : i = 0 := by simp [allV] at hi; omega
   subst this
   simp [allV] at hx
   subst hx
   exact ⟨Int.le_refl _,by show (0 : Int) < 1; decide,fun y h0 => absurd h0 (by omega)⟩
 · simp only [allV,List.getElem?_map,Option.map_eq_some_iff] at hx
   obtain ⟨e,he,rfl⟩ := hx
   refine ⟨Int.le_refl _,by show (0 : Int) < 1; decide,Int.le_refl _,by show (0 : Int) < 1; decide,List.mem_of_getElem? he,fun y h0 hy => ?_⟩
   simp only [allV,List.getElem?_map,Option.map_eq_some_iff] at hy
   obtain ⟨f,hf,rfl⟩ := hy
   exact .inr ⟨rfl,h.incr (i - 1) i f e (by omega) hf he⟩
theorem rn_all {l : List Int} (h : setOk l 32 l.length) : ∀ w : List Int,(∀ x,x ∈ w → x ∈ l) → rn (allV l) w = 0 := by
 refine snoc_ind (fun _ => rfl) (fun u e ih hw => ?_)
 have h0 := ih (fun x hx => hw x (List.mem_append_left _ hx))
 rw [rn_snoc _ _ _ (by omega),h0]
 have hr := allV_right h
 have hm : (⟨0,e,0⟩ : Ed) ∈ (allV l).ed := List.mem_map.2 ⟨e,hw e (by simp),rfl⟩
 exact (edge_next hr hm).1
theorem cnt_all {l : List Int} (h : setOk l 32 l.length) (n : Nat) : cnt (allV l) 1 n = l.length ^ n := by
 unfold cnt cntL
 rw [← wordsV_len]
 refine List.countP_eq_length.2 ?_
 intro w hw
 rw [rn_all h w (mem_wordsV.1 hw).2]
 rfl
theorem ExNo.le {a b : Au} {al : List Int} (ha : a.Right) (hb : b.Right) (h : ExNo a b al) : 4097 ≤ (a.n.toNat + 1) * (b.n.toNat + 1) := by
 obtain ⟨fs,hl,hn,hr⟩ := h
 have rg : ∀ v,v ∈ fs → rgP a b v := fun v hv => by
  obtain ⟨u,hu⟩ := hr v hv
  rw [runS_outP ha hb] at hu
  split at hu
  · cases hu; exact ⟨ha.rn_cases u,hb.rn_cases u⟩
  · cases hu
 have := sub_len (fs.map fun v => (v.1 + 1).toNat * (b.n.toNat + 1) + (v.2 + 1).toNat) (List.range ((a.n.toNat + 1) * (b.n.toNat + 1))) (by
  rw [List.nodup_iff_pairwise_ne,List.pairwise_map]
  refine List.Pairwise.imp_of_mem ?_ (List.nodup_iff_pairwise_ne.1 hn)
  intro x y hx hy hxy he
  have h1 := rg x hx
  have h2 := rg y hy
  have b1 : (x.2 + 1).toNat < b.n.toNat + 1 := by rcases h1.2 with g | g <;> omega
  have b2 : (y.2 + 1).toNat < b.n.toNat + 1 := by rcases h2.2 with g | g <;> omega
  have e1 : (x.1 + 1).toNat = (y.1 + 1).toNat := by
   have := congrArg (· / (b.n.toNat + 1)) he
   simp only [Nat.mul_comm _ (b.n.toNat + 1)] at this
   rw [Nat.mul_add_div (by omega),Nat.mul_add_div (by omega),Nat.div_eq_of_lt b1,Nat.div_eq_of_lt b2] at this
   omega
  rw [e1] at he
  have e2 : (x.2 + 1).toNat = (y.2 + 1).toNat := by omega
  apply hxy
  have c1 : x.1 = y.1 := by rcases h1.1 with g | g <;> rcases h2.1 with k | k <;> omega
  have c2 : x.2 = y.2 := by rcases h1.2 with g | g <;> rcases h2.2 with k | k <;> omega
  exact Prod.ext c1 c2) (fun q hq => by
  obtain ⟨v,hv,rfl⟩ := List.mem_map.1 hq
  have h1 := rg v hv
  have b1 : (v.1 + 1).toNat ≤ a.n.toNat := by rcases h1.1 with g | g <;> omega
  have b2 : (v.2 + 1).toNat < b.n.toNat + 1 := by rcases h1.2 with g | g <;> omega
  rw [List.mem_range,Nat.add_mul,Nat.one_mul]
  have := Nat.mul_le_mul_right (b.n.toNat + 1) b1
  omega)
 rw [List.length_map,List.length_range,hl] at this
 exact this
theorem CoR.ok {a b m : Au} {ch : Bool → Bool → Bool} {r : Int} (ha : a.Right) (hb : b.Right) (h : CoR a b ch m r) (hs : (a.n.toNat + 1) * (b.n.toNat + 1) ≤ 4096) : r = 0 ∧ IsMin m (CoL a b ch) ∧ m.al = unionV a.al b.al := by
 rcases h with h | ⟨_,_,h⟩
 · exact h
 · have := h.le ha hb; omega

theorem one_right : setOk [0] 32 [(0 : Int)].length := by
 intro i x hi hx
 have : i = 0 := by simp at hi; omega
 subst this
 simp at hx
 subst hx
 exact ⟨Int.le_refl _,by decide,fun y h0 => absurd h0 (by omega)⟩
def oddV : Au := ⟨[0],2,[1],[⟨0,0,1⟩,⟨1,0,0⟩]⟩
theorem two_right (m : Int) (h0 : 0 ≤ m) (h1 : m < 2) : (⟨[0],2,[m],[⟨0,0,1⟩,⟨1,0,0⟩]⟩ : Au).Right := by
 refine ⟨one_right,by show (0 : Int) ≤ 2; decide,by show (2 : Int) ≤ 4096; decide,?_,fun i hi x hx => ?_⟩
 · intro i x hi hx
   have : i = 0 := by simp at hi; omega
   subst this
   simp at hx
   subst hx
   exact ⟨h0,h1,fun y h0 => absurd h0 (by omega)⟩
 · match i,hx with
   | 0,hx =>
     simp at hx; subst hx
     exact ⟨by show (0 : Int) ≤ 0; decide,by show (0 : Int) < 2; decide,by show (0 : Int) ≤ 1; decide,by show (1 : Int) < 2; decide,by simp,fun y h0 => absurd h0 (by omega)⟩
   | 1,hx =>
     simp at hx; subst hx
     refine ⟨by show (0 : Int) ≤ 1; decide,by show (1 : Int) < 2; decide,by show (0 : Int) ≤ 0; decide,by show (0 : Int) < 2; decide,by simp,fun y _ hy => ?_⟩
     simp at hy; subst hy
     exact .inl (by decide)
   | i + 2,hx => simp at hx
theorem rn_two (m : Int) : ∀ w : List Int,(∀ x,x ∈ w → x = 0) → rn (⟨[0],2,[m],[⟨0,0,1⟩,⟨1,0,0⟩]⟩ : Au) w = ((w.length % 2 : Nat) : Int) := by
 refine snoc_ind (fun _ => rfl) (fun u e ih hw => ?_)
 have h0 := ih (fun x hx => hw x (List.mem_append_left _ hx))
 have he := hw e (by simp)
 subst he
 rw [rn_snoc _ _ _ (by omega),h0,List.length_append,List.length_singleton]
 rcases Nat.mod_two_eq_zero_or_one u.length with g | g
 · rw [g,show (u.length + 1) % 2 = 1 by omega]; rfl
 · rw [g,show (u.length + 1) % 2 = 0 by omega]; rfl
theorem evenV_eq : evenV = ⟨[0],2,[0],[⟨0,0,1⟩,⟨1,0,0⟩]⟩ := rfl
theorem evenV_right : evenV.Right := two_right 0 (by decide) (by decide)
theorem oddV_min : IsMin oddV (CoL (allV [0]) evenV (fun x y => x && !y)) := by
 have hr : oddV.Right := two_right 1 (by decide) (by decide)
 refine ⟨hr,Num.ws hr (fun k h1 h2 => ?_),fun i i0 i1 => ?_,fun i j i0 i1 j0 j1 h => ?_,fun w => ?_⟩
 · have : k = 1 := by simp only [oddV] at h2; omega
   subst this
   exact ⟨0,⟨0,0,1⟩,rfl,rfl,by decide,fun q y hq => absurd hq (by omega)⟩
 · have : i = 0 ∨ i = 1 := by simp only [oddV] at i1; omega
   rcases this with rfl | rfl
   · exact ⟨[0],by decide⟩
   · exact ⟨[],by decide⟩
 · have hi : i = 0 ∨ i = 1 := by simp only [oddV] at i1; omega
   have hj : j = 0 ∨ j = 1 := by simp only [oddV] at j1; omega
   have := h []
   simp only [oddV,runV,List.mem_singleton] at this
   omega
 · constructor
   · intro h
     have hm : rn oddV w = 1 := by simpa [oddV] using h
     have hl : ∀ x,x ∈ w → x = 0 := fun x hx => by simpa [oddV] using rn_events hr w (by omega) x hx
     have h2 : rn oddV w = ((w.length % 2 : Nat) : Int) := rn_two 1 w hl
     refine ⟨fun x hx => (mem_unionV _ _ _ (Nat.le_refl _) x).2 (.inl (by rw [hl x hx]; simp [allV])),?_⟩
     rw [rn_all one_right w (fun x hx => by rw [hl x hx]; simp),evenV_eq,rn_two 0 w hl,show w.length % 2 = 1 by omega]
     decide
   · rintro ⟨hl',h⟩
     have hl : ∀ x,x ∈ w → x = 0 := fun x hx => by
      rcases (mem_unionV _ _ _ (Nat.le_refl _) x).1 (hl' x hx) with g | g
      · simpa [allV] using g
      · simpa [evenV] using g
     rw [rn_all one_right w (fun x hx => by rw [hl x hx]; simp),evenV_eq,rn_two 0 w hl] at h
     have h2 : rn oddV w = ((w.length % 2 : Nat) : Int) := rn_two 1 w hl
     rw [h2]
     rcases Nat.mod_two_eq_zero_or_one w.length with g | g
     · rw [g] at h; exact absurd h (by decide)
     · rw [g]; decide
theorem inc_known : LeastW (LeadsTo (stp2 (allV [0]) evenV) ((allV [0]).st,evenV.st) (allV [0]).al (fun q => incP (allV [0]) evenV 2 q = true)) [0] := by
 refine ⟨⟨fun e he => by simp at he; subst he; simp [allV],by decide⟩,fun v hv => ?_⟩
 match v,hv with
 | [],hv => exact absurd hv.2 (by decide)
 | [e],hv =>
   have := hv.1 e (by simp)
   have he : e = 0 := by simpa [allV] using this
   subst he
   exact sle.refl _
 | e :: f :: r,_ => exact .inl (.inl (by simp))
theorem diff1_c (a b : Bool) (w : World) : Calls Tryd.prog 58 #[.bool a,.bool b] w (Ret (.bool (a && !b)) w) := by
 cases a <;> cases b
 all_goals
  go_enter Tryd.func58,Tryd.ntmps58
  go_wp2
  go_ret
  exact ⟨rfl,Below.refl _ _⟩
set_option maxHeartbeats 2000000 in
theorem difference_c (a b : Au) (p q : AuP) (w : World) (htab : TabW w) (ha : a.Right) (hb : b.Right) (hpa : Caps a p) (hpb : Caps b q) (hA : Au.At w a p) (hB : Au.At w b q) :
 Calls Tryd.prog 30 #[a.val p,b.val q] w (GivesCo a b (fun x y => x && !y) w) := by
 have HTAB := Lib.hid htab
 have HRA := Lib.hid ha
 have HRB := Lib.hid hb
 have HCA := Lib.hid hpa
 have HCB := Lib.hid hpb
 have HA := Lib.hid hA
 have HB := Lib.hid hB
 obtain ⟨al,n,mr,ed⟩ := a
 obtain ⟨A1,c1,A2,c2,A3,c3⟩ := p
 obtain ⟨bl,k,ms,es⟩ := b
 obtain ⟨B1,d1,B2,d2,B3,d3⟩ := q
 dsimp only [Au.val]
 clear ha hb hpa hpb hA hB htab
 go_enter Tryd.func30,Tryd.ntmps30
 go_upto_region 1 with fail
 refine wp_world (fun W => Sep w.heap.size w [eBlk (w.heap.size + 2) 35 [.slice none 0 0,.int .i64 0,.slice none 0 0,.slice none 0 0],eBlk (w.heap.size + 1) 35 [.slice B1 bl.length d1,.int .i64 k,.slice B2 ms.length d2,.slice B3 es.length d3],eBlk w.heap.size 35 [.slice A1 al.length c1,.int .i64 n,.slice A2 mr.length c2,.slice A3 ed.length c3]] W) ?_ fun W S => ?_
 · exact (((Sep.here w).alloc' _ [_,_,_,_] rfl rfl).alloc' _ [_,_,_,_] rfl (by simp)).alloc' _ [_,_,_,_] rfl (by simp)
 have S0 := Lib.hid S
 clear S
 have a0 := ckC S0.out 2 rfl 0 rfl
 have a1 := ckC S0.out 2 rfl 1 rfl
 have a2 := ckC S0.out 2 rfl 2 rfl
 have a3 := ckC S0.out 2 rfl 3 rfl
 have b0 := ckC S0.out 1 rfl 0 rfl
 have b1 := ckC S0.out 1 rfl 1 rfl
 have b2 := ckC S0.out 1 rfl 2 rfl
 have b3 := ckC S0.out 1 rfl 3 rfl
 go_wp2_with fail
 refine (combine_c ⟨al,n,mr,ed⟩ ⟨bl,k,ms,es⟩ ⟨A1,c1,A2,c2,A3,c3⟩ ⟨B1,d1,B2,d2,B3,d3⟩ _ #[] (fun _ _ => rfl) (fun x y => x && !y) W (HTAB.out.below S0.out.below) HRA.out HRB.out HCA.out HCB.out (HA.out.below S0.out.below) (HB.out.below S0.out.below) (fun x y V => by rw [Array.append_empty]; exact diff1_c x y V)).mono ?_
 rintro e w1 ⟨m,p',r,rfl,T,LN,RR⟩
 have S2 := ckN S0.out T.out
 have S3 : Hid (Sep w.heap.size w [eInts m.al (.slice p'.A1 m.al.length p'.c1),eInts m.mr (.slice p'.A2 m.mr.length p'.c2),eEds m.ed (.slice p'.A3 m.ed.length p'.c3),eBlk (w.heap.size + 2) 35 [.slice p'.A1 m.al.length p'.c1,.int .i64 m.n,.slice p'.A2 m.mr.length p'.c2,.slice p'.A3 m.ed.length p'.c3],eBlk (w.heap.size + 1) 35 [.slice B1 bl.length d1,.int .i64 k,.slice B2 ms.length d2,.slice B3 es.length d3],eBlk w.heap.size 35 [.slice A1 al.length c1,.int .i64 n,.slice A2 mr.length c2,.slice A3 ed.length c3]] _) := ((((S2.out.set 3 rfl 0 (.slice p'.A1 m.al.length p'.c1)).set 3 rfl 1 (.int .i64 m.n)).set 3 rfl 2 (.slice p'.A2 m.mr.length p'.c2)).set 3 rfl 3 (.slice p'.A3 m.ed.length p'.c3))
 have SF : Hid (Sep w.heap.size w (eAu m p') _) := S3.out.pick [0,1,2] (by decide)
 have r0 := ckC S2.out 3 rfl 0 rfl
 have r1 := ckC S2.out 3 rfl 1 rfl
 have r2 := ckC S2.out 3 rfl 2 rfl
 have r3 := ckC S2.out 3 rfl 3 rfl
 have f0 := BlkAt.free (S2.out.get 3 rfl) 0
 have f1 := BlkAt.free (S2.out.get 3 rfl) 1
 have f2 := BlkAt.free (S2.out.get 3 rfl) 2
 have f3 := BlkAt.free (S2.out.get 3 rfl) 3
 have t0 := ckC S3.out 3 rfl 0 rfl
 have t1 := ckC S3.out 3 rfl 1 rfl
 have t2 := ckC S3.out 3 rfl 2 rfl
 have t3 := ckC S3.out 3 rfl 3 rfl
 clear S0 T a0 a1 a2 a3 b0 b1 b2 b3
 go_wp2_with fail
 refine bodyPost_ret (v := .tuple #[.agg #[.slice p'.A1 m.al.length p'.c1,.int .i64 m.n,.slice p'.A2 m.mr.length p'.c2,.slice p'.A3 m.ed.length p'.c3],.int .i64 r]) (by simp [results,Tryd.results30,go_sem, *]) rfl ?_
 exact ⟨m,p',r,rfl,SF.out,LN.out,RR.out⟩
def Au.zero : Au := ⟨[],0,[],[]⟩
def AuP.zero : AuP := ⟨none,0,none,0,none,0⟩
set_option maxHeartbeats 400000 in
theorem same_c (A1 A2 : Option Addr) (c1 c2 : Nat) (l1 l2 : List Int) (w : World) (h1 : IntsAt w A1 l1) (h2 : IntsAt w A2 l2) (n1 : l1.length ≤ 140737488355328) (n2 : l2.length ≤ 140737488355328) :
 Calls Tryd.prog 17 #[.slice A1 l1.length c1,.slice A2 l2.length c2] w (Tells (l1 = l2) w) := by
 have H1 := Lib.hid h1
 have H2 := Lib.hid h2
 clear h1 h2
 by_cases hl : l1.length = l2.length
 · go_enter Tryd.func17,Tryd.ntmps17
   have HL := Lib.hid hl
   rw [← hl]
   clear hl n2
   go_wp2
   go_loopw [5] (fun i wr => ∃ k : Nat,k ≤ l1.length ∧ i = .int .i64 k ∧ Hid (Below w.heap.size w wr) ∧ Hid (l1.take k = l2.take k)) (fun i _ => l1.length - (intOf i).toNat)
   case atStart => exact ⟨0,by omega,rfl,Below.refl _ _,rfl⟩
   case round =>
    obtain ⟨k,hk,rfl,BW,HN⟩ := hrel
    by_cases hlt : k < l1.length
    · obtain ⟨b,off,x,rfl,hb,hx,e0⟩ := IntsAt.at (H1.out.below IntE.stays BW.out) hlt
      obtain ⟨b2,off2,y,rfl,hb2,hy,g0⟩ := IntsAt.at (H2.out.below IntE.stays BW.out) (HL.out ▸ hlt)
      have HX := Lib.hid hx
      have HY := Lib.hid hy
      clear hx hy
      by_cases hxy : x = y
      · subst hxy
        go_wp2_with fail
        go_quiet (fail)
        go_wp2
        go_roundw
        case rel => exact ⟨k + 1,by omega,by go_num,BW.out.draws _,Lib.hid (by rw [List.take_add_one,List.take_add_one,HN.out,HX.out,HY.out])⟩
        case measure => simp [intOf]; omega
      · have hne : (x == y) = false := by simpa using hxy
        go_wp2_with fail
        go_quiet (fail)
        go_wp2
        go_ret
        exact Tells.no (fun h => by subst h; have := HX.out; rw [HY.out] at this; cases this; exact hxy rfl) (BW.out.draws _)
    · obtain rfl : k = l1.length := by omega
      go_wp2
      go_ret
      exact Tells.yes (by have := HN.out; rw [List.take_length,HL.out,List.take_length] at this; exact this) BW.out
 · have hne : ((l1.length : Int) == (l2.length : Int)) = false := by rw [beq_eq_false_iff_ne]; omega
   go_enter Tryd.func17,Tryd.ntmps17
   go_wp2
   go_ret
   exact Tells.no (fun h => hl (by rw [h])) (Below.refl _ _)
theorem ints_new (w : World) (l : List Int) : IntsAt (w.alloc (.cells (l.map (Value.int .i64)).toArray 3)) (some ⟨w.heap.size,0,none⟩) l := IntsAt.blk l (BlkAt.new w 3 (l.map (Value.int .i64)))
theorem union_same {l : List Int} (h : incr l) : unionV l l = l :=
 Rises.ext (R := fun x y : Int => x < y) (fun x h => by omega) (fun x y h k => by omega) (rises_unionV _ l l (Nat.le_refl _) h.rises h.rises) h.rises (fun w => by rw [mem_unionV _ _ _ (Nat.le_refl _)]; simp)
theorem two_set : setOk [0,1] 32 [(0 : Int),1].length := by
 intro i x hi hx
 match i,hx with
 | 0,hx => simp at hx; subst hx; exact ⟨Int.le_refl _,by decide,fun y h0 => absurd h0 (by omega)⟩
 | 1,hx => simp at hx; subst hx; exact ⟨by decide,by decide,fun y _ hy => by simp at hy; subst hy; decide⟩
 | i + 2,hx => simp at hx
set_option maxHeartbeats 8000000 in
theorem known_c (w : World) (ht : TabW w) : Calls Tryd.prog 13 #[] w (Ret (.bool true) w) := by
 have HTAB := Lib.hid ht
 clear ht
 have R0 : Hid ((allV [0]).Right) := allV_right one_right
 have R1 : Hid (evenV.Right) := evenV_right
 go_enter Tryd.func13,Tryd.ntmps13
 go_wp2_with fail
 refine (all_c (some ⟨w.heap.size,0,none⟩) 1 [0] _ (ints_new w [0]) (by decide) (by decide)).mono ?_
 rintro e w1 ⟨p,rfl,HA,HC,hb1⟩
 have B1 : Hid (Below w.heap.size w w1) := (Below.new w _).trans (hb1.mono (by simp))
 clear hb1
 obtain ⟨A1,c1,A2,c2,A3,c3⟩ := p
 go_wp2_with fail
 refine (even_c w1).mono ?_
 rintro e w2 ⟨q,rfl,HB,HCB,hb2⟩
 have B2 : Hid (Below w.heap.size w w2) := B1.out.trans (hb2.mono B1.out.size)
 have HA2 := Lib.hid (HA.out.below hb2)
 clear hb2 HA
 obtain ⟨D1,d1,D2,d2,D3,d3⟩ := q
 go_wp2_with fail
 refine (included_c (allV [0]) evenV ⟨A1,c1,A2,c2,A3,c3⟩ ⟨D1,d1,D2,d2,D3,d3⟩ 2 w2 HA2.out HB.out R0.out R1.out (by decide) (.inr rfl) (by decide)).mono ?_
 rintro e w3 ⟨AI,cI,l,f,rfl,HI,hb3,HF⟩
 obtain ⟨rfl,hl⟩ : f = false ∧ l = [0] := by
  rcases HF.out with ⟨h1,h2⟩ | ⟨_,_,h2⟩
  · exact ⟨h1,h2.uniq inc_known⟩
  · exact absurd inc_known.is (h2 _)
 subst hl
 have B3 : Hid (Below w.heap.size w w3) := B2.out.trans (hb3.mono B2.out.size)
 have S3 : Hid (Sep w3.heap.size w3 [] w3) := Sep.here w3
 clear HF hb3 HA2 HB HC HCB B1 B2
 go_wp2_with fail
 refine (all_c (some ⟨w3.heap.size,0,none⟩) 1 [0] _ (ints_new w3 [0]) (by decide) (by decide)).mono ?_
 rintro e w4 ⟨p,rfl,HA,HC,hb4⟩
 have S4 : Hid (Sep w3.heap.size w3 [] w4) := (S3.out.next (Below.new w3 _)).next hb4
 clear hb4 S3
 obtain ⟨A1,c1,A2,c2,A3,c3⟩ := p
 go_wp2_with fail
 refine (even_c w4).mono ?_
 rintro e w5 ⟨q,rfl,HB,HCB,hb5⟩
 have S5 := Lib.hid (S4.out.next hb5)
 have HA5 := Lib.hid (HA.out.below hb5)
 clear hb5 HA S4
 obtain ⟨D1,d1,D2,d2,D3,d3⟩ := q
 have TB5 : Hid (TabW w5) := HTAB.out.below (B3.out.trans (S5.out.below.mono B3.out.size))
 go_wp2_with fail
 refine (difference_c (allV [0]) evenV ⟨A1,c1,A2,c2,A3,c3⟩ ⟨D1,d1,D2,d2,D3,d3⟩ w5 TB5.out R0.out R1.out HC.out HCB.out HA5.out HB.out).mono ?_
 rintro e w6 ⟨m,p',r,rfl,TT,LN,RR⟩
 obtain ⟨rfl,hmin,hal⟩ := RR.out.ok R0.out R1.out (by decide)
 obtain rfl : m = oddV := hmin.uniq oddV_min (hal.trans (union_same one_right.incr))
 obtain ⟨X1,x1,X2,x2,X3,x3⟩ := p'
 have S6 := ckN S5.out TT.out
 clear TT LN RR hmin hal S5 HA5 HB HC HCB TB5
 dsimp only [Au.val,oddV,List.length_cons,List.length_nil,Nat.zero_add,Nat.reduceAdd]
 obtain ⟨tb,htb⟩ : ∃ g,g = w6.heap.size := ⟨_,rfl⟩
 go_upto_region 3 with fail
 rw [← htb]
 refine wp_world (fun V => Sep w3.heap.size w3 [eBlk tb 35 [.slice X1 1 x1,.int .i64 2,.slice X2 1 x2,.slice X3 2 x3],eInts [0] (.slice X1 1 x1),eInts [1] (.slice X2 1 x2),eEds [⟨0,0,1⟩,⟨1,0,0⟩] (.slice X3 2 x3)] V) (S6.out.alloc' _ [_,_,_,_] rfl htb) fun W7 S' => ?_
 have S7 := Lib.hid S'
 clear S' S6 htb
 go_wp2_with fail
 refine (all_c (some ⟨W7.heap.size,0,none⟩) 2 [0,1] _ (ints_new W7 [0,1]) (by decide) (by decide)).mono ?_
 rintro e w8 ⟨p,rfl,HA,HC,hb8⟩
 have S8 : Hid (Sep w3.heap.size w3 [eBlk tb 35 [.slice X1 1 x1,.int .i64 2,.slice X2 1 x2,.slice X3 2 x3],eInts [0] (.slice X1 1 x1),eInts [1] (.slice X2 1 x2),eEds [⟨0,0,1⟩,⟨1,0,0⟩] (.slice X3 2 x3)] w8) := (S7.out.next (Below.new W7 _)).next hb8
 clear hb8 S7
 obtain ⟨A1,c1,A2,c2,A3,c3⟩ := p
 have R2 : Hid (setOk [0,1] 32 [(0 : Int),1].length) := two_set
 go_wp2_with fail
 refine (count_c (allV [0,1]) ⟨A1,c1,A2,c2,A3,c3⟩ 1 3 w8 (allV_right R2.out) HA.out (.inl rfl) (by decide)).mono ?_
 intro e w9 hct
 obtain ⟨AK,cK,rfl,TT⟩ : ∃ A c,e = .returned (.tuple #[.slice A 4 c,.int .i64 0]) ∧ Hid (Sep w8.heap.size w8 [eInts [1,2,4,8] (.slice A 4 c)] w9) := by
  rcases hct with ⟨A,c,h1,h2,_⟩ | ⟨_,_,h3⟩
  · refine ⟨A,c,h1,?_⟩
    have h := h2.out
    rw [show (List.range (3 + 1)).map (fun j => ((cnt (allV [0,1]) 1 j : Nat) : Int)) = [1,2,4,8] by
     simp only [cnt_all R2.out]; decide] at h
    exact h
  · obtain ⟨j,hj,hc⟩ := h3.out
    rw [cnt_all R2.out] at hc
    have : j = 0 ∨ j = 1 ∨ j = 2 ∨ j = 3 := by omega
    rcases this with rfl | rfl | rfl | rfl <;> simp at hc
 have S9 := ckN S8.out TT.out
 clear hct TT S8 HA HC
 go_wp2_with fail
 refine (same_c AI (some ⟨w9.heap.size,0,none⟩) cI 1 [0] [0] _ ((HI.out.below IntE.stays S9.out.below).below IntE.stays (Below.new w9 _)) (ints_new w9 [0]) (by decide) (by decide)).mono ?_
 intro e w10 hs
 obtain ⟨rfl,hb⟩ := hs.yes2 rfl
 have S10 := Lib.hid ((S9.out.next (Below.new w9 _)).next hb)
 clear hs hb S9
 have t1 := ckC S10.out 1 rfl 1 rfl
 have t2 := ckC S10.out 1 rfl 2 rfl
 go_wp2_with fail
 refine (same_c X2 (some ⟨w10.heap.size,0,none⟩) x2 1 [1] [1] _ ((S10.out.ints 3 rfl).below IntE.stays (Below.new w10 _)) (ints_new w10 [1]) (by decide) (by decide)).mono ?_
 intro e w11 hs
 obtain ⟨rfl,hb⟩ := hs.yes2 rfl
 have S11 := Lib.hid ((S10.out.next (Below.new w10 _)).next hb)
 clear hs hb S10 t1 t2
 go_wp2_with fail
 refine (same_c AK (some ⟨w11.heap.size,0,none⟩) cK 4 [1,2,4,8] [1,2,4,8] _ ((S11.out.ints 0 rfl).below IntE.stays (Below.new w11 _)) (ints_new w11 [1,2,4,8]) (by decide) (by decide)).mono ?_
 intro e w12 hs
 obtain ⟨rfl,hb⟩ := hs.yes2 rfl
 have B12 : Hid (Below w.heap.size w w12) := B3.out.trans ((((S11.out.next (Below.new w11 _)).next hb).below).mono B3.out.size)
 clear hs hb S11
 go_wp2_with fail
 go_ret
 exact ⟨rfl,B12.out⟩
structure Lt5 (l : List Int) (k : Nat) : Prop where
 inc : incr l
 rg : ∀ x,x ∈ l → 0 ≤ x ∧ x < (k : Int)
 len : l.length ≤ k
def GivesSet (w : World) (e : Ending) (w' : World) : Prop := ∃ l v,e = .returned v ∧ Lt5 l 5 ∧ Hid (OwnI w.heap.size l v w') ∧ Below w.heap.size w w'
theorem Lt5.skip {l : List Int} {k : Nat} (h : Lt5 l k) : Lt5 l (k + 1) := ⟨h.inc,fun x hx => by have := h.rg x hx; omega,by have := h.len; omega⟩
theorem Lt5.more {l : List Int} {k : Nat} (h : Lt5 l k) : Lt5 (l ++ [(k : Int)]) (k + 1) :=
 ⟨incr_snoc h.inc fun y hy => (h.rg y hy).2,fun x hx => by
  simp only [List.mem_append,List.mem_singleton] at hx
  rcases hx with hx | rfl
  · have := h.rg x hx; omega
  · omega,by have := h.len; simp; omega⟩
def u8 (x : Int) : Value := .int .u8 x
structure B5 where
 x0 : Int
 x1 : Int
 x2 : Int
 x3 : Int
 x4 : Int
abbrev B5.cells (f : B5) : List Value := [.int .u8 f.x0,.int .u8 f.x1,.int .u8 f.x2,.int .u8 f.x3,.int .u8 f.x4]
structure B5.Ok (f : B5) : Prop where
 h : ∀ x,x ∈ [f.x0,f.x1,f.x2,f.x3,f.x4] → 0 ≤ x ∧ x < 256
theorem B5.get {f : B5} (h : f.Ok) {k : Nat} (hk : k < 5) : ∃ x,f.cells[k]? = some (.int .u8 x) ∧ 0 ≤ x ∧ x < 256 := by
 have h0 := h.h f.x0 (by simp)
 have h1 := h.h f.x1 (by simp)
 have h2 := h.h f.x2 (by simp)
 have h3 := h.h f.x3 (by simp)
 have h4 := h.h f.x4 (by simp)
 match k,hk with
 | 0,_ => exact ⟨_,rfl,h0⟩
 | 1,_ => exact ⟨_,rfl,h1⟩
 | 2,_ => exact ⟨_,rfl,h2⟩
 | 3,_ => exact ⟨_,rfl,h3⟩
 | 4,_ => exact ⟨_,rfl,h4⟩
theorem Own.far {α : Type} {enc : α → List Value} {k T B : Nat} {l : List α} {v : Value} {w : World} (h : Own enc k T B l v w) {b i : Nat} (hb : v.ownBlock ≠ some b) (u : Value) : Own enc k T B l v (w.setCell ⟨b,i,none⟩ u) := by
 refine ⟨h.1,?_⟩
 rcases h.2 with h | ⟨g,cap,cur,rfl,r2,r3,r4⟩
 · exact .inl h
 · exact .inr ⟨g,cap,cur,rfl,r2,(Below.heap_setCell w ⟨b,i,none⟩ u g (fun e => hb (by simp [Value.ownBlock,e]))).trans r3,r4⟩
open Go.ChangeShapes Go.WideShapes Go.ChangeAt Go.RowKit

theorem own_ : ownKnob Tryd.prog.godebug = none := by kernel_rfl
theorem laidOut_ : laidOutB Tryd.prog = true := by kernel_rfl
theorem nmTab_laid : ((Rows.languageManyRow.laid[2]?).map (·.1)) = some nmTab := by kernel_rfl
theorem nmTab_type : (Tryd.prog.globals[0]?).map (·.type) = some 153 := by kernel_rfl
theorem tab_of_laid {W : World} (h : laidMetH Tryd.prog Rows.languageManyRow.laid W) : TabW W := by
 rw [MakeChecks.laidMetH_plain _ _ _ (by kernel_rfl)] at h
 obtain ⟨ps,⟨g0,t0,cs0,f0,p0,q0,hg0,ht0,hv0,hd0,⟨g1,t1,cs1,f1,p1,q1,hg1,ht1,hv1,hd1,⟨g2,t2,cs2,f2,p2,q2,hg2,ht2,hv2,hd2,_,_⟩,_⟩,_⟩,_,_⟩ := h
 have hn := Option.some.inj nmTab_laid
 simp only [] at hn
 have hg := nmTab_named
 unfold TabW Lib.TabIs
 rw [← hn] at hg ⊢
 obtain rfl := Option.some.inj (hg.symm.trans hg2)
 obtain rfl := Option.some.inj (nmTab_type.symm.trans ht2)
 have hc := Lib.cells_of_tab (zs := Lib.pow10Tab) (k := .u64) Tryd.underlying153 Tryd.underlying132 (by kernel_rfl) (by kernel_rfl) hd2
 rw [hv2,← hc]
theorem laid_met (os : Os) (args : Array Value) : laidMetH Tryd.prog Rows.languageManyRow.laid ((World.laidAll Tryd.prog os Rows.languageManyRow.laid).forCall (fun _ _ => 0) ⟨#[],args,[]⟩).memory := by
 rw [MakeChecks.laidMetH_plain _ _ _ (by kernel_rfl)]
 exact laidMet_laidAll _ (by kernel_rfl) (by kernel_rfl)
end Go.Proofs.YtkifgffhoenaoaaDoor
