/-
  reach.Restrict: the automaton of the states that are reached within a set.
-/
import Derived.Test.YtkifgffhoenaoaaDoorBas01
import Derived.Test.YtkifgffhoenaoaaDoorBas09
import Derived.Test.YtkifgffhoenaoaaDoorBas07
import Derived.Test.YtkifgffhoenaoaaDoorBas11
import Derived.Deep.CutBlock
set_option linter.unusedSimpArgs false
set_option linter.unusedVariables false
namespace Go.Proofs.YtkifgffhoenaoaaDoor
open Go.RowKit
set_option maxRecDepth 100000
section
attribute [local go_sem] Oper.semAt_some

def numV (fs : List Int) (t : Nat) : Int := if (t : Int) ∈ fs then ((idxK fs (t : Int) : Nat) : Int) + 1 else 0
theorem numV_one (t : Nat) : numV [0] t = if t = 0 then 1 else 0 := by
 unfold numV
 by_cases e : t = 0
 · subst e; simp [idxK]
 · rw [if_neg e,if_neg (by simp; omega)]
theorem numV_no {fs : List Int} {t : Nat} (h : ¬ (t : Int) ∈ fs) : numV fs t = 0 := if_neg h
theorem numV_yes {fs : List Int} {t : Nat} (h : (t : Int) ∈ fs) : ∃ j : Nat,numV fs t = (j : Int) + 1 ∧ fs[j]? = some (t : Int) := ⟨_,if_pos h,idxK_get h⟩
theorem numV_push {fs : List Int} {d : Nat} (h : ¬ (d : Int) ∈ fs) (t : Nat) : numV (fs ++ [(d : Int)]) t = if t = d then (fs.length : Int) + 1 else numV fs t := by
 unfold numV
 by_cases e : t = d
 · subst e; rw [if_pos rfl,if_pos (by simp),idxK_new h]
 · rw [if_neg e]
   by_cases m : (t : Int) ∈ fs
   · rw [if_pos m,if_pos (List.mem_append_left _ m),idxK_app m]
   · rw [if_neg m,if_neg (by simp [m]; omega)]
def RsOf (a : Au) (kp : List Int) (m : Au) : Prop := m.al = a.al ∧ ((¬ (0 : Int) ∈ kp ∧ m = ⟨a.al,0,[],[]⟩) ∨ ((0 : Int) ∈ kp ∧ ∃ fs,Built id (outK a fun v => decide (v ∈ kp)) 0 m fs ∧ (∀ v,v ∈ fs → 0 ≤ v ∧ v < a.n ∧ decide (v ∈ kp) = true) ∧ ∀ d : Nat,(d : Int) ∈ m.mr ↔ ∃ v,fs[d]? = some v ∧ v ∈ a.mr))
def GivesRs (a : Au) (kp : List Int) (w : World) (e : Ending) (w' : World) : Prop := ∃ m p',e = .returned (.tuple #[m.val p',.int .i64 0]) ∧ Hid (Sep w.heap.size w (eAu m p') w') ∧ Hid (Lens m) ∧ Hid (RsOf a kp m)
theorem kp_head {kp : List Int} {x : Int} {n : Int} (h : setOk kp n kp.length) (hx : kp[0]? = some x) : (0 : Int) ∈ kp ↔ x = 0 := by
 constructor
 · intro h0
   obtain ⟨i,hi,hix⟩ := List.mem_iff_getElem.1 h0
   have h1 := (h 0 x (by omega) hx).1
   rcases Nat.eq_zero_or_pos i with e | e
   · subst e; rw [List.getElem?_eq_getElem hi] at hx; cases hx; exact hix
   · have := h.incr 0 i x _ e hx (List.getElem?_eq_getElem hi)
     omega
 · rintro rfl; exact List.mem_of_getElem? hx
set_option maxHeartbeats 16000000 in
theorem restrict_c (a : Au) (p : AuP) (AK : Option Addr) (cK : Nat) (kp : List Int) (w : World) (hr : a.Right) (hA : Au.At w a p) (hc : Caps a p) (hK : IntsAt w AK kp) (hkp : setOk kp a.n kp.length) :
 Calls Tryd.prog 95 #[a.val p,.slice AK kp.length cK] w (GivesRs a kp w) := by
 have h0 := hr.n0
 have hn := hr.n1
 have HR := Lib.hid hr
 have HA := Lib.hid hA
 have HC := Lib.hid hc
 have HK := Lib.hid hK
 have HKP := Lib.hid hkp
 have HMR : Hid (∀ x,x ∈ a.mr → 0 ≤ x ∧ x < a.n) := fun x hx => hr.mem hx
 have HKR : Hid (∀ x,x ∈ kp → 0 ≤ x ∧ x < a.n) := fun x hx => hkp.rg hx
 have hml := hA.lmk
 have hal : a.al.length ≤ 32 := by
  have := rises_len (n := 32) (l := a.al) hr.al.incr (fun x hx => by
   obtain ⟨i,hi,rfl⟩ := List.mem_iff_getElem.1 hx
   have := hr.al i _ hi (List.getElem?_eq_getElem hi)
   exact ⟨this.1,this.2.1⟩)
  exact this
 have hkl : kp.length ≤ a.n.toNat := by
  have := rises_len' (n := a.n.toNat) (l := kp) hkp.incr (fun x hx => by have := hkp.rg hx; omega)
  exact this
 obtain ⟨al,n,mr,ed⟩ := a
 obtain ⟨A1,c1,A2,c2,A3,c3⟩ := p
 obtain ⟨N,rfl⟩ := Int.eq_ofNat_of_zero_le h0
 dsimp only [Au.val] at HMR HKR HKP hn hml hal hkl ⊢
 rw [Int.toNat_natCast] at hkl
 clear hr hA h0 hc hK hkp
 refine calls_marks Tryd.func95 rfl ?_
 simp only [Tryd.ntmps95,List.size_toArray,List.length_cons,List.length_nil,Nat.reduceAdd,Nat.reduceSub,Array.replicate_succ,Array.replicate_zero,List.push_toArray,List.append_toArray,List.nil_append,List.cons_append]
 go_wp2_with fail
 refine calls_world (fun W => Sep w.heap.size w [eBlk (w.heap.size + 1) 35 [.slice none 0 0,.int .i64 0,.slice none 0 0,.slice none 0 0],eBlk w.heap.size 35 [.slice A1 al.length c1,.int .i64 (N : Int),.slice A2 mr.length c2,.slice A3 ed.length c3]] W) ?_ fun W S => ?_
 · exact ((Sep.here w).alloc' _ [_,_,_,_] rfl rfl).alloc' _ [_,_,_,_] rfl (by simp)
 refine (Check_c ⟨al,N,mr,ed⟩ ⟨A1,c1,A2,c2,A3,c3⟩ W (HA.out.below S.below)).mono ?_
 intro e w1 hs
 rcases hs.two with ⟨r,rfl,hr,_,HN,_⟩ | ⟨rfl,_,hb⟩
 · exact absurd HR.out HN.out
 clear hs
 have S0 := Lib.hid (S.next hb)
 clear S hb
 have b0 := ckC S0.out 1 rfl 0 rfl
 have b1 := ckC S0.out 1 rfl 1 rfl
 have b2 := ckC S0.out 1 rfl 2 rfl
 have b3 := ckC S0.out 1 rfl 3 rfl
 go_wp2_with fail
 refine (checkStates_c ⟨al,N,mr,ed⟩ ⟨A1,c1,A2,c2,A3,c3⟩ AK cK kp _ (HK.out.below IntE.stays S0.out.below) (by unfold maxLen; omega)).mono ?_
 intro e w2 hs
 rcases hs.two with ⟨r,rfl,hr,_,HN,_⟩ | ⟨rfl,_,hb⟩
 · exact absurd HKP.out HN.out
 clear hs
 have S1 := Lib.hid (S0.out.next hb)
 clear S0 hb b0 b1 b2 b3
 have b0 := BlkAt.cell (S1.out.get 1 rfl) 0
 simp only [List.getElem?_cons_zero] at b0
 go_wp2_with fail
 refine (cloneO_c A1 c1 al _ (HA.out.al.below IntE.stays S1.out.below) (by omega)).mono ?_
 rintro e w3 ⟨v,rfl,O,hb⟩
 obtain ⟨AL,cL,rfl⟩ := O.out.form
 have S2 := Lib.hid (S1.out.newI O.out hb)
 clear S1 O hb b0
 obtain ⟨ob,hob⟩ : ∃ ob,ob = w3.heap.size := ⟨_,rfl⟩
 go_upto_region 8 with fail
 rw [← hob]
 refine wp_world (fun W => Sep w.heap.size w [eBlk ob 35 [.slice AL al.length cL,.int .i64 0,.slice none 0 0,.slice none 0 0],eInts al (.slice AL al.length cL),eBlk (w.heap.size + 1) 35 [.slice none 0 0,.int .i64 0,.slice none 0 0,.slice none 0 0],eBlk w.heap.size 35 [.slice A1 al.length c1,.int .i64 (N : Int),.slice A2 mr.length c2,.slice A3 ed.length c3]] W) ?_ fun W4 S => ?_
 · exact S2.out.alloc' _ [_,_,_,_] rfl hob
 have S3 := Lib.hid S
 clear S S2 hob
 have q0 := ckC S3.out 0 rfl 0 rfl
 have q1 := ckC S3.out 0 rfl 1 rfl
 have q2 := ckC S3.out 0 rfl 2 rfl
 have q3 := ckC S3.out 0 rfl 3 rfl
 have r0 := ckC S3.out 2 rfl 0 rfl
 have r1 := ckC S3.out 2 rfl 1 rfl
 have r2 := ckC S3.out 2 rfl 2 rfl
 have r3 := ckC S3.out 2 rfl 3 rfl
 have s0 := BlkAt.free (S3.out.get 2 rfl) 0
 have s1 := BlkAt.free (S3.out.get 2 rfl) 1
 have s2 := BlkAt.free (S3.out.get 2 rfl) 2
 have s3 := BlkAt.free (S3.out.get 2 rfl) 3
 have SR : Hid (Sep w.heap.size w [eBlk ob 35 [.slice AL al.length cL,.int .i64 0,.slice none 0 0,.slice none 0 0],eInts al (.slice AL al.length cL),eBlk (w.heap.size + 1) 35 [.slice AL al.length cL,.int .i64 0,.slice none 0 0,.slice none 0 0],eBlk w.heap.size 35 [.slice A1 al.length c1,.int .i64 (N : Int),.slice A2 mr.length c2,.slice A3 ed.length c3]] ((((W4.setCell ⟨w.heap.size + 1,0,none⟩ (.slice AL al.length cL)).setCell ⟨w.heap.size + 1,1,none⟩ (.int .i64 0)).setCell ⟨w.heap.size + 1,2,none⟩ (.slice none 0 0)).setCell ⟨w.heap.size + 1,3,none⟩ (.slice none 0 0))) := (((S3.out.set 2 rfl 0 (.slice AL al.length cL)).set 2 rfl 1 (.int .i64 0)).set 2 rfl 2 (.slice none 0 0)).set 2 rfl 3 (.slice none 0 0)
 have FIN0 : ¬ (0 : Int) ∈ kp → Hid (RsOf ⟨al,N,mr,ed⟩ kp ⟨al,0,[],[]⟩) := fun h => ⟨rfl,.inl ⟨h,rfl⟩⟩
 by_cases hk0 : kp.length = 0
 · obtain rfl : kp = [] := List.eq_nil_of_length_eq_zero hk0
   have F := FIN0 (by simp)
   clear FIN0 hk0
   go_wp2_with fail
   refine ret_nomarks ⟨_,by simp [results,Tryd.results95,go_sem, *],⟨al,0,[],[]⟩,⟨AL,cL,none,0,none,0⟩,rfl,((SR.out.nilOwn Ed.cells 3 87).nilOwn encI 1 3).pick [3,0,1] (by decide),⟨by show al.length ≤ _; omega,by simp,by simp⟩,F.out⟩
 · obtain ⟨bk,ok,x,hAe,hb,hx,cx⟩ := IntsAt.at (HK.out.below IntE.stays S3.out.below) (k := 0) (by omega)
   rw [Nat.add_zero] at cx
   subst hAe
   have e1 : ((kp.length : Int) == 0) = false := beq_eq_false_iff_ne.2 (by omega)
   have hkpos : 0 < kp.length := by omega
   by_cases hx0 : x = 0
   · subst hx0
     clear SR FIN0 q0 q1 q2 q3 r0 r1 r2 r3 s0 s1 s2 s3 hb
     have HX0 : Hid ((0 : Int) ∈ kp) := List.mem_of_getElem? hx
     clear hx
     go_wp2_with fail
     refine wp_world (fun W => Sep w.heap.size w [eBlk ob 35 [.slice AL al.length cL,.int .i64 0,.slice none 0 0,.slice none 0 0],eInts al (.slice AL al.length cL),eBlk (w.heap.size + 1) 35 [.slice none 0 0,.int .i64 0,.slice none 0 0,.slice none 0 0],eBlk w.heap.size 35 [.slice A1 al.length c1,.int .i64 (N : Int),.slice A2 mr.length c2,.slice A3 ed.length c3]] W) S3.out fun W5 S => ?_
     have S4 := Lib.hid S
     clear S S3 cx
     go_cut [9,10] from 43 to 49 (fun v9 v10 wx => ∃ ib gi gm,v9 = .pointer (some ⟨ib,0,none⟩) ∧ v10 = .slice (some ⟨gm,0,none⟩) N N ∧ Hid (Sep w.heap.size w [eBlk ib 118 [.slice (some ⟨gi,0,none⟩) N N],eBlk gi 4 (mkB N fun s => decide ((s : Int) ∈ kp)),eBlk gm 4 (mkB N fun s => decide ((s : Int) ∈ mr)),eBlk ob 35 [.slice AL al.length cL,.int .i64 0,.slice none 0 0,.slice none 0 0],eInts al (.slice AL al.length cL),eBlk (w.heap.size + 1) 35 [.slice none 0 0,.int .i64 0,.slice none 0 0,.slice none 0 0],eBlk w.heap.size 35 [.slice A1 al.length c1,.int .i64 (N : Int),.slice A2 mr.length c2,.slice A3 ed.length c3]] wx))
     case first =>
      have S1 := Lib.hid S4.out.drew
      refine wp_region_held_drew (S := (fun V => Sep w.heap.size w [eBlk w.heap.size 35 [.slice A1 al.length c1,.int .i64 (N : Int),.slice A2 mr.length c2,.slice A3 ed.length c3]] V)) (by kernel_rfl) ?_ (fun hHeld => ?_)
      · exact S1.out.pick [3] (by decide)
      generalize hwz : W5.drew = w1 at *
      clear hwz
      refine tkH 0 rfl (v := ?_) (by kernel_rfl) ?_ hHeld ?_
      rotate_left
      · intro V hSw
        have b0 := ckC hSw 0 rfl 0 rfl
        have b1 := ckC hSw 0 rfl 1 rfl
        have b2 := ckC hSw 0 rfl 2 rfl
        have b3 := ckC hSw 0 rfl 3 rfl
        clear hSw
        first | (go_simp; done) | (go_simp; with_reducible rfl)
      try simp only [sx]
      refine tkP 1 rfl hHeld ?_
      try simp only [sx]
      refine tkH 3 rfl (v := ?_) (by kernel_rfl) ?_ hHeld ?_
      rotate_left
      · intro V hSw
        have b0 := ckC hSw 0 rfl 0 rfl
        have b1 := ckC hSw 0 rfl 1 rfl
        have b2 := ckC hSw 0 rfl 2 rfl
        have b3 := ckC hSw 0 rfl 3 rfl
        clear hSw
        first | (go_simp; done) | (go_simp; with_reducible rfl)
      try simp only [sx]
      refine tkP 4 rfl hHeld ?_
      try simp only [sx]
      refine tkH 5 rfl (v := ?_) (by kernel_rfl) ?_ hHeld ?_
      rotate_left
      · intro V hSw
        have b0 := ckC hSw 0 rfl 0 rfl
        have b1 := ckC hSw 0 rfl 1 rfl
        have b2 := ckC hSw 0 rfl 2 rfl
        have b3 := ckC hSw 0 rfl 3 rfl
        clear hSw
        first | (go_simp; done) | (go_simp; with_reducible rfl)
      try simp only [sx]
      refine wpAnyH_ready (rs := [2,7]) (by kernel_rfl) (by simp) ?_
      refine AllReadyH.cons rfl (fun K hK => ?_) (AllReadyH.cons rfl (fun K hK => ?_) AllReadyH.nil)
      · skip
        go_simp
        refine (flags_c ⟨al,N,mr,ed⟩ ⟨A1,c1,A2,c2,A3,c3⟩ (some ⟨bk,ok,none⟩) cK kp w1 HKR.out (Int.natCast_nonneg _) hn (HK.out.below IntE.stays S1.out.below) (by omega)).mono ?_
        rintro e w2 ⟨gi,rfl,T⟩
        have S2 := ckN S1.out T.out
        clear T
        refine hK.out _ _ ?_ (fun hHeld => ?_)
        · exact S2.out.pick [4] (by decide)
        clear hK K
        try simp only [sx]
        refine wpAnyH_ready (rs := [6,7]) (by kernel_rfl) (by simp) ?_
        refine AllReadyH.cons rfl (fun K hK => ?_) (AllReadyH.cons rfl (fun K hK => ?_) AllReadyH.nil)
        · skip
          go_simp
          refine (flags_c ⟨al,N,mr,ed⟩ ⟨A1,c1,A2,c2,A3,c3⟩ A2 c2 mr w2 HMR.out (Int.natCast_nonneg _) hn (HA.out.below S2.out.below).mr hml).mono ?_
          rintro e w3 ⟨gm,rfl,T⟩
          have S3 := ckN S2.out T.out
          clear T
          refine hK.out _ _ ?_ (fun hHeld => ?_)
          · exact S3.out.pick [5] (by decide)
          clear hK K
          try simp only [sx]
          refine rdH 7 rfl fun K hK => ?_
          go_simp
          obtain ⟨nib,hnib⟩ : ∃ n,n = w3.heap.size := ⟨_,rfl⟩
          obtain ⟨w4,hw4⟩ : ∃ v,v = w3.alloc (.cells #[.slice none 0 0] 118) := ⟨_,rfl⟩
          rw [← hw4,← hnib]
          have S4 := ckA S3.out hw4 hnib
          skip
          clear hw4 hnib
          refine hK.out _ _ ?_ (fun hHeld => ?_)
          · exact S4.out.pick [6] (by decide)
          clear hK K
          try simp only [sx]
          refine rdH 8 rfl fun K hK => ?_
          have sc0 := ckC S4.out 0 rfl 0 rfl
          have sf0 := BlkAt.free (S4.out.get 0 rfl) 0
          try dsimp only [Au.val] at *
          go_simp
          obtain ⟨w5,hw5⟩ : ∃ v,v = (w4.setCell ⟨nib,0,none⟩ (.slice (some ⟨gi,0,none⟩) N N)) := ⟨_,rfl⟩
          rw [← hw5]
          have S5 : Hid (Sep w.heap.size w [eBlk nib 118 [.slice (some ⟨gi,0,none⟩) N N],eBlk gm 4 (mkB N fun s => decide ((s : Int) ∈ mr)),eBlk gi 4 (mkB N fun s => decide ((s : Int) ∈ kp)),eBlk ob 35 [.slice AL al.length cL,.int .i64 0,.slice none 0 0,.slice none 0 0],eInts al (.slice AL al.length cL),eBlk (w.heap.size + 1) 35 [.slice none 0 0,.int .i64 0,.slice none 0 0,.slice none 0 0],eBlk w.heap.size 35 [.slice A1 al.length c1,.int .i64 (N : Int),.slice A2 mr.length c2,.slice A3 ed.length c3]] w5) := by rw [hw5]; exact (S4.out.set 0 rfl 0 (.slice (some ⟨gi,0,none⟩) N N))
          clear hw5 sc0 sf0
          refine hK.out _ _ ?_ (fun hHeld => ?_)
          · exact S5.out.pick [6] (by decide)
          clear hK K
          try simp only [sx]
          refine tkP 9 rfl hHeld ?_
          try simp only [sx]
          refine wpAnyH_done (by kernel_rfl) ?_ _
          go_wp2_with fail
          go_meet
          exact ⟨nib,gi,gm,rfl,rfl,S5.out.pick [0,2,1,3,4,5,6] (by decide)⟩
        · skip
          go_simp
          obtain ⟨nib,hnib⟩ : ∃ n,n = w2.heap.size := ⟨_,rfl⟩
          obtain ⟨w6,hw6⟩ : ∃ v,v = w2.alloc (.cells #[.slice none 0 0] 118) := ⟨_,rfl⟩
          rw [← hw6,← hnib]
          have S6 := ckA S2.out hw6 hnib
          skip
          clear hw6 hnib
          refine hK.out _ _ ?_ (fun hHeld => ?_)
          · exact S6.out.pick [5] (by decide)
          clear hK K
          try simp only [sx]
          refine rdH 6 rfl fun K hK => ?_
          go_simp
          refine (flags_c ⟨al,N,mr,ed⟩ ⟨A1,c1,A2,c2,A3,c3⟩ A2 c2 mr w6 HMR.out (Int.natCast_nonneg _) hn (HA.out.below S6.out.below).mr hml).mono ?_
          rintro e w7 ⟨gm,rfl,T⟩
          have S7 := ckN S6.out T.out
          clear T
          refine hK.out _ _ ?_ (fun hHeld => ?_)
          · exact S7.out.pick [6] (by decide)
          clear hK K
          try simp only [sx]
          refine rdH 8 rfl fun K hK => ?_
          have sc0 := ckC S7.out 1 rfl 0 rfl
          have sf0 := BlkAt.free (S7.out.get 1 rfl) 0
          try dsimp only [Au.val] at *
          go_simp
          obtain ⟨w8,hw8⟩ : ∃ v,v = (w7.setCell ⟨nib,0,none⟩ (.slice (some ⟨gi,0,none⟩) N N)) := ⟨_,rfl⟩
          rw [← hw8]
          have S8 : Hid (Sep w.heap.size w [eBlk gm 4 (mkB N fun s => decide ((s : Int) ∈ mr)),eBlk nib 118 [.slice (some ⟨gi,0,none⟩) N N],eBlk gi 4 (mkB N fun s => decide ((s : Int) ∈ kp)),eBlk ob 35 [.slice AL al.length cL,.int .i64 0,.slice none 0 0,.slice none 0 0],eInts al (.slice AL al.length cL),eBlk (w.heap.size + 1) 35 [.slice none 0 0,.int .i64 0,.slice none 0 0,.slice none 0 0],eBlk w.heap.size 35 [.slice A1 al.length c1,.int .i64 (N : Int),.slice A2 mr.length c2,.slice A3 ed.length c3]] w8) := by rw [hw8]; exact (S7.out.set 1 rfl 0 (.slice (some ⟨gi,0,none⟩) N N))
          clear hw8 sc0 sf0
          refine hK.out _ _ ?_ (fun hHeld => ?_)
          · exact S8.out.pick [6] (by decide)
          clear hK K
          try simp only [sx]
          refine tkP 9 rfl hHeld ?_
          try simp only [sx]
          refine wpAnyH_done (by kernel_rfl) ?_ _
          go_wp2_with fail
          go_meet
          exact ⟨nib,gi,gm,rfl,rfl,S8.out.pick [1,2,0,3,4,5,6] (by decide)⟩
      · skip
        go_simp
        obtain ⟨nib,hnib⟩ : ∃ n,n = w1.heap.size := ⟨_,rfl⟩
        obtain ⟨w9,hw9⟩ : ∃ v,v = w1.alloc (.cells #[.slice none 0 0] 118) := ⟨_,rfl⟩
        rw [← hw9,← hnib]
        have S9 := ckA S1.out hw9 hnib
        skip
        clear hw9 hnib
        refine hK.out _ _ ?_ (fun hHeld => ?_)
        · exact S9.out.pick [4] (by decide)
        clear hK K
        try simp only [sx]
        refine rdH 2 rfl fun K hK => ?_
        go_simp
        refine (flags_c ⟨al,N,mr,ed⟩ ⟨A1,c1,A2,c2,A3,c3⟩ (some ⟨bk,ok,none⟩) cK kp w9 HKR.out (Int.natCast_nonneg _) hn (HK.out.below IntE.stays S9.out.below) (by omega)).mono ?_
        rintro e w10 ⟨gi,rfl,T⟩
        have S10 := ckN S9.out T.out
        clear T
        refine hK.out _ _ ?_ (fun hHeld => ?_)
        · exact S10.out.pick [5] (by decide)
        clear hK K
        try simp only [sx]
        refine rdH 6 rfl fun K hK => ?_
        go_simp
        refine (flags_c ⟨al,N,mr,ed⟩ ⟨A1,c1,A2,c2,A3,c3⟩ A2 c2 mr w10 HMR.out (Int.natCast_nonneg _) hn (HA.out.below S10.out.below).mr hml).mono ?_
        rintro e w11 ⟨gm,rfl,T⟩
        have S11 := ckN S10.out T.out
        clear T
        refine hK.out _ _ ?_ (fun hHeld => ?_)
        · exact S11.out.pick [6] (by decide)
        clear hK K
        try simp only [sx]
        refine rdH 8 rfl fun K hK => ?_
        have sc0 := ckC S11.out 2 rfl 0 rfl
        have sf0 := BlkAt.free (S11.out.get 2 rfl) 0
        try dsimp only [Au.val] at *
        go_simp
        obtain ⟨w12,hw12⟩ : ∃ v,v = (w11.setCell ⟨nib,0,none⟩ (.slice (some ⟨gi,0,none⟩) N N)) := ⟨_,rfl⟩
        rw [← hw12]
        have S12 : Hid (Sep w.heap.size w [eBlk gm 4 (mkB N fun s => decide ((s : Int) ∈ mr)),eBlk gi 4 (mkB N fun s => decide ((s : Int) ∈ kp)),eBlk nib 118 [.slice (some ⟨gi,0,none⟩) N N],eBlk ob 35 [.slice AL al.length cL,.int .i64 0,.slice none 0 0,.slice none 0 0],eInts al (.slice AL al.length cL),eBlk (w.heap.size + 1) 35 [.slice none 0 0,.int .i64 0,.slice none 0 0,.slice none 0 0],eBlk w.heap.size 35 [.slice A1 al.length c1,.int .i64 (N : Int),.slice A2 mr.length c2,.slice A3 ed.length c3]] w12) := by rw [hw12]; exact (S11.out.set 2 rfl 0 (.slice (some ⟨gi,0,none⟩) N N))
        clear hw12 sc0 sf0
        refine hK.out _ _ ?_ (fun hHeld => ?_)
        · exact S12.out.pick [6] (by decide)
        clear hK K
        try simp only [sx]
        refine tkP 9 rfl hHeld ?_
        try simp only [sx]
        refine wpAnyH_done (by kernel_rfl) ?_ _
        go_wp2_with fail
        go_meet
        exact ⟨nib,gi,gm,rfl,rfl,S12.out.pick [2,1,0,3,4,5,6] (by decide)⟩
     case rest =>
      clear S4
      obtain ⟨ib,gi,gm,rfl,rfl,S⟩ := hcut
      have b1 := ckC S.out 6 rfl 1 rfl
      have hmk := make_run (P := Tryd.prog) 32 3 (.int .i64 0) 8 Tryd.underlying32 intInfo rfl N (by omega) (by omega)
      obtain ⟨gn,hgn⟩ : ∃ g,g = wc.heap.size := ⟨_,rfl⟩
      go_upto_region 12 with fail
      rw [← hgn]
      obtain ⟨nb,hnb⟩ : ∃ n,n = gn + 1 := ⟨_,rfl⟩
      rw [← hnb]
      refine wp_world (fun W => Sep w.heap.size w [eBlk nb 32 [.slice (some ⟨gn,0,none⟩) N N],eBlk gn 3 (mkI N fun _ => 0),eBlk ib 118 [.slice (some ⟨gi,0,none⟩) N N],eBlk gi 4 (mkB N fun s => decide ((s : Int) ∈ kp)),eBlk gm 4 (mkB N fun s => decide ((s : Int) ∈ mr)),eBlk ob 35 [.slice AL al.length cL,.int .i64 0,.slice none 0 0,.slice none 0 0],eInts al (.slice AL al.length cL),eBlk (w.heap.size + 1) 35 [.slice none 0 0,.int .i64 0,.slice none 0 0,.slice none 0 0],eBlk w.heap.size 35 [.slice A1 al.length c1,.int .i64 (N : Int),.slice A2 mr.length c2,.slice A3 ed.length c3]] W) ?_ fun W6 S' => ?_
      · have h := (S.out.alloc' 3 (List.replicate N (.int .i64 0)) (o := Obj.cells (Array.replicate N (.int .i64 0)) 3) (by simp) hgn).alloc' 32 [.slice (some ⟨gn,0,none⟩) N N] (g := nb) rfl (by simp; omega)
        rw [mkI_rep] at h
        exact h
      have S6 := Lib.hid S'
      clear S' S b1 hmk hgn hnb
      have b0 := ckC S6.out 8 rfl 0 rfl
      have b1 := ckC S6.out 8 rfl 1 rfl
      have b2 := ckC S6.out 8 rfl 2 rfl
      have b3 := ckC S6.out 8 rfl 3 rfl
      go_wp2_with fail
      refine (newGraph_c ⟨al,N,mr,ed⟩ ⟨A1,c1,A2,c2,A3,c3⟩ _ HR.out (HA.out.below S6.out.below)).mono ?_
      rintro e w7 ⟨g0,rfl,TT⟩
      dsimp only [grCells,Int.toNat_natCast]
      have S7 := ckN S6.out TT.out
      clear TT S6 b0 b1 b2 b3
      obtain ⟨gg,hgg⟩ : ∃ g,g = w7.heap.size := ⟨_,rfl⟩
      go_upto_region 13 with fail
      rw [← hgg]
      refine wp_world (fun W => Sep w.heap.size w [eBlk gg 138 [.slice A1 al.length c1,.int .i64 (N : Int),.slice A2 mr.length c2,.slice A3 ed.length c3,.slice (some ⟨g0,0,none⟩) (N + 1) (N + 1)],eBlk g0 3 (mkI (N + 1) fun j => (fstV ed j : Int)),eBlk nb 32 [.slice (some ⟨gn,0,none⟩) N N],eBlk gn 3 (mkI N fun _ => 0),eBlk ib 118 [.slice (some ⟨gi,0,none⟩) N N],eBlk gi 4 (mkB N fun s => decide ((s : Int) ∈ kp)),eBlk gm 4 (mkB N fun s => decide ((s : Int) ∈ mr)),eBlk ob 35 [.slice AL al.length cL,.int .i64 0,.slice none 0 0,.slice none 0 0],eInts al (.slice AL al.length cL),eBlk (w.heap.size + 1) 35 [.slice none 0 0,.int .i64 0,.slice none 0 0,.slice none 0 0],eBlk w.heap.size 35 [.slice A1 al.length c1,.int .i64 (N : Int),.slice A2 mr.length c2,.slice A3 ed.length c3]] W) (S7.out.alloc' _ [_,_,_,_,_] rfl hgg) fun W8 S' => ?_
      have S8 := Lib.hid S'
      clear S' S7 hgg
      obtain ⟨gq,hgq⟩ : ∃ g,g = W8.heap.size := ⟨_,rfl⟩
      go_upto_region 14 with fail
      rw [← hgq]
      obtain ⟨qb,hqb⟩ : ∃ n,n = gq + 1 := ⟨_,rfl⟩
      rw [← hqb]
      refine wp_world (fun W => Sep w.heap.size w [eBlk qb 32 [.slice (some ⟨gq,0,none⟩) 1 1],eInts [0] (.slice (some ⟨gq,0,none⟩) 1 1),eBlk gg 138 [.slice A1 al.length c1,.int .i64 (N : Int),.slice A2 mr.length c2,.slice A3 ed.length c3,.slice (some ⟨g0,0,none⟩) (N + 1) (N + 1)],eBlk g0 3 (mkI (N + 1) fun j => (fstV ed j : Int)),eBlk nb 32 [.slice (some ⟨gn,0,none⟩) N N],eBlk gn 3 (mkI N fun _ => 0),eBlk ib 118 [.slice (some ⟨gi,0,none⟩) N N],eBlk gi 4 (mkB N fun s => decide ((s : Int) ∈ kp)),eBlk gm 4 (mkB N fun s => decide ((s : Int) ∈ mr)),eBlk ob 35 [.slice AL al.length cL,.int .i64 0,.slice none 0 0,.slice none 0 0],eInts al (.slice AL al.length cL),eBlk (w.heap.size + 1) 35 [.slice none 0 0,.int .i64 0,.slice none 0 0,.slice none 0 0],eBlk w.heap.size 35 [.slice A1 al.length c1,.int .i64 (N : Int),.slice A2 mr.length c2,.slice A3 ed.length c3]] W) ?_ fun W9 S' => ?_
      · exact ((S8.out.alloc' 3 [.int .i64 0] rfl hgq).own 0 rfl encI 1 [0] rfl (fun _ => rfl) (by decide)).alloc' 32 [.slice (some ⟨gq,0,none⟩) 1 1] (g := qb) rfl (by simp; omega)
      have S9 := Lib.hid S'
      clear S' S8 hgq hqb
      have hN0 : 0 < N := by omega
      have n0 := BlkAt.cell (S9.out.get 4 rfl) 0
      simp only [List.getElem?_cons_zero] at n0
      have z0 := (BlkAt.cell (S9.out.get 5 rfl) 0).trans (mkI_get hN0)
      have zf := BlkAt.free (S9.out.get 5 rfl) 0
      go_upto_region 15 with fail
      refine wp_world (fun W => Sep w.heap.size w [eBlk qb 32 [.slice (some ⟨gq,0,none⟩) 1 1],eInts [0] (.slice (some ⟨gq,0,none⟩) 1 1),eBlk gg 138 [.slice A1 al.length c1,.int .i64 (N : Int),.slice A2 mr.length c2,.slice A3 ed.length c3,.slice (some ⟨g0,0,none⟩) (N + 1) (N + 1)],eBlk g0 3 (mkI (N + 1) fun j => (fstV ed j : Int)),eBlk nb 32 [.slice (some ⟨gn,0,none⟩) N N],eBlk gn 3 (mkI N (numV [0])),eBlk ib 118 [.slice (some ⟨gi,0,none⟩) N N],eBlk gi 4 (mkB N fun s => decide ((s : Int) ∈ kp)),eBlk gm 4 (mkB N fun s => decide ((s : Int) ∈ mr)),eBlk ob 35 [.slice AL al.length cL,.int .i64 0,.slice none 0 0,.slice none 0 0],eInts al (.slice AL al.length cL),eBlk (w.heap.size + 1) 35 [.slice none 0 0,.int .i64 0,.slice none 0 0,.slice none 0 0],eBlk w.heap.size 35 [.slice A1 al.length c1,.int .i64 (N : Int),.slice A2 mr.length c2,.slice A3 ed.length c3]] W) ?_ fun W10 S' => ?_
      · have h := S9.out.set 5 rfl 0 (.int .i64 1)
        rw [mkI_set] at h
        have e : (mkI N fun t => if t = 0 then (1 : Int) else 0) = mkI N (numV [0]) := mkI_congr fun t _ => (numV_one t).symm
        rw [e] at h
        exact h
      have S10 := Lib.hid S'
      clear S' S9 n0 z0 zf
      obtain ⟨ii,hii⟩ : ∃ g,g = W10.heap.size := ⟨_,rfl⟩
      go_upto_block 0 with fail
      rw [← hii]
      refine wp_world (fun W => Sep w.heap.size w ([eBlk ii 3 [.int .i64 0],eBlk qb 32 [.slice (some ⟨gq,0,none⟩) 1 1],eInts [0] (.slice (some ⟨gq,0,none⟩) 1 1),eBlk gg 138 [.slice A1 al.length c1,.int .i64 (N : Int),.slice A2 mr.length c2,.slice A3 ed.length c3,.slice (some ⟨g0,0,none⟩) (N + 1) (N + 1)],eBlk g0 3 (mkI (N + 1) fun j => (fstV ed j : Int)),eBlk nb 32 [.slice (some ⟨gn,0,none⟩) N N],eBlk gn 3 (mkI N (numV [0])),eBlk ib 118 [.slice (some ⟨gi,0,none⟩) N N],eBlk gi 4 (mkB N fun s => decide ((s : Int) ∈ kp)),eBlk gm 4 (mkB N fun s => decide ((s : Int) ∈ mr)),eBlk ob 35 [.slice AL al.length cL,.int .i64 0,.slice none 0 0,.slice none 0 0],eInts al (.slice AL al.length cL),eBlk (w.heap.size + 1) 35 [.slice none 0 0,.int .i64 0,.slice none 0 0,.slice none 0 0],eBlk w.heap.size 35 [.slice A1 al.length c1,.int .i64 (N : Int),.slice A2 mr.length c2,.slice A3 ed.length c3]] ++ mksE []) W) (S10.out.alloc' 3 [.int .i64 0] rfl hii) fun W11 S' => ?_
      have S11 := Lib.hid S'
      clear S' S10 hii
      go_wp2_with fail
      obtain ⟨LI,hLI⟩ : ∃ LI : Act → World → Prop,Hid (∀ a' wr,LI a' wr ↔ (∃ (i : Nat) (fs M : List Int) (E : List Ed) (AQ : Option Addr) (cQ : Nat) (v2 v3 : Value) (ii : Nat) (Ds : List Nat),
       (i ≤ fs.length ∧ fs.length ≤ N ∧ M.length ≤ i ∧ E.length ≤ 32 * i ∧ Hid (Bld id (outK ⟨al,(N : Int),mr,ed⟩ fun v => decide (v ∈ kp)) 0 i 0 fs E) ∧ Hid (Mks (fun v => v ∈ mr) fs i M) ∧ Hid (∀ v,v ∈ fs → 0 ≤ v ∧ v < N ∧ decide (v ∈ kp) = true) ∧ Hid (Sep w.heap.size w ([eBlk ii 3 [.int .i64 (i : Int)],eBlk qb 32 [.slice AQ fs.length cQ],eInts fs (.slice AQ fs.length cQ),eBlk ob 35 [.slice AL al.length cL,.int .i64 0,v2,v3],eInts M v2,eEds E v3,eInts al (.slice AL al.length cL),eBlk nb 32 [.slice (some ⟨gn,0,none⟩) N N],eBlk gn 3 (mkI N (numV fs)),eBlk gg 138 [.slice A1 al.length c1,.int .i64 (N : Int),.slice A2 mr.length c2,.slice A3 ed.length c3,.slice (some ⟨g0,0,none⟩) (N + 1) (N + 1)],eBlk g0 3 (mkI (N + 1) fun j => (fstV ed j : Int)),eBlk ib 118 [.slice (some ⟨gi,0,none⟩) N N],eBlk gi 4 (mkB N fun s => decide ((s : Int) ∈ kp)),eBlk gm 4 (mkB N fun s => decide ((s : Int) ∈ mr)),eBlk (w.heap.size + 1) 35 [.slice none 0 0,.int .i64 0,.slice none 0 0,.slice none 0 0],eBlk w.heap.size 35 [.slice A1 al.length c1,.int .i64 (N : Int),.slice A2 mr.length c2,.slice A3 ed.length c3]] ++ mksE Ds) wr)) ∧ ∃ u : Nat → Value,a' = { tmps := #[u 0,u 1,.pointer (some ⟨w.heap.size,0,none⟩),u 3,.pointer (some ⟨w.heap.size + 1,0,none⟩),u 5,u 6,u 7,.pointer (some ⟨ob,0,none⟩),.pointer (some ⟨ib,0,none⟩),.slice (some ⟨gm,0,none⟩) N N,.pointer (some ⟨nb,0,none⟩),.pointer (some ⟨gg,0,none⟩),.pointer (some ⟨qb,0,none⟩),.pointer (some ⟨ii,0,none⟩),u 15,u 16,u 17,u 18,u 19,u 20,u 21,u 22,u 23,u 24,u 25,u 26,u 27,u 28,u 29,u 30,u 31,u 32,u 33,u 34,u 35,u 36,u 37,u 38,u 39,u 40,u 41,u 42,u 43,u 44,u 45,u 46,u 47,u 48,u 49,u 50,u 51,u 52,u 53,u 54,u 55,u 56,u 57,u 58,u 59,u 60,u 61,u 62,u 63,u 64,u 65,u 66,u 67,u 68,u 69,u 70,u 71,u 72,u 73,u 74,u 75,u 76,u 77,u 78,u 79,u 80,u 81,u 82,u 83,u 84,u 85,u 86,u 87,u 88,u 89,u 90,u 91,u 92,u 93,u 94,u 95,u 96,u 97,u 98,u 99,u 100,u 101,u 102,u 103,u 104,u 105,u 106,u 107,u 108,u 109,u 110,u 111,u 112,u 113,u 114,u 115,u 116,u 117,u 118,u 119,u 120,u 121,u 122,u 123,u 124,u 125,u 126],defers := mksD Ds })) := ⟨_,fun _ _ => Iff.rfl⟩
      refine wp_loop LI (fun a' wr => N + 1 - boxN wr (a'.tmps.getD 14 undef)) ?_ ?_
      · exact (hLI.out _ _).2 ⟨0,[0],[],[],some ⟨gq,0,none⟩,1,.slice none 0 0,.slice none 0 0,ii,[],⟨Nat.zero_le _,hN0,Nat.le_refl _,Nat.le_refl _,Bld.start,Mks.start _ _,fun v hv => by simp at hv; subst hv; exact ⟨Int.le_refl _,by omega,decide_eq_true HX0.out⟩,((S11.out.nilOwn encI 1 3).nilOwn Ed.cells 3 87).pick [2,3,4,12,1,0,13,7,8,5,6,9,10,11,14,15] (by decide)⟩,fr_of (fun u => #[u 0,u 1,.pointer (some ⟨w.heap.size,0,none⟩),u 3,.pointer (some ⟨w.heap.size + 1,0,none⟩),u 5,u 6,u 7,.pointer (some ⟨ob,0,none⟩),.pointer (some ⟨ib,0,none⟩),.slice (some ⟨gm,0,none⟩) N N,.pointer (some ⟨nb,0,none⟩),.pointer (some ⟨gg,0,none⟩),.pointer (some ⟨qb,0,none⟩),.pointer (some ⟨ii,0,none⟩),u 15,u 16,u 17,u 18,u 19,u 20,u 21,u 22,u 23,u 24,u 25,u 26,u 27,u 28,u 29,u 30,u 31,u 32,u 33,u 34,u 35,u 36,u 37,u 38,u 39,u 40,u 41,u 42,u 43,u 44,u 45,u 46,u 47,u 48,u 49,u 50,u 51,u 52,u 53,u 54,u 55,u 56,u 57,u 58,u 59,u 60,u 61,u 62,u 63,u 64,u 65,u 66,u 67,u 68,u 69,u 70,u 71,u 72,u 73,u 74,u 75,u 76,u 77,u 78,u 79,u 80,u 81,u 82,u 83,u 84,u 85,u 86,u 87,u 88,u 89,u 90,u 91,u 92,u 93,u 94,u 95,u 96,u 97,u 98,u 99,u 100,u 101,u 102,u 103,u 104,u 105,u 106,u 107,u 108,u 109,u 110,u 111,u 112,u 113,u 114,u 115,u 116,u 117,u 118,u 119,u 120,u 121,u 122,u 123,u 124,u 125,u 126]) rfl⟩
      · clear S11
        rintro a' wr hLW
        obtain ⟨i,fs,M,E,AQ,cQ,v2,v3,ii,Ds,⟨hi,hfs,hMl,hEl,B,K,RG,S⟩,u,rfl⟩ := (hLI.out _ _).1 hLW
        clear hLW
        have ci := BlkAt.cell (S.out.get 0 rfl) 0
        have cq := BlkAt.cell (S.out.get 1 rfl) 0
        simp only [List.getElem?_cons_zero] at ci cq
        have HB0 : Hid (boxN wr (.pointer (some ⟨ii,0,none⟩)) = i) := boxN_of ci
        by_cases hlt : i < fs.length
        · obtain ⟨gf,of,s0,hFe,_,hs0,cf0⟩ := IntsAt.at (S.out.ints 2 rfl) hlt
          subst hFe
          obtain ⟨s,hs⟩ := Int.eq_ofNat_of_zero_le (RG.out s0 (List.mem_of_getElem? hs0)).1
          have hsN : s < N := by have := (RG.out s0 (List.mem_of_getElem? hs0)).2.1; omega
          rw [hs] at hs0 cf0
          have FS := Lib.hid hs0
          have cm := (BlkAt.cell (S.out.get 13 rfl) s).trans (mkB_get hsN)
          obtain ⟨q,hq⟩ : ∃ q,q = decide ((s : Int) ∈ mr) := ⟨_,rfl⟩
          rw [← hq] at cm
          have HQ := Lib.hid hq
          clear hs0 hs hq
          go_upto_if 70 with fail
          go_cut [70] from 71 to 76 (fun v wx => ∃ (M' : List Int) (v2 : Value),M'.length ≤ i + 1 ∧ Hid (Mks (fun v => v ∈ mr) fs (i + 1) M') ∧ Hid (Sep w.heap.size w ([eBlk ii 3 [.int .i64 (i : Int)],eBlk qb 32 [.slice (some ⟨gf,of,none⟩) fs.length cQ],eInts fs (.slice (some ⟨gf,of,none⟩) fs.length cQ),eBlk ob 35 [.slice AL al.length cL,.int .i64 0,v2,v3],eInts M' v2,eEds E v3,eInts al (.slice AL al.length cL),eBlk nb 32 [.slice (some ⟨gn,0,none⟩) N N],eBlk gn 3 (mkI N (numV fs)),eBlk gg 138 [.slice A1 al.length c1,.int .i64 (N : Int),.slice A2 mr.length c2,.slice A3 ed.length c3,.slice (some ⟨g0,0,none⟩) (N + 1) (N + 1)],eBlk g0 3 (mkI (N + 1) fun j => (fstV ed j : Int)),eBlk ib 118 [.slice (some ⟨gi,0,none⟩) N N],eBlk gi 4 (mkB N fun s => decide ((s : Int) ∈ kp)),eBlk gm 4 (mkB N fun s => decide ((s : Int) ∈ mr)),eBlk (w.heap.size + 1) 35 [.slice none 0 0,.int .i64 0,.slice none 0 0,.slice none 0 0],eBlk w.heap.size 35 [.slice A1 al.length c1,.int .i64 (N : Int),.slice A2 mr.length c2,.slice A3 ed.length c3]] ++ mksE Ds) wx))
          case first =>
           cases q
           case true =>
            have hm : (s : Int) ∈ mr := of_decide_eq_true HQ.out.symm
            have K2 := Lib.hid (K.out.yes FS.out hm)
            have q2 := ckC S.out 3 rfl 2 rfl
            clear cm cf0 hm cq
            go_wp2_with (at_builtin; refine wpList_pushS rfl _ _ 32 rfl (S.out.alloc 3 [.int .i64 (i : Int)]) 5 rfl Tryd.underlying32 _ 8 intInfo rfl (by decide) rfl (i : Int) _ rfl rfl (one_cell _ _ [_] _ rfl) (encI_one _) ?_ (by decide) ?_)
            · omega
            intro A5 c5 w6 S9 _
            have S10 : Hid (Sep w.heap.size w ([eBlk ii 3 [.int .i64 (i : Int)],eBlk qb 32 [.slice (some ⟨gf,of,none⟩) fs.length cQ],eInts fs (.slice (some ⟨gf,of,none⟩) fs.length cQ),eBlk ob 35 [.slice AL al.length cL,.int .i64 0,v2,v3],eInts (M ++ [(i : Int)]) (.slice A5 (M ++ [(i : Int)]).length c5),eEds E v3,eInts al (.slice AL al.length cL),eBlk nb 32 [.slice (some ⟨gn,0,none⟩) N N],eBlk gn 3 (mkI N (numV fs)),eBlk gg 138 [.slice A1 al.length c1,.int .i64 (N : Int),.slice A2 mr.length c2,.slice A3 ed.length c3,.slice (some ⟨g0,0,none⟩) (N + 1) (N + 1)],eBlk g0 3 (mkI (N + 1) fun j => (fstV ed j : Int)),eBlk ib 118 [.slice (some ⟨gi,0,none⟩) N N],eBlk gi 4 (mkB N fun s => decide ((s : Int) ∈ kp)),eBlk gm 4 (mkB N fun s => decide ((s : Int) ∈ mr)),eBlk (w.heap.size + 1) 35 [.slice none 0 0,.int .i64 0,.slice none 0 0,.slice none 0 0],eBlk w.heap.size 35 [.slice A1 al.length c1,.int .i64 (N : Int),.slice A2 mr.length c2,.slice A3 ed.length c3]] ++ mksE Ds) w6) := by
             have h := S9.drop1
             rw [show M.length + 1 = (M ++ [(i : Int)]).length by simp] at h
             exact h
            have u2 := ckC S10.out 3 rfl 2 rfl
            have f2 := BlkAt.free (S10.out.get 3 rfl) 2
            have S11 : Hid (Sep w.heap.size w ([eBlk ii 3 [.int .i64 (i : Int)],eBlk qb 32 [.slice (some ⟨gf,of,none⟩) fs.length cQ],eInts fs (.slice (some ⟨gf,of,none⟩) fs.length cQ),eBlk ob 35 [.slice AL al.length cL,.int .i64 0,(.slice A5 (M ++ [(i : Int)]).length c5),v3],eInts (M ++ [(i : Int)]) (.slice A5 (M ++ [(i : Int)]).length c5),eEds E v3,eInts al (.slice AL al.length cL),eBlk nb 32 [.slice (some ⟨gn,0,none⟩) N N],eBlk gn 3 (mkI N (numV fs)),eBlk gg 138 [.slice A1 al.length c1,.int .i64 (N : Int),.slice A2 mr.length c2,.slice A3 ed.length c3,.slice (some ⟨g0,0,none⟩) (N + 1) (N + 1)],eBlk g0 3 (mkI (N + 1) fun j => (fstV ed j : Int)),eBlk ib 118 [.slice (some ⟨gi,0,none⟩) N N],eBlk gi 4 (mkB N fun s => decide ((s : Int) ∈ kp)),eBlk gm 4 (mkB N fun s => decide ((s : Int) ∈ mr)),eBlk (w.heap.size + 1) 35 [.slice none 0 0,.int .i64 0,.slice none 0 0,.slice none 0 0],eBlk w.heap.size 35 [.slice A1 al.length c1,.int .i64 (N : Int),.slice A2 mr.length c2,.slice A3 ed.length c3]] ++ mksE Ds) (w6.setCell ⟨ob,2,none⟩ (.slice A5 (M ++ [(i : Int)]).length c5))) := S10.out.set 3 rfl 2 (.slice A5 (M ++ [(i : Int)]).length c5)
            rw [show (M ++ [(i : Int)]).length = M.length + 1 by simp] at S11
            clear S S9 S10 q2
            go_wp2_with fail
            go_meet
            exact ⟨M ++ [(i : Int)],_,by simp; omega,K2.out,S11.out⟩
           case false =>
            have hm : ¬ (s : Int) ∈ mr := of_decide_eq_false HQ.out.symm
            have K2 := Lib.hid (K.out.no FS.out hm)
            clear cm cf0 hm cq
            go_wp2_with fail
            go_meet
            exact ⟨M,v2,by omega,K2.out,S.out⟩
          case rest =>
           clear cm cf0 S K hMl ci cq
           obtain ⟨M',v2,hMl,K,S⟩ := hcut
           go_upto_region 20 with fail
           refine wp_world (fun W => Sep w.heap.size w ([eBlk ii 3 [.int .i64 (i : Int)],eBlk qb 32 [.slice (some ⟨gf,of,none⟩) fs.length cQ],eInts fs (.slice (some ⟨gf,of,none⟩) fs.length cQ),eBlk ob 35 [.slice AL al.length cL,.int .i64 0,v2,v3],eInts M' v2,eEds E v3,eInts al (.slice AL al.length cL),eBlk nb 32 [.slice (some ⟨gn,0,none⟩) N N],eBlk gn 3 (mkI N (numV fs)),eBlk gg 138 [.slice A1 al.length c1,.int .i64 (N : Int),.slice A2 mr.length c2,.slice A3 ed.length c3,.slice (some ⟨g0,0,none⟩) (N + 1) (N + 1)],eBlk g0 3 (mkI (N + 1) fun j => (fstV ed j : Int)),eBlk ib 118 [.slice (some ⟨gi,0,none⟩) N N],eBlk gi 4 (mkB N fun s => decide ((s : Int) ∈ kp)),eBlk gm 4 (mkB N fun s => decide ((s : Int) ∈ mr)),eBlk (w.heap.size + 1) 35 [.slice none 0 0,.int .i64 0,.slice none 0 0,.slice none 0 0],eBlk w.heap.size 35 [.slice A1 al.length c1,.int .i64 (N : Int),.slice A2 mr.length c2,.slice A3 ed.length c3]] ++ mksE Ds) W) S.out fun W12 S' => ?_
           have S12 := Lib.hid S'
           clear S' S
           have S13 := Lib.hid S12.out.drew
           refine wp_region_held_drew (S := (fun V => Sep w.heap.size w [eBlk ii 3 [.int .i64 (i : Int)],eBlk qb 32 [.slice (some ⟨gf,of,none⟩) fs.length cQ],eInts fs (.slice (some ⟨gf,of,none⟩) fs.length cQ),eBlk gg 138 [.slice A1 al.length c1,.int .i64 (N : Int),.slice A2 mr.length c2,.slice A3 ed.length c3,.slice (some ⟨g0,0,none⟩) (N + 1) (N + 1)]] V)) (by kernel_rfl) ?_ (fun hHeld => ?_)
           · exact S13.out.left.pick [0,1,2,9] (by decide)
           generalize hwz : W12.drew = w13 at *
           clear hwz
           refine tkH 0 rfl (v := ?_) (by kernel_rfl) ?_ hHeld ?_
           rotate_left
           · intro V hSw
             have g0 := ckC hSw 3 rfl 0 rfl
             have g1 := ckC hSw 3 rfl 1 rfl
             have g2 := ckC hSw 3 rfl 2 rfl
             have g3 := ckC hSw 3 rfl 3 rfl
             have g4 := ckC hSw 3 rfl 4 rfl
             clear hSw
             first | (go_simp; done) | (go_simp; with_reducible rfl)
           try simp only [sx]
           refine tkH 1 rfl (v := ?_) (by kernel_rfl) ?_ hHeld ?_
           rotate_left
           · intro V hSw
             have q0 := ckC hSw 1 rfl 0 rfl
             clear hSw
             first | (go_simp; done) | (go_simp; with_reducible rfl)
           try simp only [sx]
           refine tkH 2 rfl (v := ?_) (by kernel_rfl) ?_ hHeld ?_
           rotate_left
           · intro V hSw
             have c0 := ckC hSw 0 rfl 0 rfl
             clear hSw
             first | (go_simp; done) | (go_simp; with_reducible rfl)
           try simp only [sx]
           refine tkP 3 rfl hHeld ?_
           try simp only [sx]
           refine tkH 4 rfl (v := ?_) (by kernel_rfl) ?_ hHeld ?_
           rotate_left
           · intro V hSw
             have IL := Sep.ints (show Sep w.heap.size w _ V from hSw) 2 rfl
             obtain ⟨y,hy,cy⟩ := IntsAt.more IL hlt
             rw [FS.out] at hy
             cases hy
             have c0 := ckC hSw 0 rfl 0 rfl
             clear hSw
             first | (go_simp; done) | (go_simp; with_reducible rfl)
           try simp only [sx]
           refine rdH 5 rfl fun K hK => ?_
           go_simp
           refine (edgesSeq_c ⟨al,N,mr,ed⟩ ⟨A1,c1,A2,c2,A3,c3⟩ g0 s w13).mono ?_
           rintro e w14 ⟨gx,bs,rfl,T⟩
           have S14 : Hid (Sep w.heap.size w ([eBlk bs 3 [.int .i64 (s : Int)],eBlk gx 138 [.slice A1 al.length c1,.int .i64 (N : Int),.slice A2 mr.length c2,.slice A3 ed.length c3,.slice (some ⟨g0,0,none⟩) (N + 1) (N + 1)],eBlk ii 3 [.int .i64 (i : Int)],eBlk qb 32 [.slice (some ⟨gf,of,none⟩) fs.length cQ],eInts fs (.slice (some ⟨gf,of,none⟩) fs.length cQ),eBlk ob 35 [.slice AL al.length cL,.int .i64 0,v2,v3],eInts M' v2,eEds E v3,eInts al (.slice AL al.length cL),eBlk nb 32 [.slice (some ⟨gn,0,none⟩) N N],eBlk gn 3 (mkI N (numV fs)),eBlk gg 138 [.slice A1 al.length c1,.int .i64 (N : Int),.slice A2 mr.length c2,.slice A3 ed.length c3,.slice (some ⟨g0,0,none⟩) (N + 1) (N + 1)],eBlk g0 3 (mkI (N + 1) fun j => (fstV ed j : Int)),eBlk ib 118 [.slice (some ⟨gi,0,none⟩) N N],eBlk gi 4 (mkB N fun s => decide ((s : Int) ∈ kp)),eBlk gm 4 (mkB N fun s => decide ((s : Int) ∈ mr)),eBlk (w.heap.size + 1) 35 [.slice none 0 0,.int .i64 0,.slice none 0 0,.slice none 0 0],eBlk w.heap.size 35 [.slice A1 al.length c1,.int .i64 (N : Int),.slice A2 mr.length c2,.slice A3 ed.length c3]] ++ mksE Ds) w14) := S13.out.news T.out
           clear T
           refine hK.out _ _ ?_ (fun hHeld => ?_)
           · exact S14.out.left.pick [2,3,4,11] (by decide)
           clear hK K
           try simp only [sx]
           refine wpAnyH_done (by kernel_rfl) ?_ _
           have hxz : Hid (∀ k,k ≤ (outOf ed s).length → k ≤ 32) := fun k hk => Nat.le_trans hk (outOf_32' HR.out s)
           have S13 : Hid (Sep w.heap.size w ([eBlk bs 3 [.int .i64 (s : Int)],eBlk gx 138 [.slice A1 al.length c1,.int .i64 (N : Int),.slice A2 mr.length c2,.slice A3 ed.length c3,.slice (some ⟨g0,0,none⟩) (N + 1) (N + 1)],eBlk ii 3 [.int .i64 (i : Int)],eBlk qb 32 [.slice (some ⟨gf,of,none⟩) fs.length cQ],eInts fs (.slice (some ⟨gf,of,none⟩) fs.length cQ),eBlk ob 35 [.slice AL al.length cL,.int .i64 0,v2,v3],eInts M' v2,eEds E v3,eInts al (.slice AL al.length cL),eBlk nb 32 [.slice (some ⟨gn,0,none⟩) N N],eBlk gn 3 (mkI N (numV fs)),eBlk gg 138 [.slice A1 al.length c1,.int .i64 (N : Int),.slice A2 mr.length c2,.slice A3 ed.length c3,.slice (some ⟨g0,0,none⟩) (N + 1) (N + 1)],eBlk g0 3 (mkI (N + 1) fun j => (fstV ed j : Int)),eBlk ib 118 [.slice (some ⟨gi,0,none⟩) N N],eBlk gi 4 (mkB N fun s => decide ((s : Int) ∈ kp)),eBlk gm 4 (mkB N fun s => decide ((s : Int) ∈ mr)),eBlk (w.heap.size + 1) 35 [.slice none 0 0,.int .i64 0,.slice none 0 0,.slice none 0 0],eBlk w.heap.size 35 [.slice A1 al.length c1,.int .i64 (N : Int),.slice A2 mr.length c2,.slice A3 ed.length c3]] ++ mksE Ds) w14) := S14
           clear S14
           go_wp2_with fail
           obtain ⟨RR,hRR⟩ : ∃ RR : Nat → List Ent → Prop,Hid (∀ t es,RR t es ↔ (∃ (fs' : List Int) (E' : List Ed) (AQ' : Option Addr) (cQ' : Nat) (v3' : Value),i < fs'.length ∧ fs'.length ≤ N ∧ E'.length ≤ 32 * i + t ∧ Hid (Bld id (outK ⟨al,(N : Int),mr,ed⟩ fun v => decide (v ∈ kp)) 0 i (kth ⟨al,(N : Int),mr,ed⟩ (fun v => decide (v ∈ kp)) (s : Int) t) fs' E') ∧ Hid (fs'[i]? = some (s : Int)) ∧ Hid (Mks (fun v => v ∈ mr) fs' (i + 1) M') ∧ Hid (∀ v,v ∈ fs' → 0 ≤ v ∧ v < N ∧ decide (v ∈ kp) = true) ∧ es = [eBlk bs 3 [.int .i64 (s : Int)],eBlk gx 138 [.slice A1 al.length c1,.int .i64 (N : Int),.slice A2 mr.length c2,.slice A3 ed.length c3,.slice (some ⟨g0,0,none⟩) (N + 1) (N + 1)],eBlk ii 3 [.int .i64 (i : Int)],eBlk qb 32 [.slice AQ' fs'.length cQ'],eInts fs' (.slice AQ' fs'.length cQ'),eBlk ob 35 [.slice AL al.length cL,.int .i64 0,v2,v3'],eInts M' v2,eEds E' v3',eInts al (.slice AL al.length cL),eBlk nb 32 [.slice (some ⟨gn,0,none⟩) N N],eBlk gn 3 (mkI N (numV fs')),eBlk gg 138 [.slice A1 al.length c1,.int .i64 (N : Int),.slice A2 mr.length c2,.slice A3 ed.length c3,.slice (some ⟨g0,0,none⟩) (N + 1) (N + 1)],eBlk g0 3 (mkI (N + 1) fun j => (fstV ed j : Int)),eBlk ib 118 [.slice (some ⟨gi,0,none⟩) N N],eBlk gi 4 (mkB N fun s => decide ((s : Int) ∈ kp)),eBlk gm 4 (mkB N fun s => decide ((s : Int) ∈ mr)),eBlk (w.heap.size + 1) 35 [.slice none 0 0,.int .i64 0,.slice none 0 0,.slice none 0 0],eBlk w.heap.size 35 [.slice A1 al.length c1,.int .i64 (N : Int),.slice A2 mr.length c2,.slice A3 ed.length c3]] ++ mksE Ds)) := ⟨_,fun _ _ => Iff.rfl⟩
           refine wp_rangeFunc_upd1 (enc := fun x : Ed => .agg x.cells.toArray) (rfl) (fun _ _ => rfl) (T := fun _ => []) 0 (edges_iter ⟨al,(N : Int),mr,ed⟩ ⟨A1,c1,A2,c2,A3,c3⟩ g0 gx bs s w.heap.size 0 w _ HR.out HA.out.ed rfl hsN HC.out.c3) RR
            (fun _ _ => False) S13.out ((hRR.out _ _).2 ⟨fs,E,some ⟨gf,of,none⟩,cQ,v3,hlt,hfs,by omega,B.out,FS.out,K.out,RG.out,rfl⟩) (fun k es hes => ⟨trivial,?_⟩)
            (fun a x b => { tmps := (a.tmps.setIfInBounds 83 (.agg x.cells.toArray)).setIfInBounds 15 (.pointer (some ⟨b,0,none⟩)),defers := [] }) (fun x b => [eBlk b 87 x.cells]) ?_ ?_ ?_ ?_
           · obtain ⟨fs',E',AQ',cQ',v3',_,_,_,_,_,_,_,rfl⟩ := (hRR.out _ _).1 hes
             intro e he
             simp only [List.mem_cons,List.not_mem_nil,or_false] at he
             rcases he with rfl | rfl | rfl
             · exact List.mem_of_getElem? (i := 0) rfl
             · exact List.mem_of_getElem? (i := 1) rfl
             · exact List.mem_of_getElem? (i := 12) rfl
           · clear S13 B K RG FS
             rintro l eL eD k x es1 W KK hx hes SW hK
             obtain ⟨fs',E',AQ',cQ',v3',_,_,_,_,_,_,_,rfl⟩ := (hRR.out _ _).1 hes
             have HK2 := Lib.hid hK
             have S1 := Lib.hid SW
             clear hK SW
             simp only [List.setIfInBounds_toArray,List.set_cons_succ,List.set_cons_zero,Ed.cells]
             gi_wp2
             exact HK2.out W.heap.size _ (Sep.third (S1.out.alloc 87 _))
           · clear S13 B K RG FS
             rintro l eL eD t x es1 bx W hx hes SW
             obtain ⟨fs',E',AQ',cQ',v3',hif,hfs',hEl',B,FS,K,RG,rfl⟩ := (hRR.out _ _).1 hes
             clear hes
             have hm := (mem_outOf.1 (List.mem_of_getElem? hx)).1
             have hxr := edge_next HR.out hm
             have ht : t + 1 ≤ 32 := hxz.out (t + 1) (show t + 1 ≤ (outOf ed s).length from (List.getElem?_eq_some_iff.1 hx).1)
             obtain ⟨d,hd⟩ := Int.eq_ofNat_of_zero_le hxr.2.2.2.1
             have hdN : d < N := by have := hxr.2.2.2.2; rw [hd] at this; dsimp only at this; omega
             have HX := Lib.hid hx
             have KN : decide ((d : Int) ∈ kp) = false → Hid (Bld id (outK ⟨al,(N : Int),mr,ed⟩ fun v => decide (v ∈ kp)) 0 i (kth ⟨al,(N : Int),mr,ed⟩ (fun v => decide (v ∈ kp)) (s : Int) (t + 1)) fs' E') := fun h => by
              rw [kth_no (a := ⟨al,(N : Int),mr,ed⟩) (keep := (fun v => decide (v ∈ kp))) (v := (s : Int)) HX.out (by rw [hd]; exact h)]; exact B.out
             have KY : decide ((d : Int) ∈ kp) = true → Hid (kth ⟨al,(N : Int),mr,ed⟩ (fun v => decide (v ∈ kp)) (s : Int) (t + 1) = kth ⟨al,(N : Int),mr,ed⟩ (fun v => decide (v ∈ kp)) (s : Int) t + 1 ∧ (outK ⟨al,(N : Int),mr,ed⟩ (fun v => decide (v ∈ kp)) (s : Int))[kth ⟨al,(N : Int),mr,ed⟩ (fun v => decide (v ∈ kp)) (s : Int) t]? = some (x.ev,(d : Int))) := fun h => by
              have h2 : (fun v => decide (v ∈ kp)) x.dst = true := by rw [hd]; exact h
              refine ⟨kth_yes (a := ⟨al,(N : Int),mr,ed⟩) (keep := (fun v => decide (v ∈ kp))) (v := (s : Int)) HX.out h2,?_⟩
              rw [← hd]
              exact kth_get (a := ⟨al,(N : Int),mr,ed⟩) (keep := (fun v => decide (v ∈ kp))) (v := (s : Int)) HX.out h2
             obtain ⟨ye,hye⟩ : ∃ z,z = x.ev := ⟨_,rfl⟩
             obtain ⟨ys,hys⟩ : ∃ z,z = x.src := ⟨_,rfl⟩
             have S1 : Hid (Sep w.heap.size w ([eL,eD,eBlk bx 87 [.int .i64 ys,.int .i64 ye,.int .i64 (d : Int)],eBlk bs 3 [.int .i64 (s : Int)],eBlk gx 138 [.slice A1 al.length c1,.int .i64 (N : Int),.slice A2 mr.length c2,.slice A3 ed.length c3,.slice (some ⟨g0,0,none⟩) (N + 1) (N + 1)],eBlk ii 3 [.int .i64 (i : Int)],eBlk qb 32 [.slice AQ' fs'.length cQ'],eInts fs' (.slice AQ' fs'.length cQ'),eBlk ob 35 [.slice AL al.length cL,.int .i64 0,v2,v3'],eInts M' v2,eEds E' v3',eInts al (.slice AL al.length cL),eBlk nb 32 [.slice (some ⟨gn,0,none⟩) N N],eBlk gn 3 (mkI N (numV fs')),eBlk gg 138 [.slice A1 al.length c1,.int .i64 (N : Int),.slice A2 mr.length c2,.slice A3 ed.length c3,.slice (some ⟨g0,0,none⟩) (N + 1) (N + 1)],eBlk g0 3 (mkI (N + 1) fun j => (fstV ed j : Int)),eBlk ib 118 [.slice (some ⟨gi,0,none⟩) N N],eBlk gi 4 (mkB N fun s => decide ((s : Int) ∈ kp)),eBlk gm 4 (mkB N fun s => decide ((s : Int) ∈ mr)),eBlk (w.heap.size + 1) 35 [.slice none 0 0,.int .i64 0,.slice none 0 0,.slice none 0 0],eBlk w.heap.size 35 [.slice A1 al.length c1,.int .i64 (N : Int),.slice A2 mr.length c2,.slice A3 ed.length c3]] ++ mksE Ds) W) := by rw [hys,hye,← hd]; exact SW
             rw [← hye] at KY
             have KYH := Lib.hid KY
             clear SW hx hm hxr hye hys hd KY
             have b2 := ckC S1.out 2 rfl 2 rfl
             have ibc := ckC S1.out 16 rfl 0 rfl
             have gic := (BlkAt.cell (S1.out.get 17 rfl) d).trans (mkB_get hdN)
             obtain ⟨q,hq⟩ : ∃ q,q = decide ((d : Int) ∈ kp) := ⟨_,rfl⟩
             rw [← hq] at gic KN
             have HQ := Lib.hid hq
             clear hq
             dsimp only [Ed.cells]
             simp only [List.setIfInBounds_toArray,List.set_cons_succ,List.set_cons_zero]
             cases q
             case false =>
              have B2 := KN rfl
              clear KN
              gi_wp2
              exact ⟨_,(hRR.out _ _).2 ⟨fs',E',AQ',cQ',v3',hif,hfs',by omega,B2.out,FS.out,K.out,RG.out,rfl⟩,S1.out.drop3⟩
             case true =>
              have KY := KYH.out HQ.out.symm
              have hdk : (d : Int) ∈ kp := of_decide_eq_true HQ.out.symm
              have HDK := Lib.hid hdk
              clear KN hdk
              have nbc := ckC S1.out 12 rfl 0 rfl
              have gnc := (BlkAt.cell (S1.out.get 13 rfl) d).trans (mkI_get hdN)
              gi_upto_if 95 with fail
              gi_cut [95] from 96 (fun v wx => ∃ (fs2 : List Int) (AQ2 : Option Addr) (cQ2 j : Nat),i < fs2.length ∧ fs2.length ≤ N ∧ Hid (Bld id (outK ⟨al,(N : Int),mr,ed⟩ fun v => decide (v ∈ kp)) 0 i (kth ⟨al,(N : Int),mr,ed⟩ (fun v => decide (v ∈ kp)) (s : Int) (t + 1)) fs2 (E' ++ [⟨i,ye,j⟩])) ∧ Hid (fs2[i]? = some (s : Int)) ∧ Hid (Mks (fun v => v ∈ mr) fs2 (i + 1) M') ∧ Hid (∀ v,v ∈ fs2 → 0 ≤ v ∧ v < N ∧ decide (v ∈ kp) = true) ∧ Hid (numV fs2 d = (j : Int) + 1) ∧ j < N ∧ Hid (Sep w.heap.size w ([eL,eD,eBlk bx 87 [.int .i64 ys,.int .i64 ye,.int .i64 (d : Int)],eBlk bs 3 [.int .i64 (s : Int)],eBlk gx 138 [.slice A1 al.length c1,.int .i64 (N : Int),.slice A2 mr.length c2,.slice A3 ed.length c3,.slice (some ⟨g0,0,none⟩) (N + 1) (N + 1)],eBlk ii 3 [.int .i64 (i : Int)],eBlk qb 32 [.slice AQ2 fs2.length cQ2],eInts fs2 (.slice AQ2 fs2.length cQ2),eBlk ob 35 [.slice AL al.length cL,.int .i64 0,v2,v3'],eInts M' v2,eEds E' v3',eInts al (.slice AL al.length cL),eBlk nb 32 [.slice (some ⟨gn,0,none⟩) N N],eBlk gn 3 (mkI N (numV fs2)),eBlk gg 138 [.slice A1 al.length c1,.int .i64 (N : Int),.slice A2 mr.length c2,.slice A3 ed.length c3,.slice (some ⟨g0,0,none⟩) (N + 1) (N + 1)],eBlk g0 3 (mkI (N + 1) fun j => (fstV ed j : Int)),eBlk ib 118 [.slice (some ⟨gi,0,none⟩) N N],eBlk gi 4 (mkB N fun s => decide ((s : Int) ∈ kp)),eBlk gm 4 (mkB N fun s => decide ((s : Int) ∈ mr)),eBlk (w.heap.size + 1) 35 [.slice none 0 0,.int .i64 0,.slice none 0 0,.slice none 0 0],eBlk w.heap.size 35 [.slice A1 al.length c1,.int .i64 (N : Int),.slice A2 mr.length c2,.slice A3 ed.length c3]] ++ mksE Ds) wx))
              case first =>
               by_cases hdm : (d : Int) ∈ fs'
               · obtain ⟨j,hj,hjf⟩ := numV_yes hdm
                 have B2 : Hid (Bld id (outK ⟨al,(N : Int),mr,ed⟩ fun v => decide (v ∈ kp)) 0 i (kth ⟨al,(N : Int),mr,ed⟩ (fun v => decide (v ∈ kp)) (s : Int) (t + 1)) fs' (E' ++ [⟨i,ye,j⟩])) := by
                  rw [KY.out.1]
                  exact B.out.old FS.out (outK_ups HR.out _ _) KY.out.2 hjf rfl
                 have hjn : j < N := by have := (List.getElem?_eq_some_iff.1 hjf).1; omega
                 have e2 : (numV fs' d == 0) = false := beq_eq_false_iff_ne.2 (by omega)
                 have HJ := Lib.hid hj
                 clear hj hjf
                 gi_wp2
                 gi_meet
                 exact ⟨fs',AQ',cQ',j,hif,hfs',B2.out,FS.out,K.out,RG.out,HJ.out,hjn,S1.out⟩
               · have e2 : (numV fs' d == 0) = true := by rw [numV_no hdm]; rfl
                 have B2 : Hid (Bld id (outK ⟨al,(N : Int),mr,ed⟩ fun v => decide (v ∈ kp)) 0 i (kth ⟨al,(N : Int),mr,ed⟩ (fun v => decide (v ∈ kp)) (s : Int) (t + 1)) (fs' ++ [(d : Int)]) (E' ++ [⟨i,ye,fs'.length⟩])) := by
                  rw [KY.out.1]
                  exact B.out.new FS.out (outK_ups HR.out _ _) KY.out.2 (fun u hu he => hdm (by rw [← (show u = (d : Int) from he)]; exact hu))
                 have RG2 : Hid (∀ v,v ∈ fs' ++ [(d : Int)] → 0 ≤ v ∧ v < N ∧ decide (v ∈ kp) = true) := fun v hv => by
                  rcases List.mem_append.1 hv with g | g
                  · exact RG.out v g
                  · rw [List.mem_singleton.1 g]; exact ⟨Int.natCast_nonneg _,by omega,HQ.out.symm⟩
                 have hfn : (fs' ++ [(d : Int)]).length ≤ N := B2.out.len (fun v hv => ⟨(RG2.out v hv).1,(RG2.out v hv).2.1⟩)
                 have K2 := Lib.hid (K.out.grow (by omega) (d : Int))
                 have FS2 : Hid ((fs' ++ [(d : Int)])[i]? = some (s : Int)) := get_keep FS.out _
                 have HNP : Hid (∀ t,numV (fs' ++ [(d : Int)]) t = if t = d then (fs'.length : Int) + 1 else numV fs' t) := numV_push hdm
                 have qbc := BlkAt.cell (S1.out.get 6 rfl) 0
                 have qbf := BlkAt.free (S1.out.get 6 rfl) 0
                 simp only [List.getElem?_cons_zero] at qbc
                 clear hdm
                 gi_upto_region 24 with fail
                 refine wpIn_region_list (by kernel_rfl) (fun _ _ h => h) ?_
                 go_wp2_with (at_builtin; refine wpList_pushS rfl _ _ 32 rfl (S1.out.alloc 3 [.int .i64 (d : Int)]) 8 rfl Tryd.underlying32 _ 8 intInfo rfl (by decide) rfl (d : Int) _ rfl rfl (one_cell _ _ [_] _ rfl) (encI_one _) (by omega) (by decide) ?_)
                 intro A3' c3' w3 S3 _
                 have S4 : Hid (Sep w.heap.size w ([eL,eD,eBlk bx 87 [.int .i64 ys,.int .i64 ye,.int .i64 (d : Int)],eBlk bs 3 [.int .i64 (s : Int)],eBlk gx 138 [.slice A1 al.length c1,.int .i64 (N : Int),.slice A2 mr.length c2,.slice A3 ed.length c3,.slice (some ⟨g0,0,none⟩) (N + 1) (N + 1)],eBlk ii 3 [.int .i64 (i : Int)],eBlk qb 32 [.slice AQ' fs'.length cQ'],eInts (fs' ++ [(d : Int)]) (.slice A3' (fs'.length + 1) c3'),eBlk ob 35 [.slice AL al.length cL,.int .i64 0,v2,v3'],eInts M' v2,eEds E' v3',eInts al (.slice AL al.length cL),eBlk nb 32 [.slice (some ⟨gn,0,none⟩) N N],eBlk gn 3 (mkI N (numV fs')),eBlk gg 138 [.slice A1 al.length c1,.int .i64 (N : Int),.slice A2 mr.length c2,.slice A3 ed.length c3,.slice (some ⟨g0,0,none⟩) (N + 1) (N + 1)],eBlk g0 3 (mkI (N + 1) fun j => (fstV ed j : Int)),eBlk ib 118 [.slice (some ⟨gi,0,none⟩) N N],eBlk gi 4 (mkB N fun s => decide ((s : Int) ∈ kp)),eBlk gm 4 (mkB N fun s => decide ((s : Int) ∈ mr)),eBlk (w.heap.size + 1) 35 [.slice none 0 0,.int .i64 0,.slice none 0 0,.slice none 0 0],eBlk w.heap.size 35 [.slice A1 al.length c1,.int .i64 (N : Int),.slice A2 mr.length c2,.slice A3 ed.length c3]] ++ mksE Ds) w3) := S3.drop1
                 clear S3
                 have qbc := BlkAt.cell (S4.out.get 6 rfl) 0
                 have qbf := BlkAt.free (S4.out.get 6 rfl) 0
                 simp only [List.getElem?_cons_zero] at qbc
                 have S5 := S4.out.set 6 rfl 0 (.slice A3' (fs'.length + 1) c3')
                 go_wp2_with fail
                 gi_upto_region 25 with fail
                 refine wpIn_world (fun V => Sep w.heap.size w ([eL,eD,eBlk bx 87 [.int .i64 ys,.int .i64 ye,.int .i64 (d : Int)],eBlk bs 3 [.int .i64 (s : Int)],eBlk gx 138 [.slice A1 al.length c1,.int .i64 (N : Int),.slice A2 mr.length c2,.slice A3 ed.length c3,.slice (some ⟨g0,0,none⟩) (N + 1) (N + 1)],eBlk ii 3 [.int .i64 (i : Int)],eBlk qb 32 [.slice A3' (fs'.length + 1) c3'],eInts (fs' ++ [(d : Int)]) (.slice A3' (fs'.length + 1) c3'),eBlk ob 35 [.slice AL al.length cL,.int .i64 0,v2,v3'],eInts M' v2,eEds E' v3',eInts al (.slice AL al.length cL),eBlk nb 32 [.slice (some ⟨gn,0,none⟩) N N],eBlk gn 3 (mkI N (numV fs')),eBlk gg 138 [.slice A1 al.length c1,.int .i64 (N : Int),.slice A2 mr.length c2,.slice A3 ed.length c3,.slice (some ⟨g0,0,none⟩) (N + 1) (N + 1)],eBlk g0 3 (mkI (N + 1) fun j => (fstV ed j : Int)),eBlk ib 118 [.slice (some ⟨gi,0,none⟩) N N],eBlk gi 4 (mkB N fun s => decide ((s : Int) ∈ kp)),eBlk gm 4 (mkB N fun s => decide ((s : Int) ∈ mr)),eBlk (w.heap.size + 1) 35 [.slice none 0 0,.int .i64 0,.slice none 0 0,.slice none 0 0],eBlk w.heap.size 35 [.slice A1 al.length c1,.int .i64 (N : Int),.slice A2 mr.length c2,.slice A3 ed.length c3]] ++ mksE Ds) V) S5 fun W5 S' => ?_
                 have S6 := Lib.hid S'
                 clear S' S5 S4 S1 qbc qbf b2 ibc gic nbc gnc
                 have b2 := ckC S6.out 2 rfl 2 rfl
                 have qbc := ckC S6.out 6 rfl 0 rfl
                 have nbc := ckC S6.out 12 rfl 0 rfl
                 have gnc := (BlkAt.cell (S6.out.get 13 rfl) d).trans (mkI_get hdN)
                 have gnf := BlkAt.free (S6.out.get 13 rfl) d
                 have S7 : Hid (Sep w.heap.size w ([eL,eD,eBlk bx 87 [.int .i64 ys,.int .i64 ye,.int .i64 (d : Int)],eBlk bs 3 [.int .i64 (s : Int)],eBlk gx 138 [.slice A1 al.length c1,.int .i64 (N : Int),.slice A2 mr.length c2,.slice A3 ed.length c3,.slice (some ⟨g0,0,none⟩) (N + 1) (N + 1)],eBlk ii 3 [.int .i64 (i : Int)],eBlk qb 32 [.slice A3' (fs'.length + 1) c3'],eInts (fs' ++ [(d : Int)]) (.slice A3' (fs'.length + 1) c3'),eBlk ob 35 [.slice AL al.length cL,.int .i64 0,v2,v3'],eInts M' v2,eEds E' v3',eInts al (.slice AL al.length cL),eBlk nb 32 [.slice (some ⟨gn,0,none⟩) N N],eBlk gn 3 (mkI N (numV (fs' ++ [(d : Int)]))),eBlk gg 138 [.slice A1 al.length c1,.int .i64 (N : Int),.slice A2 mr.length c2,.slice A3 ed.length c3,.slice (some ⟨g0,0,none⟩) (N + 1) (N + 1)],eBlk g0 3 (mkI (N + 1) fun j => (fstV ed j : Int)),eBlk ib 118 [.slice (some ⟨gi,0,none⟩) N N],eBlk gi 4 (mkB N fun s => decide ((s : Int) ∈ kp)),eBlk gm 4 (mkB N fun s => decide ((s : Int) ∈ mr)),eBlk (w.heap.size + 1) 35 [.slice none 0 0,.int .i64 0,.slice none 0 0,.slice none 0 0],eBlk w.heap.size 35 [.slice A1 al.length c1,.int .i64 (N : Int),.slice A2 mr.length c2,.slice A3 ed.length c3]] ++ mksE Ds) (W5.setCell ⟨gn,d,none⟩ (.int .i64 ((fs'.length : Int) + 1)))) := by
                  have h := S6.out.set 13 rfl d (.int .i64 ((fs'.length : Int) + 1))
                  rw [mkI_set,mkI_congr (fun t _ => (HNP.out t).symm)] at h
                  exact h
                 clear S6
                 gi_wp2
                 gi_meet
                 exact ⟨fs' ++ [(d : Int)],A3',c3',fs'.length,by simp; omega,hfn,B2.out,FS2.out,K2.out,RG2.out,by rw [Hid,HNP.out,if_pos rfl],by rw [List.length_append] at hfn; simp at hfn; omega,by rw [List.length_append]; exact S7.out⟩
              case rest =>
               clear S1 b2 ibc gic nbc gnc B FS K RG hif hfs'
               obtain ⟨fs2,AQ2,cQ2,j,hif2,hfs2,B2,FS2,K2,RG2,HNJ,hjN,S2⟩ := hcut
               have hsub : IntKind.i64.wrap ((j : Int) + 1 - 1) = (j : Int) := by rw [Int.add_sub_cancel]; exact IntWalk.i64_in _ (by omega)
               have hsub2 : IntKind.i64.wrap (j : Int) = (j : Int) := IntWalk.i64_in _ (by omega)
               have hhl : (E'.length : Nat) ≤ 1048576 := by omega
               gi_upto_region 26 with fail
               have S15 := Lib.hid S2.out.drew
               refine wpIn_region_held_drew (S := (fun V => Sep w.heap.size w [eBlk ii 3 [.int .i64 (i : Int)],eBlk bx 87 [.int .i64 ys,.int .i64 ye,.int .i64 (d : Int)],eBlk nb 32 [.slice (some ⟨gn,0,none⟩) N N],eBlk gn 3 (mkI N (numV fs2))] V)) (by kernel_rfl) (fun _ _ h => h) (by kernel_rfl) ?_ (fun hHeld => ?_)
               · exact S15.out.left.pick [5,2,12,13] (by decide)
               generalize hwz : wc.drew = w15 at *
               clear hwz
               refine tkP 0 rfl hHeld ?_
               try simp only [sx]
               refine tkH 2 rfl (v := ?_) (by kernel_rfl) ?_ hHeld ?_
               rotate_left
               · intro V hSw
                 have c0 := ckC hSw 0 rfl 0 rfl
                 clear hSw
                 first | (go_simp; done) | (go_simp; with_reducible rfl)
               try simp only [sx]
               refine tkP 3 rfl hHeld ?_
               try simp only [sx]
               refine tkH 4 rfl (v := ?_) (by kernel_rfl) ?_ hHeld ?_
               rotate_left
               · intro V hSw
                 have x1 := ckC hSw 1 rfl 1 rfl
                 clear hSw
                 first | (go_simp; done) | (go_simp; with_reducible rfl)
               try simp only [sx]
               refine tkH 5 rfl (v := ?_) (by kernel_rfl) ?_ hHeld ?_
               rotate_left
               · intro V hSw
                 have n0 := ckC hSw 2 rfl 0 rfl
                 clear hSw
                 first | (go_simp; done) | (go_simp; with_reducible rfl)
               try simp only [sx]
               refine tkP 6 rfl hHeld ?_
               try simp only [sx]
               refine tkH 7 rfl (v := ?_) (by kernel_rfl) ?_ hHeld ?_
               rotate_left
               · intro V hSw
                 have x2 := ckC hSw 1 rfl 2 rfl
                 clear hSw
                 first | (go_simp; done) | (go_simp; with_reducible rfl)
               try simp only [sx]
               refine tkP 8 rfl hHeld ?_
               try simp only [sx]
               refine tkH 9 rfl (v := ?_) (by kernel_rfl) ?_ hHeld ?_
               rotate_left
               · intro V hSw
                 have gv := (BlkAt.cell (Sep.get (show Sep w.heap.size w _ V from hSw) 3 rfl) d).trans (mkI_get hdN)
                 rw [HNJ.out] at gv
                 clear hSw
                 first | (go_simp; done) | (go_simp; with_reducible rfl)
               try simp only [sx]
               refine tkP 10 rfl hHeld ?_
               try simp only [sx]
               refine tkP 11 rfl hHeld ?_
               try simp only [sx]
               refine wpAnyH_ready (rs := [1,12]) (by kernel_rfl) (by simp) ?_
               refine AllReadyH.cons rfl (fun K hK => ?_) (AllReadyH.cons rfl (fun K hK => ?_) AllReadyH.nil)
               · skip
                 have o3 := ckC S15.out 8 rfl 3 rfl
                 go_simp
                 refine hK.out _ _ ?_ (fun hHeld => ?_)
                 · exact S15.out.left.pick [5,2,12,13] (by decide)
                 clear hK K
                 try simp only [sx]
                 refine rdH 12 rfl fun K hK => ?_
                 go_simp
                 obtain ⟨nnw,hnnw⟩ : ∃ n,n = w15.heap.size := ⟨_,rfl⟩
                 obtain ⟨w16,hw16⟩ : ∃ v,v = w15.alloc (.cells #[.int .i64 (i : Int),.int .i64 ye,.int .i64 (j : Int)] 87) := ⟨_,rfl⟩
                 rw [← hw16,← hnnw]
                 have S16 : Hid (Sep w.heap.size w ([eBlk nnw 87 [.int .i64 (i : Int),.int .i64 ye,.int .i64 (j : Int)],eL,eD,eBlk bx 87 [.int .i64 ys,.int .i64 ye,.int .i64 (d : Int)],eBlk bs 3 [.int .i64 (s : Int)],eBlk gx 138 [.slice A1 al.length c1,.int .i64 (N : Int),.slice A2 mr.length c2,.slice A3 ed.length c3,.slice (some ⟨g0,0,none⟩) (N + 1) (N + 1)],eBlk ii 3 [.int .i64 (i : Int)],eBlk qb 32 [.slice AQ2 fs2.length cQ2],eInts fs2 (.slice AQ2 fs2.length cQ2),eBlk ob 35 [.slice AL al.length cL,.int .i64 0,v2,v3'],eInts M' v2,eEds E' v3',eInts al (.slice AL al.length cL),eBlk nb 32 [.slice (some ⟨gn,0,none⟩) N N],eBlk gn 3 (mkI N (numV fs2)),eBlk gg 138 [.slice A1 al.length c1,.int .i64 (N : Int),.slice A2 mr.length c2,.slice A3 ed.length c3,.slice (some ⟨g0,0,none⟩) (N + 1) (N + 1)],eBlk g0 3 (mkI (N + 1) fun j => (fstV ed j : Int)),eBlk ib 118 [.slice (some ⟨gi,0,none⟩) N N],eBlk gi 4 (mkB N fun s => decide ((s : Int) ∈ kp)),eBlk gm 4 (mkB N fun s => decide ((s : Int) ∈ mr)),eBlk (w.heap.size + 1) 35 [.slice none 0 0,.int .i64 0,.slice none 0 0,.slice none 0 0],eBlk w.heap.size 35 [.slice A1 al.length c1,.int .i64 (N : Int),.slice A2 mr.length c2,.slice A3 ed.length c3]] ++ mksE Ds) w16) := by rw [hw16,hnnw]; exact S15.out.alloc 87 [.int .i64 (i : Int),.int .i64 ye,.int .i64 (j : Int)]
                 skip
                 clear hw16 hnnw
                 refine hK.out _ _ ?_ (fun hHeld => ?_)
                 · exact S16.out.left.pick [6,3,13,14] (by decide)
                 clear hK K
                 try simp only [sx]
                 refine rdH 13 rfl fun K hK => ?_
                 refine step_pushS rfl (.tmp 108) (.tmp 119) 33 rfl S16.out 11 rfl Tryd.underlying33 _ 24 edInfo rfl (by decide) rfl (⟨(i : Int),ye,(j : Int)⟩ : Ed) nnw rfl rfl (fun j u hj => (BlkAt.cell (S16.out.get 0 rfl) j).trans hj) (edOne _) hhl (by decide) ?_
                 intro Aed17 ced17 w17 S17' _
                 have S17 : Hid (Sep w.heap.size w ([eBlk nnw 87 [.int .i64 (i : Int),.int .i64 ye,.int .i64 (j : Int)],eL,eD,eBlk bx 87 [.int .i64 ys,.int .i64 ye,.int .i64 (d : Int)],eBlk bs 3 [.int .i64 (s : Int)],eBlk gx 138 [.slice A1 al.length c1,.int .i64 (N : Int),.slice A2 mr.length c2,.slice A3 ed.length c3,.slice (some ⟨g0,0,none⟩) (N + 1) (N + 1)],eBlk ii 3 [.int .i64 (i : Int)],eBlk qb 32 [.slice AQ2 fs2.length cQ2],eInts fs2 (.slice AQ2 fs2.length cQ2),eBlk ob 35 [.slice AL al.length cL,.int .i64 0,v2,v3'],eInts M' v2,eOwn Ed.cells 3 87 (E' ++ [(⟨(i : Int),ye,(j : Int)⟩ : Ed)]) (.slice Aed17 ((E').length + 1) ced17),eInts al (.slice AL al.length cL),eBlk nb 32 [.slice (some ⟨gn,0,none⟩) N N],eBlk gn 3 (mkI N (numV fs2)),eBlk gg 138 [.slice A1 al.length c1,.int .i64 (N : Int),.slice A2 mr.length c2,.slice A3 ed.length c3,.slice (some ⟨g0,0,none⟩) (N + 1) (N + 1)],eBlk g0 3 (mkI (N + 1) fun j => (fstV ed j : Int)),eBlk ib 118 [.slice (some ⟨gi,0,none⟩) N N],eBlk gi 4 (mkB N fun s => decide ((s : Int) ∈ kp)),eBlk gm 4 (mkB N fun s => decide ((s : Int) ∈ mr)),eBlk (w.heap.size + 1) 35 [.slice none 0 0,.int .i64 0,.slice none 0 0,.slice none 0 0],eBlk w.heap.size 35 [.slice A1 al.length c1,.int .i64 (N : Int),.slice A2 mr.length c2,.slice A3 ed.length c3]] ++ mksE Ds) w17) := S17'
                 clear S17'
                 refine hK.out _ _ ?_ (fun hHeld => ?_)
                 · exact S17.out.left.pick [6,3,13,14] (by decide)
                 clear hK K
                 try simp only [sx]
                 refine tkP 14 rfl hHeld ?_
                 try simp only [sx]
                 refine rdH 15 rfl fun K hK => ?_
                 have sc := ckC S17.out 9 rfl 3 rfl
                 have sf := BlkAt.free (S17.out.get 9 rfl) 3
                 go_simp
                 obtain ⟨w18,hw18⟩ : ∃ v,v = w17.setCell ⟨ob,3,none⟩ (.slice Aed17 (E'.length + 1) ced17) := ⟨_,rfl⟩
                 rw [← hw18]
                 have S18 : Hid (Sep w.heap.size w ([eBlk nnw 87 [.int .i64 (i : Int),.int .i64 ye,.int .i64 (j : Int)],eL,eD,eBlk bx 87 [.int .i64 ys,.int .i64 ye,.int .i64 (d : Int)],eBlk bs 3 [.int .i64 (s : Int)],eBlk gx 138 [.slice A1 al.length c1,.int .i64 (N : Int),.slice A2 mr.length c2,.slice A3 ed.length c3,.slice (some ⟨g0,0,none⟩) (N + 1) (N + 1)],eBlk ii 3 [.int .i64 (i : Int)],eBlk qb 32 [.slice AQ2 fs2.length cQ2],eInts fs2 (.slice AQ2 fs2.length cQ2),eBlk ob 35 [.slice AL al.length cL,.int .i64 0,v2,(.slice Aed17 (E'.length + 1) ced17)],eInts M' v2,eOwn Ed.cells 3 87 (E' ++ [(⟨(i : Int),ye,(j : Int)⟩ : Ed)]) (.slice Aed17 ((E').length + 1) ced17),eInts al (.slice AL al.length cL),eBlk nb 32 [.slice (some ⟨gn,0,none⟩) N N],eBlk gn 3 (mkI N (numV fs2)),eBlk gg 138 [.slice A1 al.length c1,.int .i64 (N : Int),.slice A2 mr.length c2,.slice A3 ed.length c3,.slice (some ⟨g0,0,none⟩) (N + 1) (N + 1)],eBlk g0 3 (mkI (N + 1) fun j => (fstV ed j : Int)),eBlk ib 118 [.slice (some ⟨gi,0,none⟩) N N],eBlk gi 4 (mkB N fun s => decide ((s : Int) ∈ kp)),eBlk gm 4 (mkB N fun s => decide ((s : Int) ∈ mr)),eBlk (w.heap.size + 1) 35 [.slice none 0 0,.int .i64 0,.slice none 0 0,.slice none 0 0],eBlk w.heap.size 35 [.slice A1 al.length c1,.int .i64 (N : Int),.slice A2 mr.length c2,.slice A3 ed.length c3]] ++ mksE Ds) w18) := by rw [hw18]; exact S17.out.set 9 rfl 3 (.slice Aed17 (E'.length + 1) ced17)
                 clear hw18 sc sf
                 refine hK.out _ _ ?_ (fun hHeld => ?_)
                 · exact S18.out.left.pick [6,3,13,14] (by decide)
                 clear hK K
                 try simp only [sx]
                 refine wpAnyH_done (by kernel_rfl) ?_ _
                 gi_wp2
                 exact ⟨_,(hRR.out _ _).2 ⟨fs2,E' ++ [(⟨(i : Int),ye,(j : Int)⟩ : Ed)],AQ2,cQ2,(.slice Aed17 (E'.length + 1) ced17),hif2,hfs2,by rw [List.length_append]; simp; omega,B2.out,FS2.out,K2.out,RG2.out,rfl⟩,S18.out.drop1.drop3⟩
               · skip
                 go_simp
                 obtain ⟨nnw,hnnw⟩ : ∃ n,n = w15.heap.size := ⟨_,rfl⟩
                 obtain ⟨w19,hw19⟩ : ∃ v,v = w15.alloc (.cells #[.int .i64 (i : Int),.int .i64 ye,.int .i64 (j : Int)] 87) := ⟨_,rfl⟩
                 rw [← hw19,← hnnw]
                 have S19 : Hid (Sep w.heap.size w ([eBlk nnw 87 [.int .i64 (i : Int),.int .i64 ye,.int .i64 (j : Int)],eL,eD,eBlk bx 87 [.int .i64 ys,.int .i64 ye,.int .i64 (d : Int)],eBlk bs 3 [.int .i64 (s : Int)],eBlk gx 138 [.slice A1 al.length c1,.int .i64 (N : Int),.slice A2 mr.length c2,.slice A3 ed.length c3,.slice (some ⟨g0,0,none⟩) (N + 1) (N + 1)],eBlk ii 3 [.int .i64 (i : Int)],eBlk qb 32 [.slice AQ2 fs2.length cQ2],eInts fs2 (.slice AQ2 fs2.length cQ2),eBlk ob 35 [.slice AL al.length cL,.int .i64 0,v2,v3'],eInts M' v2,eEds E' v3',eInts al (.slice AL al.length cL),eBlk nb 32 [.slice (some ⟨gn,0,none⟩) N N],eBlk gn 3 (mkI N (numV fs2)),eBlk gg 138 [.slice A1 al.length c1,.int .i64 (N : Int),.slice A2 mr.length c2,.slice A3 ed.length c3,.slice (some ⟨g0,0,none⟩) (N + 1) (N + 1)],eBlk g0 3 (mkI (N + 1) fun j => (fstV ed j : Int)),eBlk ib 118 [.slice (some ⟨gi,0,none⟩) N N],eBlk gi 4 (mkB N fun s => decide ((s : Int) ∈ kp)),eBlk gm 4 (mkB N fun s => decide ((s : Int) ∈ mr)),eBlk (w.heap.size + 1) 35 [.slice none 0 0,.int .i64 0,.slice none 0 0,.slice none 0 0],eBlk w.heap.size 35 [.slice A1 al.length c1,.int .i64 (N : Int),.slice A2 mr.length c2,.slice A3 ed.length c3]] ++ mksE Ds) w19) := by rw [hw19,hnnw]; exact S15.out.alloc 87 [.int .i64 (i : Int),.int .i64 ye,.int .i64 (j : Int)]
                 skip
                 clear hw19 hnnw
                 refine hK.out _ _ ?_ (fun hHeld => ?_)
                 · exact S19.out.left.pick [6,3,13,14] (by decide)
                 clear hK K
                 try simp only [sx]
                 refine rdH 1 rfl fun K hK => ?_
                 have o3 := ckC S19.out 9 rfl 3 rfl
                 go_simp
                 refine hK.out _ _ ?_ (fun hHeld => ?_)
                 · exact S19.out.left.pick [6,3,13,14] (by decide)
                 clear hK K
                 try simp only [sx]
                 refine rdH 13 rfl fun K hK => ?_
                 refine step_pushS rfl (.tmp 108) (.tmp 119) 33 rfl S19.out 11 rfl Tryd.underlying33 _ 24 edInfo rfl (by decide) rfl (⟨(i : Int),ye,(j : Int)⟩ : Ed) nnw rfl rfl (fun j u hj => (BlkAt.cell (S19.out.get 0 rfl) j).trans hj) (edOne _) hhl (by decide) ?_
                 intro Aed20 ced20 w20 S20' _
                 have S20 : Hid (Sep w.heap.size w ([eBlk nnw 87 [.int .i64 (i : Int),.int .i64 ye,.int .i64 (j : Int)],eL,eD,eBlk bx 87 [.int .i64 ys,.int .i64 ye,.int .i64 (d : Int)],eBlk bs 3 [.int .i64 (s : Int)],eBlk gx 138 [.slice A1 al.length c1,.int .i64 (N : Int),.slice A2 mr.length c2,.slice A3 ed.length c3,.slice (some ⟨g0,0,none⟩) (N + 1) (N + 1)],eBlk ii 3 [.int .i64 (i : Int)],eBlk qb 32 [.slice AQ2 fs2.length cQ2],eInts fs2 (.slice AQ2 fs2.length cQ2),eBlk ob 35 [.slice AL al.length cL,.int .i64 0,v2,v3'],eInts M' v2,eOwn Ed.cells 3 87 (E' ++ [(⟨(i : Int),ye,(j : Int)⟩ : Ed)]) (.slice Aed20 ((E').length + 1) ced20),eInts al (.slice AL al.length cL),eBlk nb 32 [.slice (some ⟨gn,0,none⟩) N N],eBlk gn 3 (mkI N (numV fs2)),eBlk gg 138 [.slice A1 al.length c1,.int .i64 (N : Int),.slice A2 mr.length c2,.slice A3 ed.length c3,.slice (some ⟨g0,0,none⟩) (N + 1) (N + 1)],eBlk g0 3 (mkI (N + 1) fun j => (fstV ed j : Int)),eBlk ib 118 [.slice (some ⟨gi,0,none⟩) N N],eBlk gi 4 (mkB N fun s => decide ((s : Int) ∈ kp)),eBlk gm 4 (mkB N fun s => decide ((s : Int) ∈ mr)),eBlk (w.heap.size + 1) 35 [.slice none 0 0,.int .i64 0,.slice none 0 0,.slice none 0 0],eBlk w.heap.size 35 [.slice A1 al.length c1,.int .i64 (N : Int),.slice A2 mr.length c2,.slice A3 ed.length c3]] ++ mksE Ds) w20) := S20'
                 clear S20'
                 refine hK.out _ _ ?_ (fun hHeld => ?_)
                 · exact S20.out.left.pick [6,3,13,14] (by decide)
                 clear hK K
                 try simp only [sx]
                 refine tkP 14 rfl hHeld ?_
                 try simp only [sx]
                 refine rdH 15 rfl fun K hK => ?_
                 have sc := ckC S20.out 9 rfl 3 rfl
                 have sf := BlkAt.free (S20.out.get 9 rfl) 3
                 go_simp
                 obtain ⟨w21,hw21⟩ : ∃ v,v = w20.setCell ⟨ob,3,none⟩ (.slice Aed20 (E'.length + 1) ced20) := ⟨_,rfl⟩
                 rw [← hw21]
                 have S21 : Hid (Sep w.heap.size w ([eBlk nnw 87 [.int .i64 (i : Int),.int .i64 ye,.int .i64 (j : Int)],eL,eD,eBlk bx 87 [.int .i64 ys,.int .i64 ye,.int .i64 (d : Int)],eBlk bs 3 [.int .i64 (s : Int)],eBlk gx 138 [.slice A1 al.length c1,.int .i64 (N : Int),.slice A2 mr.length c2,.slice A3 ed.length c3,.slice (some ⟨g0,0,none⟩) (N + 1) (N + 1)],eBlk ii 3 [.int .i64 (i : Int)],eBlk qb 32 [.slice AQ2 fs2.length cQ2],eInts fs2 (.slice AQ2 fs2.length cQ2),eBlk ob 35 [.slice AL al.length cL,.int .i64 0,v2,(.slice Aed20 (E'.length + 1) ced20)],eInts M' v2,eOwn Ed.cells 3 87 (E' ++ [(⟨(i : Int),ye,(j : Int)⟩ : Ed)]) (.slice Aed20 ((E').length + 1) ced20),eInts al (.slice AL al.length cL),eBlk nb 32 [.slice (some ⟨gn,0,none⟩) N N],eBlk gn 3 (mkI N (numV fs2)),eBlk gg 138 [.slice A1 al.length c1,.int .i64 (N : Int),.slice A2 mr.length c2,.slice A3 ed.length c3,.slice (some ⟨g0,0,none⟩) (N + 1) (N + 1)],eBlk g0 3 (mkI (N + 1) fun j => (fstV ed j : Int)),eBlk ib 118 [.slice (some ⟨gi,0,none⟩) N N],eBlk gi 4 (mkB N fun s => decide ((s : Int) ∈ kp)),eBlk gm 4 (mkB N fun s => decide ((s : Int) ∈ mr)),eBlk (w.heap.size + 1) 35 [.slice none 0 0,.int .i64 0,.slice none 0 0,.slice none 0 0],eBlk w.heap.size 35 [.slice A1 al.length c1,.int .i64 (N : Int),.slice A2 mr.length c2,.slice A3 ed.length c3]] ++ mksE Ds) w21) := by rw [hw21]; exact S20.out.set 9 rfl 3 (.slice Aed20 (E'.length + 1) ced20)
                 clear hw21 sc sf
                 refine hK.out _ _ ?_ (fun hHeld => ?_)
                 · exact S21.out.left.pick [6,3,13,14] (by decide)
                 clear hK K
                 try simp only [sx]
                 refine wpAnyH_done (by kernel_rfl) ?_ _
                 gi_wp2
                 exact ⟨_,(hRR.out _ _).2 ⟨fs2,E' ++ [(⟨(i : Int),ye,(j : Int)⟩ : Ed)],AQ2,cQ2,(.slice Aed20 (E'.length + 1) ced20),hif2,hfs2,by rw [List.length_append]; simp; omega,B2.out,FS2.out,K2.out,RG2.out,rfl⟩,S21.out.drop1.drop3⟩
           · clear S13 B K RG FS S12
             rintro D t es1 W hD hes SW
             obtain ⟨fs',E',AQ',cQ',v3',hif,hfs',hEl',B,FS,K,RG,rfl⟩ := (hRR.out _ _).1 hes
             clear hes
             subst hD
             have ht := hxz.out _ (Nat.le_refl _)
             have B2 : Hid (Bld id (outK ⟨al,(N : Int),mr,ed⟩ fun v => decide (v ∈ kp)) 0 (i + 1) 0 fs' E') := Bld.next (by
              have h := B.out
              rw [show (outOf (Au.mk al (N : Int) mr ed).ed s).length = (outOf (Au.mk al (N : Int) mr ed).ed ((s : Int)).toNat).length from rfl,kth_all] at h
              exact h) FS.out
             have S1 : Hid (Sep w.heap.size w ([eBlk ii 3 [.int .i64 (i : Int)],eBlk qb 32 [.slice AQ' fs'.length cQ'],eInts fs' (.slice AQ' fs'.length cQ'),eBlk ob 35 [.slice AL al.length cL,.int .i64 0,v2,v3'],eInts M' v2,eEds E' v3',eInts al (.slice AL al.length cL),eBlk nb 32 [.slice (some ⟨gn,0,none⟩) N N],eBlk gn 3 (mkI N (numV fs')),eBlk gg 138 [.slice A1 al.length c1,.int .i64 (N : Int),.slice A2 mr.length c2,.slice A3 ed.length c3,.slice (some ⟨g0,0,none⟩) (N + 1) (N + 1)],eBlk g0 3 (mkI (N + 1) fun j => (fstV ed j : Int)),eBlk ib 118 [.slice (some ⟨gi,0,none⟩) N N],eBlk gi 4 (mkB N fun s => decide ((s : Int) ∈ kp)),eBlk gm 4 (mkB N fun s => decide ((s : Int) ∈ mr)),eBlk (w.heap.size + 1) 35 [.slice none 0 0,.int .i64 0,.slice none 0 0,.slice none 0 0],eBlk w.heap.size 35 [.slice A1 al.length c1,.int .i64 (N : Int),.slice A2 mr.length c2,.slice A3 ed.length c3]] ++ mksE (D :: Ds)) W) := (Sep.marked SW).drop1.drop1
             clear SW B hxz
             have ci := BlkAt.cell (S1.out.get 0 rfl) 0
             simp only [List.getElem?_cons_zero] at ci
             change Exit.inBlock 2 _ _ { tmps := _,defers := mksD (D :: Ds) } W
             obtain ⟨i2,hi2⟩ : ∃ g,g = W.heap.size := ⟨_,rfl⟩
             go_upto_region 17 with fail
             rw [← hi2]
             refine wp_world (fun V => Sep w.heap.size w ([eBlk i2 3 [.int .i64 (i : Int)],eBlk qb 32 [.slice AQ' fs'.length cQ'],eInts fs' (.slice AQ' fs'.length cQ'),eBlk ob 35 [.slice AL al.length cL,.int .i64 0,v2,v3'],eInts M' v2,eEds E' v3',eInts al (.slice AL al.length cL),eBlk nb 32 [.slice (some ⟨gn,0,none⟩) N N],eBlk gn 3 (mkI N (numV fs')),eBlk gg 138 [.slice A1 al.length c1,.int .i64 (N : Int),.slice A2 mr.length c2,.slice A3 ed.length c3,.slice (some ⟨g0,0,none⟩) (N + 1) (N + 1)],eBlk g0 3 (mkI (N + 1) fun j => (fstV ed j : Int)),eBlk ib 118 [.slice (some ⟨gi,0,none⟩) N N],eBlk gi 4 (mkB N fun s => decide ((s : Int) ∈ kp)),eBlk gm 4 (mkB N fun s => decide ((s : Int) ∈ mr)),eBlk (w.heap.size + 1) 35 [.slice none 0 0,.int .i64 0,.slice none 0 0,.slice none 0 0],eBlk w.heap.size 35 [.slice A1 al.length c1,.int .i64 (N : Int),.slice A2 mr.length c2,.slice A3 ed.length c3]] ++ mksE (D :: Ds)) V) (S1.out.alloc' 3 [.int .i64 (i : Int)] rfl hi2).drop2 fun W2 S' => ?_
             have S2 := Lib.hid S'
             clear S' S1 ci hi2
             have ci := BlkAt.cell (S2.out.get 0 rfl) 0
             have cf := BlkAt.free (S2.out.get 0 rfl) 0
             simp only [List.getElem?_cons_zero] at ci
             have hwr : IntKind.i64.wrap ((i : Int) + 1) = (i : Int) + 1 := IntWalk.i64_in _ (by omega)
             have e1 : ((i : Int) + 1) = ((i + 1 : Nat) : Int) := by omega
             have S3 : Hid (Sep w.heap.size w ([eBlk i2 3 [.int .i64 ((i + 1 : Nat) : Int)],eBlk qb 32 [.slice AQ' fs'.length cQ'],eInts fs' (.slice AQ' fs'.length cQ'),eBlk ob 35 [.slice AL al.length cL,.int .i64 0,v2,v3'],eInts M' v2,eEds E' v3',eInts al (.slice AL al.length cL),eBlk nb 32 [.slice (some ⟨gn,0,none⟩) N N],eBlk gn 3 (mkI N (numV fs')),eBlk gg 138 [.slice A1 al.length c1,.int .i64 (N : Int),.slice A2 mr.length c2,.slice A3 ed.length c3,.slice (some ⟨g0,0,none⟩) (N + 1) (N + 1)],eBlk g0 3 (mkI (N + 1) fun j => (fstV ed j : Int)),eBlk ib 118 [.slice (some ⟨gi,0,none⟩) N N],eBlk gi 4 (mkB N fun s => decide ((s : Int) ∈ kp)),eBlk gm 4 (mkB N fun s => decide ((s : Int) ∈ mr)),eBlk (w.heap.size + 1) 35 [.slice none 0 0,.int .i64 0,.slice none 0 0,.slice none 0 0],eBlk w.heap.size 35 [.slice A1 al.length c1,.int .i64 (N : Int),.slice A2 mr.length c2,.slice A3 ed.length c3]] ++ mksE (D :: Ds)) (W2.setCell ⟨i2,0,none⟩ (.int .i64 ((i : Int) + 1)))) := by
              have h := S2.out.set 0 rfl 0 (.int .i64 ((i : Int) + 1))
              rw [← e1]
              exact h
             have hbx : boxN (W2.setCell ⟨i2,0,none⟩ (.int .i64 ((i : Int) + 1))) (.pointer (some ⟨i2,0,none⟩)) = i + 1 := boxN_of (k := .i64) (BlkAt.cell (S3.out.get 0 rfl) 0)
             have HBX := Lib.hid hbx
             clear S2 hbx
             have E1 := Lib.hid e1
             clear e1
             go_wp2_with fail
             refine ⟨(hLI.out _ _).2 ⟨i + 1,fs',M',E',AQ',cQ',v2,v3',i2,D :: Ds,⟨by omega,hfs',by omega,by omega,B2.out,K.out,RG.out,S3.out⟩,fr_of (fun u => #[u 0,u 1,.pointer (some ⟨w.heap.size,0,none⟩),u 3,.pointer (some ⟨w.heap.size + 1,0,none⟩),u 5,u 6,u 7,.pointer (some ⟨ob,0,none⟩),.pointer (some ⟨ib,0,none⟩),.slice (some ⟨gm,0,none⟩) N N,.pointer (some ⟨nb,0,none⟩),.pointer (some ⟨gg,0,none⟩),.pointer (some ⟨qb,0,none⟩),.pointer (some ⟨i2,0,none⟩),u 15,u 16,u 17,u 18,u 19,u 20,u 21,u 22,u 23,u 24,u 25,u 26,u 27,u 28,u 29,u 30,u 31,u 32,u 33,u 34,u 35,u 36,u 37,u 38,u 39,u 40,u 41,u 42,u 43,u 44,u 45,u 46,u 47,u 48,u 49,u 50,u 51,u 52,u 53,u 54,u 55,u 56,u 57,u 58,u 59,u 60,u 61,u 62,u 63,u 64,u 65,u 66,u 67,u 68,u 69,u 70,u 71,u 72,u 73,u 74,u 75,u 76,u 77,u 78,u 79,u 80,u 81,u 82,u 83,u 84,u 85,u 86,u 87,u 88,u 89,u 90,u 91,u 92,u 93,u 94,u 95,u 96,u 97,u 98,u 99,u 100,u 101,u 102,u 103,u 104,u 105,u 106,u 107,u 108,u 109,u 110,u 111,u 112,u 113,u 114,u 115,u 116,u 117,u 118,u 119,u 120,u 121,u 122,u 123,u 124,u 125,u 126]) rfl⟩,?_⟩
             show N + 1 - boxN _ (.pointer (some ⟨i2,0,none⟩)) < N + 1 - boxN wr (.pointer (some ⟨ii,0,none⟩))
             rw [HBX.out,HB0.out]
             omega
           · intro D c es1 W h
             exact h.elim
        · obtain rfl : i = fs.length := by omega
          obtain ⟨AM,cM,hv2⟩ := S.out.form 4 rfl
          obtain ⟨AX,cX,hv3⟩ := S.out.form 5 rfl
          subst hv2; subst hv3
          have u1 := ckC S.out 3 rfl 1 rfl
          have f1 := BlkAt.free (S.out.get 3 rfl) 1
          go_upto_region 30 with fail
          have S2' := S.out.set 3 rfl 1 (.int .i64 (fs.length : Int))
          refine wp_world (fun W => Sep w.heap.size w ([eBlk ii 3 [.int .i64 (fs.length : Int)],eBlk qb 32 [.slice AQ fs.length cQ],eInts fs (.slice AQ fs.length cQ),eBlk ob 35 [.slice AL al.length cL,.int .i64 (fs.length : Int),(.slice AM M.length cM),(.slice AX E.length cX)],eInts M (.slice AM M.length cM),eEds E (.slice AX E.length cX),eInts al (.slice AL al.length cL),eBlk nb 32 [.slice (some ⟨gn,0,none⟩) N N],eBlk gn 3 (mkI N (numV fs)),eBlk gg 138 [.slice A1 al.length c1,.int .i64 (N : Int),.slice A2 mr.length c2,.slice A3 ed.length c3,.slice (some ⟨g0,0,none⟩) (N + 1) (N + 1)],eBlk g0 3 (mkI (N + 1) fun j => (fstV ed j : Int)),eBlk ib 118 [.slice (some ⟨gi,0,none⟩) N N],eBlk gi 4 (mkB N fun s => decide ((s : Int) ∈ kp)),eBlk gm 4 (mkB N fun s => decide ((s : Int) ∈ mr)),eBlk (w.heap.size + 1) 35 [.slice none 0 0,.int .i64 0,.slice none 0 0,.slice none 0 0],eBlk w.heap.size 35 [.slice A1 al.length c1,.int .i64 (N : Int),.slice A2 mr.length c2,.slice A3 ed.length c3]] ++ mksE Ds) W) S2' fun W S2' => ?_
          have S2 := Lib.hid S2'
          clear S2' S u1 f1 ci cq
          have r0 := ckC S2.out 14 rfl 0 rfl
          have r1 := ckC S2.out 14 rfl 1 rfl
          have r2 := ckC S2.out 14 rfl 2 rfl
          have r3 := ckC S2.out 14 rfl 3 rfl
          have q0 := ckC S2.out 3 rfl 0 rfl
          have q1 := ckC S2.out 3 rfl 1 rfl
          have q2 := ckC S2.out 3 rfl 2 rfl
          have q3 := ckC S2.out 3 rfl 3 rfl
          have s0 := BlkAt.free (S2.out.get 14 rfl) 0
          have s1 := BlkAt.free (S2.out.get 14 rfl) 1
          have s2 := BlkAt.free (S2.out.get 14 rfl) 2
          have s3 := BlkAt.free (S2.out.get 14 rfl) 3
          have S4 : Hid (Sep w.heap.size w ([eBlk ii 3 [.int .i64 (fs.length : Int)],eBlk qb 32 [.slice AQ fs.length cQ],eInts fs (.slice AQ fs.length cQ),eBlk ob 35 [.slice AL al.length cL,.int .i64 (fs.length : Int),(.slice AM M.length cM),(.slice AX E.length cX)],eInts M (.slice AM M.length cM),eEds E (.slice AX E.length cX),eInts al (.slice AL al.length cL),eBlk nb 32 [.slice (some ⟨gn,0,none⟩) N N],eBlk gn 3 (mkI N (numV fs)),eBlk gg 138 [.slice A1 al.length c1,.int .i64 (N : Int),.slice A2 mr.length c2,.slice A3 ed.length c3,.slice (some ⟨g0,0,none⟩) (N + 1) (N + 1)],eBlk g0 3 (mkI (N + 1) fun j => (fstV ed j : Int)),eBlk ib 118 [.slice (some ⟨gi,0,none⟩) N N],eBlk gi 4 (mkB N fun s => decide ((s : Int) ∈ kp)),eBlk gm 4 (mkB N fun s => decide ((s : Int) ∈ mr)),eBlk (w.heap.size + 1) 35 [.slice AL al.length cL,.int .i64 (fs.length : Int),.slice AM M.length cM,.slice AX E.length cX],eBlk w.heap.size 35 [.slice A1 al.length c1,.int .i64 (N : Int),.slice A2 mr.length c2,.slice A3 ed.length c3]] ++ mksE Ds) _) := (((S2.out.set 14 rfl 0 (.slice AL al.length cL)).set 14 rfl 1 (.int .i64 (fs.length : Int))).set 14 rfl 2 (.slice AM M.length cM)).set 14 rfl 3 (.slice AX E.length cX)
          have FIN : Hid (Built id (outK ⟨al,(N : Int),mr,ed⟩ (fun v => decide (v ∈ kp))) 0 ⟨al,fs.length,M,E⟩ fs) := B.out.built (Nat.le_refl _) al M HR.out.al (by omega) K.out.set (fun v hv x hx => by
           obtain ⟨e',t'⟩ := x
           obtain ⟨g1,g2,_⟩ := (mem_outK HR.out (RG.out v hv).1).1 hx
           rcases HR.out.next_cases v e' with g | ⟨_,_,x,hx,x1,x2,x3⟩
           · omega
           · obtain ⟨p,hp,hpx⟩ := List.mem_iff_getElem.1 hx
             have := (HR.out.edge (p := p) (by rw [List.getElem?_eq_getElem hp,hpx])).2.2.2.2
             rw [x2] at this
             exact this) (fun v _ => outK_ups HR.out _ v)
          have MK := Lib.hid K.out.fin
          have hmn : E.length ≤ 131072 := by omega
          go_wp2_with fail
          refine ret_marks Ds S4.out fun w' S5 => ?_
          have r0 := ckC S5 14 rfl 0 rfl
          have r1 := ckC S5 14 rfl 1 rfl
          have r2 := ckC S5 14 rfl 2 rfl
          have r3 := ckC S5 14 rfl 3 rfl
          refine ⟨.tuple #[.agg #[.slice AL al.length cL,.int .i64 (fs.length : Int),.slice AM M.length cM,.slice AX E.length cX],.int .i64 0],by simp [results,Tryd.results95,go_sem, *],?_⟩
          exact ⟨⟨al,fs.length,M,E⟩,⟨AL,cL,AM,cM,AX,cX⟩,rfl,S5.pick [6,4,5] (by decide),⟨by show al.length ≤ _; omega,by show M.length ≤ _; omega,by show E.length ≤ _; omega⟩,rfl,.inr ⟨HX0.out,fs,FIN.out,RG.out,MK.out⟩⟩
   · have F := FIN0 (fun h => hx0 ((kp_head HKP.out hx).1 h))
     have e2 : (x == 0) = false := by simpa using hx0
     clear FIN0 hx0 hx
     go_wp2_with fail
     refine ret_nomarks ⟨_,by simp [results,Tryd.results95,go_sem, *],⟨al,0,[],[]⟩,⟨AL,cL,none,0,none,0⟩,rfl,((SR.out.nilOwn Ed.cells 3 87).nilOwn encI 1 3).pick [3,0,1] (by decide),⟨by show al.length ≤ _; omega,by simp,by simp⟩,F.out⟩
end
end Go.Proofs.YtkifgffhoenaoaaDoor
