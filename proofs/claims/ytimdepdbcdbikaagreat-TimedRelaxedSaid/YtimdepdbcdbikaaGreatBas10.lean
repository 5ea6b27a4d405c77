/-
  reach.Path and reach.Distances of right automata and right sets.
-/
import Derived.Test.YtimdepdbcdbikaaGreatBas01
import Derived.Test.YtimdepdbcdbikaaGreatBas09
import Derived.Test.YtimdepdbcdbikaaGreatBas07
import Derived.Test.YtimdepdbcdbikaaGreatBas05
set_option linter.unusedSimpArgs false
set_option linter.unusedVariables false
namespace Go.Proofs.YtimdepdbcdbikaaGreat
open Go.RowKit
set_option maxRecDepth 100000
theorem idx2_0 (x y : Value) (W : World) : (Instr.index 176 (.agg #[x,y]) (.int .i64 0)).run Tryz.prog W = .ok x W := by kernel_rfl
theorem idx2_1 (x y : Value) (W : World) : (Instr.index 176 (.agg #[x,y]) (.int .i64 1)).run Tryz.prog W = .ok y W := by kernel_rfl
theorem setOk.rg {l : List Int} {n : Int} (h : setOk l n l.length) : ∀ x,x ∈ l → 0 ≤ x ∧ x < n := fun x hx => by
 obtain ⟨i,hi,rfl⟩ := List.mem_iff_getElem.1 hx
 have := h i _ hi (List.getElem?_eq_getElem hi)
 exact ⟨this.1,this.2.1⟩
theorem setOk.nodup {l : List Int} {n : Int} (h : setOk l n l.length) : l.Nodup := by
 rw [List.nodup_iff_pairwise_ne,List.pairwise_iff_getElem]
 intro i j hi hj hij he
 have := h.incr i j _ _ hij (List.getElem?_eq_getElem hi) (List.getElem?_eq_getElem hj)
 omega
theorem path1_c (s N b g : Nat) (tg : List Int) (w : World) (hs : s < N) (hb : BlkAt w b 133 [.slice (some ⟨g,0,none⟩) N N]) (hg : BlkAt w g 4 (mkB N fun s => decide ((s : Int) ∈ tg))) :
 Calls Tryz.prog 106 #[.int .i64 (s : Int),.pointer (some ⟨b,0,none⟩)] w (Ret (.bool (decide ((s : Int) ∈ tg))) w) := by
 have x0 := hb.cell 0
 have y0 := (hg.cell s).trans (mkB_get hs)
 simp only [List.getElem?_cons_zero] at x0
 obtain ⟨d,hd⟩ : ∃ d : Bool,d = decide ((s : Int) ∈ tg) := ⟨_,rfl⟩
 rw [← hd] at y0 ⊢
 clear hb hg hd
 go_enter Tryz.func106,Tryz.ntmps106
 go_wp2_with fail
 go_ret
 exact ⟨rfl,Below.refl _ _⟩
theorem path2_c (x : Ed) (N b g : Nat) (wi : List Int) (w : World) (h0 : 0 ≤ x.dst) (h1 : x.dst < N) (hb : BlkAt w b 133 [.slice (some ⟨g,0,none⟩) N N]) (hg : BlkAt w g 4 (mkB N fun s => decide ((s : Int) ∈ wi))) :
 Calls Tryz.prog 107 #[.agg x.cells.toArray,.pointer (some ⟨b,0,none⟩)] w (Ret (.bool (decide (x.dst ∈ wi))) w) := by
 obtain ⟨xs,xe,xd⟩ := x
 dsimp only [Ed.cells] at *
 obtain ⟨s,rfl⟩ := Int.eq_ofNat_of_zero_le h0
 have hs : s < N := by omega
 obtain ⟨W1,hW1⟩ : ∃ W,W = w.alloc (.cells #[.int .i64 xs,.int .i64 xe,.int .i64 (s : Int)] 76) := ⟨_,rfl⟩
 have B1 : Below w.heap.size w W1 := by rw [hW1]; exact Below.new w _
 have p2 : W1.cell? ⟨w.heap.size,2,none⟩ = some (.int .i64 (s : Int)) := by rw [hW1]; exact new_cell w _ [_,_,_] _ 2 rfl
 have x0 : W1.cell? ⟨b,0,none⟩ = some (.slice (some ⟨g,0,none⟩) N N) := old_cell B1 (hb.cell 0) hb.lt
 have y0 : W1.cell? ⟨g,s,none⟩ = some (.bool (decide ((s : Int) ∈ wi))) := old_cell B1 ((hg.cell s).trans (mkB_get hs)) hg.lt
 obtain ⟨d,hd⟩ : ∃ d : Bool,d = decide ((s : Int) ∈ wi) := ⟨_,rfl⟩
 rw [← hd] at y0 ⊢
 have BH := Lib.hid B1
 clear hb hg hd B1
 go_enter Tryz.func107,Tryz.ntmps107
 go_upto_region 1 with fail
 rw [← hW1]
 clear hW1
 go_wp2_with fail
 go_ret
 exact ⟨rfl,BH.out⟩
def GivesPath (a : Au) (s0 : Int) (tg wi : List Int) (w : World) (e : Ending) (w' : World) : Prop := ∃ (A : Option Addr) (c : Nat) (l : List Int) (f : Bool),e = .returned (.tuple #[.slice A l.length c,.bool f,.int .i64 0]) ∧ Hid (IntsAt w' A l) ∧ Below w.heap.size w w' ∧
 Hid ((s0 ∈ wi → PthW a (fun x => decide (x.dst ∈ wi)) s0 (fun s => decide (s ∈ tg)) f l) ∧ (¬ s0 ∈ wi → f = false ∧ l = []))
set_option maxHeartbeats 4000000 in
theorem pathR_c (a : Au) (p : AuP) (s0 : Nat) (AT AI : Option Addr) (cT cI : Nat) (tg wi : List Int) (w : World) (hr : a.Right) (hc : Caps a p) (hA : Au.At w a p) (hs : (s0 : Int) < a.n) (hT : IntsAt w AT tg) (hI : IntsAt w AI wi) (ht : setOk tg a.n tg.length) (hi : setOk wi a.n wi.length) :
 Calls Tryz.prog 84 #[a.val p,.int .i64 (s0 : Int),.slice AT tg.length cT,.slice AI wi.length cI] w (GivesPath a s0 tg wi w) := by
 have n0 := hr.n0
 have hn := hr.n1
 have HR := Lib.hid hr
 have HA := Lib.hid hA
 have HCP := Lib.hid hc
 have HT := Lib.hid hT
 have HI := Lib.hid hI
 have ST := Lib.hid ht
 have SI := Lib.hid hi
 have HTG : Hid (∀ x,x ∈ tg → 0 ≤ x ∧ x < a.n) := ht.rg
 have HWI : Hid (∀ x,x ∈ wi → 0 ≤ x ∧ x < a.n) := hi.rg
 have lt4 : tg.length ≤ 4096 := by
  have := rises_len (n := 4096) (l := tg) ht.incr (fun x hx => by have := ht.rg x hx; omega)
  exact this
 have li4 : wi.length ≤ 4096 := by
  have := rises_len (n := 4096) (l := wi) hi.incr (fun x hx => by have := hi.rg x hx; omega)
  exact this
 obtain ⟨al,n,mr,ed⟩ := a
 obtain ⟨A1,c1,A2,c2,A3,c3⟩ := p
 obtain ⟨N,rfl⟩ := Int.eq_ofNat_of_zero_le n0
 dsimp only [Au.val] at HTG HWI hn hs ST SI ⊢
 have hsN : s0 < N := by omega
 clear hr hA hc hT hI ht hi n0 hs
 go_enter Tryz.func84,Tryz.ntmps84
 go_wp2_with fail
 refine calls_world (fun W => Sep w.heap.size w [eBlk w.heap.size 34 [.slice A1 al.length c1,.int .i64 (N : Int),.slice A2 mr.length c2,.slice A3 ed.length c3]] W) ?_ fun W S => ?_
 · exact (Sep.here w).alloc' _ [_,_,_,_] rfl rfl
 refine (CheckX_c ⟨al,(N : Int),mr,ed⟩ ⟨A1,c1,A2,c2,A3,c3⟩ W (HA.out.below S.below)).mono ?_
 rintro e w1 ⟨r,rfl,hr,hb⟩
 obtain rfl : r = 0 := hr.zero.2 HR.out
 have S0 : Hid (Sep w.heap.size w [eBlk w.heap.size 34 [.slice A1 al.length c1,.int .i64 (N : Int),.slice A2 mr.length c2,.slice A3 ed.length c3]] w1) := S.next hb
 clear S hb hr
 have a0 := BlkAt.cell (S0.out.get 0 rfl) 0; have a1 := BlkAt.cell (S0.out.get 0 rfl) 1; have a2 := BlkAt.cell (S0.out.get 0 rfl) 2; have a3 := BlkAt.cell (S0.out.get 0 rfl) 3; simp only [List.getElem?_cons_succ,List.getElem?_cons_zero] at a0 a1 a2 a3
 have e1 : decide ((s0 : Int) < 0) = false := by simp
 have e2 : decide ((N : Int) ≤ (s0 : Int)) = false := by simp; omega
 have e3 : decide (N ≤ s0) = false := by simp; omega
 go_wp2_with fail
 clear a0 a1 a2 a3
 go_loopw [33] (fun v wr => ∃ k : Nat,v = .int .i64 (k : Int) ∧ k ≤ 2 ∧ Hid (Sep w.heap.size w [eBlk w.heap.size 34 [.slice A1 al.length c1,.int .i64 (N : Int),.slice A2 mr.length c2,.slice A3 ed.length c3]] wr)) (fun v _ => 2 - (intOf v).toNat)
 case atStart => exact ⟨0,rfl,by omega,S0.out⟩
 case round =>
  clear S0
  obtain ⟨k,rfl,hk,S⟩ := hrel
  have a0 := BlkAt.cell (S.out.get 0 rfl) 0; have a1 := BlkAt.cell (S.out.get 0 rfl) 1; have a2 := BlkAt.cell (S.out.get 0 rfl) 2; have a3 := BlkAt.cell (S.out.get 0 rfl) 3; simp only [List.getElem?_cons_succ,List.getElem?_cons_zero] at a0 a1 a2 a3
  by_cases hk2 : k < 2
  · obtain ⟨AX,cX,lx,hix,HX,SX,hlx⟩ : ∃ (A : Option Addr) (c : Nat) (l : List Int),(∀ W,(Instr.index 176 (.agg #[.slice AT tg.length cT,.slice AI wi.length cI]) (.int .i64 (k : Int))).run Tryz.prog W = .ok (.slice A l.length c) W) ∧ Hid (IntsAt w A l) ∧ Hid (setOk l (N : Int) l.length) ∧ l.length ≤ 4096 := by
     have hk3 : k = 0 ∨ k = 1 := by omega
     rcases hk3 with rfl | rfl
     · exact ⟨AT,cT,tg,fun W => idx2_0 _ _ W,HT.out,ST.out,lt4⟩
     · exact ⟨AI,cI,wi,fun W => idx2_1 _ _ W,HI.out,SI.out,li4⟩
    go_wp2_with fail
    refine (checkStates_c ⟨al,(N : Int),mr,ed⟩ ⟨A1,c1,A2,c2,A3,c3⟩ AX cX lx wr (HX.out.below IntE.stays S.out.below) (by simp only [maxLen]; omega)).mono ?_
    intro e w2 hs
    rcases hs.two with ⟨r,rfl,_,_,HN,_⟩ | ⟨rfl,_,hb⟩
    · exact absurd SX.out HN.out
    have S2 := Lib.hid (S.out.next hb)
    clear hs hb S a0 a1 a2 a3 hix
    go_wp2_with fail
    go_roundw
    case rel => exact ⟨k + 1,by go_num,by omega,S2.out⟩
    case measure => simp [intOf]; omega
  · obtain rfl : k = 2 := by omega
    clear a0 a1 a2 a3
    go_upto_region 13 with fail
    refine wp_world (fun V => Sep w.heap.size w [eBlk w.heap.size 34 [.slice A1 al.length c1,.int .i64 (N : Int),.slice A2 mr.length c2,.slice A3 ed.length c3]] V) S.out fun W5 S' => ?_
    have S4 := Lib.hid S'
    clear S' S
    go_cut [15,16] (fun v15 v16 wx => ∃ nib gi nie ge,v15 = .pointer (some ⟨nib,0,none⟩) ∧ v16 = .pointer (some ⟨nie,0,none⟩) ∧ Hid (Sep w.heap.size w [eBlk nib 133 [.slice (some ⟨gi,0,none⟩) N N],eBlk gi 4 (mkB N fun s => decide ((s : Int) ∈ wi)),eBlk nie 133 [.slice (some ⟨ge,0,none⟩) N N],eBlk ge 4 (mkB N fun s => decide ((s : Int) ∈ tg)),eBlk w.heap.size 34 [.slice A1 al.length c1,.int .i64 (N : Int),.slice A2 mr.length c2,.slice A3 ed.length c3]] wx))
    case first =>
     have S1 := Lib.hid S4.out.drew
     refine wp_region_held_drew (S := (fun V => Sep w.heap.size w [eBlk w.heap.size 34 [.slice A1 al.length c1,.int .i64 (N : Int),.slice A2 mr.length c2,.slice A3 ed.length c3]] V)) (by kernel_rfl) ?_ (fun hHeld => ?_)
     · exact S1.out.pick [0] (by decide)
     generalize hwz : W5.drew = w1 at *
     clear hwz
     refine tkH 0 rfl (v := ?_) (by kernel_rfl) ?_ hHeld ?_
     rotate_left
     · intro V hSw
       have b0 := qkC hSw 0 rfl 0 rfl
       have b1 := qkC hSw 0 rfl 1 rfl
       have b2 := qkC hSw 0 rfl 2 rfl
       have b3 := qkC hSw 0 rfl 3 rfl
       clear hSw
       first | (go_simp; done) | (go_simp; with_reducible rfl)
     try simp only [sx]
     refine tkP 1 rfl hHeld ?_
     try simp only [sx]
     refine tkH 3 rfl (v := ?_) (by kernel_rfl) ?_ hHeld ?_
     rotate_left
     · intro V hSw
       have b0 := qkC hSw 0 rfl 0 rfl
       have b1 := qkC hSw 0 rfl 1 rfl
       have b2 := qkC hSw 0 rfl 2 rfl
       have b3 := qkC hSw 0 rfl 3 rfl
       clear hSw
       first | (go_simp; done) | (go_simp; with_reducible rfl)
     try simp only [sx]
     refine tkP 4 rfl hHeld ?_
     try simp only [sx]
     refine wpAnyH_ready (rs := [2,6,7]) (by kernel_rfl) (by simp) ?_
     refine AllReadyH.cons rfl (fun K hK => ?_) (AllReadyH.cons rfl (fun K hK => ?_) (AllReadyH.cons rfl (fun K hK => ?_) AllReadyH.nil))
     · skip
       go_simp
       refine (flags_c ⟨al,(N : Int),mr,ed⟩ ⟨A1,c1,A2,c2,A3,c3⟩ AI cI wi w1 HWI.out (Int.natCast_nonneg _) hn (HI.out.below IntE.stays S1.out.below) (by omega)).mono ?_
       rintro e w2 ⟨gi,rfl,T⟩
       have S2 := qkN S1.out T.out
       clear T
       refine hK.out _ _ ?_ (fun hHeld => ?_)
       · exact S2.out.pick [1] (by decide)
       clear hK K
       try simp only [sx]
       refine wpAnyH_ready (rs := [5,6,7]) (by kernel_rfl) (by simp) ?_
       refine AllReadyH.cons rfl (fun K hK => ?_) (AllReadyH.cons rfl (fun K hK => ?_) (AllReadyH.cons rfl (fun K hK => ?_) AllReadyH.nil))
       · skip
         go_simp
         refine (flags_c ⟨al,(N : Int),mr,ed⟩ ⟨A1,c1,A2,c2,A3,c3⟩ AT cT tg w2 HTG.out (Int.natCast_nonneg _) hn (HT.out.below IntE.stays S2.out.below) (by omega)).mono ?_
         rintro e w3 ⟨ge,rfl,T⟩
         have S3 := qkN S2.out T.out
         clear T
         refine hK.out _ _ ?_ (fun hHeld => ?_)
         · exact S3.out.pick [2] (by decide)
         clear hK K
         try simp only [sx]
         refine wpAnyH_ready (rs := [6,7]) (by kernel_rfl) (by simp) ?_
         refine AllReadyH.cons rfl (fun K hK => ?_) (AllReadyH.cons rfl (fun K hK => ?_) AllReadyH.nil)
         · skip
           go_simp
           obtain ⟨nib,hnib⟩ : ∃ n,n = w3.heap.size := ⟨_,rfl⟩
           obtain ⟨w4,hw4⟩ : ∃ v,v = w3.alloc (.cells #[.slice none 0 0] 133) := ⟨_,rfl⟩
           rw [← hw4,← hnib]
           have S4 := qkA S3.out hw4 hnib
           skip
           clear hw4 hnib
           refine hK.out _ _ ?_ (fun hHeld => ?_)
           · exact S4.out.pick [3] (by decide)
           clear hK K
           try simp only [sx]
           refine rdH 7 rfl fun K hK => ?_
           go_simp
           obtain ⟨nie,hnie⟩ : ∃ n,n = w4.heap.size := ⟨_,rfl⟩
           obtain ⟨w5,hw5⟩ : ∃ v,v = w4.alloc (.cells #[.slice none 0 0] 133) := ⟨_,rfl⟩
           rw [← hw5,← hnie]
           have S5 := qkA S4.out hw5 hnie
           skip
           clear hw5 hnie
           refine hK.out _ _ ?_ (fun hHeld => ?_)
           · exact S5.out.pick [4] (by decide)
           clear hK K
           try simp only [sx]
           refine rdH 8 rfl fun K hK => ?_
           have sc0 := qkC S5.out 1 rfl 0 rfl
           have sf0 := BlkAt.free (S5.out.get 1 rfl) 0
           try dsimp only [Au.val] at *
           go_simp
           obtain ⟨w6,hw6⟩ : ∃ v,v = (w5.setCell ⟨nib,0,none⟩ (.slice (some ⟨gi,0,none⟩) N N)) := ⟨_,rfl⟩
           rw [← hw6]
           have S6 : Hid (Sep w.heap.size w [eBlk nie 133 [.slice none 0 0],eBlk nib 133 [.slice (some ⟨gi,0,none⟩) N N],eBlk ge 4 (mkB N fun s => decide ((s : Int) ∈ tg)),eBlk gi 4 (mkB N fun s => decide ((s : Int) ∈ wi)),eBlk w.heap.size 34 [.slice A1 al.length c1,.int .i64 (N : Int),.slice A2 mr.length c2,.slice A3 ed.length c3]] w6) := by rw [hw6]; exact (S5.out.set 1 rfl 0 (.slice (some ⟨gi,0,none⟩) N N))
           clear hw6 sc0 sf0
           refine hK.out _ _ ?_ (fun hHeld => ?_)
           · exact S6.out.pick [4] (by decide)
           clear hK K
           try simp only [sx]
           refine rdH 9 rfl fun K hK => ?_
           have sc0 := qkC S6.out 0 rfl 0 rfl
           have sf0 := BlkAt.free (S6.out.get 0 rfl) 0
           try dsimp only [Au.val] at *
           go_simp
           obtain ⟨w7,hw7⟩ : ∃ v,v = (w6.setCell ⟨nie,0,none⟩ (.slice (some ⟨ge,0,none⟩) N N)) := ⟨_,rfl⟩
           rw [← hw7]
           have S7 : Hid (Sep w.heap.size w [eBlk nie 133 [.slice (some ⟨ge,0,none⟩) N N],eBlk nib 133 [.slice (some ⟨gi,0,none⟩) N N],eBlk ge 4 (mkB N fun s => decide ((s : Int) ∈ tg)),eBlk gi 4 (mkB N fun s => decide ((s : Int) ∈ wi)),eBlk w.heap.size 34 [.slice A1 al.length c1,.int .i64 (N : Int),.slice A2 mr.length c2,.slice A3 ed.length c3]] w7) := by rw [hw7]; exact (S6.out.set 0 rfl 0 (.slice (some ⟨ge,0,none⟩) N N))
           clear hw7 sc0 sf0
           refine hK.out _ _ ?_ (fun hHeld => ?_)
           · exact S7.out.pick [4] (by decide)
           clear hK K
           try simp only [sx]
           refine wpAnyH_done (by kernel_rfl) ?_ _
           go_wp2_with fail
           go_meet
           exact ⟨nib,gi,nie,ge,rfl,rfl,S7.out.pick [1,3,0,2,4] (by decide)⟩
         · skip
           go_simp
           obtain ⟨nie,hnie⟩ : ∃ n,n = w3.heap.size := ⟨_,rfl⟩
           obtain ⟨w8,hw8⟩ : ∃ v,v = w3.alloc (.cells #[.slice none 0 0] 133) := ⟨_,rfl⟩
           rw [← hw8,← hnie]
           have S8 := qkA S3.out hw8 hnie
           skip
           clear hw8 hnie
           refine hK.out _ _ ?_ (fun hHeld => ?_)
           · exact S8.out.pick [3] (by decide)
           clear hK K
           try simp only [sx]
           refine rdH 6 rfl fun K hK => ?_
           go_simp
           obtain ⟨nib,hnib⟩ : ∃ n,n = w8.heap.size := ⟨_,rfl⟩
           obtain ⟨w9,hw9⟩ : ∃ v,v = w8.alloc (.cells #[.slice none 0 0] 133) := ⟨_,rfl⟩
           rw [← hw9,← hnib]
           have S9 := qkA S8.out hw9 hnib
           skip
           clear hw9 hnib
           refine hK.out _ _ ?_ (fun hHeld => ?_)
           · exact S9.out.pick [4] (by decide)
           clear hK K
           try simp only [sx]
           refine rdH 8 rfl fun K hK => ?_
           have sc0 := qkC S9.out 0 rfl 0 rfl
           have sf0 := BlkAt.free (S9.out.get 0 rfl) 0
           try dsimp only [Au.val] at *
           go_simp
           obtain ⟨w10,hw10⟩ : ∃ v,v = (w9.setCell ⟨nib,0,none⟩ (.slice (some ⟨gi,0,none⟩) N N)) := ⟨_,rfl⟩
           rw [← hw10]
           have S10 : Hid (Sep w.heap.size w [eBlk nib 133 [.slice (some ⟨gi,0,none⟩) N N],eBlk nie 133 [.slice none 0 0],eBlk ge 4 (mkB N fun s => decide ((s : Int) ∈ tg)),eBlk gi 4 (mkB N fun s => decide ((s : Int) ∈ wi)),eBlk w.heap.size 34 [.slice A1 al.length c1,.int .i64 (N : Int),.slice A2 mr.length c2,.slice A3 ed.length c3]] w10) := by rw [hw10]; exact (S9.out.set 0 rfl 0 (.slice (some ⟨gi,0,none⟩) N N))
           clear hw10 sc0 sf0
           refine hK.out _ _ ?_ (fun hHeld => ?_)
           · exact S10.out.pick [4] (by decide)
           clear hK K
           try simp only [sx]
           refine rdH 9 rfl fun K hK => ?_
           have sc0 := qkC S10.out 1 rfl 0 rfl
           have sf0 := BlkAt.free (S10.out.get 1 rfl) 0
           try dsimp only [Au.val] at *
           go_simp
           obtain ⟨w11,hw11⟩ : ∃ v,v = (w10.setCell ⟨nie,0,none⟩ (.slice (some ⟨ge,0,none⟩) N N)) := ⟨_,rfl⟩
           rw [← hw11]
           have S11 : Hid (Sep w.heap.size w [eBlk nib 133 [.slice (some ⟨gi,0,none⟩) N N],eBlk nie 133 [.slice (some ⟨ge,0,none⟩) N N],eBlk ge 4 (mkB N fun s => decide ((s : Int) ∈ tg)),eBlk gi 4 (mkB N fun s => decide ((s : Int) ∈ wi)),eBlk w.heap.size 34 [.slice A1 al.length c1,.int .i64 (N : Int),.slice A2 mr.length c2,.slice A3 ed.length c3]] w11) := by rw [hw11]; exact (S10.out.set 1 rfl 0 (.slice (some ⟨ge,0,none⟩) N N))
           clear hw11 sc0 sf0
           refine hK.out _ _ ?_ (fun hHeld => ?_)
           · exact S11.out.pick [4] (by decide)
           clear hK K
           try simp only [sx]
           refine wpAnyH_done (by kernel_rfl) ?_ _
           go_wp2_with fail
           go_meet
           exact ⟨nib,gi,nie,ge,rfl,rfl,S11.out.pick [0,3,1,2,4] (by decide)⟩
       · skip
         go_simp
         obtain ⟨nib,hnib⟩ : ∃ n,n = w2.heap.size := ⟨_,rfl⟩
         obtain ⟨w12,hw12⟩ : ∃ v,v = w2.alloc (.cells #[.slice none 0 0] 133) := ⟨_,rfl⟩
         rw [← hw12,← hnib]
         have S12 := qkA S2.out hw12 hnib
         skip
         clear hw12 hnib
         refine hK.out _ _ ?_ (fun hHeld => ?_)
         · exact S12.out.pick [2] (by decide)
         clear hK K
         try simp only [sx]
         refine wpAnyH_ready (rs := [5,7]) (by kernel_rfl) (by simp) ?_
         refine AllReadyH.cons rfl (fun K hK => ?_) (AllReadyH.cons rfl (fun K hK => ?_) AllReadyH.nil)
         · skip
           go_simp
           refine (flags_c ⟨al,(N : Int),mr,ed⟩ ⟨A1,c1,A2,c2,A3,c3⟩ AT cT tg w12 HTG.out (Int.natCast_nonneg _) hn (HT.out.below IntE.stays S12.out.below) (by omega)).mono ?_
           rintro e w13 ⟨ge,rfl,T⟩
           have S13 := qkN S12.out T.out
           clear T
           refine hK.out _ _ ?_ (fun hHeld => ?_)
           · exact S13.out.pick [3] (by decide)
           clear hK K
           try simp only [sx]
           refine rdH 7 rfl fun K hK => ?_
           go_simp
           obtain ⟨nie,hnie⟩ : ∃ n,n = w13.heap.size := ⟨_,rfl⟩
           obtain ⟨w14,hw14⟩ : ∃ v,v = w13.alloc (.cells #[.slice none 0 0] 133) := ⟨_,rfl⟩
           rw [← hw14,← hnie]
           have S14 := qkA S13.out hw14 hnie
           skip
           clear hw14 hnie
           refine hK.out _ _ ?_ (fun hHeld => ?_)
           · exact S14.out.pick [4] (by decide)
           clear hK K
           try simp only [sx]
           refine rdH 8 rfl fun K hK => ?_
           have sc0 := qkC S14.out 2 rfl 0 rfl
           have sf0 := BlkAt.free (S14.out.get 2 rfl) 0
           try dsimp only [Au.val] at *
           go_simp
           obtain ⟨w15,hw15⟩ : ∃ v,v = (w14.setCell ⟨nib,0,none⟩ (.slice (some ⟨gi,0,none⟩) N N)) := ⟨_,rfl⟩
           rw [← hw15]
           have S15 : Hid (Sep w.heap.size w [eBlk nie 133 [.slice none 0 0],eBlk ge 4 (mkB N fun s => decide ((s : Int) ∈ tg)),eBlk nib 133 [.slice (some ⟨gi,0,none⟩) N N],eBlk gi 4 (mkB N fun s => decide ((s : Int) ∈ wi)),eBlk w.heap.size 34 [.slice A1 al.length c1,.int .i64 (N : Int),.slice A2 mr.length c2,.slice A3 ed.length c3]] w15) := by rw [hw15]; exact (S14.out.set 2 rfl 0 (.slice (some ⟨gi,0,none⟩) N N))
           clear hw15 sc0 sf0
           refine hK.out _ _ ?_ (fun hHeld => ?_)
           · exact S15.out.pick [4] (by decide)
           clear hK K
           try simp only [sx]
           refine rdH 9 rfl fun K hK => ?_
           have sc0 := qkC S15.out 0 rfl 0 rfl
           have sf0 := BlkAt.free (S15.out.get 0 rfl) 0
           try dsimp only [Au.val] at *
           go_simp
           obtain ⟨w16,hw16⟩ : ∃ v,v = (w15.setCell ⟨nie,0,none⟩ (.slice (some ⟨ge,0,none⟩) N N)) := ⟨_,rfl⟩
           rw [← hw16]
           have S16 : Hid (Sep w.heap.size w [eBlk nie 133 [.slice (some ⟨ge,0,none⟩) N N],eBlk ge 4 (mkB N fun s => decide ((s : Int) ∈ tg)),eBlk nib 133 [.slice (some ⟨gi,0,none⟩) N N],eBlk gi 4 (mkB N fun s => decide ((s : Int) ∈ wi)),eBlk w.heap.size 34 [.slice A1 al.length c1,.int .i64 (N : Int),.slice A2 mr.length c2,.slice A3 ed.length c3]] w16) := by rw [hw16]; exact (S15.out.set 0 rfl 0 (.slice (some ⟨ge,0,none⟩) N N))
           clear hw16 sc0 sf0
           refine hK.out _ _ ?_ (fun hHeld => ?_)
           · exact S16.out.pick [4] (by decide)
           clear hK K
           try simp only [sx]
           refine wpAnyH_done (by kernel_rfl) ?_ _
           go_wp2_with fail
           go_meet
           exact ⟨nib,gi,nie,ge,rfl,rfl,S16.out.pick [2,3,0,1,4] (by decide)⟩
         · skip
           go_simp
           obtain ⟨nie,hnie⟩ : ∃ n,n = w12.heap.size := ⟨_,rfl⟩
           obtain ⟨w17,hw17⟩ : ∃ v,v = w12.alloc (.cells #[.slice none 0 0] 133) := ⟨_,rfl⟩
           rw [← hw17,← hnie]
           have S17 := qkA S12.out hw17 hnie
           skip
           clear hw17 hnie
           refine hK.out _ _ ?_ (fun hHeld => ?_)
           · exact S17.out.pick [3] (by decide)
           clear hK K
           try simp only [sx]
           refine rdH 5 rfl fun K hK => ?_
           go_simp
           refine (flags_c ⟨al,(N : Int),mr,ed⟩ ⟨A1,c1,A2,c2,A3,c3⟩ AT cT tg w17 HTG.out (Int.natCast_nonneg _) hn (HT.out.below IntE.stays S17.out.below) (by omega)).mono ?_
           rintro e w18 ⟨ge,rfl,T⟩
           have S18 := qkN S17.out T.out
           clear T
           refine hK.out _ _ ?_ (fun hHeld => ?_)
           · exact S18.out.pick [4] (by decide)
           clear hK K
           try simp only [sx]
           refine rdH 8 rfl fun K hK => ?_
           have sc0 := qkC S18.out 2 rfl 0 rfl
           have sf0 := BlkAt.free (S18.out.get 2 rfl) 0
           try dsimp only [Au.val] at *
           go_simp
           obtain ⟨w19,hw19⟩ : ∃ v,v = (w18.setCell ⟨nib,0,none⟩ (.slice (some ⟨gi,0,none⟩) N N)) := ⟨_,rfl⟩
           rw [← hw19]
           have S19 : Hid (Sep w.heap.size w [eBlk ge 4 (mkB N fun s => decide ((s : Int) ∈ tg)),eBlk nie 133 [.slice none 0 0],eBlk nib 133 [.slice (some ⟨gi,0,none⟩) N N],eBlk gi 4 (mkB N fun s => decide ((s : Int) ∈ wi)),eBlk w.heap.size 34 [.slice A1 al.length c1,.int .i64 (N : Int),.slice A2 mr.length c2,.slice A3 ed.length c3]] w19) := by rw [hw19]; exact (S18.out.set 2 rfl 0 (.slice (some ⟨gi,0,none⟩) N N))
           clear hw19 sc0 sf0
           refine hK.out _ _ ?_ (fun hHeld => ?_)
           · exact S19.out.pick [4] (by decide)
           clear hK K
           try simp only [sx]
           refine rdH 9 rfl fun K hK => ?_
           have sc0 := qkC S19.out 1 rfl 0 rfl
           have sf0 := BlkAt.free (S19.out.get 1 rfl) 0
           try dsimp only [Au.val] at *
           go_simp
           obtain ⟨w20,hw20⟩ : ∃ v,v = (w19.setCell ⟨nie,0,none⟩ (.slice (some ⟨ge,0,none⟩) N N)) := ⟨_,rfl⟩
           rw [← hw20]
           have S20 : Hid (Sep w.heap.size w [eBlk ge 4 (mkB N fun s => decide ((s : Int) ∈ tg)),eBlk nie 133 [.slice (some ⟨ge,0,none⟩) N N],eBlk nib 133 [.slice (some ⟨gi,0,none⟩) N N],eBlk gi 4 (mkB N fun s => decide ((s : Int) ∈ wi)),eBlk w.heap.size 34 [.slice A1 al.length c1,.int .i64 (N : Int),.slice A2 mr.length c2,.slice A3 ed.length c3]] w20) := by rw [hw20]; exact (S19.out.set 1 rfl 0 (.slice (some ⟨ge,0,none⟩) N N))
           clear hw20 sc0 sf0
           refine hK.out _ _ ?_ (fun hHeld => ?_)
           · exact S20.out.pick [4] (by decide)
           clear hK K
           try simp only [sx]
           refine wpAnyH_done (by kernel_rfl) ?_ _
           go_wp2_with fail
           go_meet
           exact ⟨nib,gi,nie,ge,rfl,rfl,S20.out.pick [2,3,1,0,4] (by decide)⟩
       · skip
         go_simp
         obtain ⟨nie,hnie⟩ : ∃ n,n = w2.heap.size := ⟨_,rfl⟩
         obtain ⟨w21,hw21⟩ : ∃ v,v = w2.alloc (.cells #[.slice none 0 0] 133) := ⟨_,rfl⟩
         rw [← hw21,← hnie]
         have S21 := qkA S2.out hw21 hnie
         skip
         clear hw21 hnie
         refine hK.out _ _ ?_ (fun hHeld => ?_)
         · exact S21.out.pick [2] (by decide)
         clear hK K
         try simp only [sx]
         refine wpAnyH_ready (rs := [5,6]) (by kernel_rfl) (by simp) ?_
         refine AllReadyH.cons rfl (fun K hK => ?_) (AllReadyH.cons rfl (fun K hK => ?_) AllReadyH.nil)
         · skip
           go_simp
           refine (flags_c ⟨al,(N : Int),mr,ed⟩ ⟨A1,c1,A2,c2,A3,c3⟩ AT cT tg w21 HTG.out (Int.natCast_nonneg _) hn (HT.out.below IntE.stays S21.out.below) (by omega)).mono ?_
           rintro e w22 ⟨ge,rfl,T⟩
           have S22 := qkN S21.out T.out
           clear T
           refine hK.out _ _ ?_ (fun hHeld => ?_)
           · exact S22.out.pick [3] (by decide)
           clear hK K
           try simp only [sx]
           refine rdH 6 rfl fun K hK => ?_
           go_simp
           obtain ⟨nib,hnib⟩ : ∃ n,n = w22.heap.size := ⟨_,rfl⟩
           obtain ⟨w23,hw23⟩ : ∃ v,v = w22.alloc (.cells #[.slice none 0 0] 133) := ⟨_,rfl⟩
           rw [← hw23,← hnib]
           have S23 := qkA S22.out hw23 hnib
           skip
           clear hw23 hnib
           refine hK.out _ _ ?_ (fun hHeld => ?_)
           · exact S23.out.pick [4] (by decide)
           clear hK K
           try simp only [sx]
           refine rdH 8 rfl fun K hK => ?_
           have sc0 := qkC S23.out 0 rfl 0 rfl
           have sf0 := BlkAt.free (S23.out.get 0 rfl) 0
           try dsimp only [Au.val] at *
           go_simp
           obtain ⟨w24,hw24⟩ : ∃ v,v = (w23.setCell ⟨nib,0,none⟩ (.slice (some ⟨gi,0,none⟩) N N)) := ⟨_,rfl⟩
           rw [← hw24]
           have S24 : Hid (Sep w.heap.size w [eBlk nib 133 [.slice (some ⟨gi,0,none⟩) N N],eBlk ge 4 (mkB N fun s => decide ((s : Int) ∈ tg)),eBlk nie 133 [.slice none 0 0],eBlk gi 4 (mkB N fun s => decide ((s : Int) ∈ wi)),eBlk w.heap.size 34 [.slice A1 al.length c1,.int .i64 (N : Int),.slice A2 mr.length c2,.slice A3 ed.length c3]] w24) := by rw [hw24]; exact (S23.out.set 0 rfl 0 (.slice (some ⟨gi,0,none⟩) N N))
           clear hw24 sc0 sf0
           refine hK.out _ _ ?_ (fun hHeld => ?_)
           · exact S24.out.pick [4] (by decide)
           clear hK K
           try simp only [sx]
           refine rdH 9 rfl fun K hK => ?_
           have sc0 := qkC S24.out 2 rfl 0 rfl
           have sf0 := BlkAt.free (S24.out.get 2 rfl) 0
           try dsimp only [Au.val] at *
           go_simp
           obtain ⟨w25,hw25⟩ : ∃ v,v = (w24.setCell ⟨nie,0,none⟩ (.slice (some ⟨ge,0,none⟩) N N)) := ⟨_,rfl⟩
           rw [← hw25]
           have S25 : Hid (Sep w.heap.size w [eBlk nib 133 [.slice (some ⟨gi,0,none⟩) N N],eBlk ge 4 (mkB N fun s => decide ((s : Int) ∈ tg)),eBlk nie 133 [.slice (some ⟨ge,0,none⟩) N N],eBlk gi 4 (mkB N fun s => decide ((s : Int) ∈ wi)),eBlk w.heap.size 34 [.slice A1 al.length c1,.int .i64 (N : Int),.slice A2 mr.length c2,.slice A3 ed.length c3]] w25) := by rw [hw25]; exact (S24.out.set 2 rfl 0 (.slice (some ⟨ge,0,none⟩) N N))
           clear hw25 sc0 sf0
           refine hK.out _ _ ?_ (fun hHeld => ?_)
           · exact S25.out.pick [4] (by decide)
           clear hK K
           try simp only [sx]
           refine wpAnyH_done (by kernel_rfl) ?_ _
           go_wp2_with fail
           go_meet
           exact ⟨nib,gi,nie,ge,rfl,rfl,S25.out.pick [0,3,2,1,4] (by decide)⟩
         · skip
           go_simp
           obtain ⟨nib,hnib⟩ : ∃ n,n = w21.heap.size := ⟨_,rfl⟩
           obtain ⟨w26,hw26⟩ : ∃ v,v = w21.alloc (.cells #[.slice none 0 0] 133) := ⟨_,rfl⟩
           rw [← hw26,← hnib]
           have S26 := qkA S21.out hw26 hnib
           skip
           clear hw26 hnib
           refine hK.out _ _ ?_ (fun hHeld => ?_)
           · exact S26.out.pick [3] (by decide)
           clear hK K
           try simp only [sx]
           refine rdH 5 rfl fun K hK => ?_
           go_simp
           refine (flags_c ⟨al,(N : Int),mr,ed⟩ ⟨A1,c1,A2,c2,A3,c3⟩ AT cT tg w26 HTG.out (Int.natCast_nonneg _) hn (HT.out.below IntE.stays S26.out.below) (by omega)).mono ?_
           rintro e w27 ⟨ge,rfl,T⟩
           have S27 := qkN S26.out T.out
           clear T
           refine hK.out _ _ ?_ (fun hHeld => ?_)
           · exact S27.out.pick [4] (by decide)
           clear hK K
           try simp only [sx]
           refine rdH 8 rfl fun K hK => ?_
           have sc0 := qkC S27.out 1 rfl 0 rfl
           have sf0 := BlkAt.free (S27.out.get 1 rfl) 0
           try dsimp only [Au.val] at *
           go_simp
           obtain ⟨w28,hw28⟩ : ∃ v,v = (w27.setCell ⟨nib,0,none⟩ (.slice (some ⟨gi,0,none⟩) N N)) := ⟨_,rfl⟩
           rw [← hw28]
           have S28 : Hid (Sep w.heap.size w [eBlk ge 4 (mkB N fun s => decide ((s : Int) ∈ tg)),eBlk nib 133 [.slice (some ⟨gi,0,none⟩) N N],eBlk nie 133 [.slice none 0 0],eBlk gi 4 (mkB N fun s => decide ((s : Int) ∈ wi)),eBlk w.heap.size 34 [.slice A1 al.length c1,.int .i64 (N : Int),.slice A2 mr.length c2,.slice A3 ed.length c3]] w28) := by rw [hw28]; exact (S27.out.set 1 rfl 0 (.slice (some ⟨gi,0,none⟩) N N))
           clear hw28 sc0 sf0
           refine hK.out _ _ ?_ (fun hHeld => ?_)
           · exact S28.out.pick [4] (by decide)
           clear hK K
           try simp only [sx]
           refine rdH 9 rfl fun K hK => ?_
           have sc0 := qkC S28.out 2 rfl 0 rfl
           have sf0 := BlkAt.free (S28.out.get 2 rfl) 0
           try dsimp only [Au.val] at *
           go_simp
           obtain ⟨w29,hw29⟩ : ∃ v,v = (w28.setCell ⟨nie,0,none⟩ (.slice (some ⟨ge,0,none⟩) N N)) := ⟨_,rfl⟩
           rw [← hw29]
           have S29 : Hid (Sep w.heap.size w [eBlk ge 4 (mkB N fun s => decide ((s : Int) ∈ tg)),eBlk nib 133 [.slice (some ⟨gi,0,none⟩) N N],eBlk nie 133 [.slice (some ⟨ge,0,none⟩) N N],eBlk gi 4 (mkB N fun s => decide ((s : Int) ∈ wi)),eBlk w.heap.size 34 [.slice A1 al.length c1,.int .i64 (N : Int),.slice A2 mr.length c2,.slice A3 ed.length c3]] w29) := by rw [hw29]; exact (S28.out.set 2 rfl 0 (.slice (some ⟨ge,0,none⟩) N N))
           clear hw29 sc0 sf0
           refine hK.out _ _ ?_ (fun hHeld => ?_)
           · exact S29.out.pick [4] (by decide)
           clear hK K
           try simp only [sx]
           refine wpAnyH_done (by kernel_rfl) ?_ _
           go_wp2_with fail
           go_meet
           exact ⟨nib,gi,nie,ge,rfl,rfl,S29.out.pick [1,3,2,0,4] (by decide)⟩
     · skip
       go_simp
       obtain ⟨nib,hnib⟩ : ∃ n,n = w1.heap.size := ⟨_,rfl⟩
       obtain ⟨w30,hw30⟩ : ∃ v,v = w1.alloc (.cells #[.slice none 0 0] 133) := ⟨_,rfl⟩
       rw [← hw30,← hnib]
       have S30 := qkA S1.out hw30 hnib
       skip
       clear hw30 hnib
       refine hK.out _ _ ?_ (fun hHeld => ?_)
       · exact S30.out.pick [1] (by decide)
       clear hK K
       try simp only [sx]
       refine wpAnyH_ready (rs := [2,7]) (by kernel_rfl) (by simp) ?_
       refine AllReadyH.cons rfl (fun K hK => ?_) (AllReadyH.cons rfl (fun K hK => ?_) AllReadyH.nil)
       · skip
         go_simp
         refine (flags_c ⟨al,(N : Int),mr,ed⟩ ⟨A1,c1,A2,c2,A3,c3⟩ AI cI wi w30 HWI.out (Int.natCast_nonneg _) hn (HI.out.below IntE.stays S30.out.below) (by omega)).mono ?_
         rintro e w31 ⟨gi,rfl,T⟩
         have S31 := qkN S30.out T.out
         clear T
         refine hK.out _ _ ?_ (fun hHeld => ?_)
         · exact S31.out.pick [2] (by decide)
         clear hK K
         try simp only [sx]
         refine wpAnyH_ready (rs := [5,7]) (by kernel_rfl) (by simp) ?_
         refine AllReadyH.cons rfl (fun K hK => ?_) (AllReadyH.cons rfl (fun K hK => ?_) AllReadyH.nil)
         · skip
           go_simp
           refine (flags_c ⟨al,(N : Int),mr,ed⟩ ⟨A1,c1,A2,c2,A3,c3⟩ AT cT tg w31 HTG.out (Int.natCast_nonneg _) hn (HT.out.below IntE.stays S31.out.below) (by omega)).mono ?_
           rintro e w32 ⟨ge,rfl,T⟩
           have S32 := qkN S31.out T.out
           clear T
           refine hK.out _ _ ?_ (fun hHeld => ?_)
           · exact S32.out.pick [3] (by decide)
           clear hK K
           try simp only [sx]
           refine rdH 7 rfl fun K hK => ?_
           go_simp
           obtain ⟨nie,hnie⟩ : ∃ n,n = w32.heap.size := ⟨_,rfl⟩
           obtain ⟨w33,hw33⟩ : ∃ v,v = w32.alloc (.cells #[.slice none 0 0] 133) := ⟨_,rfl⟩
           rw [← hw33,← hnie]
           have S33 := qkA S32.out hw33 hnie
           skip
           clear hw33 hnie
           refine hK.out _ _ ?_ (fun hHeld => ?_)
           · exact S33.out.pick [4] (by decide)
           clear hK K
           try simp only [sx]
           refine rdH 8 rfl fun K hK => ?_
           have sc0 := qkC S33.out 3 rfl 0 rfl
           have sf0 := BlkAt.free (S33.out.get 3 rfl) 0
           try dsimp only [Au.val] at *
           go_simp
           obtain ⟨w34,hw34⟩ : ∃ v,v = (w33.setCell ⟨nib,0,none⟩ (.slice (some ⟨gi,0,none⟩) N N)) := ⟨_,rfl⟩
           rw [← hw34]
           have S34 : Hid (Sep w.heap.size w [eBlk nie 133 [.slice none 0 0],eBlk ge 4 (mkB N fun s => decide ((s : Int) ∈ tg)),eBlk gi 4 (mkB N fun s => decide ((s : Int) ∈ wi)),eBlk nib 133 [.slice (some ⟨gi,0,none⟩) N N],eBlk w.heap.size 34 [.slice A1 al.length c1,.int .i64 (N : Int),.slice A2 mr.length c2,.slice A3 ed.length c3]] w34) := by rw [hw34]; exact (S33.out.set 3 rfl 0 (.slice (some ⟨gi,0,none⟩) N N))
           clear hw34 sc0 sf0
           refine hK.out _ _ ?_ (fun hHeld => ?_)
           · exact S34.out.pick [4] (by decide)
           clear hK K
           try simp only [sx]
           refine rdH 9 rfl fun K hK => ?_
           have sc0 := qkC S34.out 0 rfl 0 rfl
           have sf0 := BlkAt.free (S34.out.get 0 rfl) 0
           try dsimp only [Au.val] at *
           go_simp
           obtain ⟨w35,hw35⟩ : ∃ v,v = (w34.setCell ⟨nie,0,none⟩ (.slice (some ⟨ge,0,none⟩) N N)) := ⟨_,rfl⟩
           rw [← hw35]
           have S35 : Hid (Sep w.heap.size w [eBlk nie 133 [.slice (some ⟨ge,0,none⟩) N N],eBlk ge 4 (mkB N fun s => decide ((s : Int) ∈ tg)),eBlk gi 4 (mkB N fun s => decide ((s : Int) ∈ wi)),eBlk nib 133 [.slice (some ⟨gi,0,none⟩) N N],eBlk w.heap.size 34 [.slice A1 al.length c1,.int .i64 (N : Int),.slice A2 mr.length c2,.slice A3 ed.length c3]] w35) := by rw [hw35]; exact (S34.out.set 0 rfl 0 (.slice (some ⟨ge,0,none⟩) N N))
           clear hw35 sc0 sf0
           refine hK.out _ _ ?_ (fun hHeld => ?_)
           · exact S35.out.pick [4] (by decide)
           clear hK K
           try simp only [sx]
           refine wpAnyH_done (by kernel_rfl) ?_ _
           go_wp2_with fail
           go_meet
           exact ⟨nib,gi,nie,ge,rfl,rfl,S35.out.pick [3,2,0,1,4] (by decide)⟩
         · skip
           go_simp
           obtain ⟨nie,hnie⟩ : ∃ n,n = w31.heap.size := ⟨_,rfl⟩
           obtain ⟨w36,hw36⟩ : ∃ v,v = w31.alloc (.cells #[.slice none 0 0] 133) := ⟨_,rfl⟩
           rw [← hw36,← hnie]
           have S36 := qkA S31.out hw36 hnie
           skip
           clear hw36 hnie
           refine hK.out _ _ ?_ (fun hHeld => ?_)
           · exact S36.out.pick [3] (by decide)
           clear hK K
           try simp only [sx]
           refine rdH 5 rfl fun K hK => ?_
           go_simp
           refine (flags_c ⟨al,(N : Int),mr,ed⟩ ⟨A1,c1,A2,c2,A3,c3⟩ AT cT tg w36 HTG.out (Int.natCast_nonneg _) hn (HT.out.below IntE.stays S36.out.below) (by omega)).mono ?_
           rintro e w37 ⟨ge,rfl,T⟩
           have S37 := qkN S36.out T.out
           clear T
           refine hK.out _ _ ?_ (fun hHeld => ?_)
           · exact S37.out.pick [4] (by decide)
           clear hK K
           try simp only [sx]
           refine rdH 8 rfl fun K hK => ?_
           have sc0 := qkC S37.out 3 rfl 0 rfl
           have sf0 := BlkAt.free (S37.out.get 3 rfl) 0
           try dsimp only [Au.val] at *
           go_simp
           obtain ⟨w38,hw38⟩ : ∃ v,v = (w37.setCell ⟨nib,0,none⟩ (.slice (some ⟨gi,0,none⟩) N N)) := ⟨_,rfl⟩
           rw [← hw38]
           have S38 : Hid (Sep w.heap.size w [eBlk ge 4 (mkB N fun s => decide ((s : Int) ∈ tg)),eBlk nie 133 [.slice none 0 0],eBlk gi 4 (mkB N fun s => decide ((s : Int) ∈ wi)),eBlk nib 133 [.slice (some ⟨gi,0,none⟩) N N],eBlk w.heap.size 34 [.slice A1 al.length c1,.int .i64 (N : Int),.slice A2 mr.length c2,.slice A3 ed.length c3]] w38) := by rw [hw38]; exact (S37.out.set 3 rfl 0 (.slice (some ⟨gi,0,none⟩) N N))
           clear hw38 sc0 sf0
           refine hK.out _ _ ?_ (fun hHeld => ?_)
           · exact S38.out.pick [4] (by decide)
           clear hK K
           try simp only [sx]
           refine rdH 9 rfl fun K hK => ?_
           have sc0 := qkC S38.out 1 rfl 0 rfl
           have sf0 := BlkAt.free (S38.out.get 1 rfl) 0
           try dsimp only [Au.val] at *
           go_simp
           obtain ⟨w39,hw39⟩ : ∃ v,v = (w38.setCell ⟨nie,0,none⟩ (.slice (some ⟨ge,0,none⟩) N N)) := ⟨_,rfl⟩
           rw [← hw39]
           have S39 : Hid (Sep w.heap.size w [eBlk ge 4 (mkB N fun s => decide ((s : Int) ∈ tg)),eBlk nie 133 [.slice (some ⟨ge,0,none⟩) N N],eBlk gi 4 (mkB N fun s => decide ((s : Int) ∈ wi)),eBlk nib 133 [.slice (some ⟨gi,0,none⟩) N N],eBlk w.heap.size 34 [.slice A1 al.length c1,.int .i64 (N : Int),.slice A2 mr.length c2,.slice A3 ed.length c3]] w39) := by rw [hw39]; exact (S38.out.set 1 rfl 0 (.slice (some ⟨ge,0,none⟩) N N))
           clear hw39 sc0 sf0
           refine hK.out _ _ ?_ (fun hHeld => ?_)
           · exact S39.out.pick [4] (by decide)
           clear hK K
           try simp only [sx]
           refine wpAnyH_done (by kernel_rfl) ?_ _
           go_wp2_with fail
           go_meet
           exact ⟨nib,gi,nie,ge,rfl,rfl,S39.out.pick [3,2,1,0,4] (by decide)⟩
       · skip
         go_simp
         obtain ⟨nie,hnie⟩ : ∃ n,n = w30.heap.size := ⟨_,rfl⟩
         obtain ⟨w40,hw40⟩ : ∃ v,v = w30.alloc (.cells #[.slice none 0 0] 133) := ⟨_,rfl⟩
         rw [← hw40,← hnie]
         have S40 := qkA S30.out hw40 hnie
         skip
         clear hw40 hnie
         refine hK.out _ _ ?_ (fun hHeld => ?_)
         · exact S40.out.pick [2] (by decide)
         clear hK K
         try simp only [sx]
         refine rdH 2 rfl fun K hK => ?_
         go_simp
         refine (flags_c ⟨al,(N : Int),mr,ed⟩ ⟨A1,c1,A2,c2,A3,c3⟩ AI cI wi w40 HWI.out (Int.natCast_nonneg _) hn (HI.out.below IntE.stays S40.out.below) (by omega)).mono ?_
         rintro e w41 ⟨gi,rfl,T⟩
         have S41 := qkN S40.out T.out
         clear T
         refine hK.out _ _ ?_ (fun hHeld => ?_)
         · exact S41.out.pick [3] (by decide)
         clear hK K
         try simp only [sx]
         refine rdH 5 rfl fun K hK => ?_
         go_simp
         refine (flags_c ⟨al,(N : Int),mr,ed⟩ ⟨A1,c1,A2,c2,A3,c3⟩ AT cT tg w41 HTG.out (Int.natCast_nonneg _) hn (HT.out.below IntE.stays S41.out.below) (by omega)).mono ?_
         rintro e w42 ⟨ge,rfl,T⟩
         have S42 := qkN S41.out T.out
         clear T
         refine hK.out _ _ ?_ (fun hHeld => ?_)
         · exact S42.out.pick [4] (by decide)
         clear hK K
         try simp only [sx]
         refine rdH 8 rfl fun K hK => ?_
         have sc0 := qkC S42.out 3 rfl 0 rfl
         have sf0 := BlkAt.free (S42.out.get 3 rfl) 0
         try dsimp only [Au.val] at *
         go_simp
         obtain ⟨w43,hw43⟩ : ∃ v,v = (w42.setCell ⟨nib,0,none⟩ (.slice (some ⟨gi,0,none⟩) N N)) := ⟨_,rfl⟩
         rw [← hw43]
         have S43 : Hid (Sep w.heap.size w [eBlk ge 4 (mkB N fun s => decide ((s : Int) ∈ tg)),eBlk gi 4 (mkB N fun s => decide ((s : Int) ∈ wi)),eBlk nie 133 [.slice none 0 0],eBlk nib 133 [.slice (some ⟨gi,0,none⟩) N N],eBlk w.heap.size 34 [.slice A1 al.length c1,.int .i64 (N : Int),.slice A2 mr.length c2,.slice A3 ed.length c3]] w43) := by rw [hw43]; exact (S42.out.set 3 rfl 0 (.slice (some ⟨gi,0,none⟩) N N))
         clear hw43 sc0 sf0
         refine hK.out _ _ ?_ (fun hHeld => ?_)
         · exact S43.out.pick [4] (by decide)
         clear hK K
         try simp only [sx]
         refine rdH 9 rfl fun K hK => ?_
         have sc0 := qkC S43.out 2 rfl 0 rfl
         have sf0 := BlkAt.free (S43.out.get 2 rfl) 0
         try dsimp only [Au.val] at *
         go_simp
         obtain ⟨w44,hw44⟩ : ∃ v,v = (w43.setCell ⟨nie,0,none⟩ (.slice (some ⟨ge,0,none⟩) N N)) := ⟨_,rfl⟩
         rw [← hw44]
         have S44 : Hid (Sep w.heap.size w [eBlk ge 4 (mkB N fun s => decide ((s : Int) ∈ tg)),eBlk gi 4 (mkB N fun s => decide ((s : Int) ∈ wi)),eBlk nie 133 [.slice (some ⟨ge,0,none⟩) N N],eBlk nib 133 [.slice (some ⟨gi,0,none⟩) N N],eBlk w.heap.size 34 [.slice A1 al.length c1,.int .i64 (N : Int),.slice A2 mr.length c2,.slice A3 ed.length c3]] w44) := by rw [hw44]; exact (S43.out.set 2 rfl 0 (.slice (some ⟨ge,0,none⟩) N N))
         clear hw44 sc0 sf0
         refine hK.out _ _ ?_ (fun hHeld => ?_)
         · exact S44.out.pick [4] (by decide)
         clear hK K
         try simp only [sx]
         refine wpAnyH_done (by kernel_rfl) ?_ _
         go_wp2_with fail
         go_meet
         exact ⟨nib,gi,nie,ge,rfl,rfl,S44.out.pick [3,1,2,0,4] (by decide)⟩
     · skip
       go_simp
       obtain ⟨nie,hnie⟩ : ∃ n,n = w1.heap.size := ⟨_,rfl⟩
       obtain ⟨w45,hw45⟩ : ∃ v,v = w1.alloc (.cells #[.slice none 0 0] 133) := ⟨_,rfl⟩
       rw [← hw45,← hnie]
       have S45 := qkA S1.out hw45 hnie
       skip
       clear hw45 hnie
       refine hK.out _ _ ?_ (fun hHeld => ?_)
       · exact S45.out.pick [1] (by decide)
       clear hK K
       try simp only [sx]
       refine wpAnyH_ready (rs := [2,6]) (by kernel_rfl) (by simp) ?_
       refine AllReadyH.cons rfl (fun K hK => ?_) (AllReadyH.cons rfl (fun K hK => ?_) AllReadyH.nil)
       · skip
         go_simp
         refine (flags_c ⟨al,(N : Int),mr,ed⟩ ⟨A1,c1,A2,c2,A3,c3⟩ AI cI wi w45 HWI.out (Int.natCast_nonneg _) hn (HI.out.below IntE.stays S45.out.below) (by omega)).mono ?_
         rintro e w46 ⟨gi,rfl,T⟩
         have S46 := qkN S45.out T.out
         clear T
         refine hK.out _ _ ?_ (fun hHeld => ?_)
         · exact S46.out.pick [2] (by decide)
         clear hK K
         try simp only [sx]
         refine wpAnyH_ready (rs := [5,6]) (by kernel_rfl) (by simp) ?_
         refine AllReadyH.cons rfl (fun K hK => ?_) (AllReadyH.cons rfl (fun K hK => ?_) AllReadyH.nil)
         · skip
           go_simp
           refine (flags_c ⟨al,(N : Int),mr,ed⟩ ⟨A1,c1,A2,c2,A3,c3⟩ AT cT tg w46 HTG.out (Int.natCast_nonneg _) hn (HT.out.below IntE.stays S46.out.below) (by omega)).mono ?_
           rintro e w47 ⟨ge,rfl,T⟩
           have S47 := qkN S46.out T.out
           clear T
           refine hK.out _ _ ?_ (fun hHeld => ?_)
           · exact S47.out.pick [3] (by decide)
           clear hK K
           try simp only [sx]
           refine rdH 6 rfl fun K hK => ?_
           go_simp
           obtain ⟨nib,hnib⟩ : ∃ n,n = w47.heap.size := ⟨_,rfl⟩
           obtain ⟨w48,hw48⟩ : ∃ v,v = w47.alloc (.cells #[.slice none 0 0] 133) := ⟨_,rfl⟩
           rw [← hw48,← hnib]
           have S48 := qkA S47.out hw48 hnib
           skip
           clear hw48 hnib
           refine hK.out _ _ ?_ (fun hHeld => ?_)
           · exact S48.out.pick [4] (by decide)
           clear hK K
           try simp only [sx]
           refine rdH 8 rfl fun K hK => ?_
           have sc0 := qkC S48.out 0 rfl 0 rfl
           have sf0 := BlkAt.free (S48.out.get 0 rfl) 0
           try dsimp only [Au.val] at *
           go_simp
           obtain ⟨w49,hw49⟩ : ∃ v,v = (w48.setCell ⟨nib,0,none⟩ (.slice (some ⟨gi,0,none⟩) N N)) := ⟨_,rfl⟩
           rw [← hw49]
           have S49 : Hid (Sep w.heap.size w [eBlk nib 133 [.slice (some ⟨gi,0,none⟩) N N],eBlk ge 4 (mkB N fun s => decide ((s : Int) ∈ tg)),eBlk gi 4 (mkB N fun s => decide ((s : Int) ∈ wi)),eBlk nie 133 [.slice none 0 0],eBlk w.heap.size 34 [.slice A1 al.length c1,.int .i64 (N : Int),.slice A2 mr.length c2,.slice A3 ed.length c3]] w49) := by rw [hw49]; exact (S48.out.set 0 rfl 0 (.slice (some ⟨gi,0,none⟩) N N))
           clear hw49 sc0 sf0
           refine hK.out _ _ ?_ (fun hHeld => ?_)
           · exact S49.out.pick [4] (by decide)
           clear hK K
           try simp only [sx]
           refine rdH 9 rfl fun K hK => ?_
           have sc0 := qkC S49.out 3 rfl 0 rfl
           have sf0 := BlkAt.free (S49.out.get 3 rfl) 0
           try dsimp only [Au.val] at *
           go_simp
           obtain ⟨w50,hw50⟩ : ∃ v,v = (w49.setCell ⟨nie,0,none⟩ (.slice (some ⟨ge,0,none⟩) N N)) := ⟨_,rfl⟩
           rw [← hw50]
           have S50 : Hid (Sep w.heap.size w [eBlk nib 133 [.slice (some ⟨gi,0,none⟩) N N],eBlk ge 4 (mkB N fun s => decide ((s : Int) ∈ tg)),eBlk gi 4 (mkB N fun s => decide ((s : Int) ∈ wi)),eBlk nie 133 [.slice (some ⟨ge,0,none⟩) N N],eBlk w.heap.size 34 [.slice A1 al.length c1,.int .i64 (N : Int),.slice A2 mr.length c2,.slice A3 ed.length c3]] w50) := by rw [hw50]; exact (S49.out.set 3 rfl 0 (.slice (some ⟨ge,0,none⟩) N N))
           clear hw50 sc0 sf0
           refine hK.out _ _ ?_ (fun hHeld => ?_)
           · exact S50.out.pick [4] (by decide)
           clear hK K
           try simp only [sx]
           refine wpAnyH_done (by kernel_rfl) ?_ _
           go_wp2_with fail
           go_meet
           exact ⟨nib,gi,nie,ge,rfl,rfl,S50.out.pick [0,2,3,1,4] (by decide)⟩
         · skip
           go_simp
           obtain ⟨nib,hnib⟩ : ∃ n,n = w46.heap.size := ⟨_,rfl⟩
           obtain ⟨w51,hw51⟩ : ∃ v,v = w46.alloc (.cells #[.slice none 0 0] 133) := ⟨_,rfl⟩
           rw [← hw51,← hnib]
           have S51 := qkA S46.out hw51 hnib
           skip
           clear hw51 hnib
           refine hK.out _ _ ?_ (fun hHeld => ?_)
           · exact S51.out.pick [3] (by decide)
           clear hK K
           try simp only [sx]
           refine rdH 5 rfl fun K hK => ?_
           go_simp
           refine (flags_c ⟨al,(N : Int),mr,ed⟩ ⟨A1,c1,A2,c2,A3,c3⟩ AT cT tg w51 HTG.out (Int.natCast_nonneg _) hn (HT.out.below IntE.stays S51.out.below) (by omega)).mono ?_
           rintro e w52 ⟨ge,rfl,T⟩
           have S52 := qkN S51.out T.out
           clear T
           refine hK.out _ _ ?_ (fun hHeld => ?_)
           · exact S52.out.pick [4] (by decide)
           clear hK K
           try simp only [sx]
           refine rdH 8 rfl fun K hK => ?_
           have sc0 := qkC S52.out 1 rfl 0 rfl
           have sf0 := BlkAt.free (S52.out.get 1 rfl) 0
           try dsimp only [Au.val] at *
           go_simp
           obtain ⟨w53,hw53⟩ : ∃ v,v = (w52.setCell ⟨nib,0,none⟩ (.slice (some ⟨gi,0,none⟩) N N)) := ⟨_,rfl⟩
           rw [← hw53]
           have S53 : Hid (Sep w.heap.size w [eBlk ge 4 (mkB N fun s => decide ((s : Int) ∈ tg)),eBlk nib 133 [.slice (some ⟨gi,0,none⟩) N N],eBlk gi 4 (mkB N fun s => decide ((s : Int) ∈ wi)),eBlk nie 133 [.slice none 0 0],eBlk w.heap.size 34 [.slice A1 al.length c1,.int .i64 (N : Int),.slice A2 mr.length c2,.slice A3 ed.length c3]] w53) := by rw [hw53]; exact (S52.out.set 1 rfl 0 (.slice (some ⟨gi,0,none⟩) N N))
           clear hw53 sc0 sf0
           refine hK.out _ _ ?_ (fun hHeld => ?_)
           · exact S53.out.pick [4] (by decide)
           clear hK K
           try simp only [sx]
           refine rdH 9 rfl fun K hK => ?_
           have sc0 := qkC S53.out 3 rfl 0 rfl
           have sf0 := BlkAt.free (S53.out.get 3 rfl) 0
           try dsimp only [Au.val] at *
           go_simp
           obtain ⟨w54,hw54⟩ : ∃ v,v = (w53.setCell ⟨nie,0,none⟩ (.slice (some ⟨ge,0,none⟩) N N)) := ⟨_,rfl⟩
           rw [← hw54]
           have S54 : Hid (Sep w.heap.size w [eBlk ge 4 (mkB N fun s => decide ((s : Int) ∈ tg)),eBlk nib 133 [.slice (some ⟨gi,0,none⟩) N N],eBlk gi 4 (mkB N fun s => decide ((s : Int) ∈ wi)),eBlk nie 133 [.slice (some ⟨ge,0,none⟩) N N],eBlk w.heap.size 34 [.slice A1 al.length c1,.int .i64 (N : Int),.slice A2 mr.length c2,.slice A3 ed.length c3]] w54) := by rw [hw54]; exact (S53.out.set 3 rfl 0 (.slice (some ⟨ge,0,none⟩) N N))
           clear hw54 sc0 sf0
           refine hK.out _ _ ?_ (fun hHeld => ?_)
           · exact S54.out.pick [4] (by decide)
           clear hK K
           try simp only [sx]
           refine wpAnyH_done (by kernel_rfl) ?_ _
           go_wp2_with fail
           go_meet
           exact ⟨nib,gi,nie,ge,rfl,rfl,S54.out.pick [1,2,3,0,4] (by decide)⟩
       · skip
         go_simp
         obtain ⟨nib,hnib⟩ : ∃ n,n = w45.heap.size := ⟨_,rfl⟩
         obtain ⟨w55,hw55⟩ : ∃ v,v = w45.alloc (.cells #[.slice none 0 0] 133) := ⟨_,rfl⟩
         rw [← hw55,← hnib]
         have S55 := qkA S45.out hw55 hnib
         skip
         clear hw55 hnib
         refine hK.out _ _ ?_ (fun hHeld => ?_)
         · exact S55.out.pick [2] (by decide)
         clear hK K
         try simp only [sx]
         refine rdH 2 rfl fun K hK => ?_
         go_simp
         refine (flags_c ⟨al,(N : Int),mr,ed⟩ ⟨A1,c1,A2,c2,A3,c3⟩ AI cI wi w55 HWI.out (Int.natCast_nonneg _) hn (HI.out.below IntE.stays S55.out.below) (by omega)).mono ?_
         rintro e w56 ⟨gi,rfl,T⟩
         have S56 := qkN S55.out T.out
         clear T
         refine hK.out _ _ ?_ (fun hHeld => ?_)
         · exact S56.out.pick [3] (by decide)
         clear hK K
         try simp only [sx]
         refine rdH 5 rfl fun K hK => ?_
         go_simp
         refine (flags_c ⟨al,(N : Int),mr,ed⟩ ⟨A1,c1,A2,c2,A3,c3⟩ AT cT tg w56 HTG.out (Int.natCast_nonneg _) hn (HT.out.below IntE.stays S56.out.below) (by omega)).mono ?_
         rintro e w57 ⟨ge,rfl,T⟩
         have S57 := qkN S56.out T.out
         clear T
         refine hK.out _ _ ?_ (fun hHeld => ?_)
         · exact S57.out.pick [4] (by decide)
         clear hK K
         try simp only [sx]
         refine rdH 8 rfl fun K hK => ?_
         have sc0 := qkC S57.out 2 rfl 0 rfl
         have sf0 := BlkAt.free (S57.out.get 2 rfl) 0
         try dsimp only [Au.val] at *
         go_simp
         obtain ⟨w58,hw58⟩ : ∃ v,v = (w57.setCell ⟨nib,0,none⟩ (.slice (some ⟨gi,0,none⟩) N N)) := ⟨_,rfl⟩
         rw [← hw58]
         have S58 : Hid (Sep w.heap.size w [eBlk ge 4 (mkB N fun s => decide ((s : Int) ∈ tg)),eBlk gi 4 (mkB N fun s => decide ((s : Int) ∈ wi)),eBlk nib 133 [.slice (some ⟨gi,0,none⟩) N N],eBlk nie 133 [.slice none 0 0],eBlk w.heap.size 34 [.slice A1 al.length c1,.int .i64 (N : Int),.slice A2 mr.length c2,.slice A3 ed.length c3]] w58) := by rw [hw58]; exact (S57.out.set 2 rfl 0 (.slice (some ⟨gi,0,none⟩) N N))
         clear hw58 sc0 sf0
         refine hK.out _ _ ?_ (fun hHeld => ?_)
         · exact S58.out.pick [4] (by decide)
         clear hK K
         try simp only [sx]
         refine rdH 9 rfl fun K hK => ?_
         have sc0 := qkC S58.out 3 rfl 0 rfl
         have sf0 := BlkAt.free (S58.out.get 3 rfl) 0
         try dsimp only [Au.val] at *
         go_simp
         obtain ⟨w59,hw59⟩ : ∃ v,v = (w58.setCell ⟨nie,0,none⟩ (.slice (some ⟨ge,0,none⟩) N N)) := ⟨_,rfl⟩
         rw [← hw59]
         have S59 : Hid (Sep w.heap.size w [eBlk ge 4 (mkB N fun s => decide ((s : Int) ∈ tg)),eBlk gi 4 (mkB N fun s => decide ((s : Int) ∈ wi)),eBlk nib 133 [.slice (some ⟨gi,0,none⟩) N N],eBlk nie 133 [.slice (some ⟨ge,0,none⟩) N N],eBlk w.heap.size 34 [.slice A1 al.length c1,.int .i64 (N : Int),.slice A2 mr.length c2,.slice A3 ed.length c3]] w59) := by rw [hw59]; exact (S58.out.set 3 rfl 0 (.slice (some ⟨ge,0,none⟩) N N))
         clear hw59 sc0 sf0
         refine hK.out _ _ ?_ (fun hHeld => ?_)
         · exact S59.out.pick [4] (by decide)
         clear hK K
         try simp only [sx]
         refine wpAnyH_done (by kernel_rfl) ?_ _
         go_wp2_with fail
         go_meet
         exact ⟨nib,gi,nie,ge,rfl,rfl,S59.out.pick [2,1,3,0,4] (by decide)⟩

    case rest =>
     obtain ⟨nib,gi,nie,ge,rfl,rfl,S5⟩ := hcut
     clear S4
     have x0 := BlkAt.cell (S5.out.get 0 rfl) 0
     have y0 := (BlkAt.cell (S5.out.get 1 rfl) s0).trans (mkB_get hsN)
     simp only [List.getElem?_cons_zero] at x0
     obtain ⟨d,hd⟩ : ∃ d : Bool,d = decide ((s0 : Int) ∈ wi) := ⟨_,rfl⟩
     rw [← hd] at y0
     have HD := Lib.hid hd
     clear hd
     cases d
     · have hno : ¬ (s0 : Int) ∈ wi := of_decide_eq_false HD.out.symm
       have HNO := Lib.hid hno
       clear hno
       go_wp2_with fail
       refine bodyPost_ret (v := .tuple #[.slice none 0 0,.bool false,.int .i64 0]) (by simp [results,Tryz.results84,go_sem]) rfl ?_
       exact ⟨none,0,[],false,rfl,SlAt.nil,S5.out.below,fun h => absurd h HNO.out,fun _ => ⟨rfl,rfl⟩⟩
     · have hye : (s0 : Int) ∈ wi := of_decide_eq_true HD.out.symm
       have HYE := Lib.hid hye
       clear hye
       have a0 := BlkAt.cell (S5.out.get 4 rfl) 0; have a1 := BlkAt.cell (S5.out.get 4 rfl) 1; have a2 := BlkAt.cell (S5.out.get 4 rfl) 2; have a3 := BlkAt.cell (S5.out.get 4 rfl) 3; simp only [List.getElem?_cons_succ,List.getElem?_cons_zero] at a0 a1 a2 a3
       go_wp2_with fail
       refine (newGraph_c ⟨al,(N : Int),mr,ed⟩ ⟨A1,c1,A2,c2,A3,c3⟩ wc HR.out (HA.out.below S5.out.below)).mono ?_
       rintro e w6 ⟨g0,rfl,T⟩
       have S6 : Hid (Sep w.heap.size w [eBlk nib 133 [.slice (some ⟨gi,0,none⟩) N N],eBlk gi 4 (mkB N fun s => decide ((s : Int) ∈ wi)),eBlk nie 133 [.slice (some ⟨ge,0,none⟩) N N],eBlk ge 4 (mkB N fun s => decide ((s : Int) ∈ tg)),eBlk w.heap.size 34 [.slice A1 al.length c1,.int .i64 (N : Int),.slice A2 mr.length c2,.slice A3 ed.length c3]] w6) := S5.out.next T.out.below
       have PC := Lib.hid (path_c ⟨al,(N : Int),mr,ed⟩ ⟨A1,c1,A2,c2,A3,c3⟩ g0 s0 106 107 #[.pointer (some ⟨nie,0,none⟩)] #[.pointer (some ⟨nib,0,none⟩)] (fun args w => by rfl) (fun args w => by rfl) (fun s => decide (s ∈ tg)) (fun x => decide (x.dst ∈ wi)) wc w6
        HR.out (HA.out.ed.below EdE.stays S5.out.below) HCP.out.c3 (by simp only; omega) T.out
        (fun V s hb hs => path1_c s N nie ge tg V (by simp only at hs; omega) ((S6.out.get 2 rfl).below hb (S6.out.get 2 rfl).lt) ((S6.out.get 3 rfl).below hb (S6.out.get 3 rfl).lt))
        (fun V x hb hx => path2_c x N nib gi wi V (edge_next HR.out hx).2.2.2.1 (edge_next HR.out hx).2.2.2.2 ((S6.out.get 0 rfl).below hb (S6.out.get 0 rfl).lt) ((S6.out.get 1 rfl).below hb (S6.out.get 1 rfl).lt)))
       clear T a0 a1 a2 a3 x0 y0
       go_wp2_with fail
       refine PC.out.mono ?_
       rintro e w7 ⟨A,c,l,f,rfl,hl,hb,hd,_⟩
       have HL := Lib.hid hl.out
       have HDD := Lib.hid hd.out
       have S7 := Lib.hid (S6.out.next hb)
       clear hl hb hd PC
       go_wp2_with fail
       refine bodyPost_ret (v := .tuple #[.slice A l.length c,.bool f,.int .i64 0]) (by simp [results,Tryz.results84,go_sem]) rfl ?_
       exact ⟨A,c,l,f,rfl,HL.out,S7.out.below,fun _ => HDD.out,fun h => absurd HYE.out h⟩
def GivesDs (a : Au) (tg : List Int) (w : World) (e : Ending) (w' : World) : Prop := ∃ g d,e = .returned (.tuple #[.slice (some ⟨g,0,none⟩) a.n.toNat a.n.toNat,.int .i64 0]) ∧ Hid (Sep w.heap.size w [eBlk g 3 (mkI a.n.toNat d)] w') ∧ Hid (DistOk a a.n.toNat tg d)
set_option maxHeartbeats 2000000 in
theorem distances_c (a : Au) (p : AuP) (AT : Option Addr) (cT : Nat) (tg : List Int) (w : World) (hr : a.Right) (hA : Au.At w a p) (hT : IntsAt w AT tg) (ht : setOk tg a.n tg.length) :
 Calls Tryz.prog 83 #[a.val p,.slice AT tg.length cT] w (GivesDs a tg w) := by
 have n0 := hr.n0
 have hn := hr.n1
 have HR := Lib.hid hr
 have HA := Lib.hid hA
 have HT := Lib.hid hT
 have ST := Lib.hid ht
 have HTG : Hid (∀ x,x ∈ tg → 0 ≤ x ∧ x < a.n) := ht.rg
 have lt4 : tg.length ≤ 4096 := by
  have := rises_len (n := 4096) (l := tg) ht.incr (fun x hx => by have := ht.rg x hx; omega)
  exact this
 obtain ⟨al,n,mr,ed⟩ := a
 obtain ⟨A1,c1,A2,c2,A3,c3⟩ := p
 obtain ⟨N,rfl⟩ := Int.eq_ofNat_of_zero_le n0
 dsimp only [Au.val] at HTG hn ST ⊢
 clear hr hA hT ht n0
 go_enter Tryz.func83,Tryz.ntmps83
 go_wp2_with fail
 refine calls_world (fun W => Sep w.heap.size w [eBlk w.heap.size 34 [.slice A1 al.length c1,.int .i64 (N : Int),.slice A2 mr.length c2,.slice A3 ed.length c3]] W) ?_ fun W S => ?_
 · exact (Sep.here w).alloc' _ [_,_,_,_] rfl rfl
 refine (CheckX_c ⟨al,(N : Int),mr,ed⟩ ⟨A1,c1,A2,c2,A3,c3⟩ W (HA.out.below S.below)).mono ?_
 rintro e w1 ⟨r,rfl,hr,hb⟩
 obtain rfl : r = 0 := hr.zero.2 HR.out
 have S0 : Hid (Sep w.heap.size w [eBlk w.heap.size 34 [.slice A1 al.length c1,.int .i64 (N : Int),.slice A2 mr.length c2,.slice A3 ed.length c3]] w1) := S.next hb
 clear S hb hr
 have a0 := BlkAt.cell (S0.out.get 0 rfl) 0; have a1 := BlkAt.cell (S0.out.get 0 rfl) 1; have a2 := BlkAt.cell (S0.out.get 0 rfl) 2; have a3 := BlkAt.cell (S0.out.get 0 rfl) 3; simp only [List.getElem?_cons_succ,List.getElem?_cons_zero] at a0 a1 a2 a3
 go_wp2_with fail
 refine (checkStates_c ⟨al,(N : Int),mr,ed⟩ ⟨A1,c1,A2,c2,A3,c3⟩ AT cT tg w1 (HT.out.below IntE.stays S0.out.below) (by simp only [maxLen]; omega)).mono ?_
 intro e w2 hs
 rcases hs.two with ⟨r,rfl,_,_,HN,_⟩ | ⟨rfl,_,hb⟩
 · exact absurd ST.out HN.out
 have S2 := Lib.hid (S0.out.next hb)
 clear hs hb S0 a0 a1 a2 a3
 have a0 := BlkAt.cell (S2.out.get 0 rfl) 0; have a1 := BlkAt.cell (S2.out.get 0 rfl) 1; have a2 := BlkAt.cell (S2.out.get 0 rfl) 2; have a3 := BlkAt.cell (S2.out.get 0 rfl) 3; simp only [List.getElem?_cons_succ,List.getElem?_cons_zero] at a0 a1 a2 a3
 go_wp2_with fail
 refine (newGraph_c ⟨al,(N : Int),mr,ed⟩ ⟨A1,c1,A2,c2,A3,c3⟩ w2 HR.out (HA.out.below S2.out.below)).mono ?_
 rintro e w3 ⟨g0,rfl,T⟩
 have S3 : Hid (Sep w.heap.size w [eBlk w.heap.size 34 [.slice A1 al.length c1,.int .i64 (N : Int),.slice A2 mr.length c2,.slice A3 ed.length c3]] w3) := S2.out.next T.out.below
 have BC := Lib.hid (backwardD_c ⟨al,(N : Int),mr,ed⟩ ⟨A1,c1,A2,c2,A3,c3⟩ g0 AT cT tg w3 HR.out (HA.out.below S3.out.below) (HT.out.below IntE.stays S3.out.below) ST.out.nodup HTG.out)
 clear T a0 a1 a2 a3 S2
 go_wp2_with fail
 refine BC.out.mono ?_
 rintro e w4 ⟨g,d,rfl,T,HD⟩
 have S4 := Lib.hid (S3.out.news T.out)
 clear T BC
 go_wp2_with fail
 refine bodyPost_ret (v := .tuple #[.slice (some ⟨g,0,none⟩) N N,.int .i64 0]) (by simp [results,Tryz.results83,go_sem]) rfl ?_
 exact ⟨g,d,rfl,S4.out.first,HD.out⟩
end Go.Proofs.YtimdepdbcdbikaaGreat
