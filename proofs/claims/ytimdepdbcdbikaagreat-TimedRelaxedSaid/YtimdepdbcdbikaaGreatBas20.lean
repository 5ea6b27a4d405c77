/-
  reach.Cycle: the first reachable state with a cycle of some events.
  timed.Loop, timed.Kinds.
  Plain: few clocks; the example of the chapter.
  Plain: the example of the chapter without a lower bound has a cycle.
  overseerlaw44.known, Known.
  Plain: the described timed models.
  An automaton in a box; a described automaton's argument.
  overseerlaw44.Make.
  overseerlaw44.sameState.
  overseerlaw44.initial.
  overseerlaw44.urgent.
  overseerlaw44.step.
  overseerlaw44.events.
  timed.begin.
-/
import Derived.Test.YtimdepdbcdbikaaGreatBas19
import Derived.Test.YtimdepdbcdbikaaGreatBas10
import Derived.Test.YtimdepdbcdbikaaGreatBas18
import Derived.BigQuiet
import Derived.Deep.MidRow
import Derived.Test.YtimdepdbcdbikaaGreatBas11
import Derived.Test.YtimdepdbcdbikaaGreatBas13
import Derived.Test.YtimdepdbcdbikaaGreatBas14
import Derived.Test.YtimdepdbcdbikaaGreatBas15
set_option linter.unusedSimpArgs false
set_option linter.unusedVariables false
namespace Go.Proofs.YtimdepdbcdbikaaGreat
open Go.RowKit
set_option maxRecDepth 100000
set_option maxHeartbeats 1000000 in
theorem cyc1_c (x : Ed) (g : Nat) (ev : List Int) (w : World) (h0 : 0 ≤ x.ev) (h1 : x.ev < 32) (hg : BlkAt w g 142 (mkB 32 fun t => decide ((t : Int) ∈ ev))) :
 Calls Tryz.prog 75 #[.agg x.cells.toArray,.pointer (some ⟨g,0,none⟩)] w (Ret (.bool (decide (x.ev ∈ ev))) w) := by
 obtain ⟨xs,xe,xd⟩ := x
 dsimp only [Ed.cells] at *
 obtain ⟨s,rfl⟩ := Int.eq_ofNat_of_zero_le h0
 have hs : s < 32 := by omega
 obtain ⟨W1,hW1⟩ : ∃ W,W = w.alloc (.cells #[.int .i64 xs,.int .i64 (s : Int),.int .i64 xd] 76) := ⟨_,rfl⟩
 have B1 : Below w.heap.size w W1 := by rw [hW1]; exact Below.new w _
 have p2 : W1.cell? ⟨w.heap.size,1,none⟩ = some (.int .i64 (s : Int)) := by rw [hW1]; exact new_cell w _ [_,_,_] _ 1 rfl
 have y0 : W1.cell? ⟨g,s,none⟩ = some (.bool (decide ((s : Int) ∈ ev))) := old_cell B1 ((hg.cell s).trans (mkB_get hs)) hg.lt
 obtain ⟨d,hd⟩ : ∃ d : Bool,d = decide ((s : Int) ∈ ev) := ⟨_,rfl⟩
 rw [← hd] at y0 ⊢
 have BH := Lib.hid B1
 clear hg hd B1
 go_enter Tryz.func75,Tryz.ntmps75
 go_upto_region 1 with fail
 rw [← hW1]
 clear hW1
 go_wp2_with fail
 go_ret
 exact ⟨rfl,BH.out⟩
set_option maxHeartbeats 1000000 in
theorem cyc2_c (t s b : Nat) (w : World) (hb : BlkAt w b 3 [.int .i64 (s : Int)]) :
 Calls Tryz.prog 79 #[.int .i64 (t : Int),.pointer (some ⟨b,0,none⟩)] w (Ret (.bool (decide ((t : Int) = (s : Int)))) w) := by
 have x0 := hb.cell 0
 simp only [List.getElem?_cons_zero] at x0
 clear hb
 go_enter Tryz.func79,Tryz.ntmps79
 go_wp2_with fail
 go_ret
 exact ⟨by simp only [beq_dec]; rfl,Below.refl _ _⟩
theorem cycV_some {a : Au} {pm : Ed → Bool} {s : Nat} (h : cycAt a pm a.n.toNat = some s) : cycV a pm = ((pthF a (fun _ => true) 0 s).2,(rdF a pm s (outOf a.ed s)).2,true) := by unfold cycV; rw [h]
theorem cycV_none {a : Au} {pm : Ed → Bool} (h : cycAt a pm a.n.toNat = none) : cycV a pm = ([],[],false) := by unfold cycV; rw [h]
def GivesCyc (a : Au) (pm : Ed → Bool) (w : World) (e : Ending) (w' : World) : Prop := ∃ (A : Option Addr) (c : Nat) (A' : Option Addr) (c' : Nat) (p q : List Int) (f : Bool),e = .returned (.tuple #[.slice A p.length c,.slice A' q.length c',.bool f,.int .i64 0]) ∧ Hid (IntsAt w' A p) ∧ Hid (IntsAt w' A' q) ∧ Below w.heap.size w w' ∧ (p,q,f) = cycV a pm ∧ p.length ≤ 4096 ∧ q.length ≤ 4097
set_option maxHeartbeats 4000000 in
theorem cycle_c (a : Au) (p : AuP) (AV : Option Addr) (cV : Nat) (ev : List Int) (w : World) (hr : a.Right) (hpos : 0 < a.n) (hA : Au.At w a p) (hc : Caps a p) (hV : IntsAt w AV ev) (h2 : setOk ev 32 ev.length) :
 Calls Tryz.prog 49 #[a.val p,.slice AV ev.length cV] w (GivesCyc a (fun x => decide (x.ev ∈ ev)) w) := by
 have HR := Lib.hid hr
 have HA := Lib.hid hA
 have HCP := Lib.hid hc
 have HV := Lib.hid hV
 have SV := Lib.hid h2
 have n0 := hr.n0
 have hn := hr.n1
 have HEV : Hid (∀ x,x ∈ a.ed → 0 ≤ x.ev ∧ x.ev < 32) := fun x hx => by
  obtain ⟨i,hi,rfl⟩ := List.mem_iff_getElem.1 hx
  exact hr.evr (hr.edge (List.getElem?_eq_getElem hi)).2.2.2.2
 have HVR : Hid (∀ x,x ∈ ev → 0 ≤ x ∧ x < 32) := h2.rg
 have l2 : ev.length ≤ 4096 := by
  have := rises_len (n := 4096) (l := ev) h2.incr (fun x hx => by have := h2.rg x hx; omega)
  exact this
 obtain ⟨al,n,mr,ed⟩ := a
 obtain ⟨A1,c1,A2,c2,A3,c3⟩ := p
 obtain ⟨N,rfl⟩ := Int.eq_ofNat_of_zero_le n0
 dsimp only [Au.val] at hn HEV hpos ⊢
 clear hr hA hc hV h2 n0
 go_enter Tryz.func49,Tryz.ntmps49
 go_wp2_with fail
 refine calls_world (fun W => Sep w.heap.size w [eBlk w.heap.size 34 [.slice A1 al.length c1,.int .i64 (N : Int),.slice A2 mr.length c2,.slice A3 ed.length c3]] W) ?_ fun W S => ?_
 · exact (Sep.here w).alloc' _ [_,_,_,_] rfl rfl
 refine (CheckX_c ⟨al,(N : Int),mr,ed⟩ ⟨A1,c1,A2,c2,A3,c3⟩ W (HA.out.below S.below)).mono ?_
 rintro e w1 ⟨r,rfl,hr,hb⟩
 obtain rfl : r = 0 := hr.zero.2 HR.out
 have S0 : Hid (Sep w.heap.size w [eBlk w.heap.size 34 [.slice A1 al.length c1,.int .i64 (N : Int),.slice A2 mr.length c2,.slice A3 ed.length c3]] w1) := S.next hb
 clear S hb hr
 have CS := Lib.hid (checkSetR_c AV cV ev 32 w1 (HV.out.below IntE.stays S0.out.below) (by simp only [maxLen]; omega))
 go_wp2_with fail
 refine CS.out.mono ?_
 intro e w3 hs
 rcases hs.two with ⟨r,rfl,_,_,HN,_⟩ | ⟨rfl,_,hb⟩
 · exact absurd SV.out HN.out
 subst hb
 clear hs CS
 have a0 := BlkAt.cell (S0.out.get 0 rfl) 0; have a1 := BlkAt.cell (S0.out.get 0 rfl) 1; have a2 := BlkAt.cell (S0.out.get 0 rfl) 2; have a3 := BlkAt.cell (S0.out.get 0 rfl) 3; simp only [List.getElem?_cons_succ,List.getElem?_cons_zero] at a0 a1 a2 a3
 go_wp2_with fail
 refine (newGraph_c ⟨al,(N : Int),mr,ed⟩ ⟨A1,c1,A2,c2,A3,c3⟩ _ HR.out (HA.out.below S0.out.below)).mono ?_
 rintro e w2 ⟨g0,rfl,T⟩
 dsimp only [grCells]
 rw [Int.toNat_natCast] at T ⊢
 have S2 := qkN S0.out T.out
 clear T a0 a1 a2 a3 S0
 obtain ⟨tb,htb⟩ : ∃ g,g = w2.heap.size := ⟨_,rfl⟩
 go_upto_region 8 with fail
 rw [← htb]
 refine wp_world (fun W => Sep w.heap.size w [eBlk tb 140 [.slice A1 al.length c1,.int .i64 (N : Int),.slice A2 mr.length c2,.slice A3 ed.length c3,.slice (some ⟨g0,0,none⟩) (N + 1) (N + 1)],eBlk g0 3 (mkI (N + 1) fun j => (fstV ed j : Int)),eBlk w.heap.size 34 [.slice A1 al.length c1,.int .i64 (N : Int),.slice A2 mr.length c2,.slice A3 ed.length c3]] W) (S2.out.alloc' 140 [.slice A1 al.length c1,.int .i64 (N : Int),.slice A2 mr.length c2,.slice A3 ed.length c3,.slice (some ⟨g0,0,none⟩) (N + 1) (N + 1)] rfl htb) fun W3 S' => ?_
 have S3 := Lib.hid S'
 clear S' S2 htb
 obtain ⟨gb,hgb⟩ : ∃ g,g = W3.heap.size := ⟨_,rfl⟩
 go_upto_region 9 with fail
 rw [← hgb]
 refine wp_world (fun W => Sep w.heap.size w [eBlk gb 142 (mkB 32 fun t => decide ((t : Int) ∈ ev.take 0)),eBlk tb 140 [.slice A1 al.length c1,.int .i64 (N : Int),.slice A2 mr.length c2,.slice A3 ed.length c3,.slice (some ⟨g0,0,none⟩) (N + 1) (N + 1)],eBlk g0 3 (mkI (N + 1) fun j => (fstV ed j : Int)),eBlk w.heap.size 34 [.slice A1 al.length c1,.int .i64 (N : Int),.slice A2 mr.length c2,.slice A3 ed.length c3]] W) (S3.out.alloc' 142 _ (by rfl) hgb) fun W4 S' => ?_
 have S4 := Lib.hid S'
 clear S' S3 hgb
 go_wp2_with fail
 go_loopw [31] (fun v wr => ∃ k : Nat,v = .int .i64 (k : Int) ∧ k ≤ ev.length ∧ Hid (Sep w.heap.size w [eBlk gb 142 (mkB 32 fun t => decide ((t : Int) ∈ ev.take k)),eBlk tb 140 [.slice A1 al.length c1,.int .i64 (N : Int),.slice A2 mr.length c2,.slice A3 ed.length c3,.slice (some ⟨g0,0,none⟩) (N + 1) (N + 1)],eBlk g0 3 (mkI (N + 1) fun j => (fstV ed j : Int)),eBlk w.heap.size 34 [.slice A1 al.length c1,.int .i64 (N : Int),.slice A2 mr.length c2,.slice A3 ed.length c3]] wr)) (fun v _ => ev.length - (intOf v).toNat)
 case atStart => exact ⟨0,rfl,by omega,S4.out⟩
 case round =>
  clear S4
  obtain ⟨k,rfl,hk,S⟩ := hrel
  by_cases hlt : k < ev.length
  · obtain ⟨gv,ov,x,hAv,hgv,hx,v0⟩ := IntsAt.at (HV.out.below IntE.stays S.out.below) hlt
    subst hAv
    have hxr := HVR.out x (List.mem_of_getElem? hx)
    obtain ⟨d,rfl⟩ := Int.eq_ofNat_of_zero_le hxr.1
    have hd32 : d < 32 := by omega
    have gc := (BlkAt.cell (S.out.get 0 rfl) d).trans (mkB_get hd32)
    have gf := BlkAt.free (S.out.get 0 rfl) d
    have S5 : Hid (Sep w.heap.size w [eBlk gb 142 (mkB 32 fun t => decide ((t : Int) ∈ ev.take (k + 1))),eBlk tb 140 [.slice A1 al.length c1,.int .i64 (N : Int),.slice A2 mr.length c2,.slice A3 ed.length c3,.slice (some ⟨g0,0,none⟩) (N + 1) (N + 1)],eBlk g0 3 (mkI (N + 1) fun j => (fstV ed j : Int)),eBlk w.heap.size 34 [.slice A1 al.length c1,.int .i64 (N : Int),.slice A2 mr.length c2,.slice A3 ed.length c3]] (wr.setCell ⟨gb,d,none⟩ (.bool true))) := by
     have h := S.out.set 0 rfl d (.bool true)
     have e : (mkB 32 fun t => decide (t = d) || decide ((t : Int) ∈ ev.take k)) = mkB 32 fun t => decide ((t : Int) ∈ ev.take (k + 1)) := mkB_congr fun t _ => by
      rw [List.take_add_one,hx,Option.toList_some]
      have : ((t : Int) = (d : Int)) ↔ t = d := by omega
      by_cases h1 : t = d <;> by_cases h2 : (t : Int) ∈ ev.take k <;> simp [h1,h2,this]
     rw [mkB_set,e] at h
     exact h
    have HX := Lib.hid hx
    have hwr : IntKind.i64.wrap ((k : Int) + 1) = (k : Int) + 1 := IntWalk.i64_in _ (by omega)
    clear hx S hxr
    go_wp2_with fail
    go_roundw
    case rel => exact ⟨k + 1,by go_num,by omega,S5.out⟩
    case measure => simp [intOf]; omega
  · obtain rfl : k = ev.length := by omega
    have S5 : Hid (Sep w.heap.size w [eBlk gb 142 (mkB 32 fun t => decide ((t : Int) ∈ ev)),eBlk tb 140 [.slice A1 al.length c1,.int .i64 (N : Int),.slice A2 mr.length c2,.slice A3 ed.length c3,.slice (some ⟨g0,0,none⟩) (N + 1) (N + 1)],eBlk g0 3 (mkI (N + 1) fun j => (fstV ed j : Int)),eBlk w.heap.size 34 [.slice A1 al.length c1,.int .i64 (N : Int),.slice A2 mr.length c2,.slice A3 ed.length c3]] wr) := by have h := S.out; rw [List.take_length] at h; exact h
    clear S
    have a0 := BlkAt.cell (S5.out.get 1 rfl) 0; have a1 := BlkAt.cell (S5.out.get 1 rfl) 1; have a2 := BlkAt.cell (S5.out.get 1 rfl) 2; have a3 := BlkAt.cell (S5.out.get 1 rfl) 3; have a4 := BlkAt.cell (S5.out.get 1 rfl) 4; simp only [List.getElem?_cons_succ,List.getElem?_cons_zero] at a0 a1 a2 a3 a4
    have RC := reachable_c ⟨al,(N : Int),mr,ed⟩ ⟨A1,c1,A2,c2,A3,c3⟩ g0 w wr HR.out hpos HA.out.ed HCP.out.c3 (S5.out.pick [2] (by decide))
    dsimp only [grCells] at RC
    rw [Int.toNat_natCast] at RC
    have RC2 := Lib.hid RC
    clear RC
    go_wp2_with fail
    refine RC2.out.mono ?_
    rintro e w6 ⟨gs,see,rfl,T,HS⟩
    dsimp only
    rw [Int.toNat_natCast] at T ⊢
    have S6 := Lib.hid (S5.out.news T.out)
    have HSE : Hid (∀ t,see t = rch ⟨al,(N : Int),mr,ed⟩ t) := fun t => by
     have h1 := HS.out t
     have h2 := rch_iff (a := ⟨al,(N : Int),mr,ed⟩) (s := t)
     cases e1 : see t <;> cases e2 : rch ⟨al,(N : Int),mr,ed⟩ t
     · rfl
     · rw [e1] at h1; exact absurd (h1.2 (h2.1 e2)) (by simp)
     · rw [e2] at h2; exact absurd (h2.2 (h1.1 e1)) (by simp)
     · rfl
    clear T S5 RC2 a0 a1 a2 a3 a4 HS
    go_wp2_with fail
    go_loopw [5,6,42] (fun v5 v6 v wr => ∃ k : Nat,v = .int .i64 (k : Int) ∧ k ≤ N ∧ Hid (cycAt ⟨al,(N : Int),mr,ed⟩ (fun x => decide (x.ev ∈ ev)) k = none) ∧ Hid (Sep w.heap.size w [eBlk gs 4 (mkB N fun t => see (t : Int)),eBlk gb 142 (mkB 32 fun t => decide ((t : Int) ∈ ev)),eBlk tb 140 [.slice A1 al.length c1,.int .i64 (N : Int),.slice A2 mr.length c2,.slice A3 ed.length c3,.slice (some ⟨g0,0,none⟩) (N + 1) (N + 1)],eBlk g0 3 (mkI (N + 1) fun j => (fstV ed j : Int)),eBlk w.heap.size 34 [.slice A1 al.length c1,.int .i64 (N : Int),.slice A2 mr.length c2,.slice A3 ed.length c3]] wr)) (fun _ _ v _ => N - (intOf v).toNat)
    case atStart => exact ⟨0,rfl,by omega,rfl,S6.out⟩
    case round =>
     clear S6
     obtain ⟨k,rfl,hk,CN,S⟩ := hrel
     by_cases hlt : k < N
     · have gc := (BlkAt.cell (S.out.get 0 rfl) k).trans (mkB_get hlt)
       have hwr : IntKind.i64.wrap ((k : Int) + 1) = (k : Int) + 1 := IntWalk.i64_in _ (by omega)
       obtain ⟨q,hq⟩ : ∃ q,q = see (k : Int) := ⟨_,rfl⟩
       rw [← hq] at gc
       have HQ := Lib.hid hq
       clear hq
       obtain ⟨sb,hsb⟩ : ∃ g,g = wr.heap.size := ⟨_,rfl⟩
       go_upto_region 18 with fail
       rw [← hsb]
       refine wp_world (fun W => Sep w.heap.size w [eBlk sb 3 [.int .i64 (k : Int)],eBlk gs 4 (mkB N fun t => see (t : Int)),eBlk gb 142 (mkB 32 fun t => decide ((t : Int) ∈ ev)),eBlk tb 140 [.slice A1 al.length c1,.int .i64 (N : Int),.slice A2 mr.length c2,.slice A3 ed.length c3,.slice (some ⟨g0,0,none⟩) (N + 1) (N + 1)],eBlk g0 3 (mkI (N + 1) fun j => (fstV ed j : Int)),eBlk w.heap.size 34 [.slice A1 al.length c1,.int .i64 (N : Int),.slice A2 mr.length c2,.slice A3 ed.length c3]] W) (S.out.alloc' 3 [.int .i64 (k : Int)] rfl hsb) fun W3 S' => ?_
       have S3 := Lib.hid S'
       clear S' S hsb gc
       cases q
       case false =>
        have CN2 : Hid (cycAt ⟨al,(N : Int),mr,ed⟩ (fun x => decide (x.ev ∈ ev)) (k + 1) = none) := cycAt_skip CN.out (fun h => by have := HSE.out (k : Int); rw [← HQ.out,h.1] at this; cases this)
        go_wp2_with fail
        go_roundw
        case rel => exact ⟨k + 1,by go_num,by omega,CN2.out,S3.out.drop1⟩
        case measure => simp [intOf]; omega
       case true =>
        have a0 := BlkAt.cell (S3.out.get 3 rfl) 0; have a1 := BlkAt.cell (S3.out.get 3 rfl) 1; have a2 := BlkAt.cell (S3.out.get 3 rfl) 2; have a3 := BlkAt.cell (S3.out.get 3 rfl) 3; have a4 := BlkAt.cell (S3.out.get 3 rfl) 4; simp only [List.getElem?_cons_succ,List.getElem?_cons_zero] at a0 a1 a2 a3 a4
        have sc := BlkAt.cell (S3.out.get 0 rfl) 0
        simp only [List.getElem?_cons_zero] at sc
        have RD := round_c ⟨al,(N : Int),mr,ed⟩ ⟨A1,c1,A2,c2,A3,c3⟩ g0 k 75 #[.pointer (some ⟨gb,0,none⟩)] (fun args w => by rfl) (fun x => decide (x.ev ∈ ev)) w W3 HR.out HA.out.ed HCP.out.c3 (by simp only; omega) (S3.out.pick [4] (by decide))
         (fun V x hb hx => cyc1_c x gb ev V (HEV.out x hx).1 (HEV.out x hx).2 ((S3.out.get 2 rfl).below hb (S3.out.get 2 rfl).lt))
        dsimp only [grCells] at RD
        rw [Int.toNat_natCast] at RD
        have RD2 := Lib.hid RD
        clear RD
        go_wp2_with fail
        refine RD2.out.mono ?_
        rintro e w7 ⟨A7,c7,l7,f7,rfl,hl7,hb,hr7,hlen⟩
        have HL7 := Lib.hid hl7.out
        have HR7 := Lib.hid hr7.out
        have S7 := Lib.hid (S3.out.next hb)
        clear hb hl7 hr7 RD2 S3 a0 a1 a2 a3 a4 sc
        cases f7
        case false =>
         have CN2 : Hid (cycAt ⟨al,(N : Int),mr,ed⟩ (fun x => decide (x.ev ∈ ev)) (k + 1) = none) := cycAt_skip CN.out (fun h => by have := HR7.out; dsimp only at this; rw [← this] at h; exact absurd h.2 (by simp))
         go_wp2_with fail
         go_roundw
         case rel => exact ⟨k + 1,by go_num,by omega,CN2.out,S7.out.drop1⟩
         case measure => simp [intOf]; omega
        case true =>
         have CY : Hid (cycAt ⟨al,(N : Int),mr,ed⟩ (fun x => decide (x.ev ∈ ev)) N = some k) := cycAt_hit CN.out ⟨by rw [← HSE.out,← HQ.out],by have := HR7.out; dsimp only at this; rw [← this]⟩ hlt
         have a0 := BlkAt.cell (S7.out.get 3 rfl) 0; have a1 := BlkAt.cell (S7.out.get 3 rfl) 1; have a2 := BlkAt.cell (S7.out.get 3 rfl) 2; have a3 := BlkAt.cell (S7.out.get 3 rfl) 3; have a4 := BlkAt.cell (S7.out.get 3 rfl) 4; simp only [List.getElem?_cons_succ,List.getElem?_cons_zero] at a0 a1 a2 a3 a4
         have sc := BlkAt.cell (S7.out.get 0 rfl) 0
         simp only [List.getElem?_cons_zero] at sc
         have PC := path_c ⟨al,(N : Int),mr,ed⟩ ⟨A1,c1,A2,c2,A3,c3⟩ g0 0 79 80 #[.pointer (some ⟨sb,0,none⟩)] #[] (fun args w => by rfl) (fun args w => by rfl) (fun v => decide (v = (k : Int))) (fun _ => true) w w7 HR.out HA.out.ed HCP.out.c3 (by simp only; omega) (S7.out.pick [4] (by decide))
          (fun V t hb _ => cyc2_c t k sb V ((S7.out.get 0 rfl).below hb (S7.out.get 0 rfl).lt)) (fun V x _ _ => anyEdge_c x V)
         dsimp only [grCells] at PC
         rw [Int.toNat_natCast] at PC
         have PC2 := Lib.hid PC
         clear PC
         go_wp2_with fail
         refine PC2.out.mono ?_
         rintro e w8 ⟨A8,c8,l8,f8,rfl,hl8,hb,hd8,hlen8⟩
         have HPF : Hid (pthF ⟨al,(N : Int),mr,ed⟩ (fun _ => true) 0 (k : Int) = (f8,l8)) := pthF_of hd8.out
         have HL8 := Lib.hid hl8.out
         have HL7' : Hid (IntsAt w8 A7 l7) := HL7.out.below IntE.stays hb
         have S8 := Lib.hid (S7.out.next hb)
         clear hb hl8 hd8 PC2 S7 a0 a1 a2 a3 a4 sc
         go_wp2_with fail
         refine bodyPost_ret (v := .tuple #[.slice A8 l8.length c8,.slice A7 l7.length c7,.bool true,.int .i64 0]) (by simp [results,Tryz.results49,go_sem]) rfl ?_
         exact ⟨A8,c8,A7,c7,l8,l7,true,rfl,HL8.out,HL7'.out,S8.out.below,by rw [cycV_some CY.out,HPF.out]; have := HR7.out; dsimp only at this ⊢; rw [← this],hlen8,hlen⟩
     · obtain rfl : k = N := by omega
       go_wp2_with fail
       refine bodyPost_ret (v := .tuple #[.slice none 0 0,.slice none 0 0,.bool false,.int .i64 0]) (by simp [results,Tryz.results49,go_sem]) rfl ?_
       exact ⟨none,0,none,0,[],[],false,rfl,SlAt.nil,SlAt.nil,S.out.below,by rw [cycV_none CN.out],by simp,by simp⟩
section

theorem Ufd.pos {m : Md} {fs : List Ck} {ed : List Ed} (h : Ufd m fs ed) : 0 < fs.length := by
 cases fs with
 | nil => exact absurd (congrArg Prod.fst h.eq) (by simp [bldB])
 | cons x l => simp
def GivesLp (m : Md) (w : World) (e : Ending) (w' : World) : Prop := ∃ (fs : List Ck) (ed : List Ed) (A : Option Addr) (c : Nat) (A' : Option Addr) (c' : Nat) (p q : List Int) (f : Bool),e = .returned (.tuple #[.slice A p.length c,.slice A' q.length c',.bool f,.int .i64 0]) ∧ Hid (IntsAt w' A p) ∧ Hid (IntsAt w' A' q) ∧ Below w.heap.size w w' ∧ Hid ((p,q,f) = cycV (tAu m fs ed) (fun x => decide (x.ev ∈ m.a.al))) ∧ Hid (Ufd m fs ed) ∧ Hid (fs.length ≤ 4000) ∧ p.length ≤ 4096 ∧ q.length ≤ 4097
set_option maxHeartbeats 4000000 in
theorem loop_c (m : Md) (P : MdP) (w : World) (hm : m.Ok) (hA : Md.At w m P) (hn : 0 < m.a.n) (hf : Few m) (hc : m.a.al.length ≤ P.p.c1) :
 Calls Tryz.prog 24 #[.agg (m.cells P).toArray] w (GivesLp m w) := by
 have HM := Lib.hid hm
 have HA := Lib.hid hA
 have HF := Lib.hid hf
 have HC := Lib.hid hc
 have HNP := Lib.hid hn
 clear hm hA hf hc hn
 go_enter Tryz.func24,Tryz.ntmps24
 obtain ⟨mb,hmb⟩ : ∃ g,g = w.heap.size := ⟨_,rfl⟩
 go_upto_region 1 with fail
 rw [← hmb]
 refine wp_world (fun W => Sep w.heap.size w [eBlk mb 37 [.slice P.p.A1 m.a.al.length P.p.c1,.int .i64 m.a.n,.slice P.p.A2 m.a.mr.length P.p.c2,.slice P.p.A3 m.a.ed.length P.p.c3,.slice P.B m.ac.length P.d,.int .i64 m.tk]] W) ((Sep.here w).alloc' _ [_,_,_,_,_,_] rfl hmb) fun W S => ?_
 have S0 := Lib.hid S
 clear S hmb
 have b0 := BlkAt.cell (S0.out.get 0 rfl) 0; have b1 := BlkAt.cell (S0.out.get 0 rfl) 1; have b2 := BlkAt.cell (S0.out.get 0 rfl) 2; have b3 := BlkAt.cell (S0.out.get 0 rfl) 3; have b4 := BlkAt.cell (S0.out.get 0 rfl) 4; have b5 := BlkAt.cell (S0.out.get 0 rfl) 5; simp only [List.getElem?_cons_succ,List.getElem?_cons_zero] at b0 b1 b2 b3 b4 b5
 have TC := Lib.hid (timed_c m P W HM.out (HA.out.below S0.out.below) HNP.out HF.out HC.out)
 dsimp only [Md.cells] at TC
 go_wp2_with fail
 refine TC.out.mono ?_
 rintro e w2 ⟨fs,ed,p,AS,cS,l,rfl,TT,HLC,HU,HL⟩
 have S2 := qkN S0.out TT.out
 clear TC TT S0 b0 b1 b2 b3 b4 b5
 dsimp only [Au.val]
 obtain ⟨ab,hab⟩ : ∃ g,g = w2.heap.size := ⟨_,rfl⟩
 go_upto_region 2 with fail
 rw [← hab]
 refine wp_world (fun W => Hid (Sep w.heap.size w [eBlk ab 34 [.slice p.A1 (tAu m fs ed).al.length p.c1,.int .i64 (tAu m fs ed).n,.slice p.A2 (tAu m fs ed).mr.length p.c2,.slice p.A3 (tAu m fs ed).ed.length p.c3],eInts (tAu m fs ed).al (.slice p.A1 (tAu m fs ed).al.length p.c1),eInts (tAu m fs ed).mr (.slice p.A2 (tAu m fs ed).mr.length p.c2),eEds (tAu m fs ed).ed (.slice p.A3 (tAu m fs ed).ed.length p.c3),eBlk mb 37 [.slice P.p.A1 m.a.al.length P.p.c1,.int .i64 m.a.n,.slice P.p.A2 m.a.mr.length P.p.c2,.slice P.p.A3 m.a.ed.length P.p.c3,.slice P.B m.ac.length P.d,.int .i64 m.tk]] W)) (((Hid.out S2).alloc' 34 [.slice p.A1 (tAu m fs ed).al.length p.c1,.int .i64 (tAu m fs ed).n,.slice p.A2 (tAu m fs ed).mr.length p.c2,.slice p.A3 (tAu m fs ed).ed.length p.c3] rfl hab).pick [0,1,2,3,6] (by decide)) fun W3 S' => ?_
 have S3 := Lib.hid S'.out
 clear S' S2 hab
 have HR : Hid (tAu m fs ed).Right := HU.out.right HM.out (by have := HL.out; omega)
 have HAT : Hid (Au.At W3 (tAu m fs ed) p) := by
  have h := HR.out
  refine ⟨S3.out.ints 1 rfl,S3.out.ints 2 rfl,S3.out.eds 3 rfl,?_,?_,?_⟩
  · have := rises_len (n := 4096) (l := (tAu m fs ed).al) h.al.incr (fun x hx => by have := h.al.rgU hx; omega); omega
  · have := rises_len (n := 4096) (l := (tAu m fs ed).mr) h.mr.incr (fun x hx => by have := h.mr.rgU hx; have := h.n1; omega); omega
  · have := ed_len h; omega
 have HCA : Hid (Caps (tAu m fs ed) p) := ⟨Own.cap (S3.out.get 1 rfl),Own.cap (S3.out.get 2 rfl),Own.cap (S3.out.get 3 rfl)⟩
 have CY := Lib.hid (cycle_c (tAu m fs ed) p P.p.A1 P.p.c1 m.a.al W3 HR.out (by have := HU.out.pos; show (0 : Int) < (fs.length : Int); omega) HAT.out HCA.out (HA.out.a.al.below IntE.stays S3.out.below) HM.out.a.al)
 dsimp only [Au.val] at CY
 have a0 := BlkAt.cell (S3.out.get 0 rfl) 0; have a1 := BlkAt.cell (S3.out.get 0 rfl) 1; have a2 := BlkAt.cell (S3.out.get 0 rfl) 2; have a3 := BlkAt.cell (S3.out.get 0 rfl) 3; simp only [List.getElem?_cons_succ,List.getElem?_cons_zero] at a0 a1 a2 a3
 have m0 := BlkAt.cell (S3.out.get 4 rfl) 0
 simp only [List.getElem?_cons_zero] at m0
 go_wp2_with fail
 refine CY.out.mono ?_
 rintro e w4 ⟨A,c,A',c',x,y,f,rfl,h1,h2,hb,h3,h4,h5⟩
 have H1 := Lib.hid h1.out
 have H2 := Lib.hid h2.out
 have H3 := Lib.hid h3
 have S4 := Lib.hid (S3.out.next hb)
 clear CY h1 h2 h3 hb S3 a0 a1 a2 a3 m0
 go_wp2_with fail
 refine bodyPost_ret (v := .tuple #[.slice A x.length c,.slice A' y.length c',.bool f,.int .i64 0]) (by simp [results,Tryz.results24,go_sem]) rfl ?_
 exact ⟨fs,ed,A,c,A',c',x,y,f,rfl,H1.out,H2.out,S4.out.below,H3.out,HU.out,HL.out,h4,h5⟩
def prosV (m : Md) (k : Nat) : List Int := ((m.ac.take k).filter fun x => decide (0 ≤ x.up)).map Ac.ev
def remV (m : Md) (k : Nat) : List Int := ((m.ac.take k).filter fun x => decide (x.up < 0)).map Ac.ev
section
variable {m : Md} {k : Nat} {x : Ac}
end
def GivesKd (m : Md) (w : World) (e : Ending) (w' : World) : Prop := ∃ (A : Option Addr) (c : Nat) (A' : Option Addr) (c' : Nat),e = .returned (.tuple #[.slice A (prosV m m.ac.length).length c,.slice A' (remV m m.ac.length).length c',.int .i64 0]) ∧ Hid (IntsAt w' A (prosV m m.ac.length)) ∧ Hid (IntsAt w' A' (remV m m.ac.length)) ∧ Below w.heap.size w w'
end
def rkT : List Int → List Int → Nat
 | d :: ds,t :: ts => t.toNat + (d.toNat + 1) * rkT ds ts
 | _,_ => 0
def cntD : List Int → Nat
 | [] => 1
 | d :: ds => (d.toNat + 1) * cntD ds
theorem rkT_lt : ∀ (ds ts : List Int),ts.length = ds.length → (∀ i : Nat,i < ds.length → ts.getD i 0 ≤ ds.getD i 0) → rkT ds ts < cntD ds
 | [],[],_,_ => by simp [rkT,cntD]
 | d :: ds,t :: ts,h,hb => by
   have h0 := hb 0 (by simp)
   simp only [List.getD_cons_zero] at h0
   have ih := rkT_lt ds ts (by simpa using h) (fun i hi => by have := hb (i + 1) (by simpa using hi); simpa using this)
   simp only [rkT,cntD]
   have h1 : t.toNat ≤ d.toNat := by omega
   calc t.toNat + (d.toNat + 1) * rkT ds ts < (d.toNat + 1) + (d.toNat + 1) * rkT ds ts := by omega
    _ = (d.toNat + 1) * (rkT ds ts + 1) := by rw [Nat.mul_add]; omega
    _ ≤ (d.toNat + 1) * cntD ds := Nat.mul_le_mul_left _ ih
theorem rkT_inj : ∀ (ds ts us : List Int),ts.length = ds.length → us.length = ds.length → (∀ i : Nat,i < ds.length → 0 ≤ ts.getD i 0 ∧ ts.getD i 0 ≤ ds.getD i 0) → (∀ i : Nat,i < ds.length → 0 ≤ us.getD i 0 ∧ us.getD i 0 ≤ ds.getD i 0) → rkT ds ts = rkT ds us → ts = us
 | [],[],[],_,_,_,_,_ => rfl
 | d :: ds,t :: ts,u :: us,h1,h2,hb,hc,he => by
   have b0 := hb 0 (by simp)
   have c0 := hc 0 (by simp)
   simp only [List.getD_cons_zero] at b0 c0
   simp only [rkT] at he
   have m1 := congrArg (· % (d.toNat + 1)) he
   simp only [Nat.add_mul_mod_self_left] at m1
   rw [Nat.mod_eq_of_lt (by omega),Nat.mod_eq_of_lt (by omega)] at m1
   have e0 : t = u := by omega
   subst e0
   have e1 : (d.toNat + 1) * rkT ds ts = (d.toNat + 1) * rkT ds us := by omega
   have e2 := Nat.eq_of_mul_eq_mul_left (by omega) e1
   have := rkT_inj ds ts us (by simpa using h1) (by simpa using h2) (fun i hi => by have := hb (i + 1) (by simpa using hi); simpa using this) (fun i hi => by have := hc (i + 1) (by simpa using hi); simpa using this) e2
   rw [this]
theorem few_of {m : Md} (hn : 0 ≤ m.a.n) (hb : m.a.n.toNat * cntD m.dfs ≤ 4000) : Few m := by
 intro fs hd hi
 have hlen : m.dfs.length = m.ac.length := by simp [Md.dfs]
 have hD : ∀ c,m.Is c → c.2.length = m.dfs.length ∧ (∀ i : Nat,i < m.dfs.length → 0 ≤ c.2.getD i 0 ∧ c.2.getD i 0 ≤ m.dfs.getD i 0) := fun c hc => ⟨by rw [hc.len,hlen],fun i hi => by
  have h1 := hc.t i (by omega)
  have e : m.dfs.getD i 0 = (m.at i).df := by
   have := Md.dfs_at (m := m) (i := i) (by omega) 0
   simpa [tmr] using this
  rw [e]
  exact h1⟩
 have h1 : ((fs.map fun c : Ck => rkT m.dfs c.2 * m.a.n.toNat + c.1.toNat)).Nodup := by
  rw [List.nodup_iff_pairwise_ne,List.pairwise_map]
  refine List.Pairwise.imp_of_mem ?_ (List.nodup_iff_pairwise_ne.1 hd)
  intro c e hc he hne heq
  obtain ⟨a1,a2⟩ := hD c (hi c hc)
  obtain ⟨b1,b2⟩ := hD e (hi e he)
  have cs := (hi c hc).s
  have es := (hi e he).s
  have m1 := congrArg (· % m.a.n.toNat) heq
  simp only [Nat.mul_comm _ m.a.n.toNat,Nat.mul_add_mod] at m1
  rw [Nat.mod_eq_of_lt (by omega),Nat.mod_eq_of_lt (by omega)] at m1
  have e1 : c.1 = e.1 := by omega
  have e2 : rkT m.dfs c.2 * m.a.n.toNat = rkT m.dfs e.2 * m.a.n.toNat := by omega
  have e3 := Nat.eq_of_mul_eq_mul_right (by omega) e2
  exact hne (Prod.ext e1 (rkT_inj _ _ _ a1 b1 a2 b2 e3))
 have h2 : ∀ x,x ∈ (fs.map fun c : Ck => rkT m.dfs c.2 * m.a.n.toNat + c.1.toNat) → x < m.a.n.toNat * cntD m.dfs := by
  intro x hx
  obtain ⟨c,hc,rfl⟩ := List.mem_map.1 hx
  obtain ⟨a1,a2⟩ := hD c (hi c hc)
  have cs := (hi c hc).s
  have h := rkT_lt m.dfs c.2 a1 (fun i hi => (a2 i hi).2)
  calc rkT m.dfs c.2 * m.a.n.toNat + c.1.toNat < rkT m.dfs c.2 * m.a.n.toNat + m.a.n.toNat := by omega
   _ = (rkT m.dfs c.2 + 1) * m.a.n.toNat := by rw [Nat.add_mul]; omega
   _ ≤ cntD m.dfs * m.a.n.toNat := Nat.mul_le_mul_right _ h
   _ = m.a.n.toNat * cntD m.dfs := Nat.mul_comm _ _
 have h3 : ((fs.map fun c : Ck => rkT m.dfs c.2 * m.a.n.toNat + c.1.toNat).map fun k : Nat => (k : Int)).Nodup := by
  rw [List.nodup_iff_pairwise_ne,List.pairwise_map]
  exact (List.nodup_iff_pairwise_ne.1 h1).imp fun {a b} h e => h (by omega)
 have := nodup_len (m.a.n.toNat * cntD m.dfs) _ h3 (fun x hx => by
  obtain ⟨k,hk,rfl⟩ := List.mem_map.1 hx
  have := h2 k hk
  omega)
 simp only [List.length_map] at this
 omega
theorem Ufd.at {m : Md} {fs : List Ck} {ed : List Ed} (h : Ufd m fs ed) {N : Nat} (hN : (bldB m N).1.length = N) (hlt : ∀ k,k < N → (bldB m k).1.length ≠ k) : (fs,ed) = bldB m N := by
 have he := h.eq
 have : fs.length = N := by
  rcases Nat.lt_trichotomy fs.length N with g | g | g
  · have := hlt _ g
    rw [← he] at this
    exact absurd rfl this
  · exact g
  · have := h.rd _ g
    omega
 rw [he,this]
theorem stpP_cases (a : Au) (pm : Ed → Bool) (v e : Int) : stpP a pm v e = -1 ∨ ∃ x,x ∈ a.ed ∧ x.src = v ∧ x.ev = e ∧ pm x = true ∧ stpP a pm v e = x.dst := by
 unfold stpP
 cases h : a.ed.find? fun x => decide (x.src = v) && decide (x.ev = e) with
 | none => left; rfl
 | some x =>
   have h1 := List.mem_of_find?_eq_some h
   have h2 := List.find?_some h
   simp only [Bool.and_eq_true,decide_eq_true_eq] at h2
   by_cases hp : pm x = true
   · right; exact ⟨x,h1,h2.1,h2.2,hp,by simp [hp]⟩
   · left; simp [hp]
theorem stpP_neg {a : Au} (hr : a.Right) (pm : Ed → Bool) : ∀ (u : List Int) (v : Int),v = -1 → u.foldl (stpP a pm) v = -1
 | [],v,h => h
 | e :: u,v,h => by
   rw [List.foldl_cons]
   exact stpP_neg hr pm u _ (stpP_dead hr pm v e h)
theorem stpP_rank {a : Au} (hr : a.Right) {pm : Ed → Bool} {rk : Int → Nat} (h : ∀ x,x ∈ a.ed → pm x = true → rk x.dst < rk x.src) : ∀ (u : List Int) (v : Int),0 ≤ u.foldl (stpP a pm) v → rk (u.foldl (stpP a pm) v) ≤ rk v
 | [],v,_ => Nat.le_refl _
 | e :: u,v,h0 => by
   rw [List.foldl_cons] at h0 ⊢
   rcases stpP_cases a pm v e with g | ⟨x,hx,h1,_,h3,h4⟩
   · have := stpP_neg hr pm u (stpP a pm v e) g
     omega
   · have ih := stpP_rank hr h u _ h0
     have := h x hx h3
     rw [h4] at ih ⊢
     rw [h1] at this
     omega
theorem rdF_none {a : Au} {pm : Ed → Bool} {s : Int} : ∀ (L : List Ed),(∀ x,x ∈ L → pm x = true → (pthF a pm x.dst s).1 = false) → (rdF a pm s L).1 = false := by
 intro L h
 unfold rdF
 have : ∀ (L : List Ed) (r : Bool × List Int),(∀ x,x ∈ L → pm x = true → (pthF a pm x.dst s).1 = false) → r.1 = false → (L.foldl (rdS a pm s) r).1 = false := by
  intro L
  induction L with
  | nil => exact fun r _ h => h
  | cons x L ih =>
    intro r h hr
    rw [List.foldl_cons]
    refine ih _ (fun y hy => h y (List.mem_cons_of_mem _ hy)) ?_
    by_cases hp : pm x = true
    · have e : pthF a pm x.dst s = (false,(pthF a pm x.dst s).2) := Prod.ext (h x List.mem_cons_self hp) rfl
      rw [rdS_no hp e]; exact hr
    · rw [rdS_off (by simpa using hp)]; exact hr
 exact this L _ h rfl
theorem cycV_rank {a : Au} (hr : a.Right) {pm : Ed → Bool} {rk : Int → Nat} (h : ∀ x,x ∈ a.ed → pm x = true → rk x.dst < rk x.src) : cycV a pm = ([],[],false) := by
 refine cycV_none ?_
 have : ∀ N,cycAt a pm N = none := by
  intro N
  induction N with
  | zero => rfl
  | succ N ih =>
    refine cycAt_skip ih fun g => ?_
    have h2 := rdF_none (a := a) (pm := pm) (s := (N : Int)) (outOf a.ed N) (fun x hx hp => by
     obtain ⟨hm,hs⟩ := mem_outOf.1 hx
     refine congrArg Prod.fst (pthF_of (f := false) (l := []) (.inr ⟨rfl,rfl,fun u hu => ?_⟩))
     have h3 := hu.2
     simp only [decide_eq_true_eq] at h3
     have h4 := stpP_rank hr h u x.dst h3.1
     rw [h3.2] at h4
     have := h x hm hp
     rw [hs] at this
     omega)
    rw [h2] at g
    exact absurd g.2 (by simp)
 exact this _
def exT : Au := ⟨[0,1],2,[0],[⟨0,0,1⟩,⟨1,1,0⟩]⟩
theorem exT_right : exT.Right := by
 refine ⟨fun i x hi hx => ?_,by decide,by decide,fun i x hi hx => ?_,fun i hi x hx => ?_⟩
 · match i,hx with
   | 0,hx => simp [exT] at hx; subst hx; exact ⟨Int.le_refl _,by decide,fun y h0 => absurd h0 (by omega)⟩
   | 1,hx => simp [exT] at hx; subst hx; exact ⟨by decide,by decide,fun y _ hy => by simp [exT] at hy; subst hy; decide⟩
   | i + 2,hx => simp [exT] at hx
 · match i,hx with
   | 0,hx => simp [exT] at hx; subst hx; exact ⟨by decide,by decide,fun y h0 => absurd h0 (by omega)⟩
   | i + 1,hx => simp [exT] at hx
 · match i,hx with
   | 0,hx => simp [exT] at hx; subst hx; exact ⟨by decide,by decide,by decide,by decide,by decide,fun y h0 => absurd h0 (by omega)⟩
   | 1,hx => simp [exT] at hx; subst hx; exact ⟨by decide,by decide,by decide,by decide,by decide,fun y _ hy => by simp [exT] at hy; subst hy; decide⟩
   | i + 2,hx => simp [exT] at hx
theorem mEx_ok {l : Int} (hl : l = 0 ∨ l = 2) : (mEx l).Ok := by
 refine ⟨exT_right,by simp [mEx],by simp [mEx],by simp [mEx],fun x hx => ?_⟩
 simp only [mEx,List.mem_cons,List.not_mem_nil,or_false] at hx
 rcases hx with rfl | rfl
 · simp
 · rcases hl with rfl | rfl <;> simp
theorem mEx_few {l : Int} (hl : l = 0 ∨ l = 2) : Few (mEx l) := by
 rcases hl with rfl | rfl
 · exact few_of (by simp [mEx]) (by decide)
 · exact few_of (by simp [mEx]) (by decide)
theorem ex2_ufd {fs : List Ck} {ed : List Ed} (h : Ufd (mEx 2) fs ed) : (fs,ed) = bldB (mEx 2) 5 := h.at (by kernel_rfl) (fun k hk => by
 have : k = 0 ∨ k = 1 ∨ k = 2 ∨ k = 3 ∨ k = 4 := by omega
 rcases this with rfl | rfl | rfl | rfl | rfl <;> exact of_decide_eq_true (by kernel_rfl))
theorem ex2_len : (bldB (mEx 2) 5).1.length = 5 ∧ (bldB (mEx 2) 5).2.length = 7 := ⟨by kernel_rfl,by kernel_rfl⟩
theorem ex2_dur : durV (mEx 2) [0,1] = (2,-1,true) := by kernel_rfl
theorem ex2_loop {fs : List Ck} {ed : List Ed} (h : Ufd (mEx 2) fs ed) (hl : fs.length ≤ 4000) : cycV (tAu (mEx 2) fs ed) (fun x => decide (x.ev ∈ (mEx 2).a.al)) = ([],[],false) := by
 refine cycV_rank (rk := fun v => if v = 3 ∨ v = 4 then 2 else if v = 0 then 1 else 0) (h.right (mEx_ok (.inr rfl)) (by omega)) fun x hx hp => ?_
 have e := ex2_ufd h
 have hx2 : x ∈ (bldB (mEx 2) 5).2 := by rw [← e]; exact hx
 have e2 : (bldB (mEx 2) 5).2 = [⟨0,0,1⟩,⟨0,2,0⟩,⟨1,2,2⟩,⟨2,2,3⟩,⟨3,1,0⟩,⟨3,2,4⟩,⟨4,1,0⟩] := by kernel_rfl
 rw [e2] at hx2
 simp only [List.mem_cons,List.not_mem_nil,or_false] at hx2
 rcases hx2 with rfl | rfl | rfl | rfl | rfl | rfl | rfl <;> first | (exact absurd hp (by decide)) | decide
theorem ex0_ufd {fs : List Ck} {ed : List Ed} (h : Ufd (mEx 0) fs ed) : (fs,ed) = bldB (mEx 0) 5 := h.at (by kernel_rfl) (fun k hk => by
 have : k = 0 ∨ k = 1 ∨ k = 2 ∨ k = 3 ∨ k = 4 := by omega
 rcases this with rfl | rfl | rfl | rfl | rfl <;> exact of_decide_eq_true (by kernel_rfl))
def exE0 : List Ed := [⟨0,0,1⟩,⟨0,2,0⟩,⟨1,1,0⟩,⟨1,2,2⟩,⟨2,1,0⟩,⟨2,2,3⟩,⟨3,1,0⟩,⟨3,2,4⟩,⟨4,1,0⟩]
theorem ex0_ed : (bldB (mEx 0) 5).2 = exE0 := by kernel_rfl
theorem ex0_n : (bldB (mEx 0) 5).1.length = 5 := by kernel_rfl
def pmE (x : Ed) : Bool := decide (x.ev ∈ [(0 : Int),1])
theorem ex0_s1 {a : Au} (h : a.ed = exE0) (e : Int) : stpP a pmE 1 e = if e = 1 then 0 else -1 := by
 unfold stpP
 rw [h]
 unfold exE0
 by_cases h1 : e = 1
 · subst h1; rfl
 · by_cases h2 : e = 2
   · subst h2; rfl
   · have e1 : ¬ (1 : Int) = e := fun g => h1 g.symm
     have e2 : ¬ (2 : Int) = e := fun g => h2 g.symm
     simp [List.find?,h1,e1,e2]
theorem pth_10 {a : Au} (h : a.ed = exE0) : pthF a pmE 1 0 = (true,[1]) := by
 refine pthF_of (.inl ⟨rfl,⟨⟨by decide,?_⟩,fun v hv => ?_⟩⟩)
 · have : [(1 : Int)].foldl (stpP a pmE) 1 = 0 := by
    show stpP a pmE 1 1 = 0
    rw [ex0_s1 h]; rfl
   rw [this]; simp
 · have h3 := hv.2
   simp only [decide_eq_true_eq] at h3
   match v,h3 with
   | [],h3 => exact absurd h3.2 (by simp)
   | [e],h3 =>
     have h4 : stpP a pmE 1 e = 0 := h3.2
     rw [ex0_s1 h] at h4
     by_cases he : e = 1
     · subst he; exact sle.refl _
     · rw [if_neg he] at h4; exact absurd h4 (by decide)
   | e :: f :: u,h3 => exact .inl (.inl (by simp))
theorem pth_00 (a : Au) : pthF a (fun _ => true) 0 0 = (true,[]) := by
 refine pthF_of (.inl ⟨rfl,⟨⟨by simp,?_⟩,fun v hv => ?_⟩⟩)
 · simp
 · cases v with
   | nil => exact sle.refl _
   | cons e u => exact .inl (.inl (by simp))
theorem ex0_loop {fs : List Ck} {ed : List Ed} (h : Ufd (mEx 0) fs ed) : cycV (tAu (mEx 0) fs ed) (fun x => decide (x.ev ∈ (mEx 0).a.al)) = ([],[0,1],true) := by
 have e := ex0_ufd h
 have e1 : ed = exE0 := by rw [← ex0_ed,← e]
 have e2 : fs.length = 5 := by rw [← ex0_n,← e]
 have hed : (tAu (mEx 0) fs ed).ed = exE0 := e1
 have hpm : (fun x : Ed => decide (x.ev ∈ (mEx 0).a.al)) = pmE := rfl
 rw [hpm]
 have hrd : rdF (tAu (mEx 0) fs ed) pmE ((0 : Nat) : Int) (outOf (tAu (mEx 0) fs ed).ed 0) = (true,[0,1]) := by
  have ho : outOf (tAu (mEx 0) fs ed).ed 0 = [⟨0,0,1⟩,⟨0,2,0⟩] := by rw [hed]; kernel_rfl
  rw [ho]
  unfold rdF
  simp only [List.foldl_cons,List.foldl_nil]
  have s1 : rdS (tAu (mEx 0) fs ed) pmE ((0 : Nat) : Int) (false,[]) ⟨0,0,1⟩ = (true,[0,1]) := rdS_take (l := [1]) (by decide) (pth_10 hed) (.inl rfl)
  rw [s1]
  exact rdS_off (by decide)
 have hn : (tAu (mEx 0) fs ed).n.toNat = 5 := by show ((fs.length : Int)).toNat = 5; rw [e2]; rfl
 have hc : cycAt (tAu (mEx 0) fs ed) pmE (tAu (mEx 0) fs ed).n.toNat = some 0 := cycAt_hit (k := 0) rfl ⟨rch_iff.2 (Fwd.base _ (by simp)),by rw [hrd]⟩ (by rw [hn]; omega)
 rw [cycV_some hc,hrd]
 have := pth_00 (tAu (mEx 0) fs ed)
 rw [show ((0 : Nat) : Int) = 0 from rfl,this]
theorem exAt {l : Int} {n : Nat} {w0 w : World} {X1 X2 X3 X4 : Option Addr} (S : Sep n w0 [eInts [0,1] (.slice X1 2 2),eInts [0] (.slice X2 1 1),eEds (mEx l).a.ed (.slice X3 2 2),eOwn Ac.cells 3 44 (mEx l).ac (.slice X4 2 2)] w) : Md.At w (mEx l) ⟨⟨X1,2,X2,1,X3,2⟩,X4,2⟩ :=
 ⟨⟨S.ints 0 rfl,S.ints 1 rfl,S.eds 2 rfl,by simp [mEx],by simp [mEx],by simp [mEx]⟩,Own.reads (enc := Ac.cells) (k := 3) (fun _ => rfl) (S.get 3 rfl)⟩
set_option maxHeartbeats 8000000 in
theorem known44_c (w : World) : Calls Tryz.prog 25 #[] w (Ret (.bool true) w) := by
 go_enter Tryz.func25,Tryz.ntmps25
 go_wp2_with fail
 refine ((example44_c 2 w)).mono ?_
 rintro e w1 ⟨X1,X2,X3,X4,rfl,T⟩
 have TC := Lib.hid (timed_c (mEx 2) ⟨⟨X1,2,X2,1,X3,2⟩,X4,2⟩ w1 (mEx_ok (.inr rfl)) (exAt T.out) (by simp [mEx]) (mEx_few (.inr rfl)) (by simp [mEx]))
 have B1 := Lib.hid T.out.below
 clear T
 go_wp2_with fail
 refine TC.out.mono ?_
 rintro e w2 ⟨fs,ed,p,AS,cS,l,rfl,T,HLC,HU,HL⟩
 have HE := ex2_ufd HU.out
 have n1 : fs.length = 5 := by rw [← ex2_len.1,← HE]
 have n2 : ed.length = 7 := by rw [← ex2_len.2,← HE]
 have n3 : l.length = 5 := by rw [← n1,← HLC.out]; simp
 have B2 := Lib.hid ((Sep.here w).next B1.out |>.next T.out.below)
 have N1 : Hid ((tAu (mEx 2) fs ed).n = 5) := by show ((fs.length : Int)) = 5; rw [n1]; rfl
 have N2 : Hid ((tAu (mEx 2) fs ed).ed.length = 7) := n2
 have N3 := Lib.hid n3
 dsimp only [Au.val]
 clear TC T HE n1 n2 n3 HLC HU HL B1
 rw [N1.out,N2.out,N3.out]
 obtain ⟨ab,hab⟩ : ∃ g,g = w2.heap.size := ⟨_,rfl⟩
 go_upto_region 2 with fail
 rw [← hab]
 refine wp_world (fun W => Hid (Sep w.heap.size w [eBlk ab 34 [.slice p.A1 (tAu (mEx 2) fs ed).al.length p.c1,.int .i64 5,.slice p.A2 (tAu (mEx 2) fs ed).mr.length p.c2,.slice p.A3 7 p.c3]] W)) (B2.out.alloc' 34 [.slice p.A1 (tAu (mEx 2) fs ed).al.length p.c1,.int .i64 5,.slice p.A2 (tAu (mEx 2) fs ed).mr.length p.c2,.slice p.A3 7 p.c3] rfl hab) fun W3 S' => ?_
 have S3 := Lib.hid S'.out
 clear S' B2 hab
 go_wp2_with fail
 refine ((example44_c 2 W3)).mono ?_
 rintro e w4 ⟨X1,X2,X3,X4,rfl,T⟩
 obtain ⟨gw,hgw⟩ : ∃ g,g = w4.heap.size := ⟨_,rfl⟩
 have S4 := Lib.hid (S3.out.next T.out.below)
 have T5 := Lib.hid (T.out.alloc' 3 [.int .i64 0,.int .i64 1] (o := .cells #[.int .i64 0,.int .i64 1] 3) rfl hgw)
 have S5 := Lib.hid (S4.out.next (Below.new w4 (.cells #[.int .i64 0,.int .i64 1] 3)))
 have DC := Lib.hid (duration_c (mEx 2) ⟨⟨X1,2,X2,1,X3,2⟩,X4,2⟩ (some ⟨gw,0,none⟩) 2 [0,1] _ (mEx_ok (.inr rfl)) (exAt (T5.out.drop1)) (by simp [mEx]) (mEx_few (.inr rfl)) (by simp [mEx]) (IntsAt.blk [0,1] (T5.out.get 0 rfl)) (by simp))
 clear T T5 S4 S3
 go_wp2_with (rw [← hgw])
 refine DC.out.mono ?_
 rintro e w6 ⟨x,y,f,r,rfl,hb,hd⟩
 have HD : Hid (x = 2 ∧ y = -1 ∧ f = true ∧ r = 0) := by
  rcases hd.out with ⟨_,h1,h2⟩ | ⟨h1,_⟩
  · rw [ex2_dur] at h2
    simp only [Prod.mk.injEq] at h2
    exact ⟨h2.1,h2.2.1,h2.2.2,h1⟩
  · exact absurd (fun v hv => hv) h1
 obtain ⟨rfl,rfl,rfl,rfl⟩ := HD.out
 have S6 := Lib.hid (S5.out.next hb)
 clear DC hd hb HD S5 hgw
 go_wp2_with fail
 refine ((example44_c 2 w6)).mono ?_
 rintro e w7 ⟨X1,X2,X3,X4,rfl,T⟩
 have S7 := Lib.hid (S6.out.next T.out.below)
 have LC := Lib.hid (loop_c (mEx 2) ⟨⟨X1,2,X2,1,X3,2⟩,X4,2⟩ w7 (mEx_ok (.inr rfl)) (exAt T.out) (by simp [mEx]) (mEx_few (.inr rfl)) (by simp [mEx]))
 clear T S6
 go_wp2_with fail
 refine LC.out.mono ?_
 rintro e w8 ⟨fs2,ed2,A,c,A',c',p2,q2,f2,rfl,_,_,hb,hv,hu,hl,_,_⟩
 have HV := hv.out
 rw [ex2_loop hu.out hl.out] at HV
 simp only [Prod.mk.injEq] at HV
 obtain ⟨rfl,rfl,rfl⟩ := HV
 have S8 := Lib.hid (S7.out.next hb)
 clear LC hb hv hu hl S7
 go_wp2_with fail
 refine ((example44_c 0 w8)).mono ?_
 rintro e w9 ⟨X1,X2,X3,X4,rfl,T⟩
 have S9 := Lib.hid (S8.out.next T.out.below)
 have LC := Lib.hid (loop_c (mEx 0) ⟨⟨X1,2,X2,1,X3,2⟩,X4,2⟩ w9 (mEx_ok (.inl rfl)) (exAt T.out) (by simp [mEx]) (mEx_few (.inl rfl)) (by simp [mEx]))
 clear T S8
 go_wp2_with fail
 refine LC.out.mono ?_
 rintro e w10 ⟨fs3,ed3,B,d,B',d',p3,q3,f3,rfl,_,hq3,hb,hv,hu,hl,_,_⟩
 have HV := hv.out
 rw [ex0_loop hu.out] at HV
 simp only [Prod.mk.injEq] at HV
 obtain ⟨rfl,rfl,rfl⟩ := HV
 have HQ3 := Lib.hid hq3.out
 have S10 := Lib.hid (S9.out.next hb)
 clear LC hb hv hu hl S9 hq3
 have a0 := BlkAt.cell (S10.out.get 0 rfl) 0; have a1 := BlkAt.cell (S10.out.get 0 rfl) 1; have a2 := BlkAt.cell (S10.out.get 0 rfl) 2; have a3 := BlkAt.cell (S10.out.get 0 rfl) 3; simp only [List.getElem?_cons_succ,List.getElem?_cons_zero] at a0 a1 a2 a3
 obtain ⟨gv,hgv⟩ : ∃ g,g = w10.heap.size := ⟨_,rfl⟩
 have T5 := Lib.hid ((Sep.here w10).alloc' 3 [.int .i64 0,.int .i64 1] (o := .cells #[.int .i64 0,.int .i64 1] 3) rfl hgv)
 have S11 := Lib.hid (S10.out.next (Below.new w10 (.cells #[.int .i64 0,.int .i64 1] 3)))
 have SC := Lib.hid (same44_c B' (some ⟨gv,0,none⟩) d' 2 [0,1] [0,1] _ (HQ3.out.below IntE.stays T5.out.below) (IntsAt.blk [0,1] (T5.out.get 0 rfl)) (by simp) (by simp))
 clear T5
 subst hgv
 go_wp2_with fail
 refine SC.out.mono ?_
 intro e w12 hs
 rcases hs.no1 with ⟨rfl,hn,hb⟩ | ⟨rfl,hn,hb⟩
 · exact absurd trivial hn.out
 have S12 := Lib.hid (S11.out.next hb)
 clear hs hn hb SC S11 S10 a0 a1 a2 a3
 go_wp2_with fail
 go_ret
 exact ⟨rfl,S12.out.below⟩
set_option maxHeartbeats 2000000 in
theorem knownT_c (w : World) : Calls Tryz.prog 5 #[] w (Ret (.bool true) w) := by
 go_enter Tryz.func5,Tryz.ntmps5
 go_wp2_with fail
 refine (known44_c w).mono ?_
 rintro e w1 ⟨rfl,hb⟩
 have B1 := Lib.hid hb
 clear hb
 go_wp2_with fail
 refine (knownE4_c w1).mono ?_
 rintro e w2 ⟨rfl,hb⟩
 have B2 := Lib.hid ((Sep.here w).next B1.out |>.next hb).below
 clear hb
 go_wp2_with fail
 go_ret
 exact ⟨rfl,B2.out⟩
structure Sm5 where
 d : Sm4
 b : List Int
def Sm5.cells (x : Sm5) : List Value := x.d.cells ++ x.b.map (.int .u8)
structure Sm5.Ok (x : Sm5) : Prop where
 d : x.d.Ok
 l : x.b.length = 8
 rg : ∀ v,v ∈ x.b → 0 ≤ v ∧ v < 256
def Sm5.d4 (x : Sm5) : Sm4 := ⟨x.d.s % 4,x.d.m,x.d.g⟩
def Sm5.lo (x : Sm5) (i : Nat) : Int := x.b.getD (2 * i) 0 % 3
def Sm5.k (x : Sm5) (i : Nat) : Int := x.b.getD (2 * i + 1) 0 % 4
def Sm5.ac (x : Sm5) (i : Nat) : Ac := ⟨i,x.lo i,if 0 < x.k i then x.lo i + x.k i - 1 else -1⟩
def Sm5.acs (x : Sm5) (k : Nat) : List Ac := (List.range k).map x.ac
def Sm5.md (x : Sm5) : Md := ⟨x.d4.au,x.acs 4,4⟩
theorem Sm5.d4_ok {x : Sm5} (h : x.Ok) : x.d4.Ok := by
 have h0 := h.d.s0
 refine ⟨?_,?_,h.d.m0,h.d.m1,h.d.l,h.d.rg⟩
 · show 0 ≤ x.d.s % 4; omega
 · show x.d.s % 4 < 256; omega
theorem Sm5.lo_rg (x : Sm5) (i : Nat) : 0 ≤ x.lo i ∧ x.lo i ≤ 2 := by unfold Sm5.lo; omega
theorem Sm5.k_rg (x : Sm5) (i : Nat) : 0 ≤ x.k i ∧ x.k i ≤ 3 := by unfold Sm5.k; omega
theorem Sm5.df_rg (x : Sm5) (i : Nat) : 0 ≤ (x.ac i).df ∧ (x.ac i).df ≤ 4 := by
 have h1 := x.lo_rg i
 have h2 := x.k_rg i
 unfold Ac.df Sm5.ac
 dsimp only
 split <;> split <;> omega
theorem Sm5.acs_next (x : Sm5) (k : Nat) : x.acs (k + 1) = x.acs k ++ [x.ac k] := by unfold Sm5.acs; rw [List.range_succ,List.map_append]; rfl
theorem Sm5.acs_len (x : Sm5) (k : Nat) : (x.acs k).length = k := by simp [Sm5.acs]
theorem Sm5.md_ok {x : Sm5} (h : x.Ok) : x.md.Ok := by
 refine ⟨(Sm4.right (Sm5.d4_ok h)),by simp [Sm5.md],?_,?_,fun y hy => ?_⟩
 · show ¬ (4 : Int) ∈ [0,1,2,3]; decide
 · show (x.acs 4).map Ac.ev = [0,1,2,3]; rfl
 · obtain ⟨i,_,rfl⟩ := List.mem_map.1 hy
   have h1 := x.lo_rg i
   have h2 := x.k_rg i
   unfold Sm5.ac
   dsimp only
   split <;> omega
theorem cntD_le : ∀ (ds : List Int),(∀ d,d ∈ ds → d ≤ 4) → cntD ds ≤ 5 ^ ds.length
 | [],_ => by simp [cntD]
 | d :: ds,h => by
   have h1 := h d (by simp)
   have ih := cntD_le ds (fun e he => h e (List.mem_cons_of_mem _ he))
   simp only [cntD,List.length_cons,Nat.pow_succ]
   rw [Nat.mul_comm]
   exact Nat.mul_le_mul ih (by omega)
theorem Sm5.few {x : Sm5} (h : x.Ok) : Few x.md := by
 have hr := (Sm4.right (Sm5.d4_ok h))
 refine few_of hr.n0 ?_
 have h1 : cntD x.md.dfs ≤ 5 ^ 4 := by
  have := cntD_le x.md.dfs (fun d hd => by
   unfold Md.dfs Sm5.md Sm5.acs at hd
   simp only [List.map_map,List.mem_map] at hd
   obtain ⟨i,_,rfl⟩ := hd
   exact (x.df_rg i).2)
  have e : x.md.dfs.length = 4 := by simp [Md.dfs,Sm5.md,Sm5.acs]
  rw [e] at this
  exact this
 have h2 : x.md.a.n.toNat ≤ 4 := by
  have h0 := h.d.s0
  show ((x.d4.n : Int)).toNat ≤ 4
  unfold Sm4.n Sm5.d4
  dsimp only
  omega
 calc x.md.a.n.toNat * cntD x.md.dfs ≤ 4 * 5 ^ 4 := Nat.mul_le_mul h2 h1
  _ ≤ 4000 := by decide
def eBox (t : Nat) (a : Au) (p : AuP) : Ent := (eBlk t 34 [.slice p.A1 a.al.length p.c1,.int .i64 a.n,.slice p.A2 a.mr.length p.c2,.slice p.A3 a.ed.length p.c3]).and ((eInts a.al (.slice p.A1 a.al.length p.c1)).and ((eInts a.mr (.slice p.A2 a.mr.length p.c2)).and (eEds a.ed (.slice p.A3 a.ed.length p.c3))))
theorem eBox.at {t : Nat} {a : Au} {p : AuP} {w : World} (h : (eBox t a p).ok w) (hl : Lens a) : Au.At w a p :=
 ⟨OwnI.ints h.2.1,OwnI.ints h.2.2.1,Own.reads (enc := Ed.cells) (k := 3) (T := 76) (B := 0) (fun _ => rfl) h.2.2.2,hl.1,hl.2.1,hl.2.2⟩
theorem BlkAt.rng {b o T : Nat} {l cs : List Value} {w : World} (h : BlkAt w b T l) (hs : ∀ (j : Nat) v,cs[j]? = some v → l[o + j]? = some v) : w.rangeAt b o cs := fun j v hv => (h.cell (o + j)).trans (hs j v hv)
theorem Sm4.cells_len {d : Sm4} (h : d.Ok) : d.cells.length = 26 := by simp [Sm4.cells,h.l]
theorem Sm4.info {d : Sm4} (h : d.Ok) : (Tryz.prog.info? 25).map (·.size) = some d.cells.length := by rw [Sm4.cells_len h]; kernel_rfl
theorem DistW.of {a : Au} {x y r : Int} {f : Bool} {l : List Int} (ha : a.Right) (hi : InSt a x y) (h : (r ≠ 0 ∧ l = [] ∧ f = false ∧ (ChkErr a r ∨ a.Right ∧ r = 2 ∧ ¬ InSt a x y)) ∨ (r = 0 ∧ a.Right ∧ InSt a x y ∧ DistW a a x y f l)) : r = 0 ∧ DistW a a x y f l := by
 rcases h with ⟨h1,_,_,h | ⟨_,_,h⟩⟩ | ⟨h1,_,_,h⟩
 · exact absurd (h.uniq (ChkErr.of_right ha)) h1
 · exact absurd hi h
 · exact ⟨h1,h⟩
theorem acInfo : (Tryz.prog.info? 44).map (fun i => (i.zero,i.size,i.bytes)) = some (some (.agg #[.int .i64 0,.int .i64 0,.int .i64 0]),3,24) := by kernel_rfl
theorem acOne (x : Ac) : ∀ u ∈ x.cells,u.oneCell' = true := fun u hu => by
 simp only [Ac.cells,List.mem_cons,List.not_mem_nil,or_false] at hu
 rcases hu with rfl | rfl | rfl <;> rfl
def Sm5.x4 (x : Sm5) : Sm5 := ⟨x.d4,x.b⟩
theorem Sm5.cells_set (x : Sm5) : x.cells.set 0 (.int .u8 (x.d.s % 4)) = x.x4.cells := rfl
def GivesMd (x : Sm5) (w : World) (e : Ending) (w' : World) : Prop := ∃ P : MdP,e = .returned (.agg (x.md.cells P).toArray) ∧ Hid (Sep w.heap.size w (eAu x.d4.au P.p ++ [eOwn Ac.cells 3 44 (x.acs 4) (.slice P.B 4 P.d)]) w')
set_option maxHeartbeats 4000000 in
theorem make44_c (x : Sm5) (w : World) (hx : x.Ok) : Calls Tryz.prog 6 #[.agg x.cells.toArray] w (GivesMd x w) := by
 have HX := Lib.hid hx
 have k0 : x.cells[0]? = some (.int .u8 x.d.s) := rfl
 have s0 := hx.d.s0
 have s1 := hx.d.s1
 have ht : x.d.s.tmod 4 = x.d.s % 4 := Int.tmod_eq_emod_of_nonneg s0
 have hw : IntKind.u8.wrap (x.d.s % 4) = x.d.s % 4 := by rw [IntKind.wrap]; simp [IntKind.bits,IntKind.signed]; omega
 have CS := Lib.hid x.cells_set
 obtain ⟨cs,hcs⟩ : ∃ cs,cs = x.cells := ⟨_,rfl⟩
 rw [← hcs] at k0 ⊢
 have HCS := Lib.hid hcs
 clear hx hcs
 go_enter Tryz.func6,Tryz.ntmps6
 obtain ⟨xb,hxb⟩ : ∃ g,g = w.heap.size := ⟨_,rfl⟩
 obtain ⟨rb,hrb⟩ : ∃ g,g = w.heap.size + 1 := ⟨_,rfl⟩
 go_upto_region 1 with fail
 rw [← hrb,← hxb]
 refine wp_world (fun W => Sep w.heap.size w [eBlk rb 37 [.slice none 0 0,.int .i64 0,.slice none 0 0,.slice none 0 0,.slice none 0 0,.int .i64 0],eBlk xb 29 cs] W) (((Sep.here w).alloc' _ cs rfl hxb).alloc' _ [_,_,_,_,_,_] rfl (by rw [hrb]; simp)) fun W S => ?_
 have S0 := Lib.hid S
 clear S hxb hrb
 have x0 := (BlkAt.cell (S0.out.get 1 rfl) 0).trans k0
 have f0 := BlkAt.free (S0.out.get 1 rfl) 0
 have S1 : Hid (Sep w.heap.size w [eBlk rb 37 [.slice none 0 0,.int .i64 0,.slice none 0 0,.slice none 0 0,.slice none 0 0,.int .i64 0],eBlk xb 29 x.x4.cells] (W.setCell ⟨xb,0,none⟩ (.int .u8 (x.d.s % 4)))) := by
  have h := S0.out.set 1 rfl 0 (.int .u8 (x.d.s % 4))
  have e : cs.set 0 (.int .u8 (x.d.s % 4)) = x.x4.cells := by rw [HCS.out]; exact CS.out
  simp only [List.set_cons_succ,List.set_cons_zero] at h
  rw [e] at h
  exact h
 go_upto_region 2 with fail
 refine wp_world (fun V => Hid (Sep w.heap.size w [eBlk rb 37 [.slice none 0 0,.int .i64 0,.slice none 0 0,.slice none 0 0,.slice none 0 0,.int .i64 0],eBlk xb 29 x.x4.cells] V)) S1 fun W2 S' => ?_
 have S2 := Lib.hid S'.out
 have hd4 : x.d4.Ok := Sm5.d4_ok HX.out
 have hrg : W2.rangeAt xb 0 x.d4.cells := BlkAt.rng (S2.out.get 1 rfl) (fun j v hj => by
  have : x.x4.cells[0 + j]? = some v := by
   show (x.d4.cells ++ x.b.map (.int .u8))[0 + j]? = some v
   rw [Nat.zero_add,List.getElem?_append_left (List.getElem?_eq_some_iff.1 hj).1]
   exact hj
  exact this)
 have MC := Lib.hid (make4_c x.d4 W2 hd4)
 clear S' S1 S0 x0 f0 k0 s0 s1 ht hw CS HCS
 go_wp2_with (refine wpList_load_mid rfl 25 _ rfl xb 0 rfl x.d4.cells _ hrg Tryz.underlying25 rfl (Sm4.info hd4) ?_)
 refine MC.out.mono ?_
 rintro e w3 ⟨p,rfl,T⟩
 have S3 := Lib.hid (S2.out.news T.out)
 clear T MC hrg S2
 dsimp only [Au.val]
 obtain ⟨tb,htb⟩ : ∃ g,g = w3.heap.size := ⟨_,rfl⟩
 go_upto_region 3 with fail
 rw [← htb]
 refine wp_world (fun V => Hid (Sep w.heap.size w [eInts x.d4.au.al (.slice p.A1 x.d4.au.al.length p.c1),eInts x.d4.au.mr (.slice p.A2 x.d4.au.mr.length p.c2),eEds x.d4.au.ed (.slice p.A3 x.d4.au.ed.length p.c3),eOwn Ac.cells 3 44 [] (.slice none 0 0),eBlk tb 37 [.slice p.A1 x.d4.au.al.length p.c1,.int .i64 x.d4.au.n,.slice p.A2 x.d4.au.mr.length p.c2,.slice p.A3 x.d4.au.ed.length p.c3,.slice none 0 0,.int .i64 4],eBlk rb 37 [.slice none 0 0,.int .i64 0,.slice none 0 0,.slice none 0 0,.slice none 0 0,.int .i64 0],eBlk xb 29 x.x4.cells] V)) (by
  exact ((S3.out.alloc' 37 [.slice p.A1 x.d4.au.al.length p.c1,.int .i64 x.d4.au.n,.slice p.A2 x.d4.au.mr.length p.c2,.slice p.A3 x.d4.au.ed.length p.c3,.slice none 0 0,.int .i64 4] rfl htb).nilOwn Ac.cells 3 44).pick [2,3,4,0,1,5,6] (by decide)) fun W4 S' => ?_
 have S4 := Lib.hid S'.out
 clear S' S3 htb
 go_wp2_with fail
 go_loopw [4] (fun v wr => ∃ (i : Nat) (A : Option Addr) (c : Nat),v = .int .i64 (i : Int) ∧ i ≤ 4 ∧ Hid (Sep w.heap.size w [eInts x.d4.au.al (.slice p.A1 x.d4.au.al.length p.c1),eInts x.d4.au.mr (.slice p.A2 x.d4.au.mr.length p.c2),eEds x.d4.au.ed (.slice p.A3 x.d4.au.ed.length p.c3),eOwn Ac.cells 3 44 (x.acs i) (.slice A (x.acs i).length c),eBlk tb 37 [.slice p.A1 x.d4.au.al.length p.c1,.int .i64 x.d4.au.n,.slice p.A2 x.d4.au.mr.length p.c2,.slice p.A3 x.d4.au.ed.length p.c3,.slice A (x.acs i).length c,.int .i64 4],eBlk rb 37 [.slice none 0 0,.int .i64 0,.slice none 0 0,.slice none 0 0,.slice none 0 0,.int .i64 0],eBlk xb 29 x.x4.cells] wr)) (fun v _ => 4 - (intOf v).toNat)
 case atStart => exact ⟨0,none,0,rfl,by omega,S4.out⟩
 case round =>
  clear S4
  obtain ⟨i,A,c,rfl,hi,S⟩ := hrel
  by_cases hlt : i < 4
  · have hl8 := HX.out.l
    have hc : ∀ j,j < 8 → x.x4.cells[26 + j]? = some (.int .u8 (x.b.getD j 0)) ∧ 0 ≤ x.b.getD j 0 ∧ x.b.getD j 0 < 256 := fun j hj => by
     have hl : x.d4.cells.length = 26 := Sm4.cells_len (Sm5.d4_ok HX.out)
     refine ⟨?_,?_⟩
     · show (x.d4.cells ++ x.b.map (.int .u8))[26 + j]? = _
       rw [List.getElem?_append_right (by omega),hl,Nat.add_sub_cancel_left,List.getElem?_map,List.getD_eq_getElem?_getD,List.getElem?_eq_getElem (by omega)]
       rfl
     · refine HX.out.rg _ ?_
       rw [List.getD_eq_getElem?_getD,List.getElem?_eq_getElem (by omega)]
       exact List.getElem_mem _
    obtain ⟨q1,r1⟩ := hc (2 * i) (by omega)
    obtain ⟨q2,r2⟩ := hc (2 * i + 1) (by omega)
    obtain ⟨y1,hy1⟩ : ∃ y,y = x.b.getD (2 * i) 0 := ⟨_,rfl⟩
    obtain ⟨y2,hy2⟩ : ∃ y,y = x.b.getD (2 * i + 1) 0 := ⟨_,rfl⟩
    rw [← hy1] at q1 r1
    rw [← hy2] at q2 r2
    have LO : Hid (x.lo i = y1 % 3) := by rw [Hid,hy1]; rfl
    have KK : Hid (x.k i = y2 % 4) := by rw [Hid,hy2]; rfl
    have b1 : wr.cell? ⟨xb,26 + i * 2,none⟩ = some (.int .u8 y1) := by
     have h := (BlkAt.cell (S.out.get 6 rfl) (26 + 2 * i)).trans q1
     rw [show 26 + i * 2 = 26 + 2 * i by omega]; exact h
    have b2 : wr.cell? ⟨xb,26 + i * 2 + 1,none⟩ = some (.int .u8 y2) := by
     have h := (BlkAt.cell (S.out.get 6 rfl) (26 + (2 * i + 1))).trans q2
     rw [show 26 + i * 2 + 1 = 26 + (2 * i + 1) by omega]; exact h
    have t1 : y1.tmod 3 = y1 % 3 := Int.tmod_eq_emod_of_nonneg r1.1
    have t2 : y2.tmod 4 = y2 % 4 := Int.tmod_eq_emod_of_nonneg r2.1
    have w1 : IntKind.u8.wrap (y1 % 3) = y1 % 3 := by rw [IntKind.wrap]; simp [IntKind.bits,IntKind.signed]; omega
    have w2 : IntKind.u8.wrap (y2 % 4) = y2 % 4 := by rw [IntKind.wrap]; simp [IntKind.bits,IntKind.signed]; omega
    have w3 : IntKind.i64.wrap (y1 % 3) = y1 % 3 := IntWalk.i64_in _ (by omega)
    have w4 : IntKind.i64.wrap (y2 % 4) = y2 % 4 := IntWalk.i64_in _ (by omega)
    clear hc q1 hy1 hy2 hl8
    obtain ⟨ab,hab⟩ : ∃ g,g = wr.heap.size := ⟨_,rfl⟩
    go_upto_region 7 with fail
    rw [← hab]
    refine wp_world (fun V => Hid (Sep w.heap.size w [eBlk ab 44 [.int .i64 (i : Int),.int .i64 (y1 % 3),.int .i64 (-1)],eInts x.d4.au.al (.slice p.A1 x.d4.au.al.length p.c1),eInts x.d4.au.mr (.slice p.A2 x.d4.au.mr.length p.c2),eEds x.d4.au.ed (.slice p.A3 x.d4.au.ed.length p.c3),eOwn Ac.cells 3 44 (x.acs i) (.slice A (x.acs i).length c),eBlk tb 37 [.slice p.A1 x.d4.au.al.length p.c1,.int .i64 x.d4.au.n,.slice p.A2 x.d4.au.mr.length p.c2,.slice p.A3 x.d4.au.ed.length p.c3,.slice A (x.acs i).length c,.int .i64 4],eBlk rb 37 [.slice none 0 0,.int .i64 0,.slice none 0 0,.slice none 0 0,.slice none 0 0,.int .i64 0],eBlk xb 29 x.x4.cells] V)) (S.out.alloc' 44 [.int .i64 (i : Int),.int .i64 (y1 % 3),.int .i64 (-1)] rfl hab) fun W5 S' => ?_
    have S5 := Lib.hid S'.out
    clear S' S b1 b2 hab t1 w1 w3
    have b2 : W5.cell? ⟨xb,26 + i * 2 + 1,none⟩ = some (.int .u8 y2) := by
     have h := (BlkAt.cell (S5.out.get 7 rfl) (26 + (2 * i + 1))).trans q2
     rw [show 26 + i * 2 + 1 = 26 + (2 * i + 1) by omega]; exact h
    clear q2
    go_upto_if 38 with fail
    go_cut [] (fun wx => Hid (Sep w.heap.size w [eBlk ab 44 [.int .i64 (i : Int),.int .i64 (x.ac i).lo,.int .i64 (x.ac i).up],eInts x.d4.au.al (.slice p.A1 x.d4.au.al.length p.c1),eInts x.d4.au.mr (.slice p.A2 x.d4.au.mr.length p.c2),eEds x.d4.au.ed (.slice p.A3 x.d4.au.ed.length p.c3),eOwn Ac.cells 3 44 (x.acs i) (.slice A (x.acs i).length c),eBlk tb 37 [.slice p.A1 x.d4.au.al.length p.c1,.int .i64 x.d4.au.n,.slice p.A2 x.d4.au.mr.length p.c2,.slice p.A3 x.d4.au.ed.length p.c3,.slice A (x.acs i).length c,.int .i64 4],eBlk rb 37 [.slice none 0 0,.int .i64 0,.slice none 0 0,.slice none 0 0,.slice none 0 0,.int .i64 0],eBlk xb 29 x.x4.cells] wx))
    case first =>
     have EL : Hid ((x.ac i).lo = y1 % 3) := LO.out
     have a0 := BlkAt.cell (S5.out.get 0 rfl) 0; have a1 := BlkAt.cell (S5.out.get 0 rfl) 1; have a2 := BlkAt.cell (S5.out.get 0 rfl) 2
     simp only [List.getElem?_cons_succ,List.getElem?_cons_zero] at a0 a1 a2
     have af2 := BlkAt.free (S5.out.get 0 rfl) 2
     by_cases hk : 0 < y2 % 4
     · have hd : decide (0 < y2 % 4) = true := decide_eq_true hk
       have EU : Hid ((x.ac i).up = y1 % 3 + y2 % 4 - 1) := by
        show (if 0 < x.k i then x.lo i + x.k i - 1 else -1) = _
        rw [LO.out,KK.out,if_pos hk]
       have w5 : IntKind.i64.wrap (y1 % 3 + y2 % 4) = y1 % 3 + y2 % 4 := IntWalk.i64_in _ (by omega)
       have w6 : IntKind.i64.wrap (y1 % 3 + y2 % 4 - 1) = y1 % 3 + y2 % 4 - 1 := IntWalk.i64_in _ (by omega)
       have S6 : Hid (Sep w.heap.size w [eBlk ab 44 [.int .i64 (i : Int),.int .i64 (x.ac i).lo,.int .i64 (x.ac i).up],eInts x.d4.au.al (.slice p.A1 x.d4.au.al.length p.c1),eInts x.d4.au.mr (.slice p.A2 x.d4.au.mr.length p.c2),eEds x.d4.au.ed (.slice p.A3 x.d4.au.ed.length p.c3),eOwn Ac.cells 3 44 (x.acs i) (.slice A (x.acs i).length c),eBlk tb 37 [.slice p.A1 x.d4.au.al.length p.c1,.int .i64 x.d4.au.n,.slice p.A2 x.d4.au.mr.length p.c2,.slice p.A3 x.d4.au.ed.length p.c3,.slice A (x.acs i).length c,.int .i64 4],eBlk rb 37 [.slice none 0 0,.int .i64 0,.slice none 0 0,.slice none 0 0,.slice none 0 0,.int .i64 0],eBlk xb 29 x.x4.cells] (W5.setCell ⟨ab,2,none⟩ (.int .i64 (y1 % 3 + y2 % 4 - 1)))) := by rw [EL.out,EU.out]; exact S5.out.set 0 rfl 2 _
       clear S5
       go_wp2_with fail
       go_meet
       exact S6.out
     · have hd : decide (0 < y2 % 4) = false := decide_eq_false hk
       have EU : Hid ((x.ac i).up = -1) := by
        show (if 0 < x.k i then x.lo i + x.k i - 1 else -1) = _
        rw [KK.out,if_neg hk]
       have S6 : Hid (Sep w.heap.size w [eBlk ab 44 [.int .i64 (i : Int),.int .i64 (x.ac i).lo,.int .i64 (x.ac i).up],eInts x.d4.au.al (.slice p.A1 x.d4.au.al.length p.c1),eInts x.d4.au.mr (.slice p.A2 x.d4.au.mr.length p.c2),eEds x.d4.au.ed (.slice p.A3 x.d4.au.ed.length p.c3),eOwn Ac.cells 3 44 (x.acs i) (.slice A (x.acs i).length c),eBlk tb 37 [.slice p.A1 x.d4.au.al.length p.c1,.int .i64 x.d4.au.n,.slice p.A2 x.d4.au.mr.length p.c2,.slice p.A3 x.d4.au.ed.length p.c3,.slice A (x.acs i).length c,.int .i64 4],eBlk rb 37 [.slice none 0 0,.int .i64 0,.slice none 0 0,.slice none 0 0,.slice none 0 0,.int .i64 0],eBlk xb 29 x.x4.cells] W5) := by rw [EL.out,EU.out]; exact S5.out
       clear S5
       go_wp2_with fail
       go_meet
       exact S6.out
    case rest =>
     clear S5 b2 t2 w2 w4
     have S := hcut
     clear hcut
     have a0 := BlkAt.cell (S.out.get 0 rfl) 0; have a1 := BlkAt.cell (S.out.get 0 rfl) 1; have a2 := BlkAt.cell (S.out.get 0 rfl) 2
     have t4 := qkC S.out 5 rfl 4 rfl
     simp only [List.getElem?_cons_succ,List.getElem?_cons_zero] at a0 a1 a2
     have hln : (x.acs i).length ≤ 4 := by rw [x.acs_len]; omega
     have HX2 : Hid (x.acs i ++ [x.ac i] = x.acs (i + 1)) := (x.acs_next i).symm
     go_wp2_with (at_builtin; refine wpList_pushS rfl _ _ 35 rfl (S.out.alloc 44 [.int .i64 (i : Int),.int .i64 (x.ac i).lo,.int .i64 (x.ac i).up]) 5 rfl Tryz.underlying35 _ 24 acInfo rfl (by decide) rfl (x.ac i) _ rfl rfl (one_cell _ _ [_,_,_] _ rfl) (acOne _) (by omega) (by decide) ?_)
     intro A' c' w6 S6 _
     have S7 : Hid (Sep w.heap.size w [eInts x.d4.au.al (.slice p.A1 x.d4.au.al.length p.c1),eInts x.d4.au.mr (.slice p.A2 x.d4.au.mr.length p.c2),eEds x.d4.au.ed (.slice p.A3 x.d4.au.ed.length p.c3),eOwn Ac.cells 3 44 (x.acs (i + 1)) (.slice A' ((x.acs i).length + 1) c'),eBlk tb 37 [.slice p.A1 x.d4.au.al.length p.c1,.int .i64 x.d4.au.n,.slice p.A2 x.d4.au.mr.length p.c2,.slice p.A3 x.d4.au.ed.length p.c3,.slice A (x.acs i).length c,.int .i64 4],eBlk rb 37 [.slice none 0 0,.int .i64 0,.slice none 0 0,.slice none 0 0,.slice none 0 0,.int .i64 0],eBlk xb 29 x.x4.cells] w6) := by rw [← HX2.out]; exact S6.drop1.drop1
     clear S6 S a0 a1 a2 t4
     have t4 := qkC S7.out 4 rfl 4 rfl
     have tf4 := BlkAt.free (S7.out.get 4 rfl) 4
     have S8 : Hid (Sep w.heap.size w [eInts x.d4.au.al (.slice p.A1 x.d4.au.al.length p.c1),eInts x.d4.au.mr (.slice p.A2 x.d4.au.mr.length p.c2),eEds x.d4.au.ed (.slice p.A3 x.d4.au.ed.length p.c3),eOwn Ac.cells 3 44 (x.acs (i + 1)) (.slice A' (x.acs (i + 1)).length c'),eBlk tb 37 [.slice p.A1 x.d4.au.al.length p.c1,.int .i64 x.d4.au.n,.slice p.A2 x.d4.au.mr.length p.c2,.slice p.A3 x.d4.au.ed.length p.c3,.slice A' (x.acs (i + 1)).length c',.int .i64 4],eBlk rb 37 [.slice none 0 0,.int .i64 0,.slice none 0 0,.slice none 0 0,.slice none 0 0,.int .i64 0],eBlk xb 29 x.x4.cells] (w6.setCell ⟨tb,4,none⟩ (.slice A' ((x.acs i).length + 1) c'))) := by
      have h := S7.out.set 4 rfl 4 (.slice A' ((x.acs i).length + 1) c')
      have e : (x.acs (i + 1)).length = (x.acs i).length + 1 := by rw [x.acs_len,x.acs_len]
      rw [e]
      exact h
     clear S7 hln
     have hwr : IntKind.i64.wrap ((i : Int) + 1) = (i : Int) + 1 := IntWalk.i64_in _ (by omega)
     go_wp2_with fail
     go_roundw
     case rel => exact ⟨i + 1,A',c',by go_num,by omega,S8.out⟩
     case measure => simp [intOf]; omega
  · obtain rfl : i = 4 := by omega
    have t0 := BlkAt.cell (S.out.get 4 rfl) 0; have t1 := BlkAt.cell (S.out.get 4 rfl) 1; have t2 := BlkAt.cell (S.out.get 4 rfl) 2; have t3 := BlkAt.cell (S.out.get 4 rfl) 3; have t4 := BlkAt.cell (S.out.get 4 rfl) 4; have t5 := BlkAt.cell (S.out.get 4 rfl) 5
    have r0 := BlkAt.cell (S.out.get 5 rfl) 0; have r1 := BlkAt.cell (S.out.get 5 rfl) 1; have r2 := BlkAt.cell (S.out.get 5 rfl) 2; have r3 := BlkAt.cell (S.out.get 5 rfl) 3; have r4 := BlkAt.cell (S.out.get 5 rfl) 4; have r5 := BlkAt.cell (S.out.get 5 rfl) 5
    have f0 := BlkAt.free (S.out.get 5 rfl) 0; have f1 := BlkAt.free (S.out.get 5 rfl) 1; have f2 := BlkAt.free (S.out.get 5 rfl) 2; have f3 := BlkAt.free (S.out.get 5 rfl) 3; have f4 := BlkAt.free (S.out.get 5 rfl) 4; have f5 := BlkAt.free (S.out.get 5 rfl) 5
    simp only [List.getElem?_cons_succ,List.getElem?_cons_zero] at t0 t1 t2 t3 t5 r0 r1 r2 r3 r4 r5
    have S5 := Lib.hid ((((((S.out.set 5 rfl 0 (.slice p.A1 x.d4.au.al.length p.c1)).set 5 rfl 1 (.int .i64 x.d4.au.n)).set 5 rfl 2 (.slice p.A2 x.d4.au.mr.length p.c2)).set 5 rfl 3 (.slice p.A3 x.d4.au.ed.length p.c3)).set 5 rfl 4 (.slice A (x.acs 4).length c)).set 5 rfl 5 (.int .i64 4))
    have z0 := BlkAt.cell (S5.out.get 5 rfl) 0; have z1 := BlkAt.cell (S5.out.get 5 rfl) 1; have z2 := BlkAt.cell (S5.out.get 5 rfl) 2; have z3 := BlkAt.cell (S5.out.get 5 rfl) 3; have z4 := BlkAt.cell (S5.out.get 5 rfl) 4; have z5 := BlkAt.cell (S5.out.get 5 rfl) 5
    simp only [List.set_cons_succ,List.set_cons_zero,List.getElem?_cons_succ,List.getElem?_cons_zero] at z0 z1 z2 z3 z4 z5
    have hL : (x.acs 4).length = 4 := x.acs_len 4
    have HL := Lib.hid hL
    clear S hL
    go_wp2_with fail
    refine bodyPost_ret (v := .agg #[.slice p.A1 x.d4.au.al.length p.c1,.int .i64 x.d4.au.n,.slice p.A2 x.d4.au.mr.length p.c2,.slice p.A3 x.d4.au.ed.length p.c3,.slice A (x.acs 4).length c,.int .i64 4]) (by simp [results,Tryz.results6,go_sem, *]) rfl ?_
    refine ⟨⟨p,A,c⟩,rfl,?_⟩
    have h := S5.out.pick [0,1,2,3] (by decide)
    rw [HL.out] at h
    exact h


def urgL (m : Md) (c : Ck) (k : Nat) : List Int := ((List.range k).filter (m.urg c)).map m.ev
def GivesUg (m : Md) (c : Ck) (w : World) (e : Ending) (w' : World) : Prop := ∃ (A : Option Addr) (cp : Nat),e = .returned (.slice A (urgL m c m.ac.length).length cp) ∧ Hid (Sep w.heap.size w [eInts (urgL m c m.ac.length) (.slice A (urgL m c m.ac.length).length cp)] w')
def GivesSp (r : Option Ck) (w : World) (e : Ending) (w' : World) : Prop := ∃ (A : Option Addr) (cp : Nat),e = .returned (.tuple #[.agg #[.int .i64 (r.getD (0,[])).1,.slice A (r.getD (0,[])).2.length cp],.bool r.isSome]) ∧ Hid (Sep w.heap.size w [eInts (r.getD (0,[])).2 (.slice A (r.getD (0,[])).2.length cp)] w')
theorem GivesSp.no {w w' : World} (h : Below w.heap.size w w') : GivesSp none w (.returned (.tuple #[.agg #[.int .i64 0,.slice none 0 0],.bool false])) w' :=
 ⟨none,0,rfl,((Sep.here w).next h).nilOwn encI 1 3⟩
def evL (m : Md) : Nat → List Int × Bool
 | 0 => ([],false)
 | k + 1 => if (!(evL m k).2 && decide (m.tk < m.ev k)) = true then ((evL m k).1 ++ [m.tk] ++ [m.ev k],true) else ((evL m k).1 ++ [m.ev k],(evL m k).2)
def GivesEl (l : List Int) (w : World) (e : Ending) (w' : World) : Prop := ∃ (A : Option Addr) (cp : Nat),e = .returned (.slice A l.length cp) ∧ Hid (Sep w.heap.size w [eInts l (.slice A l.length cp)] w')
def stE1 (m : Md) (c : Ck) (i : Nat) : Int := if tmr c i < 0 ∨ (m.at i).df < tmr c i then 2 else if tmr c i ≠ (m.at i).df ∧ m.pr c.1 i = false then 6 else 0
def stEk (m : Md) (c : Ck) : Nat → Int
 | 0 => 0
 | k + 1 => if stEk m c k = 0 then stE1 m c k else stEk m c k
def stE (m : Md) (c : Ck) : Int := if c.1 < 0 ∨ m.a.n ≤ c.1 then 2 else if c.2.length ≠ m.ac.length then 4 else stEk m c m.ac.length
theorem stE_zero {m : Md} {c : Ck} (hc : m.Is c) (h : ∀ i,i < m.ac.length → m.pr c.1 i = false → tmr c i = (m.at i).df) : stE m c = 0 := by
 unfold stE
 rw [if_neg (by have := hc.s; omega),if_neg (by have := hc.len; omega)]
 have : ∀ k,k ≤ m.ac.length → stEk m c k = 0 := by
  intro k
  induction k with
  | zero => intro _; rfl
  | succ k ih =>
    intro hk
    show (if stEk m c k = 0 then _ else _) = _
    rw [if_pos (ih (by omega))]
    have := hc.t k (by omega)
    unfold stE1
    rw [if_neg (by omega),if_neg]
    rintro ⟨g1,g2⟩
    exact g1 (h k (by omega) g2)
 exact this _ (Nat.le_refl _)
def GivesBg (m : Md) (P : MdP) (c : Ck) (w : World) (e : Ending) (w' : World) : Prop :=
 (∃ r : Int,e = .returned (.tuple #[.pointer none,.agg (ckC (0,[])).toArray,.int .i64 r]) ∧ r = stE m c ∧ r ≠ 0 ∧ Below w.heap.size w w') ∨
 (∃ q : McP,e = .returned (.tuple #[.pointer (some ⟨q.g,0,none⟩),.agg (ckC c).toArray,.int .i64 0]) ∧ stE m c = 0 ∧ q.P = P ∧ q.bs.length = m.a.n.toNat ∧ Hid (Sep w.heap.size w [eMc m q] w'))
end Go.Proofs.YtimdepdbcdbikaaGreat
