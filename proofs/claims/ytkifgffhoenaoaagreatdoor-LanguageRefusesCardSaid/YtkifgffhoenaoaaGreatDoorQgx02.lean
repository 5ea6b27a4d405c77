/-
  overseerref03.SameInts and Same, at equal data.
  overseerlaw09.LanguageRefuses.
  How arguments read: structs by their fields, slices by their elements, whatever these are.
  How automata and edges among the arguments read.
-/
import Derived.Test.YtkifgffhoenaoaaGreatDoorBas06
import Derived.BigQuiet
import Derived.Test.YtkifgffhoenaoaaGreatDoorQgx01
import Derived.Test.YtkifgffhoenaoaaGreatDoorBas17
import Derived.Test.YtkifgffhoenaoaaGreatDoorBas01
import Derived.WalkKit
import Derived.ProofKit
import Derived.OpenShut
import Derived.ShutString
import Derived.ChangeOld
import Derived.Below
import Derived.Lib.SmallJoins
import Derived.Deep.MidRow
import Derived.Test.YtkifgffhoenaoaaGreatDoorBas02
set_option linter.unusedSimpArgs false
set_option linter.unusedVariables false
namespace Go.Proofs.YtkifgffhoenaoaaGreatDoor
open Go.RowKit
set_option maxRecDepth 100000
set_option maxHeartbeats 1000000 in
theorem sameI3_c (A1 A2 : Option Addr) (c1 c2 : Nat) (l : List Int) (w : World) (h1 : IntsAt w A1 l) (h2 : IntsAt w A2 l) (n1 : l.length ≤ 140737488355328) :
 Calls Tryz.prog 43 #[.slice A1 l.length c1,.slice A2 l.length c2] w (Ret (.bool true) w) := by
 have H1 := Lib.hid h1
 have H2 := Lib.hid h2
 clear h1 h2
 go_enter Tryz.func43,Tryz.ntmps43
 go_wp2
 go_loopw [5] (fun i wr => ∃ k : Nat,k ≤ l.length ∧ i = .int .i64 k ∧ Hid (Below w.heap.size w wr)) (fun i _ => l.length - (intOf i).toNat)
 case atStart => exact ⟨0,by omega,rfl,Below.refl _ _⟩
 case round =>
  obtain ⟨k,hk,rfl,BW⟩ := hrel
  by_cases hlt : k < l.length
  · obtain ⟨b,off,x,rfl,hb,hx,e0⟩ := IntsAt.at (H1.out.below IntE.stays BW.out) hlt
    obtain ⟨b2,off2,y,rfl,hb2,hy,g0⟩ := IntsAt.at (H2.out.below IntE.stays BW.out) hlt
    obtain rfl : x = y := Option.some.inj (hx.symm.trans hy)
    clear hx hy
    go_wp2_with fail
    go_quiet (fail)
    go_wp2
    go_roundw
    case rel => exact ⟨k + 1,by omega,by go_num,BW.out.draws _⟩
    case measure => simp [intOf]; omega
  · obtain rfl : k = l.length := by omega
    go_wp2
    go_ret
    exact ⟨rfl,BW.out⟩
set_option maxHeartbeats 4000000 in
theorem same3_c (a : Au) (p q : AuP) (w : World) (hA : Au.At w a p) (hB : Au.At w a q) :
 Calls Tryz.prog 12 #[a.val p,a.val q] w (Ret (.bool true) w) := by
 have HA := Lib.hid hA
 have HB := Lib.hid hB
 obtain ⟨al,n,mr,ed⟩ := a
 obtain ⟨A1,c1,A2,c2,A3,c3⟩ := p
 obtain ⟨B1,d1,B2,d2,B3,d3⟩ := q
 try dsimp only [Au.val] at *
 have hal := hA.lal
 have hml := hA.lmk
 have hel := hA.led
 dsimp only at hal hml hel
 clear hA hB
 have q0 : Hid (BlkAt ((w.alloc (.cells #[.slice A1 al.length c1,.int .i64 n,.slice A2 mr.length c2,.slice A3 ed.length c3] 31)).alloc (.cells #[.slice B1 al.length d1,.int .i64 n,.slice B2 mr.length d2,.slice B3 ed.length d3] 31)) w.heap.size 31 [.slice A1 al.length c1,.int .i64 n,.slice A2 mr.length c2,.slice A3 ed.length c3]) := (BlkAt.new w _ [_,_,_,_]).alloc _
 have q1 : Hid (BlkAt ((w.alloc (.cells #[.slice A1 al.length c1,.int .i64 n,.slice A2 mr.length c2,.slice A3 ed.length c3] 31)).alloc (.cells #[.slice B1 al.length d1,.int .i64 n,.slice B2 mr.length d2,.slice B3 ed.length d3] 31)) (w.heap.size + 1) 31 [.slice B1 al.length d1,.int .i64 n,.slice B2 mr.length d2,.slice B3 ed.length d3]) := by
  have := BlkAt.new (w.alloc (.cells #[.slice A1 al.length c1,.int .i64 n,.slice A2 mr.length c2,.slice A3 ed.length c3] 31)) 31 [.slice B1 al.length d1,.int .i64 n,.slice B2 mr.length d2,.slice B3 ed.length d3]
  simpa [Hid] using this
 have B0 : Hid (Fro w.heap.size w ((w.alloc (.cells #[.slice A1 al.length c1,.int .i64 n,.slice A2 mr.length c2,.slice A3 ed.length c3] 31)).alloc (.cells #[.slice B1 al.length d1,.int .i64 n,.slice B2 mr.length d2,.slice B3 ed.length d3] 31))) := ((Fro.here w).alloc _).alloc _
 go_enter Tryz.func12,Tryz.ntmps12
 go_upto_region 1 with fail
 generalize hW : ((w.alloc (.cells #[.slice A1 al.length c1,.int .i64 n,.slice A2 mr.length c2,.slice A3 ed.length c3] 31)).alloc (.cells #[.slice B1 al.length d1,.int .i64 n,.slice B2 mr.length d2,.slice B3 ed.length d3] 31)) = W at *
 clear hW
 have a0 := q0.out.cell 0
 have a1 := q0.out.cell 1
 have a2 := q0.out.cell 2
 have a3 := q0.out.cell 3
 have b0 := q1.out.cell 0
 have b1 := q1.out.cell 1
 have b2 := q1.out.cell 2
 have b3 := q1.out.cell 3
 simp only [List.getElem?_cons_succ,List.getElem?_cons_zero] at a0 a1 a2 a3 b0 b1 b2 b3
 have hnn : (n != n) = false := by simp
 have hne : (n == n) = true := by simp
 have hee : ((ed.length : Int) != (ed.length : Int)) = false := by simp
 go_wp2_with fail
 refine (sameI3_c A1 B1 c1 d1 al W (HA.out.below B0.out.b).al (HB.out.below B0.out.b).al hal).mono ?_
 rintro e W1 ⟨rfl,hb⟩
 have Q0 := Lib.hid (q0.out.below hb q0.out.lt)
 have Q1 := Lib.hid (q1.out.below hb q1.out.lt)
 have B1' := Lib.hid (B0.out.next hb)
 clear q0 q1 B0 hb a0 a1 a2 a3 b0 b1 b2 b3
 have a1 := Q0.out.cell 1
 have a2 := Q0.out.cell 2
 have a3 := Q0.out.cell 3
 have b1 := Q1.out.cell 1
 have b2 := Q1.out.cell 2
 have b3 := Q1.out.cell 3
 simp only [List.getElem?_cons_succ,List.getElem?_cons_zero] at a1 a2 a3 b1 b2 b3
 go_wp2_with fail
 refine (sameI3_c A2 B2 c2 d2 mr W1 (HA.out.below B1'.out.b).mr (HB.out.below B1'.out.b).mr hml).mono ?_
 rintro e W2 ⟨rfl,hb⟩
 have R0 := Lib.hid (Q0.out.below hb Q0.out.lt)
 have R1 := Lib.hid (Q1.out.below hb Q1.out.lt)
 have B2' := Lib.hid (B1'.out.next hb)
 clear Q0 Q1 B1' hb a1 a2 a3 b1 b2 b3
 have a3 := R0.out.cell 3
 have b3 := R1.out.cell 3
 simp only [List.getElem?_cons_succ,List.getElem?_cons_zero] at a3 b3
 go_wp2_with fail
 go_loopw [5] (fun i wr => ∃ k : Nat,k ≤ ed.length ∧ i = .int .i64 k ∧ Hid (Below W2.heap.size W2 wr)) (fun i _ => ed.length - (intOf i).toNat)
 case atStart => exact ⟨0,by omega,rfl,Below.refl _ _⟩
 case round =>
  obtain ⟨k,hk,rfl,BW⟩ := hrel
  have S0 := Lib.hid (R0.out.below BW.out R0.out.lt)
  have S1 := Lib.hid (R1.out.below BW.out R1.out.lt)
  clear a3 b3
  have a3 := S0.out.cell 3
  have b3 := S1.out.cell 3
  simp only [List.getElem?_cons_succ,List.getElem?_cons_zero] at a3 b3
  have BF := Lib.hid (B2'.out.next BW.out)
  by_cases hlt : k < ed.length
  · obtain ⟨b,off,x,rfl,hb,hx,e0,e1,e2⟩ := EdsAt.at (HA.out.below BF.out.b).ed hlt
    obtain ⟨b2,off2,y,rfl,hb2,hy,g0,g1,g2⟩ := EdsAt.at (HB.out.below BF.out.b).ed hlt
    obtain rfl : x = y := Option.some.inj (hx.symm.trans hy)
    clear hx hy
    obtain ⟨x1,x2,x3⟩ := x
    dsimp only at e0 e1 e2 g0 g1 g2
    go_wp2_with fail
    go_quiet (fail)
    go_wp2
    go_roundw
    case rel => exact ⟨k + 1,by omega,by go_num,BW.out.draws _⟩
    case measure => simp [intOf]; omega
  · obtain rfl : k = ed.length := by omega
    go_wp2
    go_ret
    exact ⟨rfl,BF.out.b⟩
def ofV (kind e : Int) : Int := if e = 0 then (if kind = 1 ∨ kind = 2 then 0 else 11) else e
theorem ofV.bad2 {a b : Au} {one two kind E : Int} (h1 : ChkErr a one) (h2 : one = 0 → ChkErr b two) (h3 : one ≠ 0 → two = one) (he : E = ofV kind two) (h0 : E ≠ 0) : ¬ (a.Right ∧ b.Right ∧ (kind = 1 ∨ kind = 2)) := fun ⟨ha,hb,hk⟩ => by
 have e1 := h1.zero.2 ha
 have e2 := (h2 e1).zero.2 hb
 apply h0
 rw [he,ofV,if_pos e2,if_pos hk]
theorem ofV.bad3 {a b : Au} {one two : Int} (h1 : ChkErr a one) (h2 : one = 0 → ChkErr b two) (h3 : one ≠ 0 → two = one) (h0 : two ≠ 0) : ¬ (a.Right ∧ b.Right) := fun ⟨ha,hb⟩ => h0 ((h2 (h1.zero.2 ha)).zero.2 hb)
theorem ofV.eq2 {a b : Au} {one two r : Int} (hr : ChkLs 2 [a,b] r) (h1 : ChkErr a one) (h2 : one = 0 → ChkErr b two) (h3 : one ≠ 0 → two = one) : r = two := by
 have := hr.two h1 h2 h3
 rw [this]
 by_cases h : two = 0
 · rw [if_pos h,if_pos (Or.inr rfl : (2 : Int) = 1 ∨ (2 : Int) = 2),h]
 · rw [if_neg h]
theorem ofV.bad1 {a : Au} {one kind E : Int} (h1 : ChkErr a one) (he : E = ofV kind one) (h0 : E ≠ 0) : ¬ (a.Right ∧ (kind = 1 ∨ kind = 2)) := fun ⟨ha,hk⟩ => by
 have e1 := h1.zero.2 ha
 apply h0
 rw [he,ofV,if_pos e1,if_pos hk]
def Few9 (a : Au) : Prop := a.n ≤ 8 ∧ a.al.length ≤ 40 ∧ a.mr.length ≤ 40 ∧ a.ed.length ≤ 40
set_option maxHeartbeats 1000000 in
theorem few9_c (a : Au) (p : AuP) (w : World) (lal : a.al.length ≤ 9223372036854775807) (lmk : a.mr.length ≤ 9223372036854775807) (led : a.ed.length ≤ 9223372036854775807) :
 Calls Tryz.prog 18 #[a.val p] w (Tells (Few9 a) w) := by
 have B0 : Hid (Below w.heap.size w (w.alloc (.cells (auCells a p).toArray 31))) := Below.new _ _
 have C0 : Hid (HasAt w.heap.size (auCells a p) (w.alloc (.cells (auCells a p).toArray 31))) := HasAt.new w _ _ rfl
 obtain ⟨al,n,mr,ed⟩ := a
 obtain ⟨A1,c1,A2,c2,A3,c3⟩ := p
 dsimp only [Au.val,auCells] at *
 have q0 := C0.out.c 0 _ rfl
 have q1 := C0.out.c 1 _ rfl
 have q2 := C0.out.c 2 _ rfl
 have q3 := C0.out.c 3 _ rfl
 go_enter Tryz.func18,Tryz.ntmps18
 by_cases h0 : 8 < n
 · have g0 : decide (n ≤ 8) = false := by simp; omega
   go_wp2
   go_ret
   exact Tells.no (fun h => by have := h.1; simp only at this; omega) B0.out
 have g0 : decide (n ≤ 8) = true := by simp; omega
 by_cases h1 : 40 < al.length
 · have g1 : decide ((al.length : Int) ≤ 40) = false := by simp; omega
   go_wp2
   go_ret
   exact Tells.no (fun h => by have := h.2.1; simp only at this; omega) B0.out
 have g1 : decide ((al.length : Int) ≤ 40) = true := by simp; omega
 by_cases h2 : 40 < mr.length
 · have g2 : decide ((mr.length : Int) ≤ 40) = false := by simp; omega
   go_wp2
   go_ret
   exact Tells.no (fun h => by have := h.2.2.1; simp only at this; omega) B0.out
 have g2 : decide ((mr.length : Int) ≤ 40) = true := by simp; omega
 by_cases h3 : 40 < ed.length
 · have g3 : decide ((ed.length : Int) ≤ 40) = false := by simp; omega
   go_wp2
   go_ret
   exact Tells.no (fun h => by have := h.2.2.2; simp only at this; omega) B0.out
 have g3 : decide ((ed.length : Int) ≤ 40) = true := by simp; omega
 go_wp2
 go_ret
 exact Tells.yes ⟨by simp only; omega,by simp only; omega,by simp only; omega,by simp only; omega⟩ B0.out
theorem of_c (tw : Nat) (wr : Bool) (kind e : Int) (w : World) (hc : w.cell? ⟨tw,0,none⟩ = some (.bool wr)) (hw : wr = decide (¬ (kind = 1 ∨ kind = 2))) :
 Calls Tryz.prog 20 #[.int .i64 e,.pointer (some ⟨tw,0,none⟩)] w (Ret (.int .i64 (ofV kind e)) w) := by
 by_cases h0 : e = 0
 · subst h0
   by_cases hk : kind = 1 ∨ kind = 2
   · have e0 : ofV kind 0 = 0 := by rw [ofV,if_pos rfl,if_pos hk]
     rw [e0]
     obtain rfl : wr = false := by rw [hw]; exact decide_eq_false (fun h => h hk)
     clear e0 hk hw
     go_enter Tryz.func20,Tryz.ntmps20
     go_wp2
     go_ret
     exact ⟨rfl,Below.refl _ _⟩
   · have e0 : ofV kind 0 = 11 := by rw [ofV,if_pos rfl,if_neg hk]
     rw [e0]
     obtain rfl : wr = true := by rw [hw]; exact decide_eq_true hk
     clear e0 hk hw
     go_enter Tryz.func20,Tryz.ntmps20
     go_wp2
     go_ret
     exact ⟨rfl,Below.refl _ _⟩
 · have e0 : ofV kind e = e := by rw [ofV,if_neg h0]
   rw [e0]
   have hb0 : (e == 0) = false := by simpa using h0
   clear e0 h0 hw
   go_enter Tryz.func20,Tryz.ntmps20
   go_wp2
   go_ret
   exact ⟨rfl,Below.refl _ _⟩
set_option maxHeartbeats 16000000 in
theorem lawRefuses_c (al mr bl ms : List Int) (n m : Int) (ed es : List Ed) (A1 A2 A3 B1 B2 B3 : Option Addr) (c1 c2 c3 d1 d2 d3 : Nat) (kind : Int) (w : World)
 (h1 : IntsAt w A1 al) (h2 : IntsAt w A2 mr) (h3 : EdsAt w A3 ed) (g1 : IntsAt w B1 bl) (g2 : IntsAt w B2 ms) (g3 : EdsAt w B3 es) (k1 : al.length ≤ maxLen) (k2 : mr.length ≤ maxLen) (k3 : ed.length ≤ maxLen) (j1 : bl.length ≤ maxLen) (j2 : ms.length ≤ maxLen) (j3 : es.length ≤ maxLen) (ht : TabW w) :
 Calls Tryz.prog 5 #[Au.val ⟨al,n,mr,ed⟩ ⟨A1,c1,A2,c2,A3,c3⟩,Au.val ⟨bl,m,ms,es⟩ ⟨B1,d1,B2,d2,B3,d3⟩,.int .i64 kind] w (Ret (.bool true) w) := by
 have HA0 : Hid (∀ V,Below w.heap.size w V → IntsAt V A1 al ∧ IntsAt V A2 mr ∧ EdsAt V A3 ed) := fun V hb => ⟨h1.below IntE.stays hb,h2.below IntE.stays hb,h3.below EdE.stays hb⟩
 have HB0 : Hid (∀ V,Below w.heap.size w V → IntsAt V B1 bl ∧ IntsAt V B2 ms ∧ EdsAt V B3 es) := fun V hb => ⟨g1.below IntE.stays hb,g2.below IntE.stays hb,g3.below EdE.stays hb⟩
 have HTAB := Lib.hid ht
 unfold maxLen at k1 k2 k3 j1 j2 j3
 clear h1 h2 h3 g1 g2 g3 ht
 try dsimp only [Au.val] at *
 go_enter Tryz.func5,Tryz.ntmps5
 go_upto_region 1 with fail
 refine wp_world (fun W => Sep w.heap.size w [eBlk (w.heap.size + 1) 31 [.slice B1 bl.length d1,.int .i64 m,.slice B2 ms.length d2,.slice B3 es.length d3],eBlk w.heap.size 31 [.slice A1 al.length c1,.int .i64 n,.slice A2 mr.length c2,.slice A3 ed.length c3]] W) ?_ fun W S => ?_
 · exact ((Sep.here w).alloc' _ [_,_,_,_] rfl rfl).alloc' _ [_,_,_,_] (g := w.heap.size + 1) rfl (by simp)
 have S0 := Lib.hid S
 clear S
 go_wp2_with fail
 refine (known_c W (HTAB.out.below S0.out.below)).mono ?_
 rintro e w1 ⟨rfl,hb⟩
 have S1 := Lib.hid (S0.out.next hb)
 clear hb S0
 have la0 := ckC S1.out 1 rfl 0 rfl
 have la1 := ckC S1.out 1 rfl 1 rfl
 have la2 := ckC S1.out 1 rfl 2 rfl
 have la3 := ckC S1.out 1 rfl 3 rfl
 have FA := Lib.hid (few9_c ⟨al,n,mr,ed⟩ ⟨A1,c1,A2,c2,A3,c3⟩ w1 k1 k2 k3)
 go_wp2_with fail
 refine FA.out.mono ?_
 clear FA
 intro e w2 hs
 rcases hs.no1 with ⟨rfl,FA,hb⟩ | ⟨rfl,FA,hb⟩
 · have S2 := Lib.hid (S1.out.next hb)
   clear hs hb S1 la0 la1 la2 la3
   go_wp2_with fail
   refine (known_c w2 (HTAB.out.below S2.out.below)).mono ?_
   rintro e v9 ⟨rfl,hb⟩
   have S9 := Lib.hid (S2.out.next hb)
   clear hb
   go_wp2_with fail
   go_ret
   exact ⟨rfl,S9.out.below⟩
 have S2 := Lib.hid (S1.out.next hb)
 clear hs hb S1 la0 la1 la2 la3
 have lb0 := ckC S2.out 0 rfl 0 rfl
 have lb1 := ckC S2.out 0 rfl 1 rfl
 have lb2 := ckC S2.out 0 rfl 2 rfl
 have lb3 := ckC S2.out 0 rfl 3 rfl
 have FB := Lib.hid (few9_c ⟨bl,m,ms,es⟩ ⟨B1,d1,B2,d2,B3,d3⟩ w2 j1 j2 j3)
 go_wp2_with fail
 refine FB.out.mono ?_
 clear FB
 intro e w3 hs
 rcases hs.no1 with ⟨rfl,FB,hb⟩ | ⟨rfl,FB,hb⟩
 · have S3 := Lib.hid (S2.out.next hb)
   clear hs hb S2 lb0 lb1 lb2 lb3
   go_wp2_with fail
   refine (known_c w3 (HTAB.out.below S3.out.below)).mono ?_
   rintro e v9 ⟨rfl,hb⟩
   have S9 := Lib.hid (S3.out.next hb)
   clear hb
   go_wp2_with fail
   go_ret
   exact ⟨rfl,S9.out.below⟩
 have S3 := Lib.hid (S2.out.next hb)
 clear hs hb S2 lb0 lb1 lb2 lb3
 have HA : Hid (∀ V,Below w.heap.size w V → Au.At V ⟨al,n,mr,ed⟩ ⟨A1,c1,A2,c2,A3,c3⟩) := fun V hb => ⟨(HA0.out V hb).1,(HA0.out V hb).2.1,(HA0.out V hb).2.2,by have := FA.out.2.1; simp only at this ⊢; omega,by have := FA.out.2.2.1; simp only at this ⊢; omega,by have := FA.out.2.2.2; simp only at this ⊢; omega⟩
 have HB : Hid (∀ V,Below w.heap.size w V → Au.At V ⟨bl,m,ms,es⟩ ⟨B1,d1,B2,d2,B3,d3⟩) := fun V hb => ⟨(HB0.out V hb).1,(HB0.out V hb).2.1,(HB0.out V hb).2.2,by have := FB.out.2.1; simp only at this ⊢; omega,by have := FB.out.2.2.1; simp only at this ⊢; omega,by have := FB.out.2.2.2; simp only at this ⊢; omega⟩
 clear HA0 HB0 FA FB k1 k2 k3 j1 j2 j3
 have la0 := ckC S3.out 1 rfl 0 rfl
 have la1 := ckC S3.out 1 rfl 1 rfl
 have la2 := ckC S3.out 1 rfl 2 rfl
 have la3 := ckC S3.out 1 rfl 3 rfl
 go_wp2_with fail
 refine (CheckX_c ⟨al,n,mr,ed⟩ ⟨A1,c1,A2,c2,A3,c3⟩ w3 (HA.out w3 S3.out.below)).mono ?_
 rintro e w4 ⟨one,rfl,hone,hb⟩
 have HONE := Lib.hid hone
 have S4 := Lib.hid (S3.out.next hb)
 clear hone hb S3 la0 la1 la2 la3
 go_upto_if 59 with fail
 go_cut [8,59,60,61] (fun v8 _ _ _ wx => ∃ two : Int,v8 = .int .i64 two ∧ Hid (one = 0 → ChkErr ⟨bl,m,ms,es⟩ two) ∧ Hid (one ≠ 0 → two = one) ∧ Hid (Sep w.heap.size w [eBlk (w.heap.size + 1) 31 [.slice B1 bl.length d1,.int .i64 m,.slice B2 ms.length d2,.slice B3 es.length d3],eBlk w.heap.size 31 [.slice A1 al.length c1,.int .i64 n,.slice A2 mr.length c2,.slice A3 ed.length c3]] wx))
 case first => as_aux_lemma =>
  by_cases h0 : one = 0
  · have hb1 : (one == 0) = true := by simpa using h0
    have H00 := Lib.hid h0
    clear h0
    have lb0 := ckC S4.out 0 rfl 0 rfl
    have lb1 := ckC S4.out 0 rfl 1 rfl
    have lb2 := ckC S4.out 0 rfl 2 rfl
    have lb3 := ckC S4.out 0 rfl 3 rfl
    go_wp2_with fail
    refine (CheckX_c ⟨bl,m,ms,es⟩ ⟨B1,d1,B2,d2,B3,d3⟩ w4 (HB.out w4 S4.out.below)).mono ?_
    rintro e w5 ⟨two,rfl,htwo,hb⟩
    have HTWO := Lib.hid htwo
    have S5 := Lib.hid (S4.out.next hb)
    clear htwo hb S4 lb0 lb1 lb2 lb3
    go_wp2_with fail
    go_meet
    exact ⟨two,rfl,fun _ => HTWO.out,fun h => absurd H00.out h,S5.out⟩
  · have hb0 : (one == 0) = false := by simpa using h0
    have HN0 := Lib.hid h0
    clear h0
    go_wp2_with fail
    go_meet
    exact ⟨one,rfl,fun h => absurd h HN0.out,fun _ => rfl,S4.out⟩
 case rest => as_aux_lemma =>
  clear S4
  obtain ⟨two,rfl,HTWO,HTW,S4⟩ := hcut
  obtain ⟨wr0,hwr⟩ : ∃ b,b = decide (¬ (kind = 1 ∨ kind = 2)) := ⟨_,rfl⟩
  have HWR := Lib.hid hwr
  clear hwr
  obtain ⟨tw,htw⟩ : ∃ g,g = wc.heap.size := ⟨_,rfl⟩
  have HTZ := Lib.hid htw
  clear htw
  have hk12 : kind = 1 ∨ (kind ≠ 1 ∧ kind = 2) ∨ (kind ≠ 1 ∧ kind ≠ 2) := by omega
  go_upto_region 7 with fail
  go_cut [9] (fun v9 wx => v9 = .pointer (some ⟨tw,0,none⟩) ∧ Hid (Sep w.heap.size w [eBlk tw 4 [.bool wr0],eBlk (w.heap.size + 1) 31 [.slice B1 bl.length d1,.int .i64 m,.slice B2 ms.length d2,.slice B3 es.length d3],eBlk w.heap.size 31 [.slice A1 al.length c1,.int .i64 n,.slice A2 mr.length c2,.slice A3 ed.length c3]] wx))
  case first => as_aux_lemma =>
   rcases hk12 with h | ⟨hn,h⟩ | ⟨hn,hm⟩
   · obtain rfl : wr0 = false := by rw [HWR.out]; simp [*]
     have e1 : (kind != 1) = false := by simpa using h
     clear HWR h
     have S5 : Hid (Sep w.heap.size w [eBlk tw 4 [.bool false],eBlk (w.heap.size + 1) 31 [.slice B1 bl.length d1,.int .i64 m,.slice B2 ms.length d2,.slice B3 es.length d3],eBlk w.heap.size 31 [.slice A1 al.length c1,.int .i64 n,.slice A2 mr.length c2,.slice A3 ed.length c3]] (wc.alloc (.cells #[.bool false] 4))) := S4.out.alloc' _ [_] rfl HTZ.out
     go_wp2_with fail
     go_meet
     refine ⟨by rw [HTZ.out],S5.out⟩
   · obtain rfl : wr0 = false := by rw [HWR.out]; simp [*]
     have e1 : (kind != 1) = true := by simpa using hn
     have e2 : (kind != 2) = false := by simpa using h
     clear HWR hn h
     have S5 : Hid (Sep w.heap.size w [eBlk tw 4 [.bool false],eBlk (w.heap.size + 1) 31 [.slice B1 bl.length d1,.int .i64 m,.slice B2 ms.length d2,.slice B3 es.length d3],eBlk w.heap.size 31 [.slice A1 al.length c1,.int .i64 n,.slice A2 mr.length c2,.slice A3 ed.length c3]] (wc.alloc (.cells #[.bool false] 4))) := S4.out.alloc' _ [_] rfl HTZ.out
     go_wp2_with fail
     go_meet
     refine ⟨by rw [HTZ.out],S5.out⟩
   · obtain rfl : wr0 = true := by rw [HWR.out]; simp [*]
     have e1 : (kind != 1) = true := by simpa using hn
     have e2 : (kind != 2) = true := by simpa using hm
     clear HWR hn hm
     have S5 : Hid (Sep w.heap.size w [eBlk tw 4 [.bool true],eBlk (w.heap.size + 1) 31 [.slice B1 bl.length d1,.int .i64 m,.slice B2 ms.length d2,.slice B3 es.length d3],eBlk w.heap.size 31 [.slice A1 al.length c1,.int .i64 n,.slice A2 mr.length c2,.slice A3 ed.length c3]] (wc.alloc (.cells #[.bool true] 4))) := S4.out.alloc' _ [_] rfl HTZ.out
     go_wp2_with fail
     go_meet
     refine ⟨by rw [HTZ.out],S5.out⟩
  case rest => as_aux_lemma =>
   clear S4 HTZ hk12
   obtain ⟨rfl,S4⟩ := hcut
   go_wp2_with fail
   obtain ⟨E1,hE1⟩ : ∃ e,e = ofV kind two := ⟨_,rfl⟩
   obtain ⟨E2,hE2⟩ : ∃ e,e = ofV kind one := ⟨_,rfl⟩
   have HE1 := Lib.hid hE1
   have HE2 := Lib.hid hE2
   clear hE1 hE2
   have tq := BlkAt.cell (S4.out.get 0 rfl) 0
   simp only [List.getElem?_cons_zero] at tq
   refine (of_c tw wr0 kind two wc tq HWR.out).mono ?_
   rintro e u1 ⟨rfl,hb⟩
   have S4o := Lib.hid (S4.out.next hb)
   rw [← HE1.out]
   clear hb S4 tq
   go_upto_if 73 with fail
   go_cut [73] (fun _ wx => Hid (Sep w.heap.size w [eBlk tw 4 [.bool wr0],eBlk (w.heap.size + 1) 31 [.slice B1 bl.length d1,.int .i64 m,.slice B2 ms.length d2,.slice B3 es.length d3],eBlk w.heap.size 31 [.slice A1 al.length c1,.int .i64 n,.slice A2 mr.length c2,.slice A3 ed.length c3]] wx))
   case first => as_aux_lemma =>
    by_cases h0 : E1 = 0
    · have hb1 : (E1 == 0) = true := by simpa using h0
      clear h0
      go_wp2_with fail
      go_meet
      exact S4o.out
    · have hb0 : (E1 == 0) = false := by simpa using h0
      have HN0 := Lib.hid h0
      clear h0
      have hbE : (E1 == E1) = true := by simp
      have la0 := ckC S4o.out 2 rfl 0 rfl
      have la1 := ckC S4o.out 2 rfl 1 rfl
      have la2 := ckC S4o.out 2 rfl 2 rfl
      have la3 := ckC S4o.out 2 rfl 3 rfl
      have lb0 := ckC S4o.out 1 rfl 0 rfl
      have lb1 := ckC S4o.out 1 rfl 1 rfl
      have lb2 := ckC S4o.out 1 rfl 2 rfl
      have lb3 := ckC S4o.out 1 rfl 3 rfl
      go_wp2_with fail
      refine (includedX_c ⟨al,n,mr,ed⟩ ⟨A1,c1,A2,c2,A3,c3⟩ ⟨bl,m,ms,es⟩ ⟨B1,d1,B2,d2,B3,d3⟩ kind u1 (HA.out u1 S4o.out.below) (HB.out u1 S4o.out.below) (ofV.bad2 HONE.out HTWO.out HTW.out HE1.out HN0.out)).mono ?_
      rintro e p0 ⟨r,rfl,hr0,hr,hb⟩
      obtain rfl : E1 = r := (HE1.out).trans (hr.two HONE.out HTWO.out HTW.out).symm
      have PS0 := Lib.hid (S4o.out.next hb)
      clear hb hr0 hr S4o la0 la1 la2 la3 lb0 lb1 lb2 lb3
      have la0 := ckC PS0.out 2 rfl 0 rfl
      have la1 := ckC PS0.out 2 rfl 1 rfl
      have la2 := ckC PS0.out 2 rfl 2 rfl
      have la3 := ckC PS0.out 2 rfl 3 rfl
      have lb0 := ckC PS0.out 1 rfl 0 rfl
      have lb1 := ckC PS0.out 1 rfl 1 rfl
      have lb2 := ckC PS0.out 1 rfl 2 rfl
      have lb3 := ckC PS0.out 1 rfl 3 rfl
      go_wp2_with fail
      refine (equalX_c ⟨al,n,mr,ed⟩ ⟨A1,c1,A2,c2,A3,c3⟩ ⟨bl,m,ms,es⟩ ⟨B1,d1,B2,d2,B3,d3⟩ kind p0 (HA.out p0 PS0.out.below) (HB.out p0 PS0.out.below) (ofV.bad2 HONE.out HTWO.out HTW.out HE1.out HN0.out)).mono ?_
      rintro e p1 ⟨r,rfl,hr0,hr,hb⟩
      obtain rfl : E1 = r := (HE1.out).trans (hr.two HONE.out HTWO.out HTW.out).symm
      have PS1 := Lib.hid (PS0.out.next hb)
      clear hb hr0 hr PS0 la0 la1 la2 la3 lb0 lb1 lb2 lb3
      go_wp2_with fail
      go_meet
      exact PS1.out
   case rest => as_aux_lemma =>
    clear S4o
    have S5 : Hid (Sep w.heap.size w [eBlk tw 4 [.bool wr0],eBlk (w.heap.size + 1) 31 [.slice B1 bl.length d1,.int .i64 m,.slice B2 ms.length d2,.slice B3 es.length d3],eBlk w.heap.size 31 [.slice A1 al.length c1,.int .i64 n,.slice A2 mr.length c2,.slice A3 ed.length c3]] wc) := hcut
    clear hcut
    go_wp2_with fail
    have tq := BlkAt.cell (S5.out.get 0 rfl) 0
    simp only [List.getElem?_cons_zero] at tq
    refine (of_c tw wr0 kind one wc tq HWR.out).mono ?_
    rintro e u2 ⟨rfl,hb⟩
    have S5o := Lib.hid (S5.out.next hb)
    rw [← HE2.out]
    clear hb S5 tq
    go_upto_if 116 with fail
    go_cut [116] (fun _ wx => Hid (Sep w.heap.size w [eBlk tw 4 [.bool wr0],eBlk (w.heap.size + 1) 31 [.slice B1 bl.length d1,.int .i64 m,.slice B2 ms.length d2,.slice B3 es.length d3],eBlk w.heap.size 31 [.slice A1 al.length c1,.int .i64 n,.slice A2 mr.length c2,.slice A3 ed.length c3]] wx))
    case first => as_aux_lemma =>
     by_cases h0 : E2 = 0
     · have hb1 : (E2 == 0) = true := by simpa using h0
       clear h0
       go_wp2_with fail
       go_meet
       exact S5o.out
     · have hb0 : (E2 == 0) = false := by simpa using h0
       have HN0 := Lib.hid h0
       clear h0
       have hbE : (E2 == E2) = true := by simp
       have la0 := ckC S5o.out 2 rfl 0 rfl
       have la1 := ckC S5o.out 2 rfl 1 rfl
       have la2 := ckC S5o.out 2 rfl 2 rfl
       have la3 := ckC S5o.out 2 rfl 3 rfl
       go_wp2_with fail
       refine (emptyX_c ⟨al,n,mr,ed⟩ ⟨A1,c1,A2,c2,A3,c3⟩ kind u2 (HA.out u2 S5o.out.below) (ofV.bad1 HONE.out HE2.out HN0.out)).mono ?_
       rintro e q0 ⟨r,rfl,hr0,hr,hb⟩
       obtain rfl : E2 = r := (HE2.out).trans (hr.one HONE.out).symm
       have QS0 := Lib.hid (S5o.out.next hb)
       clear hb hr0 hr S5o la0 la1 la2 la3
       have la0 := ckC QS0.out 2 rfl 0 rfl
       have la1 := ckC QS0.out 2 rfl 1 rfl
       have la2 := ckC QS0.out 2 rfl 2 rfl
       have la3 := ckC QS0.out 2 rfl 3 rfl
       go_wp2_with fail
       refine (countX_c ⟨al,n,mr,ed⟩ ⟨A1,c1,A2,c2,A3,c3⟩ kind 1 q0 (HA.out q0 QS0.out.below) (ofV.bad1 HONE.out HE2.out HN0.out)).mono ?_
       rintro e q1 ⟨r,rfl,hr0,hr,hb⟩
       obtain rfl : E2 = r := (HE2.out).trans (hr.one HONE.out).symm
       have QS1 := Lib.hid (QS0.out.next hb)
       clear hb hr0 hr QS0 la0 la1 la2 la3
       have la0 := ckC QS1.out 2 rfl 0 rfl
       have la1 := ckC QS1.out 2 rfl 1 rfl
       have la2 := ckC QS1.out 2 rfl 2 rfl
       have la3 := ckC QS1.out 2 rfl 3 rfl
       go_wp2_with fail
       refine (leastX_c ⟨al,n,mr,ed⟩ ⟨A1,c1,A2,c2,A3,c3⟩ kind q1 (HA.out q1 QS1.out.below) (ofV.bad1 HONE.out HE2.out HN0.out)).mono ?_
       rintro e q2 ⟨r,rfl,hr0,hr,hb⟩
       obtain rfl : E2 = r := (HE2.out).trans (hr.one HONE.out).symm
       have QS2 := Lib.hid (QS1.out.next hb)
       clear hb hr0 hr QS1 la0 la1 la2 la3
       go_wp2_with fail
       go_meet
       exact QS2.out
    case rest => as_aux_lemma =>
     clear S5o
     have S6 : Hid (Sep w.heap.size w [eBlk tw 4 [.bool wr0],eBlk (w.heap.size + 1) 31 [.slice B1 bl.length d1,.int .i64 m,.slice B2 ms.length d2,.slice B3 es.length d3],eBlk w.heap.size 31 [.slice A1 al.length c1,.int .i64 n,.slice A2 mr.length c2,.slice A3 ed.length c3]] wc) := hcut
     clear hcut
     obtain ⟨tz,htz⟩ : ∃ g,g = wc.heap.size := ⟨_,rfl⟩
     go_upto_region 23 with fail
     rw [← htz]
     refine wp_world (fun V => Sep w.heap.size w [eBlk tz 31 [.slice none 0 0,.int .i64 0,.slice none 0 0,.slice none 0 0],eBlk tw 4 [.bool wr0],eBlk (w.heap.size + 1) 31 [.slice B1 bl.length d1,.int .i64 m,.slice B2 ms.length d2,.slice B3 es.length d3],eBlk w.heap.size 31 [.slice A1 al.length c1,.int .i64 n,.slice A2 mr.length c2,.slice A3 ed.length c3]] V) (S6.out.alloc' _ [_,_,_,_] rfl htz) fun W7 S' => ?_
     have S7 := Lib.hid S'
     clear S' S6 htz
     go_upto_if 165 with fail
     go_cut [165] (fun _ wx => Hid (Sep w.heap.size w [eBlk tz 31 [.slice none 0 0,.int .i64 0,.slice none 0 0,.slice none 0 0],eBlk tw 4 [.bool wr0],eBlk (w.heap.size + 1) 31 [.slice B1 bl.length d1,.int .i64 m,.slice B2 ms.length d2,.slice B3 es.length d3],eBlk w.heap.size 31 [.slice A1 al.length c1,.int .i64 n,.slice A2 mr.length c2,.slice A3 ed.length c3]] wx))
     case first => as_aux_lemma =>
      by_cases h0 : two = 0
      · have hb1 : (two == 0) = true := by simpa using h0
        clear h0
        go_wp2_with fail
        go_meet
        exact S7.out
      · have hb0 : (two == 0) = false := by simpa using h0
        have HN0 := Lib.hid h0
        clear h0
        have hbE : (two == two) = true := by simp
        have la0 := ckC S7.out 3 rfl 0 rfl
        have la1 := ckC S7.out 3 rfl 1 rfl
        have la2 := ckC S7.out 3 rfl 2 rfl
        have la3 := ckC S7.out 3 rfl 3 rfl
        have lb0 := ckC S7.out 2 rfl 0 rfl
        have lb1 := ckC S7.out 2 rfl 1 rfl
        have lb2 := ckC S7.out 2 rfl 2 rfl
        have lb3 := ckC S7.out 2 rfl 3 rfl
        go_wp2_with fail
        refine (intersectX_c ⟨al,n,mr,ed⟩ ⟨A1,c1,A2,c2,A3,c3⟩ ⟨bl,m,ms,es⟩ ⟨B1,d1,B2,d2,B3,d3⟩ W7 (HA.out W7 S7.out.below) (HB.out W7 S7.out.below) (ofV.bad3 HONE.out HTWO.out HTW.out HN0.out)).mono ?_
        rintro e r0 ⟨r,rfl,hr0,hr,hb⟩
        obtain rfl : two = r := (ofV.eq2 hr HONE.out HTWO.out HTW.out).symm
        have R0 := Lib.hid (S7.out.next hb)
        clear hb hr0 hr S7 la0 la1 la2 la3 lb0 lb1 lb2 lb3
        obtain ⟨tr0,htr⟩ : ∃ g,g = r0.heap.size := ⟨_,rfl⟩
        go_upto_region 25 with fail
        rw [← htr]
        refine wp_world (fun V => Sep w.heap.size w [eBlk tr0 31 [.slice none 0 0,.int .i64 0,.slice none 0 0,.slice none 0 0],eBlk tz 31 [.slice none 0 0,.int .i64 0,.slice none 0 0,.slice none 0 0],eBlk tw 4 [.bool wr0],eBlk (w.heap.size + 1) 31 [.slice B1 bl.length d1,.int .i64 m,.slice B2 ms.length d2,.slice B3 es.length d3],eBlk w.heap.size 31 [.slice A1 al.length c1,.int .i64 n,.slice A2 mr.length c2,.slice A3 ed.length c3]] V) (R0.out.alloc' _ [_,_,_,_] rfl htr) fun RW0 S' => ?_
        have RR0 := Lib.hid S'
        clear S' R0 htr
        have la0 := ckC RR0.out 4 rfl 0 rfl
        have la1 := ckC RR0.out 4 rfl 1 rfl
        have la2 := ckC RR0.out 4 rfl 2 rfl
        have la3 := ckC RR0.out 4 rfl 3 rfl
        have lb0 := ckC RR0.out 3 rfl 0 rfl
        have lb1 := ckC RR0.out 3 rfl 1 rfl
        have lb2 := ckC RR0.out 3 rfl 2 rfl
        have lb3 := ckC RR0.out 3 rfl 3 rfl
        go_wp2_with fail
        refine (unionX_c ⟨al,n,mr,ed⟩ ⟨A1,c1,A2,c2,A3,c3⟩ ⟨bl,m,ms,es⟩ ⟨B1,d1,B2,d2,B3,d3⟩ RW0 (HA.out RW0 RR0.out.below) (HB.out RW0 RR0.out.below) (ofV.bad3 HONE.out HTWO.out HTW.out HN0.out)).mono ?_
        rintro e r1 ⟨r,rfl,hr0,hr,hb⟩
        obtain rfl : two = r := (ofV.eq2 hr HONE.out HTWO.out HTW.out).symm
        have R1 := Lib.hid (RR0.out.next hb)
        clear hb hr0 hr RR0 la0 la1 la2 la3 lb0 lb1 lb2 lb3
        obtain ⟨tr1,htr⟩ : ∃ g,g = r1.heap.size := ⟨_,rfl⟩
        go_upto_region 26 with fail
        rw [← htr]
        refine wp_world (fun V => Sep w.heap.size w [eBlk tr1 31 [.slice none 0 0,.int .i64 0,.slice none 0 0,.slice none 0 0],eBlk tr0 31 [.slice none 0 0,.int .i64 0,.slice none 0 0,.slice none 0 0],eBlk tz 31 [.slice none 0 0,.int .i64 0,.slice none 0 0,.slice none 0 0],eBlk tw 4 [.bool wr0],eBlk (w.heap.size + 1) 31 [.slice B1 bl.length d1,.int .i64 m,.slice B2 ms.length d2,.slice B3 es.length d3],eBlk w.heap.size 31 [.slice A1 al.length c1,.int .i64 n,.slice A2 mr.length c2,.slice A3 ed.length c3]] V) (R1.out.alloc' _ [_,_,_,_] rfl htr) fun RW1 S' => ?_
        have RR1 := Lib.hid S'
        clear S' R1 htr
        have la0 := ckC RR1.out 5 rfl 0 rfl
        have la1 := ckC RR1.out 5 rfl 1 rfl
        have la2 := ckC RR1.out 5 rfl 2 rfl
        have la3 := ckC RR1.out 5 rfl 3 rfl
        have lb0 := ckC RR1.out 4 rfl 0 rfl
        have lb1 := ckC RR1.out 4 rfl 1 rfl
        have lb2 := ckC RR1.out 4 rfl 2 rfl
        have lb3 := ckC RR1.out 4 rfl 3 rfl
        go_wp2_with fail
        refine (differenceX_c ⟨al,n,mr,ed⟩ ⟨A1,c1,A2,c2,A3,c3⟩ ⟨bl,m,ms,es⟩ ⟨B1,d1,B2,d2,B3,d3⟩ RW1 (HA.out RW1 RR1.out.below) (HB.out RW1 RR1.out.below) (ofV.bad3 HONE.out HTWO.out HTW.out HN0.out)).mono ?_
        rintro e r2 ⟨r,rfl,hr0,hr,hb⟩
        obtain rfl : two = r := (ofV.eq2 hr HONE.out HTWO.out HTW.out).symm
        have R2 := Lib.hid (RR1.out.next hb)
        clear hb hr0 hr RR1 la0 la1 la2 la3 lb0 lb1 lb2 lb3
        obtain ⟨tr2,htr⟩ : ∃ g,g = r2.heap.size := ⟨_,rfl⟩
        go_upto_region 27 with fail
        rw [← htr]
        refine wp_world (fun V => Sep w.heap.size w [eBlk tr2 31 [.slice none 0 0,.int .i64 0,.slice none 0 0,.slice none 0 0],eBlk tr1 31 [.slice none 0 0,.int .i64 0,.slice none 0 0,.slice none 0 0],eBlk tr0 31 [.slice none 0 0,.int .i64 0,.slice none 0 0,.slice none 0 0],eBlk tz 31 [.slice none 0 0,.int .i64 0,.slice none 0 0,.slice none 0 0],eBlk tw 4 [.bool wr0],eBlk (w.heap.size + 1) 31 [.slice B1 bl.length d1,.int .i64 m,.slice B2 ms.length d2,.slice B3 es.length d3],eBlk w.heap.size 31 [.slice A1 al.length c1,.int .i64 n,.slice A2 mr.length c2,.slice A3 ed.length c3]] V) (R2.out.alloc' _ [_,_,_,_] rfl htr) fun RW2 S' => ?_
        have RR2 := Lib.hid S'
        clear S' R2 htr
        have la0 := ckC RR2.out 6 rfl 0 rfl
        have la1 := ckC RR2.out 6 rfl 1 rfl
        have la2 := ckC RR2.out 6 rfl 2 rfl
        have la3 := ckC RR2.out 6 rfl 3 rfl
        have lb0 := ckC RR2.out 5 rfl 0 rfl
        have lb1 := ckC RR2.out 5 rfl 1 rfl
        have lb2 := ckC RR2.out 5 rfl 2 rfl
        have lb3 := ckC RR2.out 5 rfl 3 rfl
        go_wp2_with fail
        refine (concatX_c ⟨al,n,mr,ed⟩ ⟨A1,c1,A2,c2,A3,c3⟩ ⟨bl,m,ms,es⟩ ⟨B1,d1,B2,d2,B3,d3⟩ RW2 (HA.out RW2 RR2.out.below) (HB.out RW2 RR2.out.below) (ofV.bad3 HONE.out HTWO.out HTW.out HN0.out)).mono ?_
        rintro e r3 ⟨r,rfl,hr0,hr,hb⟩
        obtain rfl : two = r := (ofV.eq2 hr HONE.out HTWO.out HTW.out).symm
        have R3 := Lib.hid (RR2.out.next hb)
        clear hb hr0 hr RR2 la0 la1 la2 la3 lb0 lb1 lb2 lb3
        obtain ⟨tr3,htr⟩ : ∃ g,g = r3.heap.size := ⟨_,rfl⟩
        go_upto_region 28 with fail
        rw [← htr]
        refine wp_world (fun V => Sep w.heap.size w [eBlk tr3 31 [.slice none 0 0,.int .i64 0,.slice none 0 0,.slice none 0 0],eBlk tr2 31 [.slice none 0 0,.int .i64 0,.slice none 0 0,.slice none 0 0],eBlk tr1 31 [.slice none 0 0,.int .i64 0,.slice none 0 0,.slice none 0 0],eBlk tr0 31 [.slice none 0 0,.int .i64 0,.slice none 0 0,.slice none 0 0],eBlk tz 31 [.slice none 0 0,.int .i64 0,.slice none 0 0,.slice none 0 0],eBlk tw 4 [.bool wr0],eBlk (w.heap.size + 1) 31 [.slice B1 bl.length d1,.int .i64 m,.slice B2 ms.length d2,.slice B3 es.length d3],eBlk w.heap.size 31 [.slice A1 al.length c1,.int .i64 n,.slice A2 mr.length c2,.slice A3 ed.length c3]] V) (R3.out.alloc' _ [_,_,_,_] rfl htr) fun RW3 S' => ?_
        have RR3 := Lib.hid S'
        clear S' R3 htr
        have lx0 := ckC RR3.out 3 rfl 0 rfl
        have lx1 := ckC RR3.out 3 rfl 1 rfl
        have lx2 := ckC RR3.out 3 rfl 2 rfl
        have lx3 := ckC RR3.out 3 rfl 3 rfl
        have lz0 := ckC RR3.out 4 rfl 0 rfl
        have lz1 := ckC RR3.out 4 rfl 1 rfl
        have lz2 := ckC RR3.out 4 rfl 2 rfl
        have lz3 := ckC RR3.out 4 rfl 3 rfl
        go_wp2_with fail
        refine (same3_c zAu ⟨none,0,none,0,none,0⟩ ⟨none,0,none,0,none,0⟩ RW3 (zeroAt _) (zeroAt _)).mono ?_
        rintro e y0 ⟨rfl,hb⟩
        have Y0 := Lib.hid (RR3.out.next hb)
        clear hb RR3 lx0 lx1 lx2 lx3 lz0 lz1 lz2 lz3
        have lx0 := ckC Y0.out 2 rfl 0 rfl
        have lx1 := ckC Y0.out 2 rfl 1 rfl
        have lx2 := ckC Y0.out 2 rfl 2 rfl
        have lx3 := ckC Y0.out 2 rfl 3 rfl
        have lz0 := ckC Y0.out 4 rfl 0 rfl
        have lz1 := ckC Y0.out 4 rfl 1 rfl
        have lz2 := ckC Y0.out 4 rfl 2 rfl
        have lz3 := ckC Y0.out 4 rfl 3 rfl
        go_wp2_with fail
        refine (same3_c zAu ⟨none,0,none,0,none,0⟩ ⟨none,0,none,0,none,0⟩ y0 (zeroAt _) (zeroAt _)).mono ?_
        rintro e y1 ⟨rfl,hb⟩
        have Y1 := Lib.hid (Y0.out.next hb)
        clear hb Y0 lx0 lx1 lx2 lx3 lz0 lz1 lz2 lz3
        have lx0 := ckC Y1.out 1 rfl 0 rfl
        have lx1 := ckC Y1.out 1 rfl 1 rfl
        have lx2 := ckC Y1.out 1 rfl 2 rfl
        have lx3 := ckC Y1.out 1 rfl 3 rfl
        have lz0 := ckC Y1.out 4 rfl 0 rfl
        have lz1 := ckC Y1.out 4 rfl 1 rfl
        have lz2 := ckC Y1.out 4 rfl 2 rfl
        have lz3 := ckC Y1.out 4 rfl 3 rfl
        go_wp2_with fail
        refine (same3_c zAu ⟨none,0,none,0,none,0⟩ ⟨none,0,none,0,none,0⟩ y1 (zeroAt _) (zeroAt _)).mono ?_
        rintro e y2 ⟨rfl,hb⟩
        have Y2 := Lib.hid (Y1.out.next hb)
        clear hb Y1 lx0 lx1 lx2 lx3 lz0 lz1 lz2 lz3
        have lx0 := ckC Y2.out 0 rfl 0 rfl
        have lx1 := ckC Y2.out 0 rfl 1 rfl
        have lx2 := ckC Y2.out 0 rfl 2 rfl
        have lx3 := ckC Y2.out 0 rfl 3 rfl
        have lz0 := ckC Y2.out 4 rfl 0 rfl
        have lz1 := ckC Y2.out 4 rfl 1 rfl
        have lz2 := ckC Y2.out 4 rfl 2 rfl
        have lz3 := ckC Y2.out 4 rfl 3 rfl
        go_wp2_with fail
        refine (same3_c zAu ⟨none,0,none,0,none,0⟩ ⟨none,0,none,0,none,0⟩ y2 (zeroAt _) (zeroAt _)).mono ?_
        rintro e y3 ⟨rfl,hb⟩
        have Y3 := Lib.hid (Y2.out.next hb)
        clear hb Y2 lx0 lx1 lx2 lx3 lz0 lz1 lz2 lz3
        go_wp2_with fail
        go_meet
        exact Y3.out.pick [4,5,6,7] (by decide)
     case rest => as_aux_lemma =>
      clear S7
      have S8 : Hid (Sep w.heap.size w [eBlk tz 31 [.slice none 0 0,.int .i64 0,.slice none 0 0,.slice none 0 0],eBlk tw 4 [.bool wr0],eBlk (w.heap.size + 1) 31 [.slice B1 bl.length d1,.int .i64 m,.slice B2 ms.length d2,.slice B3 es.length d3],eBlk w.heap.size 31 [.slice A1 al.length c1,.int .i64 n,.slice A2 mr.length c2,.slice A3 ed.length c3]] wc) := hcut
      clear hcut
      by_cases h0 : one = 0
      · have hb1 : (one == 0) = true := by simpa using h0
        clear h0
        go_wp2_with fail
        go_ret
        exact ⟨rfl,S8.out.below⟩
      have hb0 : (one == 0) = false := by simpa using h0
      have HN0 := Lib.hid h0
      clear h0
      have hbE : (one == one) = true := by simp
      have la0 := ckC S8.out 3 rfl 0 rfl
      have la1 := ckC S8.out 3 rfl 1 rfl
      have la2 := ckC S8.out 3 rfl 2 rfl
      have la3 := ckC S8.out 3 rfl 3 rfl
      go_wp2_with fail
      refine (complementX_c ⟨al,n,mr,ed⟩ ⟨A1,c1,A2,c2,A3,c3⟩ wc (HA.out wc S8.out.below) (fun h => HN0.out (HONE.out.zero.2 h))).mono ?_
      rintro e r0 ⟨r,rfl,hr0,hr,hb⟩
      obtain rfl : one = r := (HONE.out.uniq hr)
      have R0 := Lib.hid (S8.out.next hb)
      clear hb hr0 hr S8 la0 la1 la2 la3
      obtain ⟨tr0,htr⟩ : ∃ g,g = r0.heap.size := ⟨_,rfl⟩
      go_upto_region 33 with fail
      rw [← htr]
      refine wp_world (fun V => Sep w.heap.size w [eBlk tr0 31 [.slice none 0 0,.int .i64 0,.slice none 0 0,.slice none 0 0],eBlk tz 31 [.slice none 0 0,.int .i64 0,.slice none 0 0,.slice none 0 0],eBlk tw 4 [.bool wr0],eBlk (w.heap.size + 1) 31 [.slice B1 bl.length d1,.int .i64 m,.slice B2 ms.length d2,.slice B3 es.length d3],eBlk w.heap.size 31 [.slice A1 al.length c1,.int .i64 n,.slice A2 mr.length c2,.slice A3 ed.length c3]] V) (R0.out.alloc' _ [_,_,_,_] rfl htr) fun RW0 S' => ?_
      have RR0 := Lib.hid S'
      clear S' R0 htr
      have la0 := ckC RR0.out 4 rfl 0 rfl
      have la1 := ckC RR0.out 4 rfl 1 rfl
      have la2 := ckC RR0.out 4 rfl 2 rfl
      have la3 := ckC RR0.out 4 rfl 3 rfl
      go_wp2_with fail
      refine (closureX_c ⟨al,n,mr,ed⟩ ⟨A1,c1,A2,c2,A3,c3⟩ RW0 (HA.out RW0 RR0.out.below) (fun h => HN0.out (HONE.out.zero.2 h))).mono ?_
      rintro e r1 ⟨r,rfl,hr0,hr,hb⟩
      obtain rfl : one = r := (HONE.out.uniq hr)
      have R1 := Lib.hid (RR0.out.next hb)
      clear hb hr0 hr RR0 la0 la1 la2 la3
      obtain ⟨tr1,htr⟩ : ∃ g,g = r1.heap.size := ⟨_,rfl⟩
      go_upto_region 34 with fail
      rw [← htr]
      refine wp_world (fun V => Sep w.heap.size w [eBlk tr1 31 [.slice none 0 0,.int .i64 0,.slice none 0 0,.slice none 0 0],eBlk tr0 31 [.slice none 0 0,.int .i64 0,.slice none 0 0,.slice none 0 0],eBlk tz 31 [.slice none 0 0,.int .i64 0,.slice none 0 0,.slice none 0 0],eBlk tw 4 [.bool wr0],eBlk (w.heap.size + 1) 31 [.slice B1 bl.length d1,.int .i64 m,.slice B2 ms.length d2,.slice B3 es.length d3],eBlk w.heap.size 31 [.slice A1 al.length c1,.int .i64 n,.slice A2 mr.length c2,.slice A3 ed.length c3]] V) (R1.out.alloc' _ [_,_,_,_] rfl htr) fun RW1 S' => ?_
      have RR1 := Lib.hid S'
      clear S' R1 htr
      have la0 := ckC RR1.out 5 rfl 0 rfl
      have la1 := ckC RR1.out 5 rfl 1 rfl
      have la2 := ckC RR1.out 5 rfl 2 rfl
      have la3 := ckC RR1.out 5 rfl 3 rfl
      go_wp2_with fail
      refine (isClosedX_c ⟨al,n,mr,ed⟩ ⟨A1,c1,A2,c2,A3,c3⟩ RW1 (HA.out RW1 RR1.out.below) (fun h => HN0.out (HONE.out.zero.2 h))).mono ?_
      rintro e r2 ⟨r,rfl,hr0,hr,hb⟩
      obtain rfl : one = r := (HONE.out.uniq hr)
      have R2 := Lib.hid (RR1.out.next hb)
      clear hb hr0 hr RR1 la0 la1 la2 la3
      have lx0 := ckC R2.out 1 rfl 0 rfl
      have lx1 := ckC R2.out 1 rfl 1 rfl
      have lx2 := ckC R2.out 1 rfl 2 rfl
      have lx3 := ckC R2.out 1 rfl 3 rfl
      have lz0 := ckC R2.out 2 rfl 0 rfl
      have lz1 := ckC R2.out 2 rfl 1 rfl
      have lz2 := ckC R2.out 2 rfl 2 rfl
      have lz3 := ckC R2.out 2 rfl 3 rfl
      go_wp2_with fail
      refine (same3_c zAu ⟨none,0,none,0,none,0⟩ ⟨none,0,none,0,none,0⟩ r2 (zeroAt _) (zeroAt _)).mono ?_
      rintro e y0 ⟨rfl,hb⟩
      have Y0 := Lib.hid (R2.out.next hb)
      clear hb R2 lx0 lx1 lx2 lx3 lz0 lz1 lz2 lz3
      have lx0 := ckC Y0.out 0 rfl 0 rfl
      have lx1 := ckC Y0.out 0 rfl 1 rfl
      have lx2 := ckC Y0.out 0 rfl 2 rfl
      have lx3 := ckC Y0.out 0 rfl 3 rfl
      have lz0 := ckC Y0.out 2 rfl 0 rfl
      have lz1 := ckC Y0.out 2 rfl 1 rfl
      have lz2 := ckC Y0.out 2 rfl 2 rfl
      have lz3 := ckC Y0.out 2 rfl 3 rfl
      go_wp2_with fail
      refine (same3_c zAu ⟨none,0,none,0,none,0⟩ ⟨none,0,none,0,none,0⟩ y0 (zeroAt _) (zeroAt _)).mono ?_
      rintro e y1 ⟨rfl,hb⟩
      have Y1 := Lib.hid (Y0.out.next hb)
      clear hb Y0 lx0 lx1 lx2 lx3 lz0 lz1 lz2 lz3
      go_wp2_with fail
      go_ret
      exact ⟨rfl,Y1.out.below⟩
section
open Go.ChangeShapes Go.WideShapes Go.ChangeAt Go.RowKit

section
variable {H : Type} {enc : TypeId × Value → H} {P : Program} {w : World} {base : Nat} {spare : Nat → Bool} {held : Bool}

def consec (P : Program) : List Field → Nat → Nat → Bool
 | [],n,m => n == m
 | f :: r,n,m => f.offset == n && consec P r (n + P.cellsOf f.type) m
theorem consec_cut {P : Program} : ∀ (fs : List Field) (n m : Nat) (cs : List Value),consec P fs n m = true → cs.length = m →
 n ≤ m ∧ cs.drop n = (fs.map fun f => (cs.drop f.offset).take (P.cellsOf f.type)).flatten ∧ ∀ f,f ∈ fs → ((cs.drop f.offset).take (P.cellsOf f.type)).length = P.cellsOf f.type := by
 intro fs
 induction fs with
 | nil =>
   intro n m cs h hl
   have : n = m := by simpa [consec] using h
   subst this
   exact ⟨Nat.le_refl _,by simp [hl],fun f hf => by cases hf⟩
 | cons f r ih =>
   intro n m cs h hl
   simp only [consec,Bool.and_eq_true,beq_iff_eq] at h
   obtain ⟨h1,h2⟩ := h
   obtain ⟨g1,g2,g3⟩ := ih _ _ cs h2 hl
   refine ⟨by omega,?_,fun x hx => ?_⟩
   · simp only [List.map_cons,List.flatten_cons]
     rw [← g2,h1,← List.drop_drop,List.take_append_drop]
   · rcases List.mem_cons.1 hx with rfl | hx
     · rw [List.length_take,List.length_drop]; omega
     · exact g3 x hx

theorem st_of {t : TypeId} {fs : List Field} (ht : P.underlying t = some (.struct fs.toArray)) (hc : consec P fs 0 (P.cellsOf t) = true) {fuel : Nat} {cs : List Value} {x : DataW H × List MemPlace}
 (h : DataW.trod enc P w base spare held fuel t cs = some x) :
 ∃ css : List (List Value),cs = css.flatten ∧ css.length = fs.length ∧ ∀ (i : Nat) (f : Field),fs[i]? = some f → ∃ (c : List Value) (y : DataW H × List MemPlace) (n : Nat),css[i]? = some c ∧ c.length = P.cellsOf f.type ∧ DataW.trod enc P w base spare held n f.type c = some y := by
 obtain ⟨xs,n,_,_,hl,hlen,hf⟩ := DataW.trod_struct ht h
 obtain ⟨_,g2,g3⟩ := consec_cut fs 0 _ cs hc hl
 refine ⟨fs.map fun f => (cs.drop f.offset).take (P.cellsOf f.type),by simpa using g2,by simp,fun i f hfi => ?_⟩
 have h1 := hf i f (by simpa using hfi)
 have hi : i < fs.length := (List.getElem?_eq_some_iff.1 hfi).1
 rw [List.getElem?_eq_getElem (by simp at hlen; omega)] at h1
 exact ⟨_,_,n,by rw [List.getElem?_map,hfi]; rfl,g3 f (List.mem_of_getElem? hfi),h1⟩
theorem st3_of {t : TypeId} {f0 f1 f2 : Field} (ht : P.underlying t = some (.struct #[f0,f1,f2])) (hc : consec P [f0,f1,f2] 0 (P.cellsOf t) = true) {fuel : Nat} {cs : List Value} {x : DataW H × List MemPlace}
 (h : DataW.trod enc P w base spare held fuel t cs = some x) :
 ∃ (c0 c1 c2 : List Value) (y0 y1 y2 : DataW H × List MemPlace) (n0 n1 n2 : Nat),cs = c0 ++ (c1 ++ c2) ∧ DataW.trod enc P w base spare held n0 f0.type c0 = some y0 ∧ DataW.trod enc P w base spare held n1 f1.type c1 = some y1 ∧ DataW.trod enc P w base spare held n2 f2.type c2 = some y2 := by
 obtain ⟨css,rfl,hl,hf⟩ := st_of (fs := [f0,f1,f2]) ht hc h
 match css,hl with
 | [c0,c1,c2],_ =>
   obtain ⟨_,y0,n0,e0,_,t0⟩ := hf 0 f0 rfl
   obtain ⟨_,y1,n1,e1,_,t1⟩ := hf 1 f1 rfl
   obtain ⟨_,y2,n2,e2,_,t2⟩ := hf 2 f2 rfl
   cases e0; cases e1; cases e2
   exact ⟨c0,c1,c2,y0,y1,y2,n0,n1,n2,by simp,t0,t1,t2⟩
theorem st4_of {t : TypeId} {f0 f1 f2 f3 : Field} (ht : P.underlying t = some (.struct #[f0,f1,f2,f3])) (hc : consec P [f0,f1,f2,f3] 0 (P.cellsOf t) = true) {fuel : Nat} {cs : List Value} {x : DataW H × List MemPlace}
 (h : DataW.trod enc P w base spare held fuel t cs = some x) :
 ∃ (c0 c1 c2 c3 : List Value) (y0 y1 y2 y3 : DataW H × List MemPlace) (n0 n1 n2 n3 : Nat),cs = c0 ++ (c1 ++ (c2 ++ c3)) ∧ DataW.trod enc P w base spare held n0 f0.type c0 = some y0 ∧ DataW.trod enc P w base spare held n1 f1.type c1 = some y1 ∧ DataW.trod enc P w base spare held n2 f2.type c2 = some y2 ∧ DataW.trod enc P w base spare held n3 f3.type c3 = some y3 := by
 obtain ⟨css,rfl,hl,hf⟩ := st_of (fs := [f0,f1,f2,f3]) ht hc h
 match css,hl with
 | [c0,c1,c2,c3],_ =>
   obtain ⟨_,y0,n0,e0,_,t0⟩ := hf 0 f0 rfl
   obtain ⟨_,y1,n1,e1,_,t1⟩ := hf 1 f1 rfl
   obtain ⟨_,y2,n2,e2,_,t2⟩ := hf 2 f2 rfl
   obtain ⟨_,y3,n3,e3,_,t3⟩ := hf 3 f3 rfl
   cases e0; cases e1; cases e2; cases e3
   exact ⟨c0,c1,c2,c3,y0,y1,y2,y3,n0,n1,n2,n3,by simp,t0,t1,t2,t3⟩

theorem sl_of {α : Type} {E : Reading α} {k : Nat} {t e : TypeId} (ht : P.underlying t = some (.slice e)) (hce : P.cellsOf e = k) (hk : 0 < k)
 (hel : ∀ (n : Nat) (cs : List Value) (x : DataW H × List MemPlace),DataW.trod enc P w base spare held n e cs = some x → ∃ y : α,E w y cs) {fuel : Nat} {cs : List Value} {x : DataW H × List MemPlace}
 (h : DataW.trod enc P w base spare held fuel t cs = some x) : ∃ (A : Option Addr) (c : Nat) (l : List α),cs = [.slice A l.length c] ∧ SlAt E k w A l ∧ l.length ≤ c ∧ c ≤ maxLen := by
 rcases DataW.trod_slice ht h with ⟨rfl,_⟩ | ⟨a,len,cap,elems,rest,n,_,rfl,_,_,hl,hm,hlen,hi,_,_⟩
 · exact ⟨none,0,[],rfl,SlAt.nil,by simp,by simp⟩
 · rw [hce] at hi
   have hx : ∀ i,i < len → ∃ y : α,∃ vs : List Value,vs.length = k ∧ E w y vs ∧ ∀ j v,vs[j]? = some v → w.cell? ((a.add (i * k)).add j) = some v := fun i hil => by
    have h1 := hi i hil
    rw [List.getElem?_eq_getElem (by omega)] at h1
    obtain ⟨cs',hc,hd⟩ := Option.bind_eq_some_iff.1 h1
    obtain ⟨_,hcl,hat⟩ := World.cells?_some hc
    obtain ⟨y,hy⟩ := hel n cs' _ hd
    refine ⟨y,cs',hcl,hy,fun j v hj => ?_⟩
    have hjk : j < k := by have := (List.getElem?_eq_some_iff.1 hj).1; omega
    rw [hat j hjk,hj]
   let f : Fin len → α := fun i => Classical.choose (hx i.1 i.2)
   have hf : ∀ i : Fin len,∃ vs : List Value,vs.length = k ∧ E w (f i) vs ∧ ∀ j v,vs[j]? = some v → w.cell? ((a.add (i.1 * k)).add j) = some v := fun i => Classical.choose_spec (hx i.1 i.2)
   refine ⟨some a,cap,List.ofFn f,by simp,fun hne => ?_,by simpa using hl,hm⟩
   have h0 : 0 < len := by
    rcases Nat.eq_zero_or_pos len with e | e
    · subst e; simp at hne
    · exact e
   obtain ⟨vs,hvl,_,hv⟩ := hf ⟨0,h0⟩
   obtain ⟨u,hu⟩ : ∃ u,vs[0]? = some u := ⟨_,List.getElem?_eq_getElem (by omega)⟩
   obtain ⟨b,off,spot⟩ := a
   have hc0 := hv 0 u hu
   have hspot : spot = none := by simpa [Addr.add] using World.cell?_spot hc0
   subst hspot
   refine ⟨b,off,rfl,?_,fun i x hxx => ?_⟩
   · have := World.block_lt_of_cell? w _ hc0
     simpa [Addr.add] using this
   · obtain ⟨hil,rfl⟩ := List.getElem?_eq_some_iff.1 hxx
     have hil' : i < len := by simpa using hil
     obtain ⟨vs,g1,g2,g3⟩ := hf ⟨i,hil'⟩
     refine ⟨vs,g1,by simpa using g2,fun j v hj => ?_⟩
     have := g3 j v hj
     simpa [Addr.add_mid,Nat.add_assoc] using this
theorem int_of {t : TypeId} (he : P.underlying t = some (.int .i64)) {fuel : Nat} {cs : List Value} {x : DataW H × List MemPlace} (h : DataW.trod enc P w base spare held fuel t cs = some x) : ∃ n : Int,cs = [.int .i64 n] := by
 obtain ⟨n,hn,_,_⟩ := DataW.trod_int he h
 exact ⟨n,hn⟩
theorem i64s_of {t e : TypeId} (ht : P.underlying t = some (.slice e)) (he : P.underlying e = some (.int .i64)) (hce : P.cellsOf e = 1) {fuel : Nat} {cs : List Value} {x : DataW H × List MemPlace}
 (h : DataW.trod enc P w base spare held fuel t cs = some x) : ∃ (A : Option Addr) (c : Nat) (l : List Int),cs = [.slice A l.length c] ∧ IntsAt w A l ∧ l.length ≤ c ∧ c ≤ maxLen :=
 sl_of (E := IntE) ht hce (by decide) (fun n cs x h => int_of he h) h
end
end
section
open Go.ChangeShapes Go.WideShapes Go.ChangeAt Go.RowKit

section
variable {H : Type} {enc : TypeId × Value → H} {w : World} {base : Nat} {spare : Nat → Bool} {held : Bool}
theorem ints_of_ {fuel : Nat} {cs : List Value} {x : DataW H × List MemPlace} (h : DataW.trod enc Tryz.prog w base spare held fuel 28 cs = some x) : ∃ (A : Option Addr) (c : Nat) (l : List Int),cs = [.slice A l.length c] ∧ IntsAt w A l ∧ l.length ≤ c ∧ c ≤ maxLen :=
 i64s_of Tryz.underlying28 Tryz.underlying3 (by kernel_rfl) h
theorem ed_of {fuel : Nat} {cs : List Value} {x : DataW H × List MemPlace} (h : DataW.trod enc Tryz.prog w base spare held fuel 67 cs = some x) : ∃ y : Ed,EdE w y cs := by
 obtain ⟨c0,c1,c2,_,_,_,_,_,_,rfl,h0,h1,h2⟩ := st3_of Tryz.underlying67 (by kernel_rfl) h
 obtain ⟨a,rfl⟩ := int_of Tryz.underlying3 h0
 obtain ⟨b,rfl⟩ := int_of Tryz.underlying3 h1
 obtain ⟨c,rfl⟩ := int_of Tryz.underlying3 h2
 exact ⟨⟨a,b,c⟩,rfl⟩
theorem eds_of {fuel : Nat} {cs : List Value} {x : DataW H × List MemPlace} (h : DataW.trod enc Tryz.prog w base spare held fuel 29 cs = some x) : ∃ (A : Option Addr) (c : Nat) (l : List Ed),cs = [.slice A l.length c] ∧ EdsAt w A l ∧ l.length ≤ c ∧ c ≤ maxLen :=
 sl_of (E := EdE) Tryz.underlying29 (by kernel_rfl) (by decide) (fun n cs x h => ed_of h) h
structure AuIn (w : World) (a : Au) (p : AuP) : Prop where
 h1 : IntsAt w p.A1 a.al
 h2 : IntsAt w p.A2 a.mr
 h3 : EdsAt w p.A3 a.ed
 l1 : a.al.length ≤ p.c1
 l2 : a.mr.length ≤ p.c2
 l3 : a.ed.length ≤ p.c3
 m1 : p.c1 ≤ maxLen
 m2 : p.c2 ≤ maxLen
 m3 : p.c3 ≤ maxLen
theorem au_of {fuel : Nat} {cs : List Value} {x : DataW H × List MemPlace} (h : DataW.trod enc Tryz.prog w base spare held fuel 31 cs = some x) :
 ∃ (a : Au) (p : AuP),cs = [.slice p.A1 a.al.length p.c1,.int .i64 a.n,.slice p.A2 a.mr.length p.c2,.slice p.A3 a.ed.length p.c3] ∧ AuIn w a p := by
 obtain ⟨c0,c1,c2,c3,_,_,_,_,_,_,_,_,rfl,h0,h1,h2,h3⟩ := st4_of Tryz.underlying31 (by kernel_rfl) h
 obtain ⟨A1,d1,l1,rfl,i1,m1,k1⟩ := ints_of_ h0
 obtain ⟨n,rfl⟩ := int_of Tryz.underlying3 h1
 obtain ⟨A2,d2,l2,rfl,i2,m2,k2⟩ := ints_of_ h2
 obtain ⟨A3,d3,l3,rfl,i3,m3,k3⟩ := eds_of h3
 exact ⟨⟨l1,n,l2,l3⟩,⟨A1,d1,A2,d2,A3,d3⟩,rfl,i1,i2,i3,m1,m2,m3,k1,k2,k3⟩
end
theorem cells_of {H : Type} {enc : TypeId × Value → H} {P : Program} {w : World} {base : Nat} {spare : Nat → Bool} {held : Bool} {t : TypeId} {fs : Array Field} {r : Reach} {b0 : Nat} {v : Value} {d : DataW H} {p : List MemPlace} (ht : P.underlying t = some (.struct fs)) (hv : Value.okWide P w r b0 t v) (h : DataW.Trod enc P w base spare held t v d p) :
 ∃ (cs : List Value) (fuel : Nat),v = .agg cs.toArray ∧ DataW.trod enc P w base spare held fuel t cs = some (d,p) := by
 obtain ⟨⟨cs⟩,rfl,hsz⟩ := okWide_struct ht hv
 obtain ⟨fuel,hf⟩ := h
 exact ⟨cs,fuel,rfl,by simpa [Value.cells] using hf⟩
end
end Go.Proofs.YtkifgffhoenaoaaGreatDoor
