/-
  Described graphs.
  Sets of events by bits: which events. What a described pair of automata is.
  Two things as one; an automaton in a box.
-/
import Derived.Test.YtkifgffhoenaoaaDoorBas19
import Derived.Test.YtkifgffhoenaoaaDoorBas04
import Derived.IntWalk
import Derived.Deep.QuietTactic
import Derived.BigQuiet
import Derived.Test.YtkifgffhoenaoaaDoorBas07
import Derived.Test.YtkifgffhoenaoaaDoorBas09
namespace Go.Proofs.YtkifgffhoenaoaaDoor
open Go.RowKit
set_option linter.unusedSimpArgs false
set_option linter.unusedVariables false

structure Gr where
 s : Int
 m : Int
 r0 : B5
 r1 : B5
 r2 : B5
 r3 : B5
 r4 : B5
abbrev Gr.cells (g : Gr) : List Value := [.int .u8 g.s,.int .u8 g.m,.int .u8 g.r0.x0,.int .u8 g.r0.x1,.int .u8 g.r0.x2,.int .u8 g.r0.x3,.int .u8 g.r0.x4,.int .u8 g.r1.x0,.int .u8 g.r1.x1,.int .u8 g.r1.x2,.int .u8 g.r1.x3,.int .u8 g.r1.x4,.int .u8 g.r2.x0,.int .u8 g.r2.x1,.int .u8 g.r2.x2,.int .u8 g.r2.x3,.int .u8 g.r2.x4,.int .u8 g.r3.x0,.int .u8 g.r3.x1,.int .u8 g.r3.x2,.int .u8 g.r3.x3,.int .u8 g.r3.x4,.int .u8 g.r4.x0,.int .u8 g.r4.x1,.int .u8 g.r4.x2,.int .u8 g.r4.x3,.int .u8 g.r4.x4]
abbrev Gr.val (g : Gr) : Value := .agg g.cells.toArray
structure Gr.Ok (g : Gr) : Prop where
 s : 0 ≤ g.s ∧ g.s < 256
 m : 0 ≤ g.m ∧ g.m < 256
 r0 : g.r0.Ok
 r1 : g.r1.Ok
 r2 : g.r2.Ok
 r3 : g.r3.Ok
 r4 : g.r4.Ok
theorem Gr.get {g : Gr} (h : g.Ok) {i k : Nat} (hi : i < 5) (hk : k < 5) : ∃ x,g.cells[2 + i * 5 + k]? = some (.int .u8 x) ∧ 0 ≤ x ∧ x < 256 := by
 match i,hi with
 | 0,_ => obtain ⟨x,h1,h2⟩ := B5.get h.r0 hk; exact ⟨x,by match k,hk with | 0,_ => exact h1 | 1,_ => exact h1 | 2,_ => exact h1 | 3,_ => exact h1 | 4,_ => exact h1,h2⟩
 | 1,_ => obtain ⟨x,h1,h2⟩ := B5.get h.r1 hk; exact ⟨x,by match k,hk with | 0,_ => exact h1 | 1,_ => exact h1 | 2,_ => exact h1 | 3,_ => exact h1 | 4,_ => exact h1,h2⟩
 | 2,_ => obtain ⟨x,h1,h2⟩ := B5.get h.r2 hk; exact ⟨x,by match k,hk with | 0,_ => exact h1 | 1,_ => exact h1 | 2,_ => exact h1 | 3,_ => exact h1 | 4,_ => exact h1,h2⟩
 | 3,_ => obtain ⟨x,h1,h2⟩ := B5.get h.r3 hk; exact ⟨x,by match k,hk with | 0,_ => exact h1 | 1,_ => exact h1 | 2,_ => exact h1 | 3,_ => exact h1 | 4,_ => exact h1,h2⟩
 | 4,_ => obtain ⟨x,h1,h2⟩ := B5.get h.r4 hk; exact ⟨x,by match k,hk with | 0,_ => exact h1 | 1,_ => exact h1 | 2,_ => exact h1 | 3,_ => exact h1 | 4,_ => exact h1,h2⟩

theorem Own.none {α : Type} {enc : α → List Value} {k T B : Nat} {l : List α} {A : Option Addr} {c : Nat} {w : World} (h : Own enc k T B l (.slice A l.length c) w) (hA : A = Option.none) : l = [] ∧ c = 0 := by
 subst hA
 rcases h.2 with ⟨h1,h2⟩ | ⟨g,cap,cur,h1,_⟩
 · cases l with
   | nil => cases h1; exact ⟨rfl,rfl⟩
   | cons a l => simp at h2
 · cases h1
def GivesG3 (al : List Int) (w : World) (e : Ending) (w' : World) : Prop := ∃ (au : Au) (p : AuP),e = .returned (au.val p) ∧ au.Right ∧ au.al = al ∧ au.n ≤ 5 ∧ au.ed.length ≤ 25 ∧ au.mr.length ≤ 5 ∧ Hid (AuOwn w.heap.size au p w') ∧ Below w.heap.size w w'

set_option maxRecDepth 100000 in
set_option maxHeartbeats 4000000 in
theorem make3_c (A : Option Addr) (c : Nat) (al : List Int) (g : Gr) (w : World) (hA : IntsAt w A al) (h5 : Lt5 al 5) (hn : A = none → al = [] ∧ c = 0) (hg : g.Ok) :
 Calls Tryd.prog 23 #[.slice A al.length c,g.val] w (GivesG3 al w) := by
 have W0 : Hid (Fro w.heap.size w ((w.alloc (.cells g.cells.toArray 27)).alloc (.cells #[.slice none 0 0,.int .i64 0,.slice none 0 0,.slice none 0 0] 35))) := ((Fro.here w).alloc _).alloc _
 have C0 : Hid (HasAt w.heap.size g.cells ((w.alloc (.cells g.cells.toArray 27)).alloc (.cells #[.slice none 0 0,.int .i64 0,.slice none 0 0,.slice none 0 0] 35))) := (HasAt.new w _ _ rfl).alloc _
 have HA := Lib.hid hA
 have H5 := Lib.hid h5
 have HN := Lib.hid hn
 have HG := Lib.hid hg
 have hal := h5.len
 have hs := hg.s
 have hm := hg.m
 have q0 := C0.out.c 0 _ rfl
 have q1 := C0.out.c 1 _ rfl
 clear hA h5 hn hg
 dsimp only [Gr.val,Gr.cells] at *
 go_enter Tryd.func23,Tryd.ntmps23
 have R0 : Hid (BlkAt ((w.alloc (.cells #[.int .u8 g.s,.int .u8 g.m,.int .u8 g.r0.x0,.int .u8 g.r0.x1,.int .u8 g.r0.x2,.int .u8 g.r0.x3,.int .u8 g.r0.x4,.int .u8 g.r1.x0,.int .u8 g.r1.x1,.int .u8 g.r1.x2,.int .u8 g.r1.x3,.int .u8 g.r1.x4,.int .u8 g.r2.x0,.int .u8 g.r2.x1,.int .u8 g.r2.x2,.int .u8 g.r2.x3,.int .u8 g.r2.x4,.int .u8 g.r3.x0,.int .u8 g.r3.x1,.int .u8 g.r3.x2,.int .u8 g.r3.x3,.int .u8 g.r3.x4,.int .u8 g.r4.x0,.int .u8 g.r4.x1,.int .u8 g.r4.x2,.int .u8 g.r4.x3,.int .u8 g.r4.x4] 27)).alloc (.cells #[.slice none 0 0,.int .i64 0,.slice none 0 0,.slice none 0 0] 35)) (w.heap.size + 1) 35 [.slice none 0 0,.int .i64 0,.slice none 0 0,.slice none 0 0]) := by
  have := BlkAt.new (w.alloc (.cells #[.int .u8 g.s,.int .u8 g.m,.int .u8 g.r0.x0,.int .u8 g.r0.x1,.int .u8 g.r0.x2,.int .u8 g.r0.x3,.int .u8 g.r0.x4,.int .u8 g.r1.x0,.int .u8 g.r1.x1,.int .u8 g.r1.x2,.int .u8 g.r1.x3,.int .u8 g.r1.x4,.int .u8 g.r2.x0,.int .u8 g.r2.x1,.int .u8 g.r2.x2,.int .u8 g.r2.x3,.int .u8 g.r2.x4,.int .u8 g.r3.x0,.int .u8 g.r3.x1,.int .u8 g.r3.x2,.int .u8 g.r3.x3,.int .u8 g.r3.x4,.int .u8 g.r4.x0,.int .u8 g.r4.x1,.int .u8 g.r4.x2,.int .u8 g.r4.x3,.int .u8 g.r4.x4] 27)) 35 [.slice none 0 0,.int .i64 0,.slice none 0 0,.slice none 0 0]
  simpa [Hid] using this
 have HZ0 : Hid (w.heap.size + 2 ≤ ((w.alloc (.cells #[.int .u8 g.s,.int .u8 g.m,.int .u8 g.r0.x0,.int .u8 g.r0.x1,.int .u8 g.r0.x2,.int .u8 g.r0.x3,.int .u8 g.r0.x4,.int .u8 g.r1.x0,.int .u8 g.r1.x1,.int .u8 g.r1.x2,.int .u8 g.r1.x3,.int .u8 g.r1.x4,.int .u8 g.r2.x0,.int .u8 g.r2.x1,.int .u8 g.r2.x2,.int .u8 g.r2.x3,.int .u8 g.r2.x4,.int .u8 g.r3.x0,.int .u8 g.r3.x1,.int .u8 g.r3.x2,.int .u8 g.r3.x3,.int .u8 g.r3.x4,.int .u8 g.r4.x0,.int .u8 g.r4.x1,.int .u8 g.r4.x2,.int .u8 g.r4.x3,.int .u8 g.r4.x4] 27)).alloc (.cells #[.slice none 0 0,.int .i64 0,.slice none 0 0,.slice none 0 0] 35)).heap.size) := by unfold Hid; simp
 by_cases hbig : 250 ≤ g.s
 · go_wp2_with fail
   generalize hW : (w.alloc (.cells #[.int .u8 g.s,.int .u8 g.m,.int .u8 g.r0.x0,.int .u8 g.r0.x1,.int .u8 g.r0.x2,.int .u8 g.r0.x3,.int .u8 g.r0.x4,.int .u8 g.r1.x0,.int .u8 g.r1.x1,.int .u8 g.r1.x2,.int .u8 g.r1.x3,.int .u8 g.r1.x4,.int .u8 g.r2.x0,.int .u8 g.r2.x1,.int .u8 g.r2.x2,.int .u8 g.r2.x3,.int .u8 g.r2.x4,.int .u8 g.r3.x0,.int .u8 g.r3.x1,.int .u8 g.r3.x2,.int .u8 g.r3.x3,.int .u8 g.r3.x4,.int .u8 g.r4.x0,.int .u8 g.r4.x1,.int .u8 g.r4.x2,.int .u8 g.r4.x3,.int .u8 g.r4.x4] 27)).alloc (.cells #[.slice none 0 0,.int .i64 0,.slice none 0 0,.slice none 0 0] 35) = W at *
   clear hW
   refine (Empty_c A c al W (HA.out.below IntE.stays W0.out.b) (by omega) HN.out).mono ?_
   rintro e w2 ⟨AE,cE,rfl,HE,hb⟩
   have W2 := Lib.hid (W0.out.next hb)
   have R2 : Hid (BlkAt w2 (w.heap.size + 1) 35 [.slice none 0 0,.int .i64 0,.slice none 0 0,.slice none 0 0]) := R0.out.below hb R0.out.lt
   clear hb q0 q1 R0 C0
   have r0 := R2.out.cell 0
   have r1 := R2.out.cell 1
   have r2 := R2.out.cell 2
   have r3 := R2.out.cell 3
   have g0 := R2.out.free 0
   have g1 := R2.out.free 1
   have g2 := R2.out.free 2
   have g3 := R2.out.free 3
   go_wp2
   refine bodyPost_ret (v := .agg #[.slice AE al.length cE,.int .i64 0,.slice none 0 0,.slice none 0 0]) (by simp [results,Tryd.results23,go_sem, *]) rfl ?_
   refine ⟨⟨al,0,[],[]⟩,⟨AE,cE,none,0,none,0⟩,rfl,⟨H5.out.inc.setOk fun x hx => ⟨(H5.out.rg x hx).1,by have := (H5.out.rg x hx).2; omega⟩,by simp,by simp,fun i x h => absurd h (by simp),fun i h => absurd h (by simp)⟩,rfl,by simp,by simp,by simp,⟨?_,Own.nil _,Own.nil _,fun _ _ h => by (cases h),fun _ _ h => by (cases h),fun _ h => by (cases h),by simp only; omega,by simp,by simp⟩,?_⟩
   · exact Own.base (B := W.heap.size) (show OwnI _ _ _ _ from (ownsRow_setCell_below (ownsRow_setCell_below (ownsRow_setCell_below (ownsRow_setCell_below HE.out (by have := HZ0.out; simp only; omega) _) (by have := HZ0.out; simp only; omega) _) (by have := HZ0.out; simp only; omega) _) (by have := HZ0.out; simp only; omega) _)) (by have := HZ0.out; omega)
   · exact ((((W2.out.setCell (by omega) _).setCell (by omega) _).setCell (by omega) _).setCell (by omega) _).b
 · go_wp2_with fail
   generalize hW : (w.alloc (.cells #[.int .u8 g.s,.int .u8 g.m,.int .u8 g.r0.x0,.int .u8 g.r0.x1,.int .u8 g.r0.x2,.int .u8 g.r0.x3,.int .u8 g.r0.x4,.int .u8 g.r1.x0,.int .u8 g.r1.x1,.int .u8 g.r1.x2,.int .u8 g.r1.x3,.int .u8 g.r1.x4,.int .u8 g.r2.x0,.int .u8 g.r2.x1,.int .u8 g.r2.x2,.int .u8 g.r2.x3,.int .u8 g.r2.x4,.int .u8 g.r3.x0,.int .u8 g.r3.x1,.int .u8 g.r3.x2,.int .u8 g.r3.x3,.int .u8 g.r3.x4,.int .u8 g.r4.x0,.int .u8 g.r4.x1,.int .u8 g.r4.x2,.int .u8 g.r4.x3,.int .u8 g.r4.x4] 27)).alloc (.cells #[.slice none 0 0,.int .i64 0,.slice none 0 0,.slice none 0 0] 35) = W at *
   clear hW
   refine (Empty_c A c al W (HA.out.below IntE.stays W0.out.b) (by omega) HN.out).mono ?_
   rintro e w2 ⟨AE,cE,rfl,HE,hb⟩
   have W2 := Lib.hid (W0.out.next hb)
   have C2 := Lib.hid (C0.out.below hb)
   have R2 : Hid (BlkAt w2 (w.heap.size + 1) 35 [.slice none 0 0,.int .i64 0,.slice none 0 0,.slice none 0 0]) := R0.out.below hb R0.out.lt
   clear hb q0 q1 R0 C0
   have q0 := C2.out.c 0 _ rfl
   have q1 := C2.out.c 1 _ rfl
   have hz2 := C2.out.z
   go_wp2_with fail
   obtain ⟨N,hN,hN1,hN5⟩ : ∃ N : Nat,1 + g.s % 5 = (N : Int) ∧ 1 ≤ N ∧ N ≤ 5 := ⟨(1 + g.s % 5).toNat,by omega,by omega,by omega⟩
   generalize 1 + g.s % 5 = n at *
   subst hN
   have ST : Hid (OutSt w2.heap.size N (.slice AE al.length cE) (.slice none 0 0) (.slice none 0 0) [] [] (w2.alloc (.cells #[.slice AE al.length cE,.int .i64 N,.slice none 0 0,.slice none 0 0] 35))) := ⟨BlkAt.new w2 _ [_,_,_,_],Own.nil _,Own.nil _,fun _ h => by cases h⟩
   have BB : Hid (Fro w2.heap.size w2 (w2.alloc (.cells #[.slice AE al.length cE,.int .i64 N,.slice none 0 0,.slice none 0 0] 35))) := (Fro.here w2).alloc _
   generalize hW3 : w2.alloc (.cells #[.slice AE al.length cE,.int .i64 N,.slice none 0 0,.slice none 0 0] 35) = W3 at *
   clear hW3 q0 q1 hz2
   have CB : Hid (∀ V,Fro w2.heap.size w2 V → HasAt w.heap.size g.cells V) := fun V hb => C2.out.below hb.b
   have AB : Hid (∀ V,Fro w2.heap.size w2 V → IntsAt V A al) := fun V hb => HA.out.below IntE.stays (W2.out.next hb.b).b
   go_loopw [6] (fun j wr => ∃ (i : Nat) (v2 v3 : Value) (ms : List Int) (es : List Ed),j = .int .i64 i ∧ i ≤ N ∧ Hid (OutSt w2.heap.size N (.slice AE al.length cE) v2 v3 ms es wr) ∧ Hid (Fro w2.heap.size w2 wr) ∧ Hid (ms.length ≤ i ∧ es.length ≤ i * 5 ∧ ∀ x,x ∈ es → 0 ≤ x.dst ∧ x.dst < (N : Int))) (fun j _ => N - (intOf j).toNat)
   case atStart => exact ⟨0,_,_,[],[],rfl,by omega,ST.out,BB.out,by simp,by simp,by simp⟩
   case round =>
    obtain ⟨i,v2,v3,ms,es,rfl,hi,HS,BR,HL⟩ := hrel
    have s1 := HS.out.blk.cell 1
    by_cases hlt : i < N
    · have q1 := (CB.out wr BR.out).c 1 _ rfl
      have hml := HL.out.1
      go_upto_if 33 with fail
      go_cut [] (fun wx => Hid (Fro w2.heap.size w2 wx) ∧ ∃ (v2' : Value) (ms' : List Int),Hid (OutSt w2.heap.size N (.slice AE al.length cE) v2' v3 ms' es wx) ∧ Hid (ms'.length ≤ i + 1))
      case first =>
       have b2 := HS.out.blk.cell 2
       have f2 := HS.out.blk.free 2
       go_wp2_with (at_builtin; refine wpList_push rfl _ _ 32 rfl (HS.out.o2.alloc _) Tryd.underlying32 _ 8 intInfo rfl (by decide) rfl (i : Int) wr.heap.size rfl rfl (one_cell _ _ _ _ rfl) (encI_one _) (by omega) (by decide) (HS.out.z _) ?_)
       · intro A' c' w5 ho hg hat
         have HSA : Hid (OutSt w2.heap.size N (.slice AE al.length cE) v2 v3 ms es (wr.alloc (.cells #[.int .i64 i] 3))) := HS.out.below (Below.new _ _)
         have HO := Lib.hid ho
         have HGR : Hid ((wr.alloc (.cells #[.int .i64 i] 3)).grownBy w5 v2.ownBlock) := hg
         have HAT : Hid ((Value.slice A' (ms.length + 1) c').ownBlock = v2.ownBlock ∨ (Value.slice A' (ms.length + 1) c').ownBlock = some (wr.alloc (.cells #[.int .i64 i] 3)).heap.size) := by simp only [Hid,World.size_alloc]; exact hat
         have q2 : w5.cell? ⟨w2.heap.size,2,none⟩ = some v2 := (HSA.out.blk.grown HGR.out (fun e => by have := (HSA.out.o2.lt _ e.symm).1; omega)).cell 2
         have q2f : w5.frozen? ⟨w2.heap.size,2,none⟩ = false := (HSA.out.blk.grown HGR.out (fun e => by have := (HSA.out.o2.lt _ e.symm).1; omega)).free 2
         clear ho hg hat b2 f2
         go_wp2_with fail
         go_meet
         exact ⟨HSA.out.fro2 (BR.out.alloc _) HGR.out _ 2,_,_,HSA.out.mark HO.out HGR.out HAT.out,by simp [Hid]; omega⟩
       · go_meet
         exact ⟨BR.out,v2,ms,HS.out,by unfold Hid; omega⟩
      case rest =>
       obtain ⟨BC,v2',ms',HSC,HM⟩ := hcut
       clear HS BR
       go_wp2_with fail
       go_loopw [7] (fun j wr => ∃ (k : Nat) (v3' : Value) (es' : List Ed),j = .int .i64 k ∧ k ≤ al.length ∧ Hid (OutSt w2.heap.size N (.slice AE al.length cE) v2' v3' ms' es' wr) ∧ Hid (Fro w2.heap.size w2 wr) ∧ Hid (es'.length ≤ i * 5 + k ∧ ∀ x,x ∈ es' → 0 ≤ x.dst ∧ x.dst < (N : Int))) (fun j _ => al.length - (intOf j).toNat)
       case atStart => exact ⟨0,_,es,rfl,by omega,HSC.out,BC.out,by have := HL.out.2.1; omega,HL.out.2.2⟩
       case round =>
        obtain ⟨k,v3',es',rfl,hk,HS3,BR3,HL3⟩ := hrel
        by_cases hkl : k < al.length
        · have hk5 : k < 5 := by omega
          obtain ⟨x,hx,hx0,hx1⟩ := Gr.get HG.out (i := i) (k := k) (by omega) hk5
          have hcx := (CB.out wr BR3.out).c _ _ hx
          have s1 := HS3.out.blk.cell 1
          have hz := (CB.out wr BR3.out).z
          clear hx
          have iI : (i : Int) < 5 := by omega
          have kI : (k : Int) < 5 := by omega
          have e1 : IntKind.i64.wrap ((N : Int) + 2) = (N : Int) + 2 := IntWalk.i64_in _ (by omega)
          go_wp2_with fail
          go_quiet (fail)
          have ht0 : 0 ≤ x % ((N : Int) + 2) := Int.emod_nonneg _ (by omega)
          generalize x % ((N : Int) + 2) = t at *
          have BV : Hid (Fro w2.heap.size w2 (wr.drewN nq)) := BR3.out.draws nq
          have HSV : Hid (OutSt w2.heap.size N (.slice AE al.length cE) v2' v3' ms' es' (wr.drewN nq)) := HS3.out.below ((Below.refl _ _).draws nq)
          generalize hV : wr.drewN nq = V at *
          clear hV s1 hcx hz e1 HS3 BR3
          have s1 := HSV.out.blk.cell 1
          by_cases htn : t < (N : Int)
          · obtain ⟨b2,off2,e,hA1,hb2,he,hce⟩ := IntsAt.at (AB.out V BV.out) hkl
            subst hA1
            clear he
            have b3 := HSV.out.blk.cell 3
            have f3 := HSV.out.blk.free 3
            have hz5 := HSV.out.blk.lt
            have hne : ¬ w2.heap.size = V.heap.size := by omega
            have hne2 : ¬ V.heap.size = w2.heap.size := by omega
            have HSE : Hid (OutSt w2.heap.size N (.slice AE al.length cE) v2' v3' ms' es' ((V.alloc (.cells #[.int .i64 i,.int .i64 e,.int .i64 t] 87)).drew)) := HSV.out.below (Below.new _ _).drew
            have hln := HL3.out.1
            have HO3 := Lib.hid HSE.out.o3
            go_wp2_with fail
            go_region_law (
             (refine step_append_at rfl (.tmp 66) (.tmp 74) 33 rfl (w2.heap.size + 1) 87 _ 3 24 Tryd.underlying33 edInfo rfl (by decide) v3' _ _ rfl HO3.out ⟨V.heap.size,0,none⟩ 1 1 (Ed.cells ⟨(i : Int),e,t⟩) rfl rfl ?_ ?_ ?_ ?_ ?_ ?_
              (exact new_cells (by simp))
              (intro u hu; simp [Ed.cells] at hu; rcases hu with rfl | rfl | rfl <;> rfl)
              (simp only [maxLen]; omega)
              (omega)
              (simp; omega)
              intro A' c' w7 ho hg hb'
              have HO7 := Lib.hid (Own.pushed ho)
              have HG7 := Lib.hid hg
              have HB7 := Lib.hid hb'
              have q7 : w7.cell? ⟨w2.heap.size,3,none⟩ = some v3' := (HSE.out.blk.grown HG7.out (fun e => by have := (HSE.out.o3.lt _ e.symm).1; omega)).cell 3
              have q7f : w7.frozen? ⟨w2.heap.size,3,none⟩ = false := (HSE.out.blk.grown HG7.out (fun e => by have := (HSE.out.o3.lt _ e.symm).1; omega)).free 3
              clear ho hg hb'))
            all_goals
             go_wp2
             go_roundw
             case rel => exact ⟨k + 1,_,_,by go_num,by omega,HSE.out.edge HO7.out HG7.out HB7.out,HSE.out.fro3 (BV.out.alloc _).drew HG7.out _ 3,by simp; omega,fun y hy => by
              simp only [List.mem_append,List.mem_singleton] at hy
              rcases hy with hy | rfl
              · exact HL3.out.2 y hy
              · exact ⟨ht0,htn⟩⟩
             case measure => simp [intOf]; omega
          · go_wp2
            go_roundw
            case rel => exact ⟨k + 1,v3',es',by go_num,by omega,HSV.out,BV.out,by have := HL3.out.1; omega,HL3.out.2⟩
            case measure => simp [intOf]; omega
        · obtain rfl : k = al.length := by omega
          go_wp2
          go_roundw
          case rel => exact ⟨i + 1,v2',v3',ms',es',by go_num,by omega,HS3.out,BR3.out,HM.out,by have := HL3.out.1; omega,HL3.out.2⟩
          case measure => simp [intOf]; omega
    · obtain rfl : i = N := by omega
      obtain ⟨M2,m2,rfl⟩ := HS.out.o2.form
      obtain ⟨M3,m3,rfl⟩ := HS.out.o3.form
      have s0 := HS.out.blk.cell 0
      have s2 := HS.out.blk.cell 2
      have s3 := HS.out.blk.cell 3
      have hml := HL.out.1
      have hel := HL.out.2.1
      have a1 : OwnI W.heap.size al (.slice AE al.length cE) wr := Own.below HE.out BR.out.b (Nat.le_refl _)
      have RAW : Raw ⟨al,i,ms,es⟩ := ⟨H5.out.inc.setOk fun x hx => ⟨(H5.out.rg x hx).1,by have := (H5.out.rg x hx).2; omega⟩,by simp only; omega,by simp only; omega,HL.out.2.2⟩
      have HRR := Lib.hid (canonV_right RAW)
      have HSZ := Lib.hid (canonV_sizes RAW)
      have HCC := Lib.hid (Canonical_c ⟨al,i,ms,es⟩ ⟨AE,cE,M2,m2,M3,m3⟩ wr ⟨OwnI.ints a1,HS.out.o2.ints,Own.reads (fun _ => rfl) HS.out.o3,by simp only; omega,by simp only; omega,by simp only; omega⟩ RAW (fun e => Own.none a1 e) (by simp only; omega))
      have RW : Hid (BlkAt wr (w.heap.size + 1) 35 [.slice none 0 0,.int .i64 0,.slice none 0 0,.slice none 0 0]) := R2.out.below BR.out.b R2.out.lt
      have BW : Hid (Fro w.heap.size w wr) := W2.out.next BR.out.b
      clear a1 RAW
      go_wp2_with fail
      refine HCC.out.mono ?_
      rintro e w5 ⟨p,rfl,HP,hb⟩
      have HP' := Lib.hid HP.out.at
      have B5 := Lib.hid (BW.out.next hb)
      have R5 : Hid (BlkAt w5 (w.heap.size + 1) 35 [.slice none 0 0,.int .i64 0,.slice none 0 0,.slice none 0 0]) := RW.out.below hb RW.out.lt
      have HP0 := Lib.hid HP.out
      clear hb s0 s1 s2 s3 HP
      have r0 := R5.out.cell 0
      have r1 := R5.out.cell 1
      have r2 := R5.out.cell 2
      have r3 := R5.out.cell 3
      have f0 := R5.out.free 0
      have f1 := R5.out.free 1
      have f2 := R5.out.free 2
      have f3 := R5.out.free 3
      have hwz : w.heap.size + 1 < wr.heap.size := RW.out.lt
      have HAL : Hid ((canonV ⟨al,i,ms,es⟩).al = al) := rfl
      generalize canonV ⟨al,i,ms,es⟩ = cv at *
      obtain ⟨cal,cn,cms,ces⟩ := cv
      obtain ⟨X1,x1,X2,x2,X3,x3⟩ := p
      try dsimp only [Au.val] at *
      go_wp2
      refine bodyPost_ret (v := .agg #[.slice X1 cal.length x1,.int .i64 cn,.slice X2 cms.length x2,.slice X3 ces.length x3]) (by simp [results,Tryd.results23,go_sem, *]) rfl ?_
      have st : ∀ {α : Type} {enc : α → List Value} {kk TT B : Nat} {l : List α} {v : Value} (V : World) (j : Nat) (u : Value),w.heap.size + 2 ≤ B → Own enc kk TT B l v V → Own enc kk TT B l v (V.setCell ⟨w.heap.size + 1,j,none⟩ u) := fun V j u hB h => ownsRow_setCell_below h (show w.heap.size + 1 < _ by omega) u
      have zb : w.heap.size + 2 ≤ wr.heap.size := by omega
      have o1 := HP0.out.al
      have o2 := HP0.out.mr
      have o3 := HP0.out.ed
      have sz := HP0.out.sm
      have hz1 := HSZ.out.1
      have hz2 := HSZ.out.2.1
      have hz3 := HSZ.out.2.2
      have hi5 : i * al.length ≤ 5 * 5 := Nat.mul_le_mul hN5 hal
      simp only [Int.toNat_natCast] at *
      refine ⟨⟨cal,cn,cms,ces⟩,⟨X1,x1,X2,x2,X3,x3⟩,rfl,HRR.out,HAL.out,by simp only; omega,by simp only; omega,by simp only; omega,⟨?_,?_,?_,HP0.out.d1,HP0.out.d2,HP0.out.d3,by simp only; omega,by simp only; omega,by simp only; omega⟩,?_⟩
      · exact Own.base (st _ _ _ zb (st _ _ _ zb (st _ _ _ zb (st _ _ _ zb o1)))) (by omega)
      · exact Own.base (st _ _ _ zb (st _ _ _ zb (st _ _ _ zb (st _ _ _ zb o2)))) (by omega)
      · exact Own.base (st _ _ _ zb (st _ _ _ zb (st _ _ _ zb (st _ _ _ zb o3)))) (by omega)
      · exact ((((B5.out.setCell (by omega) _).setCell (by omega) _).setCell (by omega) _).setCell (by omega) _).b
end Go.Proofs.YtkifgffhoenaoaaDoor

namespace Go.Proofs.YtkifgffhoenaoaaDoor
open Go.RowKit
set_option linter.unusedSimpArgs false
set_option linter.unusedVariables false

def bitS (s : Int) (k : Nat) : Bool := (bits BinOp.and IntKind.u8 (s / 2 ^ k) 1 == 1)
def evV (s : Int) : Nat → List Int
 | 0 => []
 | k + 1 => if bitS s k then evV s k ++ [(k : Int)] else evV s k
theorem evV_lt5 (s : Int) : ∀ k,Lt5 (evV s k) k
 | 0 => ⟨fun i j x y _ hx => by simp [evV] at hx,by simp [evV],by simp [evV]⟩
 | k + 1 => by
   unfold evV
   split
   · exact (evV_lt5 s k).more
   · exact (evV_lt5 s k).skip
theorem evV_yes {s : Int} {k : Nat} (h : bitS s k = true) : evV s (k + 1) = evV s k ++ [(k : Int)] := by rw [evV,if_pos h]
theorem evV_no {s : Int} {k : Nat} (h : bitS s k = false) : evV s (k + 1) = evV s k := by rw [evV,if_neg (by simp [h])]
def GivesEv (s : Int) (w : World) (e : Ending) (w' : World) : Prop := ∃ v,e = .returned v ∧ Hid (OwnI w.heap.size (evV s 5) v w') ∧ Below w.heap.size w w'
set_option maxRecDepth 100000 in
set_option maxHeartbeats 1000000 in
theorem events_c (s : Int) (w : World) (h0 : 0 ≤ s) (h1 : s < 256) :
 Calls Tryd.prog 21 #[.int .u8 s] w (GivesEv s w) := by
 go_enter Tryd.func21,Tryd.ntmps21
 go_wp2_with fail
 go_loopw [3,4] (fun v i wr => ∃ (k : Nat),k ≤ 5 ∧ i = .int .i64 k ∧ Hid (OwnI w.heap.size (evV s k) v wr) ∧ Hid (Fro w.heap.size w wr)) (fun _ i _ => 5 - (intOf i).toNat)
 case atStart => exact ⟨0,by omega,rfl,Own.nil _,Fro.here w⟩
 case round =>
  obtain ⟨k,hk,rfl,HV,BW⟩ := hrel
  by_cases hlt : k < 5
  · have hll := (evV_lt5 s k).len
    obtain ⟨b,hb⟩ : ∃ b,bitS s k = b := ⟨_,rfl⟩
    have hb' : (bits BinOp.and IntKind.u8 (s / 2 ^ k) 1 == 1) = b := hb
    have HB := Lib.hid hb
    clear hb
    cases b
    · go_wp2
      go_roundw
      case rel => exact ⟨k + 1,by omega,by go_num,by rw [evV_no HB.out]; exact HV.out,BW.out⟩
      case measure => simp [intOf]; omega
    · go_wp2_with (at_builtin; refine wpList_push rfl _ _ 32 rfl (HV.out.alloc _) Tryd.underlying32 _ 8 intInfo rfl (by decide) rfl (k : Int) wr.heap.size rfl rfl (one_cell _ _ _ _ rfl) (encI_one _) (by omega) (by decide) (BW.out.alloc _).z ?_)
      intro A' c' w1 ho hg _
      have HN := Lib.hid ho
      have HG := Lib.hid ((BW.out.alloc _).push (HV.out.alloc _) hg)
      clear ho hg
      go_wp2
      go_roundw
      case rel => exact ⟨k + 1,by omega,by go_num,by rw [evV_yes HB.out]; exact HN.out,HG.out⟩
      case measure => simp [intOf]; omega
  · obtain rfl : k = 5 := by omega
    go_wp2
    go_ret
    exact ⟨_,rfl,HV.out,BW.out.b⟩
theorem AuOwn.sep {W w' : World} {a : Au} {p : AuP} (h : AuOwn W.heap.size a p w') (hb : Below W.heap.size W w') : Sep W.heap.size W (eAu a p) w' := by
 refine ⟨⟨hb,hb.size⟩,?_,?_,?_⟩
 · intro e he
   simp only [eAu,List.mem_cons,List.not_mem_nil,or_false] at he
   rcases he with rfl | rfl | rfl
   · exact Own.base h.al (Nat.zero_le _)
   · exact Own.base h.mr (Nat.zero_le _)
   · exact Own.base h.ed (Nat.zero_le _)
 · intro e he
   simp only [eAu,List.mem_cons,List.not_mem_nil,or_false] at he
   rcases he with rfl | rfl | rfl
   · exact fun g hg => (Own.lt h.al g (by simpa [eOwn] using hg)).1
   · exact fun g hg => (Own.lt h.mr g (by simpa [eOwn] using hg)).1
   · exact fun g hg => (Own.lt h.ed g (by simpa [eOwn] using hg)).1
 · have f : ∀ {α : Type} {enc : α → List Value} {k T : Nat} {l : List α} {v : Value} {g : Nat},g ∈ (eOwn enc k T l v).foot → v.ownBlock = some g := fun hg => by simpa [eOwn] using hg
   simp only [eAu,List.pairwise_cons,List.mem_cons,List.not_mem_nil,or_false,false_implies,implies_true,List.Pairwise.nil,and_true,forall_eq_or_imp,forall_eq]
   exact ⟨⟨fun g h1 h2 => h.d1 g (f h1) (f h2),fun g h1 h2 => h.d2 g (f h1) (f h2)⟩,fun g h1 h2 => h.d3 g (f h1) (f h2)⟩
structure Gd (s : Int) (a : Au) : Prop where
 rt : a.Right
 al : a.al = evV s 5
 n : a.n ≤ 5
 ed : a.ed.length ≤ 25
 mr : a.mr.length ≤ 5
theorem Gd.lens {s : Int} {a : Au} (h : Gd s a) : Lens a := ⟨by have := (evV_lt5 s 5).len; rw [h.al]; omega,by have := h.mr; omega,by have := h.ed; omega⟩
def GivesTwo (s0 s1 : Int) (w : World) (e : Ending) (w' : World) : Prop := ∃ a p b q,e = .returned (.tuple #[a.val p,b.val q]) ∧ Hid (Sep w.heap.size w (eAu a p ++ eAu b q) w') ∧ Hid (Gd s0 a) ∧ Hid (Gd s1 b)
def twoCells (s0 s1 : Int) (g0 g1 : Gr) : List Value := [.int .u8 s0,.int .u8 s1] ++ g0.cells ++ g1.cells
theorem two2 (s0 s1 : Int) (g0 g1 : Gr) : ∀ (j : Nat) v,g0.cells[j]? = some v → (twoCells s0 s1 g0 g1)[2 + j]? = some v := fun j v hv => by
 have hj : j < g0.cells.length := (List.getElem?_eq_some_iff.1 hv).1
 unfold twoCells
 rw [List.append_assoc,List.getElem?_append_right (by simp),show 2 + j - [Value.int .u8 s0,.int .u8 s1].length = j by simp,List.getElem?_append_left hj]
 exact hv
theorem two29 (s0 s1 : Int) (g0 g1 : Gr) : ∀ (j : Nat) v,g1.cells[j]? = some v → (twoCells s0 s1 g0 g1)[29 + j]? = some v := fun j v hv => by
 unfold twoCells
 rw [List.getElem?_append_right (by simp),show 29 + j - ([Value.int .u8 s0,.int .u8 s1] ++ g0.cells).length = j by simp]
 exact hv
theorem BlkAt.rng {b o T : Nat} {l cs : List Value} {w : World} (h : BlkAt w b T l) (hs : ∀ (j : Nat) v,cs[j]? = some v → l[o + j]? = some v) : w.rangeAt b o cs := fun j v hv => (h.cell (o + j)).trans (hs j v hv)
end Go.Proofs.YtkifgffhoenaoaaDoor

namespace Go.Proofs.YtkifgffhoenaoaaDoor
open Go.RowKit
set_option linter.unusedSimpArgs false
set_option linter.unusedVariables false
set_option maxRecDepth 100000

def Ent.and (e f : Ent) : Ent where
 foot := e.foot ++ f.foot
 ok w := e.ok w ∧ f.ok w
 lt w h g hg := (List.mem_append.1 hg).elim (e.lt w h.1 g) (f.lt w h.2 g)
 turn w w' h hg := ⟨e.turn w w' h.1 fun g k => hg g (List.mem_append_left _ k),f.turn w w' h.2 fun g k => hg g (List.mem_append_right _ k)⟩
theorem Sep.join {n : Nat} {w0 w : World} {e f : Ent} {es : List Ent} (S : Sep n w0 (e :: f :: es) w) : Sep n w0 (e.and f :: es) w := by
 have ap := S.ap
 rw [List.pairwise_cons,List.pairwise_cons] at ap
 refine ⟨S.fro,fun x hx => ?_,fun x hx => ?_,List.pairwise_cons.2 ⟨fun x hx g hg => ?_,ap.2.2⟩⟩
 · rcases List.mem_cons.1 hx with rfl | hx
   · exact ⟨S.ok e (by simp),S.ok f (by simp)⟩
   · exact S.ok x (by simp [hx])
 · rcases List.mem_cons.1 hx with rfl | hx
   · exact fun g hg => (List.mem_append.1 hg).elim (S.ge e (by simp) g) (S.ge f (by simp) g)
   · exact S.ge x (by simp [hx])
 · rcases List.mem_append.1 hg with h | h
   · exact ap.1 x (by simp [hx]) g h
   · exact ap.2.1 x hx g h
def eBox (t : Nat) (a : Au) (p : AuP) : Ent := (eBlk t 35 [.slice p.A1 a.al.length p.c1,.int .i64 a.n,.slice p.A2 a.mr.length p.c2,.slice p.A3 a.ed.length p.c3]).and ((eInts a.al (.slice p.A1 a.al.length p.c1)).and ((eInts a.mr (.slice p.A2 a.mr.length p.c2)).and (eEds a.ed (.slice p.A3 a.ed.length p.c3))))
theorem Sep.box {n : Nat} {w0 w : World} {t : Nat} {a : Au} {p : AuP} {es : List Ent} (S : Sep n w0 (eBlk t 35 [.slice p.A1 a.al.length p.c1,.int .i64 a.n,.slice p.A2 a.mr.length p.c2,.slice p.A3 a.ed.length p.c3] :: eInts a.al (.slice p.A1 a.al.length p.c1) :: eInts a.mr (.slice p.A2 a.mr.length p.c2) :: eEds a.ed (.slice p.A3 a.ed.length p.c3) :: es) w) : Sep n w0 (eBox t a p :: es) w := by
 have ap := S.ap
 simp only [List.pairwise_cons] at ap
 refine ⟨S.fro,fun x hx => ?_,fun x hx => ?_,List.pairwise_cons.2 ⟨fun x hx g hg => ?_,ap.2.2.2.2⟩⟩
 · rcases List.mem_cons.1 hx with rfl | hx
   · exact ⟨S.ok _ (by simp),S.ok _ (by simp),S.ok _ (by simp),S.ok _ (by simp)⟩
   · exact S.ok x (by simp [hx])
 · rcases List.mem_cons.1 hx with rfl | hx
   · intro g hg
     rcases List.mem_append.1 hg with h | h
     · exact S.ge _ (by simp) g h
     rcases List.mem_append.1 h with h | h
     · exact S.ge (eInts a.al (.slice p.A1 a.al.length p.c1)) (by simp) g h
     rcases List.mem_append.1 h with h | h
     · exact S.ge (eInts a.mr (.slice p.A2 a.mr.length p.c2)) (by simp) g h
     · exact S.ge (eEds a.ed (.slice p.A3 a.ed.length p.c3)) (by simp) g h
   · exact S.ge x (by simp [hx])
 · rcases List.mem_append.1 hg with h | h
   · exact ap.1 x (by simp [hx]) g h
   rcases List.mem_append.1 h with h | h
   · exact ap.2.1 x (by simp [hx]) g h
   rcases List.mem_append.1 h with h | h
   · exact ap.2.2.1 x (by simp [hx]) g h
   · exact ap.2.2.2.1 x hx g h
theorem eBox.at {t : Nat} {a : Au} {p : AuP} {w : World} (h : (eBox t a p).ok w) (hl : Lens a) : Au.At w a p :=
 ⟨OwnI.ints h.2.1,OwnI.ints h.2.2.1,Own.reads (enc := Ed.cells) (k := 3) (T := 87) (B := 0) (fun _ => rfl) h.2.2.2,hl.1,hl.2.1,hl.2.2⟩
theorem eBox.caps {t : Nat} {a : Au} {p : AuP} {w : World} (h : (eBox t a p).ok w) : Caps a p := ⟨Own.cap h.2.1,Own.cap h.2.2.1,Own.cap h.2.2.2⟩
end Go.Proofs.YtkifgffhoenaoaaDoor

