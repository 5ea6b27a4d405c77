/-
  Described graphs.
  Sets of events by bits: which events. What a described pair of automata is.
  How arguments read: structs by their fields, slices by their elements, whatever these are.
  How the arguments of the laws read: numbers, described graphs, described pairs.
  The laws of De Morgan, in plain words; how many states a combined automaton can have.
  overseerlaw09.Make: two described automata.
  slices.Equal of edges; automaton.Equal.
-/
import Derived.Test.YtkifgffhoenaoaaDoorBas19
import Derived.Test.YtkifgffhoenaoaaDoorBas04
import Derived.IntWalk
import Derived.Deep.QuietTactic
import Derived.BigQuiet
import Derived.Test.YtkifgffhoenaoaaDoorBas07
import Derived.Test.YtkifgffhoenaoaaDoorBas01
import Derived.WalkKit
import Derived.ProofKit
import Derived.OpenShut
import Derived.ShutString
import Derived.ChangeOld
import Derived.Below
import Derived.Lib.SmallJoins
import Derived.Deep.MidRow
import Derived.Test.YtkifgffhoenaoaaDoorBas18
import Derived.Test.YtkifgffhoenaoaaDoorBas10
namespace Go.Proofs.YtkifgffhoenaoaaDoor
open Go.RowKit
set_option linter.unusedSimpArgs false
set_option linter.unusedVariables false

structure Gr where
 s : Int
 m : Int
 r0 : B5
 r1 : B5
 r2 : B5
 r3 : B5
 r4 : B5
abbrev Gr.cells (g : Gr) : List Value := [.int .u8 g.s,.int .u8 g.m,.int .u8 g.r0.x0,.int .u8 g.r0.x1,.int .u8 g.r0.x2,.int .u8 g.r0.x3,.int .u8 g.r0.x4,.int .u8 g.r1.x0,.int .u8 g.r1.x1,.int .u8 g.r1.x2,.int .u8 g.r1.x3,.int .u8 g.r1.x4,.int .u8 g.r2.x0,.int .u8 g.r2.x1,.int .u8 g.r2.x2,.int .u8 g.r2.x3,.int .u8 g.r2.x4,.int .u8 g.r3.x0,.int .u8 g.r3.x1,.int .u8 g.r3.x2,.int .u8 g.r3.x3,.int .u8 g.r3.x4,.int .u8 g.r4.x0,.int .u8 g.r4.x1,.int .u8 g.r4.x2,.int .u8 g.r4.x3,.int .u8 g.r4.x4]
abbrev Gr.val (g : Gr) : Value := .agg g.cells.toArray
structure Gr.Ok (g : Gr) : Prop where
 s : 0 ≤ g.s ∧ g.s < 256
 m : 0 ≤ g.m ∧ g.m < 256
 r0 : g.r0.Ok
 r1 : g.r1.Ok
 r2 : g.r2.Ok
 r3 : g.r3.Ok
 r4 : g.r4.Ok
theorem Gr.get {g : Gr} (h : g.Ok) {i k : Nat} (hi : i < 5) (hk : k < 5) : ∃ x,g.cells[2 + i * 5 + k]? = some (.int .u8 x) ∧ 0 ≤ x ∧ x < 256 := by
 match i,hi with
 | 0,_ => obtain ⟨x,h1,h2⟩ := B5.get h.r0 hk; exact ⟨x,by match k,hk with | 0,_ => exact h1 | 1,_ => exact h1 | 2,_ => exact h1 | 3,_ => exact h1 | 4,_ => exact h1,h2⟩
 | 1,_ => obtain ⟨x,h1,h2⟩ := B5.get h.r1 hk; exact ⟨x,by match k,hk with | 0,_ => exact h1 | 1,_ => exact h1 | 2,_ => exact h1 | 3,_ => exact h1 | 4,_ => exact h1,h2⟩
 | 2,_ => obtain ⟨x,h1,h2⟩ := B5.get h.r2 hk; exact ⟨x,by match k,hk with | 0,_ => exact h1 | 1,_ => exact h1 | 2,_ => exact h1 | 3,_ => exact h1 | 4,_ => exact h1,h2⟩
 | 3,_ => obtain ⟨x,h1,h2⟩ := B5.get h.r3 hk; exact ⟨x,by match k,hk with | 0,_ => exact h1 | 1,_ => exact h1 | 2,_ => exact h1 | 3,_ => exact h1 | 4,_ => exact h1,h2⟩
 | 4,_ => obtain ⟨x,h1,h2⟩ := B5.get h.r4 hk; exact ⟨x,by match k,hk with | 0,_ => exact h1 | 1,_ => exact h1 | 2,_ => exact h1 | 3,_ => exact h1 | 4,_ => exact h1,h2⟩

theorem Own.none {α : Type} {enc : α → List Value} {k T B : Nat} {l : List α} {A : Option Addr} {c : Nat} {w : World} (h : Own enc k T B l (.slice A l.length c) w) (hA : A = Option.none) : l = [] ∧ c = 0 := by
 subst hA
 rcases h.2 with ⟨h1,h2⟩ | ⟨g,cap,cur,h1,_⟩
 · cases l with
   | nil => cases h1; exact ⟨rfl,rfl⟩
   | cons a l => simp at h2
 · cases h1
def GivesG3 (al : List Int) (w : World) (e : Ending) (w' : World) : Prop := ∃ (au : Au) (p : AuP),e = .returned (au.val p) ∧ au.Right ∧ au.al = al ∧ au.n ≤ 5 ∧ au.ed.length ≤ 25 ∧ au.mr.length ≤ 5 ∧ Hid (AuOwn w.heap.size au p w') ∧ Below w.heap.size w w'

set_option maxRecDepth 100000 in
set_option maxHeartbeats 4000000 in
theorem make3_c (A : Option Addr) (c : Nat) (al : List Int) (g : Gr) (w : World) (hA : IntsAt w A al) (h5 : Lt5 al 5) (hn : A = none → al = [] ∧ c = 0) (hg : g.Ok) :
 Calls Tryd.prog 23 #[.slice A al.length c,g.val] w (GivesG3 al w) := by
 have W0 : Hid (Fro w.heap.size w ((w.alloc (.cells g.cells.toArray 27)).alloc (.cells #[.slice none 0 0,.int .i64 0,.slice none 0 0,.slice none 0 0] 35))) := ((Fro.here w).alloc _).alloc _
 have C0 : Hid (HasAt w.heap.size g.cells ((w.alloc (.cells g.cells.toArray 27)).alloc (.cells #[.slice none 0 0,.int .i64 0,.slice none 0 0,.slice none 0 0] 35))) := (HasAt.new w _ _ rfl).alloc _
 have HA := Lib.hid hA
 have H5 := Lib.hid h5
 have HN := Lib.hid hn
 have HG := Lib.hid hg
 have hal := h5.len
 have hs := hg.s
 have hm := hg.m
 have q0 := C0.out.c 0 _ rfl
 have q1 := C0.out.c 1 _ rfl
 clear hA h5 hn hg
 dsimp only [Gr.val,Gr.cells] at *
 go_enter Tryd.func23,Tryd.ntmps23
 have R0 : Hid (BlkAt ((w.alloc (.cells #[.int .u8 g.s,.int .u8 g.m,.int .u8 g.r0.x0,.int .u8 g.r0.x1,.int .u8 g.r0.x2,.int .u8 g.r0.x3,.int .u8 g.r0.x4,.int .u8 g.r1.x0,.int .u8 g.r1.x1,.int .u8 g.r1.x2,.int .u8 g.r1.x3,.int .u8 g.r1.x4,.int .u8 g.r2.x0,.int .u8 g.r2.x1,.int .u8 g.r2.x2,.int .u8 g.r2.x3,.int .u8 g.r2.x4,.int .u8 g.r3.x0,.int .u8 g.r3.x1,.int .u8 g.r3.x2,.int .u8 g.r3.x3,.int .u8 g.r3.x4,.int .u8 g.r4.x0,.int .u8 g.r4.x1,.int .u8 g.r4.x2,.int .u8 g.r4.x3,.int .u8 g.r4.x4] 27)).alloc (.cells #[.slice none 0 0,.int .i64 0,.slice none 0 0,.slice none 0 0] 35)) (w.heap.size + 1) 35 [.slice none 0 0,.int .i64 0,.slice none 0 0,.slice none 0 0]) := by
  have := BlkAt.new (w.alloc (.cells #[.int .u8 g.s,.int .u8 g.m,.int .u8 g.r0.x0,.int .u8 g.r0.x1,.int .u8 g.r0.x2,.int .u8 g.r0.x3,.int .u8 g.r0.x4,.int .u8 g.r1.x0,.int .u8 g.r1.x1,.int .u8 g.r1.x2,.int .u8 g.r1.x3,.int .u8 g.r1.x4,.int .u8 g.r2.x0,.int .u8 g.r2.x1,.int .u8 g.r2.x2,.int .u8 g.r2.x3,.int .u8 g.r2.x4,.int .u8 g.r3.x0,.int .u8 g.r3.x1,.int .u8 g.r3.x2,.int .u8 g.r3.x3,.int .u8 g.r3.x4,.int .u8 g.r4.x0,.int .u8 g.r4.x1,.int .u8 g.r4.x2,.int .u8 g.r4.x3,.int .u8 g.r4.x4] 27)) 35 [.slice none 0 0,.int .i64 0,.slice none 0 0,.slice none 0 0]
  simpa [Hid] using this
 have HZ0 : Hid (w.heap.size + 2 ≤ ((w.alloc (.cells #[.int .u8 g.s,.int .u8 g.m,.int .u8 g.r0.x0,.int .u8 g.r0.x1,.int .u8 g.r0.x2,.int .u8 g.r0.x3,.int .u8 g.r0.x4,.int .u8 g.r1.x0,.int .u8 g.r1.x1,.int .u8 g.r1.x2,.int .u8 g.r1.x3,.int .u8 g.r1.x4,.int .u8 g.r2.x0,.int .u8 g.r2.x1,.int .u8 g.r2.x2,.int .u8 g.r2.x3,.int .u8 g.r2.x4,.int .u8 g.r3.x0,.int .u8 g.r3.x1,.int .u8 g.r3.x2,.int .u8 g.r3.x3,.int .u8 g.r3.x4,.int .u8 g.r4.x0,.int .u8 g.r4.x1,.int .u8 g.r4.x2,.int .u8 g.r4.x3,.int .u8 g.r4.x4] 27)).alloc (.cells #[.slice none 0 0,.int .i64 0,.slice none 0 0,.slice none 0 0] 35)).heap.size) := by unfold Hid; simp
 by_cases hbig : 250 ≤ g.s
 · go_wp2_with fail
   generalize hW : (w.alloc (.cells #[.int .u8 g.s,.int .u8 g.m,.int .u8 g.r0.x0,.int .u8 g.r0.x1,.int .u8 g.r0.x2,.int .u8 g.r0.x3,.int .u8 g.r0.x4,.int .u8 g.r1.x0,.int .u8 g.r1.x1,.int .u8 g.r1.x2,.int .u8 g.r1.x3,.int .u8 g.r1.x4,.int .u8 g.r2.x0,.int .u8 g.r2.x1,.int .u8 g.r2.x2,.int .u8 g.r2.x3,.int .u8 g.r2.x4,.int .u8 g.r3.x0,.int .u8 g.r3.x1,.int .u8 g.r3.x2,.int .u8 g.r3.x3,.int .u8 g.r3.x4,.int .u8 g.r4.x0,.int .u8 g.r4.x1,.int .u8 g.r4.x2,.int .u8 g.r4.x3,.int .u8 g.r4.x4] 27)).alloc (.cells #[.slice none 0 0,.int .i64 0,.slice none 0 0,.slice none 0 0] 35) = W at *
   clear hW
   refine (Empty_c A c al W (HA.out.below IntE.stays W0.out.b) (by omega) HN.out).mono ?_
   rintro e w2 ⟨AE,cE,rfl,HE,hb⟩
   have W2 := Lib.hid (W0.out.next hb)
   have R2 : Hid (BlkAt w2 (w.heap.size + 1) 35 [.slice none 0 0,.int .i64 0,.slice none 0 0,.slice none 0 0]) := R0.out.below hb R0.out.lt
   clear hb q0 q1 R0 C0
   have r0 := R2.out.cell 0
   have r1 := R2.out.cell 1
   have r2 := R2.out.cell 2
   have r3 := R2.out.cell 3
   have g0 := R2.out.free 0
   have g1 := R2.out.free 1
   have g2 := R2.out.free 2
   have g3 := R2.out.free 3
   go_wp2
   refine bodyPost_ret (v := .agg #[.slice AE al.length cE,.int .i64 0,.slice none 0 0,.slice none 0 0]) (by simp [results,Tryd.results23,go_sem, *]) rfl ?_
   refine ⟨⟨al,0,[],[]⟩,⟨AE,cE,none,0,none,0⟩,rfl,⟨H5.out.inc.setOk fun x hx => ⟨(H5.out.rg x hx).1,by have := (H5.out.rg x hx).2; omega⟩,by simp,by simp,fun i x h => absurd h (by simp),fun i h => absurd h (by simp)⟩,rfl,by simp,by simp,by simp,⟨?_,Own.nil _,Own.nil _,fun _ _ h => by (cases h),fun _ _ h => by (cases h),fun _ h => by (cases h),by simp only; omega,by simp,by simp⟩,?_⟩
   · exact Own.base (B := W.heap.size) (show OwnI _ _ _ _ from (ownsRow_setCell_below (ownsRow_setCell_below (ownsRow_setCell_below (ownsRow_setCell_below HE.out (by have := HZ0.out; simp only; omega) _) (by have := HZ0.out; simp only; omega) _) (by have := HZ0.out; simp only; omega) _) (by have := HZ0.out; simp only; omega) _)) (by have := HZ0.out; omega)
   · exact ((((W2.out.setCell (by omega) _).setCell (by omega) _).setCell (by omega) _).setCell (by omega) _).b
 · go_wp2_with fail
   generalize hW : (w.alloc (.cells #[.int .u8 g.s,.int .u8 g.m,.int .u8 g.r0.x0,.int .u8 g.r0.x1,.int .u8 g.r0.x2,.int .u8 g.r0.x3,.int .u8 g.r0.x4,.int .u8 g.r1.x0,.int .u8 g.r1.x1,.int .u8 g.r1.x2,.int .u8 g.r1.x3,.int .u8 g.r1.x4,.int .u8 g.r2.x0,.int .u8 g.r2.x1,.int .u8 g.r2.x2,.int .u8 g.r2.x3,.int .u8 g.r2.x4,.int .u8 g.r3.x0,.int .u8 g.r3.x1,.int .u8 g.r3.x2,.int .u8 g.r3.x3,.int .u8 g.r3.x4,.int .u8 g.r4.x0,.int .u8 g.r4.x1,.int .u8 g.r4.x2,.int .u8 g.r4.x3,.int .u8 g.r4.x4] 27)).alloc (.cells #[.slice none 0 0,.int .i64 0,.slice none 0 0,.slice none 0 0] 35) = W at *
   clear hW
   refine (Empty_c A c al W (HA.out.below IntE.stays W0.out.b) (by omega) HN.out).mono ?_
   rintro e w2 ⟨AE,cE,rfl,HE,hb⟩
   have W2 := Lib.hid (W0.out.next hb)
   have C2 := Lib.hid (C0.out.below hb)
   have R2 : Hid (BlkAt w2 (w.heap.size + 1) 35 [.slice none 0 0,.int .i64 0,.slice none 0 0,.slice none 0 0]) := R0.out.below hb R0.out.lt
   clear hb q0 q1 R0 C0
   have q0 := C2.out.c 0 _ rfl
   have q1 := C2.out.c 1 _ rfl
   have hz2 := C2.out.z
   go_wp2_with fail
   obtain ⟨N,hN,hN1,hN5⟩ : ∃ N : Nat,1 + g.s % 5 = (N : Int) ∧ 1 ≤ N ∧ N ≤ 5 := ⟨(1 + g.s % 5).toNat,by omega,by omega,by omega⟩
   generalize 1 + g.s % 5 = n at *
   subst hN
   have ST : Hid (OutSt w2.heap.size N (.slice AE al.length cE) (.slice none 0 0) (.slice none 0 0) [] [] (w2.alloc (.cells #[.slice AE al.length cE,.int .i64 N,.slice none 0 0,.slice none 0 0] 35))) := ⟨BlkAt.new w2 _ [_,_,_,_],Own.nil _,Own.nil _,fun _ h => by cases h⟩
   have BB : Hid (Fro w2.heap.size w2 (w2.alloc (.cells #[.slice AE al.length cE,.int .i64 N,.slice none 0 0,.slice none 0 0] 35))) := (Fro.here w2).alloc _
   generalize hW3 : w2.alloc (.cells #[.slice AE al.length cE,.int .i64 N,.slice none 0 0,.slice none 0 0] 35) = W3 at *
   clear hW3 q0 q1 hz2
   have CB : Hid (∀ V,Fro w2.heap.size w2 V → HasAt w.heap.size g.cells V) := fun V hb => C2.out.below hb.b
   have AB : Hid (∀ V,Fro w2.heap.size w2 V → IntsAt V A al) := fun V hb => HA.out.below IntE.stays (W2.out.next hb.b).b
   go_loopw [6] (fun j wr => ∃ (i : Nat) (v2 v3 : Value) (ms : List Int) (es : List Ed),j = .int .i64 i ∧ i ≤ N ∧ Hid (OutSt w2.heap.size N (.slice AE al.length cE) v2 v3 ms es wr) ∧ Hid (Fro w2.heap.size w2 wr) ∧ Hid (ms.length ≤ i ∧ es.length ≤ i * 5 ∧ ∀ x,x ∈ es → 0 ≤ x.dst ∧ x.dst < (N : Int))) (fun j _ => N - (intOf j).toNat)
   case atStart => exact ⟨0,_,_,[],[],rfl,by omega,ST.out,BB.out,by simp,by simp,by simp⟩
   case round =>
    obtain ⟨i,v2,v3,ms,es,rfl,hi,HS,BR,HL⟩ := hrel
    have s1 := HS.out.blk.cell 1
    by_cases hlt : i < N
    · have q1 := (CB.out wr BR.out).c 1 _ rfl
      have hml := HL.out.1
      go_upto_if 33 with fail
      go_cut [] (fun wx => Hid (Fro w2.heap.size w2 wx) ∧ ∃ (v2' : Value) (ms' : List Int),Hid (OutSt w2.heap.size N (.slice AE al.length cE) v2' v3 ms' es wx) ∧ Hid (ms'.length ≤ i + 1))
      case first =>
       have b2 := HS.out.blk.cell 2
       have f2 := HS.out.blk.free 2
       go_wp2_with (at_builtin; refine wpList_push rfl _ _ 32 rfl (HS.out.o2.alloc _) Tryd.underlying32 _ 8 intInfo rfl (by decide) rfl (i : Int) wr.heap.size rfl rfl (one_cell _ _ _ _ rfl) (encI_one _) (by omega) (by decide) (HS.out.z _) ?_)
       · intro A' c' w5 ho hg hat
         have HSA : Hid (OutSt w2.heap.size N (.slice AE al.length cE) v2 v3 ms es (wr.alloc (.cells #[.int .i64 i] 3))) := HS.out.below (Below.new _ _)
         have HO := Lib.hid ho
         have HGR : Hid ((wr.alloc (.cells #[.int .i64 i] 3)).grownBy w5 v2.ownBlock) := hg
         have HAT : Hid ((Value.slice A' (ms.length + 1) c').ownBlock = v2.ownBlock ∨ (Value.slice A' (ms.length + 1) c').ownBlock = some (wr.alloc (.cells #[.int .i64 i] 3)).heap.size) := by simp only [Hid,World.size_alloc]; exact hat
         have q2 : w5.cell? ⟨w2.heap.size,2,none⟩ = some v2 := (HSA.out.blk.grown HGR.out (fun e => by have := (HSA.out.o2.lt _ e.symm).1; omega)).cell 2
         have q2f : w5.frozen? ⟨w2.heap.size,2,none⟩ = false := (HSA.out.blk.grown HGR.out (fun e => by have := (HSA.out.o2.lt _ e.symm).1; omega)).free 2
         clear ho hg hat b2 f2
         go_wp2_with fail
         go_meet
         exact ⟨HSA.out.fro2 (BR.out.alloc _) HGR.out _ 2,_,_,HSA.out.mark HO.out HGR.out HAT.out,by simp [Hid]; omega⟩
       · go_meet
         exact ⟨BR.out,v2,ms,HS.out,by unfold Hid; omega⟩
      case rest =>
       obtain ⟨BC,v2',ms',HSC,HM⟩ := hcut
       clear HS BR
       go_wp2_with fail
       go_loopw [7] (fun j wr => ∃ (k : Nat) (v3' : Value) (es' : List Ed),j = .int .i64 k ∧ k ≤ al.length ∧ Hid (OutSt w2.heap.size N (.slice AE al.length cE) v2' v3' ms' es' wr) ∧ Hid (Fro w2.heap.size w2 wr) ∧ Hid (es'.length ≤ i * 5 + k ∧ ∀ x,x ∈ es' → 0 ≤ x.dst ∧ x.dst < (N : Int))) (fun j _ => al.length - (intOf j).toNat)
       case atStart => exact ⟨0,_,es,rfl,by omega,HSC.out,BC.out,by have := HL.out.2.1; omega,HL.out.2.2⟩
       case round =>
        obtain ⟨k,v3',es',rfl,hk,HS3,BR3,HL3⟩ := hrel
        by_cases hkl : k < al.length
        · have hk5 : k < 5 := by omega
          obtain ⟨x,hx,hx0,hx1⟩ := Gr.get HG.out (i := i) (k := k) (by omega) hk5
          have hcx := (CB.out wr BR3.out).c _ _ hx
          have s1 := HS3.out.blk.cell 1
          have hz := (CB.out wr BR3.out).z
          clear hx
          have iI : (i : Int) < 5 := by omega
          have kI : (k : Int) < 5 := by omega
          have e1 : IntKind.i64.wrap ((N : Int) + 2) = (N : Int) + 2 := IntWalk.i64_in _ (by omega)
          go_wp2_with fail
          go_quiet (fail)
          have ht0 : 0 ≤ x % ((N : Int) + 2) := Int.emod_nonneg _ (by omega)
          generalize x % ((N : Int) + 2) = t at *
          have BV : Hid (Fro w2.heap.size w2 (wr.drewN nq)) := BR3.out.draws nq
          have HSV : Hid (OutSt w2.heap.size N (.slice AE al.length cE) v2' v3' ms' es' (wr.drewN nq)) := HS3.out.below ((Below.refl _ _).draws nq)
          generalize hV : wr.drewN nq = V at *
          clear hV s1 hcx hz e1 HS3 BR3
          have s1 := HSV.out.blk.cell 1
          by_cases htn : t < (N : Int)
          · obtain ⟨b2,off2,e,hA1,hb2,he,hce⟩ := IntsAt.at (AB.out V BV.out) hkl
            subst hA1
            clear he
            have b3 := HSV.out.blk.cell 3
            have f3 := HSV.out.blk.free 3
            have hz5 := HSV.out.blk.lt
            have hne : ¬ w2.heap.size = V.heap.size := by omega
            have hne2 : ¬ V.heap.size = w2.heap.size := by omega
            have HSE : Hid (OutSt w2.heap.size N (.slice AE al.length cE) v2' v3' ms' es' ((V.alloc (.cells #[.int .i64 i,.int .i64 e,.int .i64 t] 87)).drew)) := HSV.out.below (Below.new _ _).drew
            have hln := HL3.out.1
            have HO3 := Lib.hid HSE.out.o3
            go_wp2_with fail
            go_region_law (
             (refine step_append_at rfl (.tmp 66) (.tmp 74) 33 rfl (w2.heap.size + 1) 87 _ 3 24 Tryd.underlying33 edInfo rfl (by decide) v3' _ _ rfl HO3.out ⟨V.heap.size,0,none⟩ 1 1 (Ed.cells ⟨(i : Int),e,t⟩) rfl rfl ?_ ?_ ?_ ?_ ?_ ?_
              (exact new_cells (by simp))
              (intro u hu; simp [Ed.cells] at hu; rcases hu with rfl | rfl | rfl <;> rfl)
              (simp only [maxLen]; omega)
              (omega)
              (simp; omega)
              intro A' c' w7 ho hg hb'
              have HO7 := Lib.hid (Own.pushed ho)
              have HG7 := Lib.hid hg
              have HB7 := Lib.hid hb'
              have q7 : w7.cell? ⟨w2.heap.size,3,none⟩ = some v3' := (HSE.out.blk.grown HG7.out (fun e => by have := (HSE.out.o3.lt _ e.symm).1; omega)).cell 3
              have q7f : w7.frozen? ⟨w2.heap.size,3,none⟩ = false := (HSE.out.blk.grown HG7.out (fun e => by have := (HSE.out.o3.lt _ e.symm).1; omega)).free 3
              clear ho hg hb'))
            all_goals
             go_wp2
             go_roundw
             case rel => exact ⟨k + 1,_,_,by go_num,by omega,HSE.out.edge HO7.out HG7.out HB7.out,HSE.out.fro3 (BV.out.alloc _).drew HG7.out _ 3,by simp; omega,fun y hy => by
              simp only [List.mem_append,List.mem_singleton] at hy
              rcases hy with hy | rfl
              · exact HL3.out.2 y hy
              · exact ⟨ht0,htn⟩⟩
             case measure => simp [intOf]; omega
          · go_wp2
            go_roundw
            case rel => exact ⟨k + 1,v3',es',by go_num,by omega,HSV.out,BV.out,by have := HL3.out.1; omega,HL3.out.2⟩
            case measure => simp [intOf]; omega
        · obtain rfl : k = al.length := by omega
          go_wp2
          go_roundw
          case rel => exact ⟨i + 1,v2',v3',ms',es',by go_num,by omega,HS3.out,BR3.out,HM.out,by have := HL3.out.1; omega,HL3.out.2⟩
          case measure => simp [intOf]; omega
    · obtain rfl : i = N := by omega
      obtain ⟨M2,m2,rfl⟩ := HS.out.o2.form
      obtain ⟨M3,m3,rfl⟩ := HS.out.o3.form
      have s0 := HS.out.blk.cell 0
      have s2 := HS.out.blk.cell 2
      have s3 := HS.out.blk.cell 3
      have hml := HL.out.1
      have hel := HL.out.2.1
      have a1 : OwnI W.heap.size al (.slice AE al.length cE) wr := Own.below HE.out BR.out.b (Nat.le_refl _)
      have RAW : Raw ⟨al,i,ms,es⟩ := ⟨H5.out.inc.setOk fun x hx => ⟨(H5.out.rg x hx).1,by have := (H5.out.rg x hx).2; omega⟩,by simp only; omega,by simp only; omega,HL.out.2.2⟩
      have HRR := Lib.hid (canonV_right RAW)
      have HSZ := Lib.hid (canonV_sizes RAW)
      have HCC := Lib.hid (Canonical_c ⟨al,i,ms,es⟩ ⟨AE,cE,M2,m2,M3,m3⟩ wr ⟨OwnI.ints a1,HS.out.o2.ints,Own.reads (fun _ => rfl) HS.out.o3,by simp only; omega,by simp only; omega,by simp only; omega⟩ RAW (fun e => Own.none a1 e) (by simp only; omega))
      have RW : Hid (BlkAt wr (w.heap.size + 1) 35 [.slice none 0 0,.int .i64 0,.slice none 0 0,.slice none 0 0]) := R2.out.below BR.out.b R2.out.lt
      have BW : Hid (Fro w.heap.size w wr) := W2.out.next BR.out.b
      clear a1 RAW
      go_wp2_with fail
      refine HCC.out.mono ?_
      rintro e w5 ⟨p,rfl,HP,hb⟩
      have HP' := Lib.hid HP.out.at
      have B5 := Lib.hid (BW.out.next hb)
      have R5 : Hid (BlkAt w5 (w.heap.size + 1) 35 [.slice none 0 0,.int .i64 0,.slice none 0 0,.slice none 0 0]) := RW.out.below hb RW.out.lt
      have HP0 := Lib.hid HP.out
      clear hb s0 s1 s2 s3 HP
      have r0 := R5.out.cell 0
      have r1 := R5.out.cell 1
      have r2 := R5.out.cell 2
      have r3 := R5.out.cell 3
      have f0 := R5.out.free 0
      have f1 := R5.out.free 1
      have f2 := R5.out.free 2
      have f3 := R5.out.free 3
      have hwz : w.heap.size + 1 < wr.heap.size := RW.out.lt
      have HAL : Hid ((canonV ⟨al,i,ms,es⟩).al = al) := rfl
      generalize canonV ⟨al,i,ms,es⟩ = cv at *
      obtain ⟨cal,cn,cms,ces⟩ := cv
      obtain ⟨X1,x1,X2,x2,X3,x3⟩ := p
      try dsimp only [Au.val] at *
      go_wp2
      refine bodyPost_ret (v := .agg #[.slice X1 cal.length x1,.int .i64 cn,.slice X2 cms.length x2,.slice X3 ces.length x3]) (by simp [results,Tryd.results23,go_sem, *]) rfl ?_
      have st : ∀ {α : Type} {enc : α → List Value} {kk TT B : Nat} {l : List α} {v : Value} (V : World) (j : Nat) (u : Value),w.heap.size + 2 ≤ B → Own enc kk TT B l v V → Own enc kk TT B l v (V.setCell ⟨w.heap.size + 1,j,none⟩ u) := fun V j u hB h => ownsRow_setCell_below h (show w.heap.size + 1 < _ by omega) u
      have zb : w.heap.size + 2 ≤ wr.heap.size := by omega
      have o1 := HP0.out.al
      have o2 := HP0.out.mr
      have o3 := HP0.out.ed
      have sz := HP0.out.sm
      have hz1 := HSZ.out.1
      have hz2 := HSZ.out.2.1
      have hz3 := HSZ.out.2.2
      have hi5 : i * al.length ≤ 5 * 5 := Nat.mul_le_mul hN5 hal
      simp only [Int.toNat_natCast] at *
      refine ⟨⟨cal,cn,cms,ces⟩,⟨X1,x1,X2,x2,X3,x3⟩,rfl,HRR.out,HAL.out,by simp only; omega,by simp only; omega,by simp only; omega,⟨?_,?_,?_,HP0.out.d1,HP0.out.d2,HP0.out.d3,by simp only; omega,by simp only; omega,by simp only; omega⟩,?_⟩
      · exact Own.base (st _ _ _ zb (st _ _ _ zb (st _ _ _ zb (st _ _ _ zb o1)))) (by omega)
      · exact Own.base (st _ _ _ zb (st _ _ _ zb (st _ _ _ zb (st _ _ _ zb o2)))) (by omega)
      · exact Own.base (st _ _ _ zb (st _ _ _ zb (st _ _ _ zb (st _ _ _ zb o3)))) (by omega)
      · exact ((((B5.out.setCell (by omega) _).setCell (by omega) _).setCell (by omega) _).setCell (by omega) _).b
end Go.Proofs.YtkifgffhoenaoaaDoor

namespace Go.Proofs.YtkifgffhoenaoaaDoor
open Go.RowKit
set_option linter.unusedSimpArgs false
set_option linter.unusedVariables false

def bitS (s : Int) (k : Nat) : Bool := (bits BinOp.and IntKind.u8 (s / 2 ^ k) 1 == 1)
def evV (s : Int) : Nat → List Int
 | 0 => []
 | k + 1 => if bitS s k then evV s k ++ [(k : Int)] else evV s k
theorem evV_lt5 (s : Int) : ∀ k,Lt5 (evV s k) k
 | 0 => ⟨fun i j x y _ hx => by simp [evV] at hx,by simp [evV],by simp [evV]⟩
 | k + 1 => by
   unfold evV
   split
   · exact (evV_lt5 s k).more
   · exact (evV_lt5 s k).skip
theorem evV_yes {s : Int} {k : Nat} (h : bitS s k = true) : evV s (k + 1) = evV s k ++ [(k : Int)] := by rw [evV,if_pos h]
theorem evV_no {s : Int} {k : Nat} (h : bitS s k = false) : evV s (k + 1) = evV s k := by rw [evV,if_neg (by simp [h])]
def GivesEv (s : Int) (w : World) (e : Ending) (w' : World) : Prop := ∃ v,e = .returned v ∧ Hid (OwnI w.heap.size (evV s 5) v w') ∧ Below w.heap.size w w'
set_option maxRecDepth 100000 in
set_option maxHeartbeats 1000000 in
theorem events_c (s : Int) (w : World) (h0 : 0 ≤ s) (h1 : s < 256) :
 Calls Tryd.prog 21 #[.int .u8 s] w (GivesEv s w) := by
 go_enter Tryd.func21,Tryd.ntmps21
 go_wp2_with fail
 go_loopw [3,4] (fun v i wr => ∃ (k : Nat),k ≤ 5 ∧ i = .int .i64 k ∧ Hid (OwnI w.heap.size (evV s k) v wr) ∧ Hid (Fro w.heap.size w wr)) (fun _ i _ => 5 - (intOf i).toNat)
 case atStart => exact ⟨0,by omega,rfl,Own.nil _,Fro.here w⟩
 case round =>
  obtain ⟨k,hk,rfl,HV,BW⟩ := hrel
  by_cases hlt : k < 5
  · have hll := (evV_lt5 s k).len
    obtain ⟨b,hb⟩ : ∃ b,bitS s k = b := ⟨_,rfl⟩
    have hb' : (bits BinOp.and IntKind.u8 (s / 2 ^ k) 1 == 1) = b := hb
    have HB := Lib.hid hb
    clear hb
    cases b
    · go_wp2
      go_roundw
      case rel => exact ⟨k + 1,by omega,by go_num,by rw [evV_no HB.out]; exact HV.out,BW.out⟩
      case measure => simp [intOf]; omega
    · go_wp2_with (at_builtin; refine wpList_push rfl _ _ 32 rfl (HV.out.alloc _) Tryd.underlying32 _ 8 intInfo rfl (by decide) rfl (k : Int) wr.heap.size rfl rfl (one_cell _ _ _ _ rfl) (encI_one _) (by omega) (by decide) (BW.out.alloc _).z ?_)
      intro A' c' w1 ho hg _
      have HN := Lib.hid ho
      have HG := Lib.hid ((BW.out.alloc _).push (HV.out.alloc _) hg)
      clear ho hg
      go_wp2
      go_roundw
      case rel => exact ⟨k + 1,by omega,by go_num,by rw [evV_yes HB.out]; exact HN.out,HG.out⟩
      case measure => simp [intOf]; omega
  · obtain rfl : k = 5 := by omega
    go_wp2
    go_ret
    exact ⟨_,rfl,HV.out,BW.out.b⟩
theorem AuOwn.sep {W w' : World} {a : Au} {p : AuP} (h : AuOwn W.heap.size a p w') (hb : Below W.heap.size W w') : Sep W.heap.size W (eAu a p) w' := by
 refine ⟨⟨hb,hb.size⟩,?_,?_,?_⟩
 · intro e he
   simp only [eAu,List.mem_cons,List.not_mem_nil,or_false] at he
   rcases he with rfl | rfl | rfl
   · exact Own.base h.al (Nat.zero_le _)
   · exact Own.base h.mr (Nat.zero_le _)
   · exact Own.base h.ed (Nat.zero_le _)
 · intro e he
   simp only [eAu,List.mem_cons,List.not_mem_nil,or_false] at he
   rcases he with rfl | rfl | rfl
   · exact fun g hg => (Own.lt h.al g (by simpa [eOwn] using hg)).1
   · exact fun g hg => (Own.lt h.mr g (by simpa [eOwn] using hg)).1
   · exact fun g hg => (Own.lt h.ed g (by simpa [eOwn] using hg)).1
 · have f : ∀ {α : Type} {enc : α → List Value} {k T : Nat} {l : List α} {v : Value} {g : Nat},g ∈ (eOwn enc k T l v).foot → v.ownBlock = some g := fun hg => by simpa [eOwn] using hg
   simp only [eAu,List.pairwise_cons,List.mem_cons,List.not_mem_nil,or_false,false_implies,implies_true,List.Pairwise.nil,and_true,forall_eq_or_imp,forall_eq]
   exact ⟨⟨fun g h1 h2 => h.d1 g (f h1) (f h2),fun g h1 h2 => h.d2 g (f h1) (f h2)⟩,fun g h1 h2 => h.d3 g (f h1) (f h2)⟩
structure Gd (s : Int) (a : Au) : Prop where
 rt : a.Right
 al : a.al = evV s 5
 n : a.n ≤ 5
 ed : a.ed.length ≤ 25
 mr : a.mr.length ≤ 5
theorem Gd.lens {s : Int} {a : Au} (h : Gd s a) : Lens a := ⟨by have := (evV_lt5 s 5).len; rw [h.al]; omega,by have := h.mr; omega,by have := h.ed; omega⟩
def GivesTwo (s0 s1 : Int) (w : World) (e : Ending) (w' : World) : Prop := ∃ a p b q,e = .returned (.tuple #[a.val p,b.val q]) ∧ Hid (Sep w.heap.size w (eAu a p ++ eAu b q) w') ∧ Hid (Gd s0 a) ∧ Hid (Gd s1 b)
def twoCells (s0 s1 : Int) (g0 g1 : Gr) : List Value := [.int .u8 s0,.int .u8 s1] ++ g0.cells ++ g1.cells
theorem two2 (s0 s1 : Int) (g0 g1 : Gr) : ∀ (j : Nat) v,g0.cells[j]? = some v → (twoCells s0 s1 g0 g1)[2 + j]? = some v := fun j v hv => by
 have hj : j < g0.cells.length := (List.getElem?_eq_some_iff.1 hv).1
 unfold twoCells
 rw [List.append_assoc,List.getElem?_append_right (by simp),show 2 + j - [Value.int .u8 s0,.int .u8 s1].length = j by simp,List.getElem?_append_left hj]
 exact hv
theorem two29 (s0 s1 : Int) (g0 g1 : Gr) : ∀ (j : Nat) v,g1.cells[j]? = some v → (twoCells s0 s1 g0 g1)[29 + j]? = some v := fun j v hv => by
 unfold twoCells
 rw [List.getElem?_append_right (by simp),show 29 + j - ([Value.int .u8 s0,.int .u8 s1] ++ g0.cells).length = j by simp]
 exact hv
theorem BlkAt.rng {b o T : Nat} {l cs : List Value} {w : World} (h : BlkAt w b T l) (hs : ∀ (j : Nat) v,cs[j]? = some v → l[o + j]? = some v) : w.rangeAt b o cs := fun j v hv => (h.cell (o + j)).trans (hs j v hv)
end Go.Proofs.YtkifgffhoenaoaaDoor

namespace Go.Proofs.YtkifgffhoenaoaaDoor
open Go.ChangeShapes Go.WideShapes Go.ChangeAt Go.RowKit
set_option linter.unusedSimpArgs false
set_option linter.unusedVariables false

section
variable {H : Type} {enc : TypeId × Value → H} {P : Program} {w : World} {base : Nat} {spare : Nat → Bool} {held : Bool}

def consec (P : Program) : List Field → Nat → Nat → Bool
 | [],n,m => n == m
 | f :: r,n,m => f.offset == n && consec P r (n + P.cellsOf f.type) m
theorem consec_cut {P : Program} : ∀ (fs : List Field) (n m : Nat) (cs : List Value),consec P fs n m = true → cs.length = m →
 n ≤ m ∧ cs.drop n = (fs.map fun f => (cs.drop f.offset).take (P.cellsOf f.type)).flatten ∧ ∀ f,f ∈ fs → ((cs.drop f.offset).take (P.cellsOf f.type)).length = P.cellsOf f.type := by
 intro fs
 induction fs with
 | nil =>
   intro n m cs h hl
   have : n = m := by simpa [consec] using h
   subst this
   exact ⟨Nat.le_refl _,by simp [hl],fun f hf => by cases hf⟩
 | cons f r ih =>
   intro n m cs h hl
   simp only [consec,Bool.and_eq_true,beq_iff_eq] at h
   obtain ⟨h1,h2⟩ := h
   obtain ⟨g1,g2,g3⟩ := ih _ _ cs h2 hl
   refine ⟨by omega,?_,fun x hx => ?_⟩
   · simp only [List.map_cons,List.flatten_cons]
     rw [← g2,h1,← List.drop_drop,List.take_append_drop]
   · rcases List.mem_cons.1 hx with rfl | hx
     · rw [List.length_take,List.length_drop]; omega
     · exact g3 x hx

theorem st_of {t : TypeId} {fs : List Field} (ht : P.underlying t = some (.struct fs.toArray)) (hc : consec P fs 0 (P.cellsOf t) = true) {fuel : Nat} {cs : List Value} {x : DataW H × List MemPlace}
 (h : DataW.trod enc P w base spare held fuel t cs = some x) :
 ∃ css : List (List Value),cs = css.flatten ∧ css.length = fs.length ∧ ∀ (i : Nat) (f : Field),fs[i]? = some f → ∃ (c : List Value) (y : DataW H × List MemPlace) (n : Nat),css[i]? = some c ∧ c.length = P.cellsOf f.type ∧ DataW.trod enc P w base spare held n f.type c = some y := by
 obtain ⟨xs,n,_,_,hl,hlen,hf⟩ := DataW.trod_struct ht h
 obtain ⟨_,g2,g3⟩ := consec_cut fs 0 _ cs hc hl
 refine ⟨fs.map fun f => (cs.drop f.offset).take (P.cellsOf f.type),by simpa using g2,by simp,fun i f hfi => ?_⟩
 have h1 := hf i f (by simpa using hfi)
 have hi : i < fs.length := (List.getElem?_eq_some_iff.1 hfi).1
 rw [List.getElem?_eq_getElem (by simp at hlen; omega)] at h1
 exact ⟨_,_,n,by rw [List.getElem?_map,hfi]; rfl,g3 f (List.mem_of_getElem? hfi),h1⟩
theorem st2_of {t : TypeId} {f0 f1 : Field} (ht : P.underlying t = some (.struct #[f0,f1])) (hc : consec P [f0,f1] 0 (P.cellsOf t) = true) {fuel : Nat} {cs : List Value} {x : DataW H × List MemPlace}
 (h : DataW.trod enc P w base spare held fuel t cs = some x) :
 ∃ (c0 c1 : List Value) (y0 y1 : DataW H × List MemPlace) (n0 n1 : Nat),cs = c0 ++ c1 ∧ DataW.trod enc P w base spare held n0 f0.type c0 = some y0 ∧ DataW.trod enc P w base spare held n1 f1.type c1 = some y1 := by
 obtain ⟨css,rfl,hl,hf⟩ := st_of (fs := [f0,f1]) ht hc h
 match css,hl with
 | [c0,c1],_ =>
   obtain ⟨_,y0,n0,e0,_,t0⟩ := hf 0 f0 rfl
   obtain ⟨_,y1,n1,e1,_,t1⟩ := hf 1 f1 rfl
   cases e0; cases e1
   exact ⟨c0,c1,y0,y1,n0,n1,by simp,t0,t1⟩
theorem sl_of {α : Type} {E : Reading α} {k : Nat} {t e : TypeId} (ht : P.underlying t = some (.slice e)) (hce : P.cellsOf e = k) (hk : 0 < k)
 (hel : ∀ (n : Nat) (cs : List Value) (x : DataW H × List MemPlace),DataW.trod enc P w base spare held n e cs = some x → ∃ y : α,E w y cs) {fuel : Nat} {cs : List Value} {x : DataW H × List MemPlace}
 (h : DataW.trod enc P w base spare held fuel t cs = some x) : ∃ (A : Option Addr) (c : Nat) (l : List α),cs = [.slice A l.length c] ∧ SlAt E k w A l ∧ l.length ≤ c ∧ c ≤ maxLen := by
 rcases DataW.trod_slice ht h with ⟨rfl,_⟩ | ⟨a,len,cap,elems,rest,n,_,rfl,_,_,hl,hm,hlen,hi,_,_⟩
 · exact ⟨none,0,[],rfl,SlAt.nil,by simp,by simp⟩
 · rw [hce] at hi
   have hx : ∀ i,i < len → ∃ y : α,∃ vs : List Value,vs.length = k ∧ E w y vs ∧ ∀ j v,vs[j]? = some v → w.cell? ((a.add (i * k)).add j) = some v := fun i hil => by
    have h1 := hi i hil
    rw [List.getElem?_eq_getElem (by omega)] at h1
    obtain ⟨cs',hc,hd⟩ := Option.bind_eq_some_iff.1 h1
    obtain ⟨_,hcl,hat⟩ := World.cells?_some hc
    obtain ⟨y,hy⟩ := hel n cs' _ hd
    refine ⟨y,cs',hcl,hy,fun j v hj => ?_⟩
    have hjk : j < k := by have := (List.getElem?_eq_some_iff.1 hj).1; omega
    rw [hat j hjk,hj]
   let f : Fin len → α := fun i => Classical.choose (hx i.1 i.2)
   have hf : ∀ i : Fin len,∃ vs : List Value,vs.length = k ∧ E w (f i) vs ∧ ∀ j v,vs[j]? = some v → w.cell? ((a.add (i.1 * k)).add j) = some v := fun i => Classical.choose_spec (hx i.1 i.2)
   refine ⟨some a,cap,List.ofFn f,by simp,fun hne => ?_,by simpa using hl,hm⟩
   have h0 : 0 < len := by
    rcases Nat.eq_zero_or_pos len with e | e
    · subst e; simp at hne
    · exact e
   obtain ⟨vs,hvl,_,hv⟩ := hf ⟨0,h0⟩
   obtain ⟨u,hu⟩ : ∃ u,vs[0]? = some u := ⟨_,List.getElem?_eq_getElem (by omega)⟩
   obtain ⟨b,off,spot⟩ := a
   have hc0 := hv 0 u hu
   have hspot : spot = none := by simpa [Addr.add] using World.cell?_spot hc0
   subst hspot
   refine ⟨b,off,rfl,?_,fun i x hxx => ?_⟩
   · have := World.block_lt_of_cell? w _ hc0
     simpa [Addr.add] using this
   · obtain ⟨hil,rfl⟩ := List.getElem?_eq_some_iff.1 hxx
     have hil' : i < len := by simpa using hil
     obtain ⟨vs,g1,g2,g3⟩ := hf ⟨i,hil'⟩
     refine ⟨vs,g1,by simpa using g2,fun j v hj => ?_⟩
     have := g3 j v hj
     simpa [Addr.add_mid,Nat.add_assoc] using this
end
end Go.Proofs.YtkifgffhoenaoaaDoor

namespace Go.Proofs.YtkifgffhoenaoaaDoor
open Go.ChangeShapes Go.WideShapes Go.ChangeAt Go.RowKit
set_option linter.unusedSimpArgs false
set_option linter.unusedVariables false
set_option maxRecDepth 100000
section
variable {H : Type} {enc : TypeId × Value → H} {w : World} {base : Nat} {spare : Nat → Bool} {held : Bool}

theorem u8_bounds {n : Int} (h : (Lit.int .u8 n).wf = true) : 0 ≤ n ∧ n < 256 := by
 simp [Lit.wf,IntKind.min,IntKind.max,IntKind.signed,IntKind.bits] at h; omega
theorem list5 {α : Type} {cs : List α} (h : cs.length = 5) : ∃ c0 c1 c2 c3 c4,cs = [c0,c1,c2,c3,c4] := by
 match cs,h with
 | [c0,c1,c2,c3,c4],_ => exact ⟨c0,c1,c2,c3,c4,rfl⟩
theorem cut5 {α : Type} {cs : List α} (h : cs.length = 25) : cs = (cs.drop 0).take 5 ++ ((cs.drop 5).take 5 ++ ((cs.drop 10).take 5 ++ ((cs.drop 15).take 5 ++ (cs.drop 20).take 5))) := by
 have e4 : (cs.drop 20).take 5 = cs.drop 20 := List.take_of_length_le (by simp [h])
 have e3 : (cs.drop 15).take 5 ++ cs.drop 20 = cs.drop 15 := by have := List.take_append_drop 5 (cs.drop 15); rwa [List.drop_drop] at this
 have e2 : (cs.drop 10).take 5 ++ cs.drop 15 = cs.drop 10 := by have := List.take_append_drop 5 (cs.drop 10); rwa [List.drop_drop] at this
 have e1 : (cs.drop 5).take 5 ++ cs.drop 10 = cs.drop 5 := by have := List.take_append_drop 5 (cs.drop 5); rwa [List.drop_drop] at this
 rw [e4,e3,e2,e1,List.drop_zero,List.take_append_drop]

theorem b5_of {P : Program} {t e : TypeId} (ht : P.underlying t = some (.array 5 e)) (he : P.underlying e = some (.int .u8)) (hc : P.cellsOf t = 5) (hce : P.cellsOf e = 1) {fuel : Nat} {cs : List Value} {x : DataW H × List MemPlace}
 (h : DataW.trod enc P w base spare held fuel t cs = some x) : ∃ f : B5,f.Ok ∧ cs = f.cells := by
 obtain ⟨xs,m,_,_,hl,hlen,hf⟩ := DataW.trod_array ht h
 obtain ⟨c0,c1,c2,c3,c4,rfl⟩ := list5 (hl.trans hc)
 have g : ∀ i,i < 5 → ∀ c,([c0,c1,c2,c3,c4].drop i).take 1 = [c] → ∃ n,c = .int .u8 n ∧ 0 ≤ n ∧ n < 256 := fun i hi c hcc => by
  have h1 := hf i hi
  rw [hce,Nat.mul_one,hcc,List.getElem?_eq_getElem (by omega)] at h1
  obtain ⟨n,hn,_,hw⟩ := DataW.trod_int he h1
  cases hn
  exact ⟨n,rfl,u8_bounds hw⟩
 obtain ⟨x0,rfl,b0⟩ := g 0 (by omega) c0 rfl
 obtain ⟨x1,rfl,b1⟩ := g 1 (by omega) c1 rfl
 obtain ⟨x2,rfl,b2⟩ := g 2 (by omega) c2 rfl
 obtain ⟨x3,rfl,b3⟩ := g 3 (by omega) c3 rfl
 obtain ⟨x4,rfl,b4⟩ := g 4 (by omega) c4 rfl
 exact ⟨⟨x0,x1,x2,x3,x4⟩,⟨fun x hx => by
  simp only [List.mem_cons,List.not_mem_nil,or_false] at hx
  rcases hx with rfl | rfl | rfl | rfl | rfl <;> assumption⟩,rfl⟩

theorem b25_of {P : Program} {t e e' : TypeId} (ht : P.underlying t = some (.array 5 e)) (he : P.underlying e = some (.array 5 e')) (he' : P.underlying e' = some (.int .u8)) (hc : P.cellsOf t = 25) (hce : P.cellsOf e = 5) (hce' : P.cellsOf e' = 1) {fuel : Nat} {cs : List Value} {x : DataW H × List MemPlace}
 (h : DataW.trod enc P w base spare held fuel t cs = some x) : ∃ r0 r1 r2 r3 r4 : B5,r0.Ok ∧ r1.Ok ∧ r2.Ok ∧ r3.Ok ∧ r4.Ok ∧ cs = r0.cells ++ (r1.cells ++ (r2.cells ++ (r3.cells ++ r4.cells))) := by
 obtain ⟨xs,m,_,_,hl,hlen,hf⟩ := DataW.trod_array ht h
 have g : ∀ i,i < 5 → ∃ f : B5,f.Ok ∧ (cs.drop (i * 5)).take 5 = f.cells := fun i hi => by
  have h1 := hf i hi
  rw [hce,List.getElem?_eq_getElem (by omega)] at h1
  exact b5_of he he' hce hce' h1
 obtain ⟨r0,o0,e0⟩ := g 0 (by omega)
 obtain ⟨r1,o1,e1⟩ := g 1 (by omega)
 obtain ⟨r2,o2,e2⟩ := g 2 (by omega)
 obtain ⟨r3,o3,e3⟩ := g 3 (by omega)
 obtain ⟨r4,o4,e4⟩ := g 4 (by omega)
 refine ⟨r0,r1,r2,r3,r4,o0,o1,o2,o3,o4,?_⟩
 rw [← e0,← e1,← e2,← e3,← e4]
 exact cut5 (hl.trans hc)

theorem gr_of {fuel : Nat} {cs : List Value} {x : DataW H × List MemPlace} (h : DataW.trod enc Tryd.prog w base spare held fuel 27 cs = some x) : ∃ g : Gr,g.Ok ∧ cs = g.cells := by
 obtain ⟨xs,n,_,_,hl,hlen,hf⟩ := DataW.trod_struct Tryd.underlying27 h
 have hC : Tryd.prog.cellsOf 27 = 27 := by kernel_rfl
 have c1 : Tryd.prog.cellsOf 5 = 1 := by kernel_rfl
 have c25 : Tryd.prog.cellsOf 25 = 25 := by kernel_rfl
 rw [hC] at hl
 have e3 : xs.length = 3 := hlen
 have h0 : DataW.trod enc Tryd.prog w base spare held n 5 ((cs.drop 0).take (Tryd.prog.cellsOf 5)) = some xs[0] := by
  have := hf 0 _ rfl; rw [List.getElem?_eq_getElem (by omega)] at this; exact this
 rw [c1] at h0
 have h1 : DataW.trod enc Tryd.prog w base spare held n 5 ((cs.drop 1).take (Tryd.prog.cellsOf 5)) = some xs[1] := by
  have := hf 1 _ rfl; rw [List.getElem?_eq_getElem (by omega)] at this; exact this
 rw [c1] at h1
 have h2 : DataW.trod enc Tryd.prog w base spare held n 25 ((cs.drop 2).take (Tryd.prog.cellsOf 25)) = some xs[2] := by
  have := hf 2 _ rfl; rw [List.getElem?_eq_getElem (by omega)] at this; exact this
 rw [c25] at h2
 obtain ⟨s,hs,_,ws⟩ := DataW.trod_int Tryd.underlying5 h0
 obtain ⟨m,hm,_,wm⟩ := DataW.trod_int Tryd.underlying5 h1
 obtain ⟨r0,r1,r2,r3,r4,o0,o1,o2,o3,o4,hr⟩ := b25_of Tryd.underlying25 Tryd.underlying24 Tryd.underlying5 (by kernel_rfl) (by kernel_rfl) (by kernel_rfl) h2
 refine ⟨⟨s,m,r0,r1,r2,r3,r4⟩,⟨u8_bounds ws,u8_bounds wm,o0,o1,o2,o3,o4⟩,?_⟩
 have a0 : cs.drop 0 = (cs.drop 0).take 1 ++ cs.drop 1 := by have := List.take_append_drop 1 (cs.drop 0); rw [List.drop_drop] at this; exact this.symm
 have a1 : cs.drop 1 = (cs.drop 1).take 1 ++ cs.drop 2 := by have := List.take_append_drop 1 (cs.drop 1); rw [List.drop_drop] at this; exact this.symm
 have a2 : (cs.drop 2).take 25 = cs.drop 2 := List.take_of_length_le (by simp [hl])
 rw [hr] at a2
 rw [← a2,hm] at a1
 rw [a1,hs] at a0
 rw [← List.drop_zero (l := cs),a0]
 rfl
theorem arr2_of {P : Program} {t e : TypeId} {k : Nat} (ht : P.underlying t = some (.array 2 e)) (hc : P.cellsOf t = k + k) (hce : P.cellsOf e = k) {fuel : Nat} {cs : List Value} {x : DataW H × List MemPlace}
 (h : DataW.trod enc P w base spare held fuel t cs = some x) : ∃ (d0 d1 : List Value) (y0 y1 : DataW H × List MemPlace) (m : Nat),cs = d0 ++ d1 ∧ DataW.trod enc P w base spare held m e d0 = some y0 ∧ DataW.trod enc P w base spare held m e d1 = some y1 := by
 obtain ⟨xs,m,_,_,hl,hlen,hf⟩ := DataW.trod_array ht h
 rw [hc] at hl
 have h0 := hf 0 (by decide)
 have h1 := hf 1 (by decide)
 rw [hce,List.getElem?_eq_getElem (by omega)] at h0 h1
 rw [Nat.zero_mul,List.drop_zero] at h0
 rw [Nat.one_mul,List.take_of_length_le (by simp; omega)] at h1
 exact ⟨cs.take k,cs.drop k,_,_,m,(List.take_append_drop k cs).symm,h0,h1⟩
theorem gr_in {v : Value} {d : DataW H} {p : List MemPlace} {r : Reach} {b0 : Nat} (hv : Value.okWide Tryd.prog w r b0 27 v) (h : DataW.Trod enc Tryd.prog w base spare held 27 v d p) :
 ∃ g : Gr,v = .agg g.cells.toArray ∧ g.Ok := by
 obtain ⟨⟨cs⟩,rfl,hsz⟩ := okWide_struct Tryd.underlying27 hv
 obtain ⟨fuel,hf0⟩ := h
 have hf : DataW.trod enc Tryd.prog w base spare held fuel 27 cs = some (d,p) := by simpa [Value.cells] using hf0
 obtain ⟨g,og,rfl⟩ := gr_of hf
 exact ⟨g,rfl,og⟩
theorem two_in {v : Value} {d : DataW H} {p : List MemPlace} {r : Reach} {b0 : Nat} (hv : Value.okWide Tryd.prog w r b0 30 v) (h : DataW.Trod enc Tryd.prog w base spare held 30 v d p) :
 ∃ (s0 s1 : Int) (g0 g1 : Gr),v = .agg (twoCells s0 s1 g0 g1).toArray ∧ (0 ≤ s0 ∧ s0 < 256) ∧ (0 ≤ s1 ∧ s1 < 256) ∧ g0.Ok ∧ g1.Ok := by
 obtain ⟨⟨cs⟩,rfl,hsz⟩ := okWide_struct Tryd.underlying30 hv
 obtain ⟨fuel,hf0⟩ := h
 have hf : DataW.trod enc Tryd.prog w base spare held fuel 30 cs = some (d,p) := by simpa [Value.cells] using hf0
 obtain ⟨c0,c1,y0,y1,n0,n1,rfl,h0,h1⟩ := st2_of Tryd.underlying30 (by kernel_rfl) hf
 obtain ⟨d0,d1,_,_,m,rfl,t0,t1⟩ := arr2_of (k := 1) Tryd.underlying23 (by kernel_rfl) (by kernel_rfl) h0
 obtain ⟨e0,e1,_,_,m',rfl,u0,u1⟩ := arr2_of (k := 27) Tryd.underlying28 (by kernel_rfl) (by kernel_rfl) h1
 obtain ⟨s0,rfl,_,w0⟩ := DataW.trod_int Tryd.underlying22 t0
 obtain ⟨s1,rfl,_,w1⟩ := DataW.trod_int Tryd.underlying22 t1
 obtain ⟨g0,o0,rfl⟩ := gr_of u0
 obtain ⟨g1,o1,rfl⟩ := gr_of u1
 exact ⟨s0,s1,g0,g1,rfl,u8_bounds w0,u8_bounds w1,o0,o1⟩
end
end Go.Proofs.YtkifgffhoenaoaaDoor

namespace Go.Proofs.YtkifgffhoenaoaaDoor
set_option linter.unusedSimpArgs false
set_option linter.unusedVariables false

theorem fold2 {a b : Au} (ha : a.Right) (hb : b.Right) : ∀ w : List Int,w.foldl (stp2 a b) (a.st,b.st) = (rn a w,rn b w) := by
 refine snoc_ind rfl (fun w e ih => ?_)
 rw [List.foldl_append,ih]
 show (toV (stepOf a.ed) (rn a w) e,toV (stepOf b.ed) (rn b w) e) = _
 rw [rn_to ha,rn_to hb]
theorem leads2 {a b : Au} (ha : a.Right) (hb : b.Right) (evs : List Int) (P : Int × Int → Prop) (w : List Int) : LeadsTo (stp2 a b) (a.st,b.st) evs P w ↔ (∀ e,e ∈ w → e ∈ evs) ∧ P (rn a w,rn b w) := by
 unfold LeadsTo; rw [fold2 ha hb]
theorem union_nil {l : List Int} (h : incr l) : unionV l [] = l :=
 Rises.ext (R := fun x y : Int => x < y) (fun x h => by omega) (fun x y h k => by omega) (rises_unionV _ l [] (Nat.le_refl _) h.rises (fun i j x y _ hx => by simp at hx)) h.rises (fun w => by rw [mem_unionV _ _ _ (Nat.le_refl _)]; simp)
theorem pairs_le {a b : Au} (ha : a.Right) (hb : b.Right) (fs : List (Int × Int)) (hn : fs.Nodup) (rg : ∀ v,v ∈ fs → (v.1 = -1 ∨ 0 ≤ v.1 ∧ v.1 < a.n) ∧ (v.2 = -1 ∨ 0 ≤ v.2 ∧ v.2 < b.n)) : fs.length ≤ (a.n.toNat + 1) * (b.n.toNat + 1) := by
 have := sub_len (fs.map fun v => (v.1 + 1).toNat * (b.n.toNat + 1) + (v.2 + 1).toNat) (List.range ((a.n.toNat + 1) * (b.n.toNat + 1))) (by
  rw [List.nodup_iff_pairwise_ne,List.pairwise_map]
  refine List.Pairwise.imp_of_mem ?_ (List.nodup_iff_pairwise_ne.1 hn)
  intro x y hx hy hxy he
  have h1 := rg x hx
  have h2 := rg y hy
  have b1 : (x.2 + 1).toNat < b.n.toNat + 1 := by rcases h1.2 with g | g <;> omega
  have b2 : (y.2 + 1).toNat < b.n.toNat + 1 := by rcases h2.2 with g | g <;> omega
  have e1 : (x.1 + 1).toNat = (y.1 + 1).toNat := by
   have := congrArg (· / (b.n.toNat + 1)) he
   simp only [Nat.mul_comm _ (b.n.toNat + 1)] at this
   rw [Nat.mul_add_div (by omega),Nat.mul_add_div (by omega),Nat.div_eq_of_lt b1,Nat.div_eq_of_lt b2] at this
   omega
  rw [e1] at he
  have e2 : (x.2 + 1).toNat = (y.2 + 1).toNat := by omega
  apply hxy
  have c1 : x.1 = y.1 := by rcases h1.1 with g | g <;> rcases h2.1 with k | k <;> omega
  have c2 : x.2 = y.2 := by rcases h1.2 with g | g <;> rcases h2.2 with k | k <;> omega
  exact Prod.ext c1 c2) (fun q hq => by
  obtain ⟨v,hv,rfl⟩ := List.mem_map.1 hq
  have h1 := rg v hv
  have b1 : (v.1 + 1).toNat ≤ a.n.toNat := by rcases h1.1 with g | g <;> omega
  have b2 : (v.2 + 1).toNat < b.n.toNat + 1 := by rcases h1.2 with g | g <;> omega
  rw [List.mem_range,Nat.add_mul,Nat.one_mul]
  have := Nat.mul_le_mul_right (b.n.toNat + 1) b1
  omega)
 rw [List.length_map,List.length_range] at this
 exact this
theorem rn_rg {a : Au} (ha : a.Right) (w : List Int) : rn a w = -1 ∨ 0 ≤ rn a w ∧ rn a w < a.n := ha.rn_cases w
theorem IsMin.size {m a b : Au} {ch : Bool → Bool → Bool} (ha : a.Right) (hb : b.Right) (h : IsMin m (CoL a b ch)) : m.n.toNat ≤ (a.n.toNat + 1) * (b.n.toNat + 1) := by
 obtain ⟨ws,hl,_,hw⟩ := h.ws
 have key : ∀ (i : Nat),i < m.n.toNat → ∃ w,ws[i]? = some w ∧ rn m w = (i : Int) := fun i hi => by
  obtain ⟨w,hw'⟩ : ∃ w,ws[i]? = some w := ⟨_,List.getElem?_eq_getElem (by omega)⟩
  exact ⟨w,hw',(hw i w hw').is⟩
 have := pairs_le ha hb (ws.map fun w => (rn a w,rn b w)) (by
  rw [List.nodup_iff_pairwise_ne,List.pairwise_map,List.pairwise_iff_getElem]
  intro i j hi hj hij he
  have hi' := List.getElem?_eq_getElem hi
  have hj' := List.getElem?_eq_getElem hj
  have ri := (hw i _ hi').is
  have rj := (hw j _ hj').is
  obtain ⟨e1,e2⟩ := Prod.mk.inj he
  have lu := (h.liv ws[i]).1 (by rw [ri]; omega)
  have lv := (h.liv ws[j]).1 (by rw [rj]; omega)
  have over : ∀ w,Liv (CoL a b ch) w → ∀ x,x ∈ w → x ∈ unionV a.al b.al := fun w ⟨v,hv⟩ x hx => hv.1 x (List.mem_append_left _ hx)
  have ou := over _ lu
  have ov := over _ lv
  have al : Alik (CoL a b ch) ws[i] ws[j] := fun x => by
   unfold CoL
   rw [rn_app,rn_app,rn_app,rn_app,e1,e2]
   refine and_congr_left fun _ => ⟨fun g y hy => ?_,fun g y hy => ?_⟩
   · rcases List.mem_append.1 hy with k | k
     · exact ov y k
     · exact g y (List.mem_append_right _ k)
   · rcases List.mem_append.1 hy with k | k
     · exact ou y k
     · exact g y (List.mem_append_right _ k)
  have := (h.alik (by rw [ri]; omega) (by rw [rj]; omega)).2 al
  rw [ri,rj] at this
  omega) (fun v hv => by
  obtain ⟨w,_,rfl⟩ := List.mem_map.1 hv
  exact ⟨rn_rg ha w,rn_rg hb w⟩)
 rw [List.length_map,hl] at this
 exact this
theorem CoR.got {a b m : Au} {ch : Bool → Bool → Bool} {r : Int} (ha : a.Right) (hb : b.Right) (h : CoR a b ch m r) {x y : Nat} (hx : a.n.toNat ≤ x) (hy : b.n.toNat ≤ y) (hs : (x + 1) * (y + 1) ≤ 4096) :
 r = 0 ∧ IsMin m (CoL a b ch) ∧ m.al = unionV a.al b.al ∧ m.n.toNat ≤ (x + 1) * (y + 1) := by
 have hxy : (a.n.toNat + 1) * (b.n.toNat + 1) ≤ (x + 1) * (y + 1) := Nat.mul_le_mul (by omega) (by omega)
 obtain ⟨h1,h2,h3⟩ := h.ok ha hb (Nat.le_trans hxy hs)
 exact ⟨h1,h2,h3,Nat.le_trans (h2.size ha hb) hxy⟩
theorem CoL.comp {a : Au} (hi : incr a.al) (w : List Int) : CoL a Au.zero (fun x _ => !x) w ↔ (∀ x,x ∈ w → x ∈ a.al) ∧ ¬ rn a w ∈ a.mr := by
 unfold CoL
 rw [show Au.zero.al = [] from rfl,union_nil hi]
 simp
theorem morgan {a b p q u l r : Au} (hi : incr a.al) (hab : b.al = a.al) (hp : IsMin p (CoL a Au.zero (fun x _ => !x))) (hpa : p.al = unionV a.al Au.zero.al) (hq : IsMin q (CoL b Au.zero (fun x _ => !x))) (hqa : q.al = unionV b.al Au.zero.al)
 (hu : IsMin u (CoL a b (fun x y => x || y))) (hua : u.al = unionV a.al b.al) (hl : IsMin l (CoL u Au.zero (fun x _ => !x))) (hla : l.al = unionV u.al Au.zero.al) (hr : IsMin r (CoL p q (fun x y => x && y))) (hra : r.al = unionV p.al q.al) : l = r := by
 have zz : Au.zero.al = [] := rfl
 rw [zz,union_nil hi] at hpa
 rw [zz,hab,union_nil hi] at hqa
 rw [hab,union_same hi] at hua
 rw [zz,hua,union_nil hi] at hla
 rw [hpa,hqa,union_same hi] at hra
 refine hl.uniq (hr.congr fun w => ?_) (hla.trans hra.symm)
 have hiu : incr u.al := by rw [hua]; exact hi
 rw [CoL.comp hiu,hua,hu.lang]
 unfold CoL
 rw [hpa,hqa,hab,union_same hi]
 simp only [Bool.and_eq_true,Bool.or_eq_true,decide_eq_true_eq,hp.lang,hq.lang,CoL.comp hi,CoL.comp (show incr b.al from by rw [hab]; exact hi),hab]
 constructor
 · rintro ⟨h,⟨_,h1⟩,⟨_,h2⟩⟩
   exact ⟨h,fun ⟨_,g⟩ => g.elim h1 h2⟩
 · rintro ⟨h,g⟩
   exact ⟨h,⟨h,fun k => g ⟨h,.inl k⟩⟩,⟨h,fun k => g ⟨h,.inr k⟩⟩⟩
theorem inc_empty {a b d : Au} (ha : a.Right) (hb : b.Right) (hab : b.al = a.al) (hd : IsMin d (CoL a b (fun x y => x && !y))) (hda : d.al = unionV a.al b.al) :
 (∀ u,¬ LeadsTo (stp2 a b) (a.st,b.st) a.al (fun q => incP a b 2 q = true) u) ↔ (∀ u,¬ LeadsTo (stp2 d Au.zero) (d.st,Au.zero.st) d.al (fun q => (fun q : Int × Int => inV d q.1 2) q = true) u) := by
 rw [hab,union_same ha.al.incr] at hda
 refine forall_congr' fun u => not_congr ?_
 rw [leads2 ha hb,leads2 hd.rt Au.zero_right,hda]
 refine and_congr_right fun hu => ?_
 simp only [incP,inV_two ha,inV_two hb,inV_two hd.rt,decide_eq_true_eq,hd.lang,CoL,hab,union_same ha.al.incr]
 exact ⟨fun g => ⟨hu,g⟩,fun g => g.2⟩
end Go.Proofs.YtkifgffhoenaoaaDoor

namespace Go.Proofs.YtkifgffhoenaoaaDoor
open Go.RowKit
set_option linter.unusedSimpArgs false
set_option linter.unusedVariables false
set_option maxRecDepth 100000

set_option maxHeartbeats 4000000 in
theorem make9_c (s0 s1 : Int) (g0 g1 : Gr) (w : World) (h0 : 0 ≤ s0 ∧ s0 < 256) (h1 : 0 ≤ s1 ∧ s1 < 256) (hg0 : g0.Ok) (hg1 : g1.Ok) :
 Calls Tryd.prog 14 #[.agg (twoCells s0 s1 g0 g1).toArray] w (GivesTwo s0 s1 w) := by
 have H0 := Lib.hid h0
 have H1 := Lib.hid h1
 have HG0 := Lib.hid hg0
 have HG1 := Lib.hid hg1
 clear h0 h1 hg0 hg1
 go_enter Tryd.func14,Tryd.ntmps14
 generalize hcs : twoCells s0 s1 g0 g1 = cs
 go_upto_region 1 with fail
 refine wp_world (fun W => Sep w.heap.size w [eBlk (w.heap.size + 2) 35 [.slice none 0 0,.int .i64 0,.slice none 0 0,.slice none 0 0],eBlk (w.heap.size + 1) 35 [.slice none 0 0,.int .i64 0,.slice none 0 0,.slice none 0 0],eBlk w.heap.size 30 cs] W) ?_ fun W0 S => ?_
 · exact ((((Sep.here w).alloc' _ cs rfl rfl).alloc' _ [_,_,_,_] rfl (by simp)).alloc' _ [_,_,_,_] rfl (by simp))
 rw [← hcs] at S
 have S0 := Lib.hid S
 clear S hcs
 have S1 := Lib.hid S0.out.drew
 refine wp_region_held_drew (S := (fun V => Sep w.heap.size w [eBlk w.heap.size 30 (twoCells s0 s1 g0 g1)] V)) (by kernel_rfl) ?_ (fun hHeld => ?_)
 · exact S1.out.pick [2] (by decide)
 generalize hwz : W0.drew = w1 at *
 clear hwz
 refine tkH 0 rfl (v := ?_) (by kernel_rfl) ?_ hHeld ?_
 rotate_left
 · intro V hSw
   clear hSw
   first | (go_simp; done) | (go_simp; with_reducible rfl)
 try simp only [List.getElem_toArray,List.getElem_cons_zero,List.getElem_cons_succ,Act.put,List.setIfInBounds_toArray,List.set_cons_zero,List.set_cons_succ]
 refine tkH 1 rfl (v := ?_) (by kernel_rfl) ?_ hHeld ?_
 rotate_left
 · intro V hSw
   clear hSw
   first | (go_simp; done) | (go_simp; with_reducible rfl)
 try simp only [List.getElem_toArray,List.getElem_cons_zero,List.getElem_cons_succ,Act.put,List.setIfInBounds_toArray,List.set_cons_zero,List.set_cons_succ]
 refine tkH 2 rfl (v := ?_) (by kernel_rfl) ?_ hHeld ?_
 rotate_left
 · intro V hSw
   have c0 := BlkAt.cell (Sep.get (show Sep w.heap.size w _ V from hSw) 0 rfl) 0
   rw [show (twoCells s0 s1 g0 g1)[0]? = some (.int .u8 s0) from rfl] at c0
   clear hSw
   first | (go_simp; done) | (go_simp; with_reducible rfl)
 try simp only [List.getElem_toArray,List.getElem_cons_zero,List.getElem_cons_succ,Act.put,List.setIfInBounds_toArray,List.set_cons_zero,List.set_cons_succ]
 refine tkH 4 rfl (v := ?_) (by kernel_rfl) ?_ hHeld ?_
 rotate_left
 · intro V hSw
   clear hSw
   first | (go_simp; done) | (go_simp; with_reducible rfl)
 try simp only [List.getElem_toArray,List.getElem_cons_zero,List.getElem_cons_succ,Act.put,List.setIfInBounds_toArray,List.set_cons_zero,List.set_cons_succ]
 refine tkH 5 rfl (v := ?_) (by kernel_rfl) ?_ hHeld ?_
 rotate_left
 · intro V hSw
   clear hSw
   first | (go_simp; done) | (go_simp; with_reducible rfl)
 try simp only [List.getElem_toArray,List.getElem_cons_zero,List.getElem_cons_succ,Act.put,List.setIfInBounds_toArray,List.set_cons_zero,List.set_cons_succ]
 refine wpAnyH_take (i := 6) (v := _) rfl (by kernel_rfl) (by kernel_rfl) (by kernel_rfl) (fun _ _ _ h => h) (yieldsIf_load_mid (by kernel_rfl) 27 (.tmp 9) rfl w.heap.size 2 rfl g0.cells _ (fun V hSw => BlkAt.rng (Sep.get (show Sep w.heap.size w _ V from hSw) 0 rfl) (two2 s0 s1 g0 g1)) Tryd.underlying27 rfl (by kernel_rfl)) hHeld ?_
 try simp only [List.getElem_toArray,List.getElem_cons_zero,List.getElem_cons_succ,Act.put,List.setIfInBounds_toArray,List.set_cons_zero,List.set_cons_succ]
 refine tkH 8 rfl (v := ?_) (by kernel_rfl) ?_ hHeld ?_
 rotate_left
 · intro V hSw
   clear hSw
   first | (go_simp; done) | (go_simp; with_reducible rfl)
 try simp only [List.getElem_toArray,List.getElem_cons_zero,List.getElem_cons_succ,Act.put,List.setIfInBounds_toArray,List.set_cons_zero,List.set_cons_succ]
 refine tkH 9 rfl (v := ?_) (by kernel_rfl) ?_ hHeld ?_
 rotate_left
 · intro V hSw
   clear hSw
   first | (go_simp; done) | (go_simp; with_reducible rfl)
 try simp only [List.getElem_toArray,List.getElem_cons_zero,List.getElem_cons_succ,Act.put,List.setIfInBounds_toArray,List.set_cons_zero,List.set_cons_succ]
 refine tkH 10 rfl (v := ?_) (by kernel_rfl) ?_ hHeld ?_
 rotate_left
 · intro V hSw
   have c1 := BlkAt.cell (Sep.get (show Sep w.heap.size w _ V from hSw) 0 rfl) 1
   rw [show (twoCells s0 s1 g0 g1)[1]? = some (.int .u8 s1) from rfl] at c1
   clear hSw
   first | (go_simp; done) | (go_simp; with_reducible rfl)
 try simp only [List.getElem_toArray,List.getElem_cons_zero,List.getElem_cons_succ,Act.put,List.setIfInBounds_toArray,List.set_cons_zero,List.set_cons_succ]
 refine tkH 12 rfl (v := ?_) (by kernel_rfl) ?_ hHeld ?_
 rotate_left
 · intro V hSw
   clear hSw
   first | (go_simp; done) | (go_simp; with_reducible rfl)
 try simp only [List.getElem_toArray,List.getElem_cons_zero,List.getElem_cons_succ,Act.put,List.setIfInBounds_toArray,List.set_cons_zero,List.set_cons_succ]
 refine tkH 13 rfl (v := ?_) (by kernel_rfl) ?_ hHeld ?_
 rotate_left
 · intro V hSw
   clear hSw
   first | (go_simp; done) | (go_simp; with_reducible rfl)
 try simp only [List.getElem_toArray,List.getElem_cons_zero,List.getElem_cons_succ,Act.put,List.setIfInBounds_toArray,List.set_cons_zero,List.set_cons_succ]
 refine wpAnyH_take (i := 14) (v := _) rfl (by kernel_rfl) (by kernel_rfl) (by kernel_rfl) (fun _ _ _ h => h) (yieldsIf_load_mid (by kernel_rfl) 27 (.tmp 17) rfl w.heap.size 29 rfl g1.cells _ (fun V hSw => BlkAt.rng (Sep.get (show Sep w.heap.size w _ V from hSw) 0 rfl) (two29 s0 s1 g0 g1)) Tryd.underlying27 rfl (by kernel_rfl)) hHeld ?_
 try simp only [List.getElem_toArray,List.getElem_cons_zero,List.getElem_cons_succ,Act.put,List.setIfInBounds_toArray,List.set_cons_zero,List.set_cons_succ]
 refine rdH 3 rfl fun K hK => ?_
 go_simp
 refine (events_c s0 w1 H0.out.1 H0.out.2).mono ?_
 rintro e w2 ⟨v,rfl,O,hb⟩
 obtain ⟨Aea,cea,rfl⟩ := Own.form O.out
 have S2 : Hid (Sep w.heap.size w [eInts (evV s0 5) (.slice Aea (evV s0 5).length cea),eBlk (w.heap.size + 2) 35 [.slice none 0 0,.int .i64 0,.slice none 0 0,.slice none 0 0],eBlk (w.heap.size + 1) 35 [.slice none 0 0,.int .i64 0,.slice none 0 0,.slice none 0 0],eBlk w.heap.size 30 (twoCells s0 s1 g0 g1)] w2) := S1.out.newI O.out hb
 clear O hb
 refine hK.out _ _ ?_ (fun hHeld => ?_)
 · exact S2.out.pick [3] (by decide)
 clear hK K
 try simp only [List.getElem_toArray,List.getElem_cons_zero,List.getElem_cons_succ,Act.put,List.setIfInBounds_toArray,List.set_cons_zero,List.set_cons_succ]
 refine rdH 7 rfl fun K hK => ?_
 go_simp
 refine (make3_c Aea cea (evV s0 5) g0 w2 (S2.out.ints 0 rfl) (evV_lt5 s0 5) (fun e => Own.none (S2.out.get 0 rfl) e) HG0.out).mono ?_
 rintro e w3 ⟨a,p,rfl,hr,ha,hn,hed,hmr,HAO,hb⟩
 have FA : Hid (Gd s0 a) := ⟨hr,ha,hn,hed,hmr⟩
 have S3 : Hid (Sep w.heap.size w [eInts a.al (.slice p.A1 a.al.length p.c1),eInts a.mr (.slice p.A2 a.mr.length p.c2),eEds a.ed (.slice p.A3 a.ed.length p.c3),eInts (evV s0 5) (.slice Aea (evV s0 5).length cea),eBlk (w.heap.size + 2) 35 [.slice none 0 0,.int .i64 0,.slice none 0 0,.slice none 0 0],eBlk (w.heap.size + 1) 35 [.slice none 0 0,.int .i64 0,.slice none 0 0,.slice none 0 0],eBlk w.heap.size 30 (twoCells s0 s1 g0 g1)] w3) := S2.out.news (AuOwn.sep HAO.out hb)
 clear HAO hb hr ha hn hed hmr
 refine hK.out _ _ ?_ (fun hHeld => ?_)
 · exact S3.out.pick [6] (by decide)
 clear hK K
 try simp only [List.getElem_toArray,List.getElem_cons_zero,List.getElem_cons_succ,Act.put,List.setIfInBounds_toArray,List.set_cons_zero,List.set_cons_succ]
 refine rdH 11 rfl fun K hK => ?_
 go_simp
 refine (events_c s1 w3 H1.out.1 H1.out.2).mono ?_
 rintro e w4 ⟨v,rfl,O,hb⟩
 obtain ⟨Aeb,ceb,rfl⟩ := Own.form O.out
 have S4 : Hid (Sep w.heap.size w [eInts (evV s1 5) (.slice Aeb (evV s1 5).length ceb),eInts a.al (.slice p.A1 a.al.length p.c1),eInts a.mr (.slice p.A2 a.mr.length p.c2),eEds a.ed (.slice p.A3 a.ed.length p.c3),eInts (evV s0 5) (.slice Aea (evV s0 5).length cea),eBlk (w.heap.size + 2) 35 [.slice none 0 0,.int .i64 0,.slice none 0 0,.slice none 0 0],eBlk (w.heap.size + 1) 35 [.slice none 0 0,.int .i64 0,.slice none 0 0,.slice none 0 0],eBlk w.heap.size 30 (twoCells s0 s1 g0 g1)] w4) := S3.out.newI O.out hb
 clear O hb
 refine hK.out _ _ ?_ (fun hHeld => ?_)
 · exact S4.out.pick [7] (by decide)
 clear hK K
 try simp only [List.getElem_toArray,List.getElem_cons_zero,List.getElem_cons_succ,Act.put,List.setIfInBounds_toArray,List.set_cons_zero,List.set_cons_succ]
 refine rdH 15 rfl fun K hK => ?_
 go_simp
 refine (make3_c Aeb ceb (evV s1 5) g1 w4 (S4.out.ints 0 rfl) (evV_lt5 s1 5) (fun e => Own.none (S4.out.get 0 rfl) e) HG1.out).mono ?_
 rintro e w5 ⟨b,q,rfl,hr,ha,hn,hed,hmr,HAO,hb⟩
 have FB : Hid (Gd s1 b) := ⟨hr,ha,hn,hed,hmr⟩
 have S5 : Hid (Sep w.heap.size w [eInts b.al (.slice q.A1 b.al.length q.c1),eInts b.mr (.slice q.A2 b.mr.length q.c2),eEds b.ed (.slice q.A3 b.ed.length q.c3),eInts (evV s1 5) (.slice Aeb (evV s1 5).length ceb),eInts a.al (.slice p.A1 a.al.length p.c1),eInts a.mr (.slice p.A2 a.mr.length p.c2),eEds a.ed (.slice p.A3 a.ed.length p.c3),eInts (evV s0 5) (.slice Aea (evV s0 5).length cea),eBlk (w.heap.size + 2) 35 [.slice none 0 0,.int .i64 0,.slice none 0 0,.slice none 0 0],eBlk (w.heap.size + 1) 35 [.slice none 0 0,.int .i64 0,.slice none 0 0,.slice none 0 0],eBlk w.heap.size 30 (twoCells s0 s1 g0 g1)] w5) := S4.out.news (AuOwn.sep HAO.out hb)
 clear HAO hb hr ha hn hed hmr
 refine hK.out _ _ ?_ (fun hHeld => ?_)
 · exact S5.out.pick [10] (by decide)
 clear hK K
 try simp only [List.getElem_toArray,List.getElem_cons_zero,List.getElem_cons_succ,Act.put,List.setIfInBounds_toArray,List.set_cons_zero,List.set_cons_succ]
 refine rdH 16 rfl fun K hK => ?_
 have sc0 := BlkAt.cell (S5.out.get 9 rfl) 0
 have sf0 := BlkAt.free (S5.out.get 9 rfl) 0
 have sc1 := BlkAt.cell (S5.out.get 9 rfl) 1
 have sf1 := BlkAt.free (S5.out.get 9 rfl) 1
 have sc2 := BlkAt.cell (S5.out.get 9 rfl) 2
 have sf2 := BlkAt.free (S5.out.get 9 rfl) 2
 have sc3 := BlkAt.cell (S5.out.get 9 rfl) 3
 have sf3 := BlkAt.free (S5.out.get 9 rfl) 3
 simp only [List.getElem?_cons_succ,List.getElem?_cons_zero] at sc0 sc1 sc2 sc3
 try dsimp only [Au.val] at *
 go_simp
 obtain ⟨w6,hw6⟩ : ∃ v,v = ((((w5.setCell ⟨w.heap.size + 1,0,none⟩ (.slice p.A1 a.al.length p.c1)).setCell ⟨w.heap.size + 1,1,none⟩ (.int .i64 a.n)).setCell ⟨w.heap.size + 1,2,none⟩ (.slice p.A2 a.mr.length p.c2)).setCell ⟨w.heap.size + 1,3,none⟩ (.slice p.A3 a.ed.length p.c3)) := ⟨_,rfl⟩
 rw [← hw6]
 have S6 : Hid (Sep w.heap.size w [eInts b.al (.slice q.A1 b.al.length q.c1),eInts b.mr (.slice q.A2 b.mr.length q.c2),eEds b.ed (.slice q.A3 b.ed.length q.c3),eInts (evV s1 5) (.slice Aeb (evV s1 5).length ceb),eInts a.al (.slice p.A1 a.al.length p.c1),eInts a.mr (.slice p.A2 a.mr.length p.c2),eEds a.ed (.slice p.A3 a.ed.length p.c3),eInts (evV s0 5) (.slice Aea (evV s0 5).length cea),eBlk (w.heap.size + 2) 35 [.slice none 0 0,.int .i64 0,.slice none 0 0,.slice none 0 0],eBlk (w.heap.size + 1) 35 [.slice p.A1 a.al.length p.c1,.int .i64 a.n,.slice p.A2 a.mr.length p.c2,.slice p.A3 a.ed.length p.c3],eBlk w.heap.size 30 (twoCells s0 s1 g0 g1)] w6) := by rw [hw6]; exact ((((S5.out.set 9 rfl 0 (.slice p.A1 a.al.length p.c1)).set 9 rfl 1 (.int .i64 a.n)).set 9 rfl 2 (.slice p.A2 a.mr.length p.c2)).set 9 rfl 3 (.slice p.A3 a.ed.length p.c3))
 clear hw6 sc0 sf0 sc1 sf1 sc2 sf2 sc3 sf3
 refine hK.out _ _ ?_ (fun hHeld => ?_)
 · exact S6.out.pick [10] (by decide)
 clear hK K
 try simp only [List.getElem_toArray,List.getElem_cons_zero,List.getElem_cons_succ,Act.put,List.setIfInBounds_toArray,List.set_cons_zero,List.set_cons_succ]
 refine rdH 17 rfl fun K hK => ?_
 have sc0 := BlkAt.cell (S6.out.get 8 rfl) 0
 have sf0 := BlkAt.free (S6.out.get 8 rfl) 0
 have sc1 := BlkAt.cell (S6.out.get 8 rfl) 1
 have sf1 := BlkAt.free (S6.out.get 8 rfl) 1
 have sc2 := BlkAt.cell (S6.out.get 8 rfl) 2
 have sf2 := BlkAt.free (S6.out.get 8 rfl) 2
 have sc3 := BlkAt.cell (S6.out.get 8 rfl) 3
 have sf3 := BlkAt.free (S6.out.get 8 rfl) 3
 simp only [List.getElem?_cons_succ,List.getElem?_cons_zero] at sc0 sc1 sc2 sc3
 try dsimp only [Au.val] at *
 go_simp
 obtain ⟨w7,hw7⟩ : ∃ v,v = ((((w6.setCell ⟨w.heap.size + 2,0,none⟩ (.slice q.A1 b.al.length q.c1)).setCell ⟨w.heap.size + 2,1,none⟩ (.int .i64 b.n)).setCell ⟨w.heap.size + 2,2,none⟩ (.slice q.A2 b.mr.length q.c2)).setCell ⟨w.heap.size + 2,3,none⟩ (.slice q.A3 b.ed.length q.c3)) := ⟨_,rfl⟩
 rw [← hw7]
 have S7 : Hid (Sep w.heap.size w [eInts b.al (.slice q.A1 b.al.length q.c1),eInts b.mr (.slice q.A2 b.mr.length q.c2),eEds b.ed (.slice q.A3 b.ed.length q.c3),eInts (evV s1 5) (.slice Aeb (evV s1 5).length ceb),eInts a.al (.slice p.A1 a.al.length p.c1),eInts a.mr (.slice p.A2 a.mr.length p.c2),eEds a.ed (.slice p.A3 a.ed.length p.c3),eInts (evV s0 5) (.slice Aea (evV s0 5).length cea),eBlk (w.heap.size + 2) 35 [.slice q.A1 b.al.length q.c1,.int .i64 b.n,.slice q.A2 b.mr.length q.c2,.slice q.A3 b.ed.length q.c3],eBlk (w.heap.size + 1) 35 [.slice p.A1 a.al.length p.c1,.int .i64 a.n,.slice p.A2 a.mr.length p.c2,.slice p.A3 a.ed.length p.c3],eBlk w.heap.size 30 (twoCells s0 s1 g0 g1)] w7) := by rw [hw7]; exact ((((S6.out.set 8 rfl 0 (.slice q.A1 b.al.length q.c1)).set 8 rfl 1 (.int .i64 b.n)).set 8 rfl 2 (.slice q.A2 b.mr.length q.c2)).set 8 rfl 3 (.slice q.A3 b.ed.length q.c3))
 clear hw7 sc0 sf0 sc1 sf1 sc2 sf2 sc3 sf3
 refine hK.out _ _ ?_ (fun hHeld => ?_)
 · exact S7.out.pick [10] (by decide)
 clear hK K
 try simp only [List.getElem_toArray,List.getElem_cons_zero,List.getElem_cons_succ,Act.put,List.setIfInBounds_toArray,List.set_cons_zero,List.set_cons_succ]
 refine wpAnyH_done (by kernel_rfl) ?_ _
 have r0 := BlkAt.cell (S7.out.get 9 rfl) 0
 have r1 := BlkAt.cell (S7.out.get 9 rfl) 1
 have r2 := BlkAt.cell (S7.out.get 9 rfl) 2
 have r3 := BlkAt.cell (S7.out.get 9 rfl) 3
 have u0 := BlkAt.cell (S7.out.get 8 rfl) 0
 have u1 := BlkAt.cell (S7.out.get 8 rfl) 1
 have u2 := BlkAt.cell (S7.out.get 8 rfl) 2
 have u3 := BlkAt.cell (S7.out.get 8 rfl) 3
 simp only [List.getElem?_cons_succ,List.getElem?_cons_zero] at r0 r1 r2 r3 u0 u1 u2 u3
 have SF : Hid (Sep w.heap.size w (eAu a p ++ eAu b q) w7) := S7.out.pick [4,5,6,0,1,2] (by decide)
 go_wp2_with fail
 refine bodyPost_ret (v := .tuple #[a.val p,b.val q]) (by simp [results,Tryd.results14,go_sem,Au.val, *]) rfl ?_
 exact ⟨a,p,b,q,rfl,SF.out,FA.out,FB.out⟩
end Go.Proofs.YtkifgffhoenaoaaDoor

namespace Go.Proofs.YtkifgffhoenaoaaDoor
open Go.RowKit
set_option linter.unusedSimpArgs false
set_option linter.unusedVariables false
set_option maxHeartbeats 400000 in
theorem equalE_c (A1 A2 : Option Addr) (c1 c2 : Nat) (l1 l2 : List Ed) (w : World) (h1 : EdsAt w A1 l1) (h2 : EdsAt w A2 l2) (n1 : l1.length ≤ 140737488355328) (n2 : l2.length ≤ 140737488355328) :
 Calls Tryd.prog 65 #[.slice A1 l1.length c1,.slice A2 l2.length c2] w (Tells (l1 = l2) w) := by
 have H1 := Lib.hid h1
 have H2 := Lib.hid h2
 clear h1 h2
 by_cases hl : l1.length = l2.length
 · go_enter Tryd.func65,Tryd.ntmps65
   have HL := Lib.hid hl
   rw [← hl]
   clear hl n2
   go_wp2
   go_loopw [13] (fun i wr => ∃ k : Nat,k ≤ l1.length ∧ i = .int .i64 k ∧ Hid (Below w.heap.size w wr) ∧ Hid (l1.take k = l2.take k)) (fun i _ => l1.length - (intOf i).toNat)
   case atStart => exact ⟨0,by omega,rfl,Below.refl _ _,rfl⟩
   case round =>
    obtain ⟨k,hk,rfl,BW,HN⟩ := hrel
    by_cases hlt : k < l1.length
    · obtain ⟨b,off,x,rfl,hb,hx,e0,e1,e2⟩ := EdsAt.at (H1.out.below EdE.stays BW.out) hlt
      obtain ⟨b2,off2,y,rfl,hb2,hy,g0,g1,g2⟩ := EdsAt.at (H2.out.below EdE.stays BW.out) (HL.out ▸ hlt)
      have HX := Lib.hid hx
      have HY := Lib.hid hy
      clear hx hy
      by_cases hxy : x = y
      · subst hxy
        go_wp2_with fail
        go_quiet (fail)
        go_wp2
        go_roundw
        case rel => exact ⟨k + 1,by omega,by go_num,BW.out.draws _,Lib.hid (by rw [List.take_add_one,List.take_add_one,HN.out,HX.out,HY.out])⟩
        case measure => simp [intOf]; omega
      · by_cases h1 : x.src = y.src
        · rw [h1] at e0
          by_cases h2 : x.ev = y.ev
          · rw [h2] at e1
            have h3 : ¬ x.dst = y.dst := fun h3 => hxy (by
             obtain ⟨xs,xe,xd⟩ := x
             obtain ⟨ys,ye,yd⟩ := y
             obtain rfl : xs = ys := h1
             obtain rfl : xe = ye := h2
             obtain rfl : xd = yd := h3
             rfl)
            have hne : (x.dst == y.dst) = false := by simpa using h3
            go_wp2_with fail
            go_quiet (fail)
            go_wp2
            go_ret
            exact Tells.no (fun h => by subst h; have := HX.out; rw [HY.out] at this; cases this; exact hxy rfl) (BW.out.draws _)
          · have hne : (x.ev == y.ev) = false := by simpa using h2
            go_wp2_with fail
            go_quiet (fail)
            go_wp2
            go_ret
            exact Tells.no (fun h => by subst h; have := HX.out; rw [HY.out] at this; cases this; exact hxy rfl) (BW.out.draws _)
        · have hne : (x.src == y.src) = false := by simpa using h1
          go_wp2_with fail
          go_quiet (fail)
          go_wp2
          go_ret
          exact Tells.no (fun h => by subst h; have := HX.out; rw [HY.out] at this; cases this; exact hxy rfl) (BW.out.draws _)
    · obtain rfl : k = l1.length := by omega
      go_wp2
      go_ret
      exact Tells.yes (by have := HN.out; rw [List.take_length,HL.out,List.take_length] at this; exact this) BW.out
 · have hne : ((l1.length : Int) == (l2.length : Int)) = false := by rw [beq_eq_false_iff_ne]; omega
   go_enter Tryd.func65,Tryd.ntmps65
   go_wp2
   go_ret
   exact Tells.no (fun h => hl (by rw [h])) (Below.refl _ _)
set_option maxRecDepth 100000 in
set_option maxHeartbeats 4000000 in
theorem autoEq_c (a b : Au) (p q : AuP) (w : World) (h1 : Au.At w a p) (h2 : Au.At w b q) :
 Calls Tryd.prog 36 #[a.val p,b.val q] w (Tells (a = b) w) := by
 have H1 := Lib.hid h1
 have H2 := Lib.hid h2
 obtain ⟨al,n,mr,ed⟩ := a
 obtain ⟨A1,c1,A2,c2,A3,c3⟩ := p
 obtain ⟨bl,k,ms,es⟩ := b
 obtain ⟨B1,d1,B2,d2,B3,d3⟩ := q
 dsimp only [Au.val]
 clear h1 h2
 go_enter Tryd.func36,Tryd.ntmps36
 go_upto_region 1 with fail
 refine wp_world (fun W => Sep w.heap.size w [eBlk (w.heap.size + 1) 35 [.slice B1 bl.length d1,.int .i64 k,.slice B2 ms.length d2,.slice B3 es.length d3],eBlk w.heap.size 35 [.slice A1 al.length c1,.int .i64 n,.slice A2 mr.length c2,.slice A3 ed.length c3]] W) ?_ fun W S => ?_
 · exact ((Sep.here w).alloc' _ [_,_,_,_] rfl rfl).alloc' _ [_,_,_,_] rfl (by simp)
 have S0 := Lib.hid S
 clear S
 have a0 := BlkAt.cell (S0.out.get 1 rfl) 0
 have a1 := BlkAt.cell (S0.out.get 1 rfl) 1
 have b0 := BlkAt.cell (S0.out.get 0 rfl) 0
 have b1 := BlkAt.cell (S0.out.get 0 rfl) 1
 simp only [List.getElem?_cons_succ,List.getElem?_cons_zero] at a0 a1 b0 b1
 by_cases hn : n = k
 · subst hn
   go_wp2_with fail
   refine (equalI_c A1 B1 c1 d1 al bl W (H1.out.below S0.out.below).al (H2.out.below S0.out.below).al H1.out.lal H2.out.lal).mono ?_
   intro e w1 hs
   clear a0 a1 b0 b1
   rcases hs.no1 with ⟨rfl,hq,hb⟩ | ⟨rfl,hq,hb⟩
   · go_wp2_with fail
     go_ret
     exact Tells.no (fun h => hq.out (congrArg Au.al h)) ((S0.out.next hb).below)
   obtain rfl := hq.out
   have S1 := Lib.hid (S0.out.next hb)
   clear hs hq hb S0
   have a2 := BlkAt.cell (S1.out.get 1 rfl) 2
   have b2 := BlkAt.cell (S1.out.get 0 rfl) 2
   simp only [List.getElem?_cons_succ,List.getElem?_cons_zero] at a2 b2
   go_wp2_with fail
   refine (equalI_c A2 B2 c2 d2 mr ms w1 (H1.out.below S1.out.below).mr (H2.out.below S1.out.below).mr H1.out.lmk H2.out.lmk).mono ?_
   intro e w2 hs
   clear a2 b2
   rcases hs.no1 with ⟨rfl,hq,hb⟩ | ⟨rfl,hq,hb⟩
   · go_wp2_with fail
     go_ret
     exact Tells.no (fun h => hq.out (congrArg Au.mr h)) ((S1.out.next hb).below)
   obtain rfl := hq.out
   have S2 := Lib.hid (S1.out.next hb)
   clear hs hq hb S1
   have a3 := BlkAt.cell (S2.out.get 1 rfl) 3
   have b3 := BlkAt.cell (S2.out.get 0 rfl) 3
   simp only [List.getElem?_cons_succ,List.getElem?_cons_zero] at a3 b3
   go_wp2_with fail
   refine (equalE_c A3 B3 c3 d3 ed es w2 (H1.out.below S2.out.below).ed (H2.out.below S2.out.below).ed H1.out.led H2.out.led).mono ?_
   intro e w3 hs
   clear a3 b3
   rcases hs.no1 with ⟨rfl,hq,hb⟩ | ⟨rfl,hq,hb⟩
   · go_wp2_with fail
     go_ret
     exact Tells.no (fun h => hq.out (congrArg Au.ed h)) ((S2.out.next hb).below)
   obtain rfl := hq.out
   go_wp2_with fail
   go_ret
   exact Tells.yes (by trivial) ((S2.out.next hb).below)
 · have hne : (n == k) = false := by simpa using hn
   go_wp2_with fail
   go_ret
   exact Tells.no (fun h => hn (congrArg Au.n h)) (S0.out.below)
end Go.Proofs.YtkifgffhoenaoaaDoor

