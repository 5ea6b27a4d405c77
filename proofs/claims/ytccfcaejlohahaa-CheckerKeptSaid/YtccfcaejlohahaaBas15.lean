/-
  Sets of events; events with flags.
  The canonical automaton.
  Described graphs.
  overseerlaw46.Make: a sketched problem is right and small (printed by gen_Vl.py).
-/
import Derived.Test.YtccfcaejlohahaaBas01
import Derived.Test.YtccfcaejlohahaaBas12
import Derived.Test.YtccfcaejlohahaaBas13
import Derived.BigRegion
import Derived.Deep.DeepCutAuto
import Derived.Laws.IdiomStrings
import Derived.RegionTactic
import Derived.Deep.RegionLaw
import Derived.Test.YtccfcaejlohahaaBas04
import Derived.IntWalk
import Derived.Deep.QuietTactic
import Derived.BigQuiet
import Derived.Test.YtccfcaejlohahaaBas07
import Derived.Test.YtccfcaejlohahaaBas09
import Derived.Test.YtccfcaejlohahaaBas14
import Derived.Laws.Tables
set_option linter.unusedSimpArgs false
set_option linter.unusedVariables false
namespace Go.Proofs.Ytccfcaejlohahaa
open Go.RowKit
set_option maxRecDepth 100000
structure Lt5 (l : List Int) (k : Nat) : Prop where
 inc : incr l
 rg : ∀ x,x ∈ l → 0 ≤ x ∧ x < (k : Int)
 len : l.length ≤ k
def GivesSet (w : World) (e : Ending) (w' : World) : Prop := ∃ l v,e = .returned v ∧ Lt5 l 5 ∧ Hid (OwnI w.heap.size l v w') ∧ Below w.heap.size w w'
theorem Lt5.skip {l : List Int} {k : Nat} (h : Lt5 l k) : Lt5 l (k + 1) := ⟨h.inc,fun x hx => by have := h.rg x hx; omega,by have := h.len; omega⟩
theorem Lt5.more {l : List Int} {k : Nat} (h : Lt5 l k) : Lt5 (l ++ [(k : Int)]) (k + 1) :=
 ⟨incr_snoc h.inc fun y hy => (h.rg y hy).2,fun x hx => by
  simp only [List.mem_append,List.mem_singleton] at hx
  rcases hx with hx | rfl
  · have := h.rg x hx; omega
  · omega,by have := h.len; simp; omega⟩

set_option maxRecDepth 100000 in
set_option maxHeartbeats 1000000 in
theorem setEvents_c (s : Int) (w : World) (h0 : 0 ≤ s) (h1 : s < 256) :
 Calls Try.prog 18 #[.int .u8 s] w (GivesSet w) := by
 go_enter Try.func18,Try.ntmps18
 go_wp2_with fail
 go_loopw [3,4] (fun v i wr => ∃ (k : Nat) (l : List Int),k ≤ 5 ∧ i = .int .i64 k ∧ Hid (Lt5 l k) ∧ Hid (OwnI w.heap.size l v wr) ∧ Hid (Fro w.heap.size w wr)) (fun _ i _ => 5 - (intOf i).toNat)
 case atStart => exact ⟨0,[],by omega,rfl,⟨fun i j x y _ hx => by simp at hx,by simp,by simp⟩,Own.nil _,Fro.here w⟩
 case round =>
  obtain ⟨k,l,hk,rfl,HL,HV,BW⟩ := hrel
  by_cases hlt : k < 5
  · have hll := HL.out.len
    go_wp2_with (at_builtin; refine wpList_push rfl _ _ 36 rfl (HV.out.alloc _) Try.underlying36 _ 8 intInfo rfl (by decide) rfl (k : Int) wr.heap.size rfl rfl (one_cell _ _ _ _ rfl) (encI_one _) (by omega) (by decide) (BW.out.alloc _).z ?_)
    · intro A' c' w1 ho hg _
      have HN := Lib.hid ho
      have HG := Lib.hid ((BW.out.alloc _).push (HV.out.alloc _) hg)
      clear ho hg
      go_wp2
      go_roundw
      case rel => exact ⟨k + 1,l ++ [(k : Int)],by omega,by go_num,HL.out.more,HN.out,HG.out⟩
      case measure => simp [intOf]; omega
    · exact ⟨⟨k + 1,l,by omega,by go_num,HL.out.skip,HV.out,BW.out⟩,by simp [intOf]; omega⟩
  · obtain rfl : k = 5 := by omega
    go_wp2
    go_ret
    exact ⟨l,_,rfl,HL.out,HV.out,BW.out.b⟩
def u8 (x : Int) : Value := .int .u8 x
structure B5 where
 x0 : Int
 x1 : Int
 x2 : Int
 x3 : Int
 x4 : Int
abbrev B5.cells (f : B5) : List Value := [.int .u8 f.x0,.int .u8 f.x1,.int .u8 f.x2,.int .u8 f.x3,.int .u8 f.x4]
structure B5.Ok (f : B5) : Prop where
 h : ∀ x,x ∈ [f.x0,f.x1,f.x2,f.x3,f.x4] → 0 ≤ x ∧ x < 256
theorem B5.get {f : B5} (h : f.Ok) {k : Nat} (hk : k < 5) : ∃ x,f.cells[k]? = some (.int .u8 x) ∧ 0 ≤ x ∧ x < 256 := by
 have h0 := h.h f.x0 (by simp)
 have h1 := h.h f.x1 (by simp)
 have h2 := h.h f.x2 (by simp)
 have h3 := h.h f.x3 (by simp)
 have h4 := h.h f.x4 (by simp)
 match k,hk with
 | 0,_ => exact ⟨_,rfl,h0⟩
 | 1,_ => exact ⟨_,rfl,h1⟩
 | 2,_ => exact ⟨_,rfl,h2⟩
 | 3,_ => exact ⟨_,rfl,h3⟩
 | 4,_ => exact ⟨_,rfl,h4⟩
theorem Own.far {α : Type} {enc : α → List Value} {k T B : Nat} {l : List α} {v : Value} {w : World} (h : Own enc k T B l v w) {b i : Nat} (hb : v.ownBlock ≠ some b) (u : Value) : Own enc k T B l v (w.setCell ⟨b,i,none⟩ u) := by
 refine ⟨h.1,?_⟩
 rcases h.2 with h | ⟨g,cap,cur,rfl,r2,r3,r4⟩
 · exact .inl h
 · exact .inr ⟨g,cap,cur,rfl,r2,(Below.heap_setCell w ⟨b,i,none⟩ u g (fun e => hb (by simp [Value.ownBlock,e]))).trans r3,r4⟩
def FltOk (l : List Ev) : Prop := ∀ x,x ∈ l → x.obs = true → x.fault = 0
theorem FltOk.push {l : List Ev} (h : FltOk l) {x : Ev} (hx : x.obs = true → x.fault = 0) : FltOk (l ++ [x]) := fun y hy => by
 rcases List.mem_append.1 hy with hy | hy
 · exact h y hy
 · simp at hy; subst hy; exact hx
def GivesEvs (w : World) (e : Ending) (w' : World) : Prop := ∃ (l : List Ev) (A : Option Addr) (c : Nat),e = .returned (.slice A 5 c) ∧ (l.length = 5 ∧ FltOk l) ∧ Hid (Own Ev.cells 5 105 w.heap.size l (.slice A l.length c) w') ∧ Below w.heap.size w w'
section

section
variable {b : Nat} {nn : Int} {v1 v2 v3 : Value} {ms : List Int} {es : List Ed} {w w1 : World}
end
end
structure Gr where
 s : Int
 m : Int
 r0 : B5
 r1 : B5
 r2 : B5
 r3 : B5
 r4 : B5
abbrev Gr.cells (g : Gr) : List Value := [.int .u8 g.s,.int .u8 g.m,.int .u8 g.r0.x0,.int .u8 g.r0.x1,.int .u8 g.r0.x2,.int .u8 g.r0.x3,.int .u8 g.r0.x4,.int .u8 g.r1.x0,.int .u8 g.r1.x1,.int .u8 g.r1.x2,.int .u8 g.r1.x3,.int .u8 g.r1.x4,.int .u8 g.r2.x0,.int .u8 g.r2.x1,.int .u8 g.r2.x2,.int .u8 g.r2.x3,.int .u8 g.r2.x4,.int .u8 g.r3.x0,.int .u8 g.r3.x1,.int .u8 g.r3.x2,.int .u8 g.r3.x3,.int .u8 g.r3.x4,.int .u8 g.r4.x0,.int .u8 g.r4.x1,.int .u8 g.r4.x2,.int .u8 g.r4.x3,.int .u8 g.r4.x4]
abbrev Gr.val (g : Gr) : Value := .agg g.cells.toArray
structure Gr.Ok (g : Gr) : Prop where
 s : 0 ≤ g.s ∧ g.s < 256
 m : 0 ≤ g.m ∧ g.m < 256
 r0 : g.r0.Ok
 r1 : g.r1.Ok
 r2 : g.r2.Ok
 r3 : g.r3.Ok
 r4 : g.r4.Ok
theorem Gr.get {g : Gr} (h : g.Ok) {i k : Nat} (hi : i < 5) (hk : k < 5) : ∃ x,g.cells[2 + i * 5 + k]? = some (.int .u8 x) ∧ 0 ≤ x ∧ x < 256 := by
 match i,hi with
 | 0,_ => obtain ⟨x,h1,h2⟩ := B5.get h.r0 hk; exact ⟨x,by match k,hk with | 0,_ => exact h1 | 1,_ => exact h1 | 2,_ => exact h1 | 3,_ => exact h1 | 4,_ => exact h1,h2⟩
 | 1,_ => obtain ⟨x,h1,h2⟩ := B5.get h.r1 hk; exact ⟨x,by match k,hk with | 0,_ => exact h1 | 1,_ => exact h1 | 2,_ => exact h1 | 3,_ => exact h1 | 4,_ => exact h1,h2⟩
 | 2,_ => obtain ⟨x,h1,h2⟩ := B5.get h.r2 hk; exact ⟨x,by match k,hk with | 0,_ => exact h1 | 1,_ => exact h1 | 2,_ => exact h1 | 3,_ => exact h1 | 4,_ => exact h1,h2⟩
 | 3,_ => obtain ⟨x,h1,h2⟩ := B5.get h.r3 hk; exact ⟨x,by match k,hk with | 0,_ => exact h1 | 1,_ => exact h1 | 2,_ => exact h1 | 3,_ => exact h1 | 4,_ => exact h1,h2⟩
 | 4,_ => obtain ⟨x,h1,h2⟩ := B5.get h.r4 hk; exact ⟨x,by match k,hk with | 0,_ => exact h1 | 1,_ => exact h1 | 2,_ => exact h1 | 3,_ => exact h1 | 4,_ => exact h1,h2⟩

theorem Own.none {α : Type} {enc : α → List Value} {k T B : Nat} {l : List α} {A : Option Addr} {c : Nat} {w : World} (h : Own enc k T B l (.slice A l.length c) w) (hA : A = Option.none) : l = [] ∧ c = 0 := by
 subst hA
 rcases h.2 with ⟨h1,h2⟩ | ⟨g,cap,cur,h1,_⟩
 · cases l with
   | nil => cases h1; exact ⟨rfl,rfl⟩
   | cons a l => simp at h2
 · cases h1
set_option maxRecDepth 100000 in
def GivesGm (al : List Int) (w : World) (e : Ending) (w' : World) : Prop := ∃ (au : Au) (p : AuP),e = .returned (au.val p) ∧ au.Right ∧ au.al = al ∧ au.n ≤ 5 ∧ au.ed.length ≤ 25 ∧ au.mr.length ≤ 5 ∧ Hid (AuOwn w.heap.size au p w') ∧ Below w.heap.size w w'
set_option maxHeartbeats 4000000 in
theorem make3_c (A : Option Addr) (c : Nat) (al : List Int) (g : Gr) (w : World) (hA : IntsAt w A al) (h5 : Lt5 al 5) (hn : A = none → al = [] ∧ c = 0) (hg : g.Ok) :
 Calls Try.prog 17 #[.slice A al.length c,g.val] w (GivesGm al w) := by
 have W0 : Hid (Fro w.heap.size w ((w.alloc (.cells g.cells.toArray 26)).alloc (.cells #[.slice none 0 0,.int .i64 0,.slice none 0 0,.slice none 0 0] 39))) := ((Fro.here w).alloc _).alloc _
 have C0 : Hid (HasAt w.heap.size g.cells ((w.alloc (.cells g.cells.toArray 26)).alloc (.cells #[.slice none 0 0,.int .i64 0,.slice none 0 0,.slice none 0 0] 39))) := (HasAt.new w _ _ rfl).alloc _
 have HA := Lib.hid hA
 have H5 := Lib.hid h5
 have HN := Lib.hid hn
 have HG := Lib.hid hg
 have hal := h5.len
 have hs := hg.s
 have hm := hg.m
 have q0 := C0.out.c 0 _ rfl
 have q1 := C0.out.c 1 _ rfl
 clear hA h5 hn hg
 dsimp only [Gr.val,Gr.cells] at *
 go_enter Try.func17,Try.ntmps17
 have R0 : Hid (BlkAt ((w.alloc (.cells #[.int .u8 g.s,.int .u8 g.m,.int .u8 g.r0.x0,.int .u8 g.r0.x1,.int .u8 g.r0.x2,.int .u8 g.r0.x3,.int .u8 g.r0.x4,.int .u8 g.r1.x0,.int .u8 g.r1.x1,.int .u8 g.r1.x2,.int .u8 g.r1.x3,.int .u8 g.r1.x4,.int .u8 g.r2.x0,.int .u8 g.r2.x1,.int .u8 g.r2.x2,.int .u8 g.r2.x3,.int .u8 g.r2.x4,.int .u8 g.r3.x0,.int .u8 g.r3.x1,.int .u8 g.r3.x2,.int .u8 g.r3.x3,.int .u8 g.r3.x4,.int .u8 g.r4.x0,.int .u8 g.r4.x1,.int .u8 g.r4.x2,.int .u8 g.r4.x3,.int .u8 g.r4.x4] 26)).alloc (.cells #[.slice none 0 0,.int .i64 0,.slice none 0 0,.slice none 0 0] 39)) (w.heap.size + 1) 39 [.slice none 0 0,.int .i64 0,.slice none 0 0,.slice none 0 0]) := by
  have := BlkAt.new (w.alloc (.cells #[.int .u8 g.s,.int .u8 g.m,.int .u8 g.r0.x0,.int .u8 g.r0.x1,.int .u8 g.r0.x2,.int .u8 g.r0.x3,.int .u8 g.r0.x4,.int .u8 g.r1.x0,.int .u8 g.r1.x1,.int .u8 g.r1.x2,.int .u8 g.r1.x3,.int .u8 g.r1.x4,.int .u8 g.r2.x0,.int .u8 g.r2.x1,.int .u8 g.r2.x2,.int .u8 g.r2.x3,.int .u8 g.r2.x4,.int .u8 g.r3.x0,.int .u8 g.r3.x1,.int .u8 g.r3.x2,.int .u8 g.r3.x3,.int .u8 g.r3.x4,.int .u8 g.r4.x0,.int .u8 g.r4.x1,.int .u8 g.r4.x2,.int .u8 g.r4.x3,.int .u8 g.r4.x4] 26)) 39 [.slice none 0 0,.int .i64 0,.slice none 0 0,.slice none 0 0]
  simpa [Hid] using this
 have HZ0 : Hid (w.heap.size + 2 ≤ ((w.alloc (.cells #[.int .u8 g.s,.int .u8 g.m,.int .u8 g.r0.x0,.int .u8 g.r0.x1,.int .u8 g.r0.x2,.int .u8 g.r0.x3,.int .u8 g.r0.x4,.int .u8 g.r1.x0,.int .u8 g.r1.x1,.int .u8 g.r1.x2,.int .u8 g.r1.x3,.int .u8 g.r1.x4,.int .u8 g.r2.x0,.int .u8 g.r2.x1,.int .u8 g.r2.x2,.int .u8 g.r2.x3,.int .u8 g.r2.x4,.int .u8 g.r3.x0,.int .u8 g.r3.x1,.int .u8 g.r3.x2,.int .u8 g.r3.x3,.int .u8 g.r3.x4,.int .u8 g.r4.x0,.int .u8 g.r4.x1,.int .u8 g.r4.x2,.int .u8 g.r4.x3,.int .u8 g.r4.x4] 26)).alloc (.cells #[.slice none 0 0,.int .i64 0,.slice none 0 0,.slice none 0 0] 39)).heap.size) := by unfold Hid; simp
 by_cases hbig : 250 ≤ g.s
 · go_wp2_with fail
   generalize hW : (w.alloc (.cells #[.int .u8 g.s,.int .u8 g.m,.int .u8 g.r0.x0,.int .u8 g.r0.x1,.int .u8 g.r0.x2,.int .u8 g.r0.x3,.int .u8 g.r0.x4,.int .u8 g.r1.x0,.int .u8 g.r1.x1,.int .u8 g.r1.x2,.int .u8 g.r1.x3,.int .u8 g.r1.x4,.int .u8 g.r2.x0,.int .u8 g.r2.x1,.int .u8 g.r2.x2,.int .u8 g.r2.x3,.int .u8 g.r2.x4,.int .u8 g.r3.x0,.int .u8 g.r3.x1,.int .u8 g.r3.x2,.int .u8 g.r3.x3,.int .u8 g.r3.x4,.int .u8 g.r4.x0,.int .u8 g.r4.x1,.int .u8 g.r4.x2,.int .u8 g.r4.x3,.int .u8 g.r4.x4] 26)).alloc (.cells #[.slice none 0 0,.int .i64 0,.slice none 0 0,.slice none 0 0] 39) = W at *
   clear hW
   refine (Empty_c A c al W (HA.out.below IntE.stays W0.out.b) (by omega) HN.out).mono ?_
   rintro e w2 ⟨AE,cE,rfl,HE,hb⟩
   have W2 := Lib.hid (W0.out.next hb)
   have R2 : Hid (BlkAt w2 (w.heap.size + 1) 39 [.slice none 0 0,.int .i64 0,.slice none 0 0,.slice none 0 0]) := R0.out.below hb R0.out.lt
   clear hb q0 q1 R0 C0
   have r0 := R2.out.cell 0
   have r1 := R2.out.cell 1
   have r2 := R2.out.cell 2
   have r3 := R2.out.cell 3
   have g0 := R2.out.free 0
   have g1 := R2.out.free 1
   have g2 := R2.out.free 2
   have g3 := R2.out.free 3
   go_wp2
   refine bodyPost_ret (v := .agg #[.slice AE al.length cE,.int .i64 0,.slice none 0 0,.slice none 0 0]) (by simp [results,Try.results17,go_sem, *]) rfl ?_
   refine ⟨⟨al,0,[],[]⟩,⟨AE,cE,none,0,none,0⟩,rfl,⟨H5.out.inc.setOk fun x hx => ⟨(H5.out.rg x hx).1,by have := (H5.out.rg x hx).2; omega⟩,by simp,by simp,fun i x h => absurd h (by simp),fun i h => absurd h (by simp)⟩,rfl,by simp,by simp,by simp,⟨?_,Own.nil _,Own.nil _,fun _ _ h => by (cases h),fun _ _ h => by (cases h),fun _ h => by (cases h),by simp only; omega,by simp,by simp⟩,?_⟩
   · exact Own.base (B := W.heap.size) (show OwnI _ _ _ _ from (ownsRow_setCell_below (ownsRow_setCell_below (ownsRow_setCell_below (ownsRow_setCell_below HE.out (by have := HZ0.out; simp only; omega) _) (by have := HZ0.out; simp only; omega) _) (by have := HZ0.out; simp only; omega) _) (by have := HZ0.out; simp only; omega) _)) (by have := HZ0.out; omega)
   · exact ((((W2.out.setCell (by omega) _).setCell (by omega) _).setCell (by omega) _).setCell (by omega) _).b
 · go_wp2_with fail
   generalize hW : (w.alloc (.cells #[.int .u8 g.s,.int .u8 g.m,.int .u8 g.r0.x0,.int .u8 g.r0.x1,.int .u8 g.r0.x2,.int .u8 g.r0.x3,.int .u8 g.r0.x4,.int .u8 g.r1.x0,.int .u8 g.r1.x1,.int .u8 g.r1.x2,.int .u8 g.r1.x3,.int .u8 g.r1.x4,.int .u8 g.r2.x0,.int .u8 g.r2.x1,.int .u8 g.r2.x2,.int .u8 g.r2.x3,.int .u8 g.r2.x4,.int .u8 g.r3.x0,.int .u8 g.r3.x1,.int .u8 g.r3.x2,.int .u8 g.r3.x3,.int .u8 g.r3.x4,.int .u8 g.r4.x0,.int .u8 g.r4.x1,.int .u8 g.r4.x2,.int .u8 g.r4.x3,.int .u8 g.r4.x4] 26)).alloc (.cells #[.slice none 0 0,.int .i64 0,.slice none 0 0,.slice none 0 0] 39) = W at *
   clear hW
   refine (Empty_c A c al W (HA.out.below IntE.stays W0.out.b) (by omega) HN.out).mono ?_
   rintro e w2 ⟨AE,cE,rfl,HE,hb⟩
   have W2 := Lib.hid (W0.out.next hb)
   have C2 := Lib.hid (C0.out.below hb)
   have R2 : Hid (BlkAt w2 (w.heap.size + 1) 39 [.slice none 0 0,.int .i64 0,.slice none 0 0,.slice none 0 0]) := R0.out.below hb R0.out.lt
   clear hb q0 q1 R0 C0
   have q0 := C2.out.c 0 _ rfl
   have q1 := C2.out.c 1 _ rfl
   have hz2 := C2.out.z
   go_wp2_with fail
   obtain ⟨N,hN,hN1,hN5⟩ : ∃ N : Nat,1 + g.s % 5 = (N : Int) ∧ 1 ≤ N ∧ N ≤ 5 := ⟨(1 + g.s % 5).toNat,by omega,by omega,by omega⟩
   generalize 1 + g.s % 5 = n at *
   subst hN
   have ST : Hid (OutSt w2.heap.size N (.slice AE al.length cE) (.slice none 0 0) (.slice none 0 0) [] [] (w2.alloc (.cells #[.slice AE al.length cE,.int .i64 N,.slice none 0 0,.slice none 0 0] 39))) := ⟨BlkAt.new w2 _ [_,_,_,_],Own.nil _,Own.nil _,fun _ h => by cases h⟩
   have BB : Hid (Fro w2.heap.size w2 (w2.alloc (.cells #[.slice AE al.length cE,.int .i64 N,.slice none 0 0,.slice none 0 0] 39))) := (Fro.here w2).alloc _
   generalize hW3 : w2.alloc (.cells #[.slice AE al.length cE,.int .i64 N,.slice none 0 0,.slice none 0 0] 39) = W3 at *
   clear hW3 q0 q1 hz2
   have CB : Hid (∀ V,Fro w2.heap.size w2 V → HasAt w.heap.size g.cells V) := fun V hb => C2.out.below hb.b
   have AB : Hid (∀ V,Fro w2.heap.size w2 V → IntsAt V A al) := fun V hb => HA.out.below IntE.stays (W2.out.next hb.b).b
   go_loopw [6] (fun j wr => ∃ (i : Nat) (v2 v3 : Value) (ms : List Int) (es : List Ed),j = .int .i64 i ∧ i ≤ N ∧ Hid (OutSt w2.heap.size N (.slice AE al.length cE) v2 v3 ms es wr) ∧ Hid (Fro w2.heap.size w2 wr) ∧ Hid (ms.length ≤ i ∧ es.length ≤ i * 5 ∧ ∀ x,x ∈ es → 0 ≤ x.dst ∧ x.dst < (N : Int))) (fun j _ => N - (intOf j).toNat)
   case atStart => exact ⟨0,_,_,[],[],rfl,by omega,ST.out,BB.out,by simp,by simp,by simp⟩
   case round =>
    obtain ⟨i,v2,v3,ms,es,rfl,hi,HS,BR,HL⟩ := hrel
    have s1 := HS.out.blk.cell 1
    by_cases hlt : i < N
    · have q1 := (CB.out wr BR.out).c 1 _ rfl
      have hml := HL.out.1
      go_upto_if 33 with fail
      go_cut [] (fun wx => Hid (Fro w2.heap.size w2 wx) ∧ ∃ (v2' : Value) (ms' : List Int),Hid (OutSt w2.heap.size N (.slice AE al.length cE) v2' v3 ms' es wx) ∧ Hid (ms'.length ≤ i + 1))
      case first =>
       have b2 := HS.out.blk.cell 2
       have f2 := HS.out.blk.free 2
       go_wp2_with (at_builtin; refine wpList_push rfl _ _ 36 rfl (HS.out.o2.alloc _) Try.underlying36 _ 8 intInfo rfl (by decide) rfl (i : Int) wr.heap.size rfl rfl (one_cell _ _ _ _ rfl) (encI_one _) (by omega) (by decide) (HS.out.z _) ?_)
       · intro A' c' w5 ho hg hat
         have HSA : Hid (OutSt w2.heap.size N (.slice AE al.length cE) v2 v3 ms es (wr.alloc (.cells #[.int .i64 i] 3))) := HS.out.below (Below.new _ _)
         have HO := Lib.hid ho
         have HGR : Hid ((wr.alloc (.cells #[.int .i64 i] 3)).grownBy w5 v2.ownBlock) := hg
         have HAT : Hid ((Value.slice A' (ms.length + 1) c').ownBlock = v2.ownBlock ∨ (Value.slice A' (ms.length + 1) c').ownBlock = some (wr.alloc (.cells #[.int .i64 i] 3)).heap.size) := by simp only [Hid,World.size_alloc]; exact hat
         have q2 : w5.cell? ⟨w2.heap.size,2,none⟩ = some v2 := (HSA.out.blk.grown HGR.out (fun e => by have := (HSA.out.o2.lt _ e.symm).1; omega)).cell 2
         have q2f : w5.frozen? ⟨w2.heap.size,2,none⟩ = false := (HSA.out.blk.grown HGR.out (fun e => by have := (HSA.out.o2.lt _ e.symm).1; omega)).free 2
         clear ho hg hat b2 f2
         go_wp2_with fail
         go_meet
         exact ⟨HSA.out.fro2 (BR.out.alloc _) HGR.out _ 2,_,_,HSA.out.mark HO.out HGR.out HAT.out,by simp [Hid]; omega⟩
       · go_meet
         exact ⟨BR.out,v2,ms,HS.out,by unfold Hid; omega⟩
      case rest =>
       obtain ⟨BC,v2',ms',HSC,HM⟩ := hcut
       clear HS BR
       go_wp2_with fail
       go_loopw [7] (fun j wr => ∃ (k : Nat) (v3' : Value) (es' : List Ed),j = .int .i64 k ∧ k ≤ al.length ∧ Hid (OutSt w2.heap.size N (.slice AE al.length cE) v2' v3' ms' es' wr) ∧ Hid (Fro w2.heap.size w2 wr) ∧ Hid (es'.length ≤ i * 5 + k ∧ ∀ x,x ∈ es' → 0 ≤ x.dst ∧ x.dst < (N : Int))) (fun j _ => al.length - (intOf j).toNat)
       case atStart => exact ⟨0,_,es,rfl,by omega,HSC.out,BC.out,by have := HL.out.2.1; omega,HL.out.2.2⟩
       case round =>
        obtain ⟨k,v3',es',rfl,hk,HS3,BR3,HL3⟩ := hrel
        by_cases hkl : k < al.length
        · have hk5 : k < 5 := by omega
          obtain ⟨x,hx,hx0,hx1⟩ := Gr.get HG.out (i := i) (k := k) (by omega) hk5
          have hcx := (CB.out wr BR3.out).c _ _ hx
          have s1 := HS3.out.blk.cell 1
          have hz := (CB.out wr BR3.out).z
          clear hx
          have iI : (i : Int) < 5 := by omega
          have kI : (k : Int) < 5 := by omega
          have e1 : IntKind.i64.wrap ((N : Int) + 2) = (N : Int) + 2 := IntWalk.i64_in _ (by omega)
          go_wp2_with fail
          go_quiet (fail)
          have ht0 : 0 ≤ x % ((N : Int) + 2) := Int.emod_nonneg _ (by omega)
          generalize x % ((N : Int) + 2) = t at *
          have BV : Hid (Fro w2.heap.size w2 (wr.drewN nq)) := BR3.out.draws nq
          have HSV : Hid (OutSt w2.heap.size N (.slice AE al.length cE) v2' v3' ms' es' (wr.drewN nq)) := HS3.out.below ((Below.refl _ _).draws nq)
          generalize hV : wr.drewN nq = V at *
          clear hV s1 hcx hz e1 HS3 BR3
          have s1 := HSV.out.blk.cell 1
          by_cases htn : t < (N : Int)
          · obtain ⟨b2,off2,e,hA1,hb2,he,hce⟩ := IntsAt.at (AB.out V BV.out) hkl
            subst hA1
            clear he
            have b3 := HSV.out.blk.cell 3
            have f3 := HSV.out.blk.free 3
            have hz5 := HSV.out.blk.lt
            have hne : ¬ w2.heap.size = V.heap.size := by omega
            have hne2 : ¬ V.heap.size = w2.heap.size := by omega
            have HSE : Hid (OutSt w2.heap.size N (.slice AE al.length cE) v2' v3' ms' es' ((V.alloc (.cells #[.int .i64 i,.int .i64 e,.int .i64 t] 68)).drew)) := HSV.out.below (Below.new _ _).drew
            have hln := HL3.out.1
            have HO3 := Lib.hid HSE.out.o3
            go_wp2_with fail
            go_region_law (
             (refine step_append_at rfl (.tmp 66) (.tmp 74) 37 rfl (w2.heap.size + 1) 68 _ 3 24 Try.underlying37 edInfo rfl (by decide) v3' _ _ rfl HO3.out ⟨V.heap.size,0,none⟩ 1 1 (Ed.cells ⟨(i : Int),e,t⟩) rfl rfl ?_ ?_ ?_ ?_ ?_ ?_
              (exact new_cells (by simp))
              (intro u hu; simp [Ed.cells] at hu; rcases hu with rfl | rfl | rfl <;> rfl)
              (simp only [maxLen]; omega)
              (omega)
              (simp; omega)
              intro A' c' w7 ho hg hb'
              have HO7 := Lib.hid (Own.pushed ho)
              have HG7 := Lib.hid hg
              have HB7 := Lib.hid hb'
              have q7 : w7.cell? ⟨w2.heap.size,3,none⟩ = some v3' := (HSE.out.blk.grown HG7.out (fun e => by have := (HSE.out.o3.lt _ e.symm).1; omega)).cell 3
              have q7f : w7.frozen? ⟨w2.heap.size,3,none⟩ = false := (HSE.out.blk.grown HG7.out (fun e => by have := (HSE.out.o3.lt _ e.symm).1; omega)).free 3
              clear ho hg hb'))
            all_goals
             go_wp2
             go_roundw
             case rel => exact ⟨k + 1,_,_,by go_num,by omega,HSE.out.edge HO7.out HG7.out HB7.out,HSE.out.fro3 (BV.out.alloc _).drew HG7.out _ 3,by simp; omega,fun y hy => by
              simp only [List.mem_append,List.mem_singleton] at hy
              rcases hy with hy | rfl
              · exact HL3.out.2 y hy
              · exact ⟨ht0,htn⟩⟩
             case measure => simp [intOf]; omega
          · go_wp2
            go_roundw
            case rel => exact ⟨k + 1,v3',es',by go_num,by omega,HSV.out,BV.out,by have := HL3.out.1; omega,HL3.out.2⟩
            case measure => simp [intOf]; omega
        · obtain rfl : k = al.length := by omega
          go_wp2
          go_roundw
          case rel => exact ⟨i + 1,v2',v3',ms',es',by go_num,by omega,HS3.out,BR3.out,HM.out,by have := HL3.out.1; omega,HL3.out.2⟩
          case measure => simp [intOf]; omega
    · obtain rfl : i = N := by omega
      obtain ⟨M2,m2,rfl⟩ := HS.out.o2.form
      obtain ⟨M3,m3,rfl⟩ := HS.out.o3.form
      have s0 := HS.out.blk.cell 0
      have s2 := HS.out.blk.cell 2
      have s3 := HS.out.blk.cell 3
      have hml := HL.out.1
      have hel := HL.out.2.1
      have a1 : OwnI W.heap.size al (.slice AE al.length cE) wr := Own.below HE.out BR.out.b (Nat.le_refl _)
      have RAW : Raw ⟨al,i,ms,es⟩ := ⟨H5.out.inc.setOk fun x hx => ⟨(H5.out.rg x hx).1,by have := (H5.out.rg x hx).2; omega⟩,by simp only; omega,by simp only; omega,HL.out.2.2⟩
      have HRR := Lib.hid (canonV_right RAW)
      have HSZ := Lib.hid (canonV_sizes RAW)
      have HCC := Lib.hid (Canonical_c ⟨al,i,ms,es⟩ ⟨AE,cE,M2,m2,M3,m3⟩ wr ⟨OwnI.ints a1,HS.out.o2.ints,Own.reads (fun _ => rfl) HS.out.o3,by simp only; omega,by simp only; omega,by simp only; omega⟩ RAW (fun e => Own.none a1 e) (by simp only; omega))
      have RW : Hid (BlkAt wr (w.heap.size + 1) 39 [.slice none 0 0,.int .i64 0,.slice none 0 0,.slice none 0 0]) := R2.out.below BR.out.b R2.out.lt
      have BW : Hid (Fro w.heap.size w wr) := W2.out.next BR.out.b
      clear a1 RAW
      go_wp2_with fail
      refine HCC.out.mono ?_
      rintro e w5 ⟨p,rfl,HP,hb⟩
      have HP' := Lib.hid HP.out.at
      have B5 := Lib.hid (BW.out.next hb)
      have R5 : Hid (BlkAt w5 (w.heap.size + 1) 39 [.slice none 0 0,.int .i64 0,.slice none 0 0,.slice none 0 0]) := RW.out.below hb RW.out.lt
      have HP0 := Lib.hid HP.out
      clear hb s0 s1 s2 s3 HP
      have r0 := R5.out.cell 0
      have r1 := R5.out.cell 1
      have r2 := R5.out.cell 2
      have r3 := R5.out.cell 3
      have f0 := R5.out.free 0
      have f1 := R5.out.free 1
      have f2 := R5.out.free 2
      have f3 := R5.out.free 3
      have hwz : w.heap.size + 1 < wr.heap.size := RW.out.lt
      have HAL : Hid ((canonV ⟨al,i,ms,es⟩).al = al) := rfl
      generalize canonV ⟨al,i,ms,es⟩ = cv at *
      obtain ⟨cal,cn,cms,ces⟩ := cv
      obtain ⟨X1,x1,X2,x2,X3,x3⟩ := p
      try dsimp only [Au.val] at *
      go_wp2
      refine bodyPost_ret (v := .agg #[.slice X1 cal.length x1,.int .i64 cn,.slice X2 cms.length x2,.slice X3 ces.length x3]) (by simp [results,Try.results17,go_sem, *]) rfl ?_
      have st : ∀ {α : Type} {enc : α → List Value} {kk TT B : Nat} {l : List α} {v : Value} (V : World) (j : Nat) (u : Value),w.heap.size + 2 ≤ B → Own enc kk TT B l v V → Own enc kk TT B l v (V.setCell ⟨w.heap.size + 1,j,none⟩ u) := fun V j u hB h => ownsRow_setCell_below h (show w.heap.size + 1 < _ by omega) u
      have zb : w.heap.size + 2 ≤ wr.heap.size := by omega
      have o1 := HP0.out.al
      have o2 := HP0.out.mr
      have o3 := HP0.out.ed
      have sz := HP0.out.sm
      have hz1 := HSZ.out.1
      have hz2 := HSZ.out.2.1
      have hz3 := HSZ.out.2.2
      have hi5 : i * al.length ≤ 5 * 5 := Nat.mul_le_mul hN5 hal
      simp only [Int.toNat_natCast] at *
      refine ⟨⟨cal,cn,cms,ces⟩,⟨X1,x1,X2,x2,X3,x3⟩,rfl,HRR.out,HAL.out,by simp only; omega,by simp only; omega,by simp only; omega,⟨?_,?_,?_,HP0.out.d1,HP0.out.d2,HP0.out.d3,by simp only; omega,by simp only; omega,by simp only; omega⟩,?_⟩
      · exact Own.base (st _ _ _ zb (st _ _ _ zb (st _ _ _ zb (st _ _ _ zb o1)))) (by omega)
      · exact Own.base (st _ _ _ zb (st _ _ _ zb (st _ _ _ zb (st _ _ _ zb o2)))) (by omega)
      · exact Own.base (st _ _ _ zb (st _ _ _ zb (st _ _ _ zb (st _ _ _ zb o3)))) (by omega)
      · exact ((((B5.out.setCell (by omega) _).setCell (by omega) _).setCell (by omega) _).setCell (by omega) _).b
theorem AuOwn.sepK {W w' : World} {a : Au} {p : AuP} (h : AuOwn W.heap.size a p w') (hb : Below W.heap.size W w') : Sep W.heap.size W (eAu a p) w' := by
 refine ⟨⟨hb,hb.size⟩,?_,?_,?_⟩
 · intro e he
   simp only [eAu,List.mem_cons,List.not_mem_nil,or_false] at he
   rcases he with rfl | rfl | rfl
   · exact Own.base h.al (Nat.zero_le _)
   · exact Own.base h.mr (Nat.zero_le _)
   · exact Own.base h.ed (Nat.zero_le _)
 · intro e he
   simp only [eAu,List.mem_cons,List.not_mem_nil,or_false] at he
   rcases he with rfl | rfl | rfl
   · exact fun g hg => (Own.lt h.al g (by simpa [eOwn] using hg)).1
   · exact fun g hg => (Own.lt h.mr g (by simpa [eOwn] using hg)).1
   · exact fun g hg => (Own.lt h.ed g (by simpa [eOwn] using hg)).1
 · have f : ∀ {α : Type} {enc : α → List Value} {k T : Nat} {l : List α} {v : Value} {g : Nat},g ∈ (eOwn enc k T l v).foot → v.ownBlock = some g := fun hg => by simpa [eOwn] using hg
   simp only [eAu,List.pairwise_cons,List.mem_cons,List.not_mem_nil,or_false,false_implies,implies_true,List.Pairwise.nil,and_true,forall_eq_or_imp,forall_eq]
   exact ⟨⟨fun g h1 h2 => h.d1 g (f h1) (f h2),fun g h1 h2 => h.d2 g (f h1) (f h2)⟩,fun g h1 h2 => h.d3 g (f h1) (f h2)⟩
theorem step_build {P : Program} {ops : Array Oper} {o : Oper} {a : Act} {w : World} {K : Act → World → Prop} {Q : Exit → Act → World → Prop} {E : Prop} (t : TypeId) (parts : Array (Nat × Operand)) (ho : o.op = .build t parts) (hg : o.guard = none) (cells : Array Value) (hb : P.built t (parts.map fun (i,x) => (i,a.eval x)).toList = some cells) (h : K (a.put o.dst (.agg cells)) w) : if Region.wanted o (yielded ops a.tmps) = true then Oper.wp P o a w K Q else E := by
 rw [if_pos (by simp [Region.wanted,hg])]
 unfold Oper.wp execOp
 simp only [ho,Sem.run_bind,run_build w t _ cells hb,Result.andThen_ok,Sem.run_pure]
 exact h
theorem Sep.setRow {n : Nat} {w0 w : World} {es : List Ent} (S : Sep n w0 es w) (i : Nat) {g T : Nat} {cs : List Value} (hi : es[i]? = some (eBlk g T cs)) (ds : List Value) : Sep n w0 (es.set i (eBlk g T ds)) (w.setRow g ds.toArray) := by
 have hb : w.heap[g]? = some (.cells cs.toArray T (0,0)) := S.get i hi
 exact S.chg i hi _ ⟨rfl,rfl,rfl,by simp [World.setRow],fun k _ hne => setRow_other w g k _ (by simpa [eBlk] using hne)⟩ (setRow_heap w g _ _ T (0,0) hb) (fun x hx => .inl hx)
theorem step_storeRow {P : Program} {ops : Array Oper} {o : Oper} {a : Act} {w : World} {K : Act → World → Prop} {Q : Exit → Act → World → Prop} {E : Prop} {n : Nat} {w0 : World} {es : List Ent} (hgd : o.guard = none) (ty : TypeId) (x y : Operand) (ho : o.op = .store ty x y) (S : Sep n w0 es w) (i : Nat) {g : Nat} {cs : List Value} (hi : es[i]? = some (eBlk g ty cs)) (ds : List Value) (hx : a.eval x = .pointer (some ⟨g,0,none⟩)) (hy : a.eval y = .agg ds.toArray) (hs : (P.info? ty).map (·.size) = some ds.length) (hl : cs.length = ds.length) (h1 : ds.all (·.oneCell') = true) (h : ∀ w',Sep n w0 (es.set i (eBlk g ty ds)) w' → K (a.put o.dst undef) w') : if Region.wanted o (yielded ops a.tmps) = true then Oper.wp P o a w K Q else E := by
 rw [if_pos (by simp [Region.wanted,hgd])]
 exact wp_store_row ty x y ho g ds.toArray hx hy ty cs.toArray (S.get i hi) (by simpa using hs) (by simpa using hl) (by simpa using h1) (h _ (S.setRow i hi ds))
theorem built46 (A1 A2 A3 A4 A5 : Option Addr) (l1 l2 l3 l4 l5 c1 c2 c3 c4 c5 : Nat) (n : Int) (ρ : Operand → Value) (h1 : ρ (.tmp 12) = .agg #[.slice A1 l1 c1,.int .i64 n,.slice A2 l2 c2,.slice A3 l3 c3]) (h2 : ρ (.tmp 16) = .slice A4 l4 c4) (h3 : ρ (.tmp 20) = .slice A5 l5 c5) (h4 : ρ (.const (.int .i64 4)) = .int .i64 4) : Try.prog.built 41 ((#[(0,Operand.tmp 12),(2,Operand.tmp 16),(3,Operand.tmp 20),(4,Operand.const (.int .i64 4))] : Array (Nat × Operand)).map fun (i,x) => (i,ρ x)).toList = some #[.slice A1 l1 c1,.int .i64 n,.slice A2 l2 c2,.slice A3 l3 c3,.slice none 0 0,.slice A4 l4 c4,.slice A5 l5 c5,.int .i64 4] := by
 simp only [List.map_toArray,List.map_cons,List.map_nil,h1,h2,h3,h4]
 kernel_rfl
def eTwo (a b : Ent) : Ent where
 foot := a.foot ++ b.foot
 ok w := a.ok w ∧ b.ok w ∧ ∀ g,g ∈ a.foot → ¬ g ∈ b.foot
 lt w h g hg := (List.mem_append.1 hg).elim (a.lt w h.1 g) (b.lt w h.2.1 g)
 turn w w' h hg := ⟨a.turn w w' h.1 fun g hgg => hg g (List.mem_append_left _ hgg),b.turn w w' h.2.1 fun g hgg => hg g (List.mem_append_right _ hgg),h.2.2⟩
theorem Sep.two {n : Nat} {w0 w : World} {a b : Ent} {es : List Ent} (S : Sep n w0 (a :: b :: es) w) : Sep n w0 (eTwo a b :: es) w := by
 have h := S.ap
 simp only [List.pairwise_cons,List.mem_cons,forall_eq_or_imp] at h
 refine ⟨S.fro,fun e he => ?_,fun e he g hg => ?_,?_⟩
 · rcases List.mem_cons.1 he with rfl | he
   · exact ⟨S.ok a (by simp),S.ok b (by simp),h.1.1⟩
   · exact S.ok e (by simp [he])
 · rcases List.mem_cons.1 he with rfl | he
   · exact (List.mem_append.1 hg).elim (S.ge a (by simp) g) (S.ge b (by simp) g)
   · exact S.ge e (by simp [he]) g hg
 · refine List.pairwise_cons.2 ⟨fun e he g hg => ?_,h.2.2⟩
   exact (List.mem_append.1 hg).elim (h.1.2 e he g) (h.2.1 e he g)
theorem Sep.untwo {n : Nat} {w0 w : World} {a b : Ent} {es : List Ent} (S : Sep n w0 (eTwo a b :: es) w) : Sep n w0 (a :: b :: es) w := by
 have h := List.pairwise_cons.1 S.ap
 obtain ⟨h1,h2,h3⟩ := S.ok (eTwo a b) (by simp)
 refine ⟨S.fro,fun e he => ?_,fun e he g hg => ?_,?_⟩
 · rcases List.mem_cons.1 he with rfl | he
   · exact h1
   · rcases List.mem_cons.1 he with rfl | he
     · exact h2
     · exact S.ok e (by simp [he])
 · rcases List.mem_cons.1 he with rfl | he
   · exact S.ge (eTwo e b) (by simp) g (List.mem_append_left _ hg)
   · rcases List.mem_cons.1 he with rfl | he
     · exact S.ge (eTwo a e) (by simp) g (List.mem_append_right _ hg)
     · exact S.ge e (by simp [he]) g hg
 · refine List.pairwise_cons.2 ⟨fun e he => ?_,List.pairwise_cons.2 ⟨fun e he g hg => h.1 e he g (List.mem_append_right _ hg),h.2⟩⟩
   rcases List.mem_cons.1 he with rfl | he
   · exact h3
   · exact fun g hg => h.1 e he g (List.mem_append_left _ hg)
theorem Sep.two3 {n : Nat} {w0 w : World} {a b c : Ent} (S : Sep n w0 [a,b,c] w) : Sep n w0 [eTwo a (eTwo b c)] w :=
 ((S.pick [1,2,0] (by decide)).two.pick [1,0] (by decide)).two
theorem Sep.untwo3 {n : Nat} {w0 w : World} {a b c : Ent} {es : List Ent} (S : Sep n w0 (eTwo a (eTwo b c) :: es) w) : Sep n w0 (b :: c :: a :: es) w := by
 have h := S.untwo
 exact (h.perm (List.Perm.swap _ _ _)).untwo
abbrev skC (ev : Int) (g : Gr) (fb un fc : Int) : List Value := .int .u8 ev :: (g.cells ++ [.int .u8 fb,.int .u8 un,.int .u8 fc])
theorem Lt5.setOk {l : List Int} {k : Nat} {n : Int} (h : Lt5 l k) (hn : (k : Int) ≤ n) : setOk l n l.length := fun i x hi hx => by
 have := h.rg x (List.mem_of_getElem? hx)
 exact ⟨this.1,by omega,fun y h0 hy => h.inc (i - 1) i y x (by omega) hy hx⟩
def GivesMk (w : World) (e : Ending) (w' : World) : Prop := ∃ (a : Au) (p : AuP) (fo unc frc : List Int) (AF : Option Addr) (cF : Nat) (AU : Option Addr) (cU : Nat) (AC : Option Addr) (cC : Nat),e = .returned (.agg #[.slice p.A1 a.al.length p.c1,.int .i64 a.n,.slice p.A2 a.mr.length p.c2,.slice p.A3 a.ed.length p.c3,.slice AF fo.length cF,.slice AU unc.length cU,.slice AC frc.length cC,.int .i64 4]) ∧
 PrRight a fo unc ∧ Lt5 a.al 5 ∧ (a.n ≤ 5 ∧ a.ed.length ≤ 25 ∧ a.mr.length ≤ 5) ∧ Hid (Sep w.heap.size w (eAu a p ++ [eInts fo (.slice AF fo.length cF),eInts unc (.slice AU unc.length cU),eInts frc (.slice AC frc.length cC)]) w')
set_option maxHeartbeats 8000000 in
theorem make46_c (ev : Int) (g : Gr) (fb un fc : Int) (w : World) (hev : 0 ≤ ev ∧ ev < 256) (hg : g.Ok) (hfb : 0 ≤ fb ∧ fb < 256) (hun : 0 ≤ un ∧ un < 256) (hfc : 0 ≤ fc ∧ fc < 256) :
 Calls Try.prog 6 #[.agg (skC ev g fb un fc).toArray] w (GivesMk w) := by
 have HEV := Lib.hid hev
 have HG := Lib.hid hg
 have HUN : Hid (0 ≤ bits .and .u8 un 15 ∧ bits .and .u8 un 15 < 256) := by have := bits_within .and .u8 un 15; simp [IntKind.min,IntKind.max,IntKind.signed,IntKind.bits] at this; exact ⟨this.1,by omega⟩
 have HFC : Hid (0 ≤ bits .and .u8 fc 15 ∧ bits .and .u8 fc 15 < 256) := by have := bits_within .and .u8 fc 15; simp [IntKind.min,IntKind.max,IntKind.signed,IntKind.bits] at this; exact ⟨this.1,by omega⟩
 obtain ⟨cs,hcs⟩ : ∃ l,l = skC ev g fb un fc := ⟨_,rfl⟩
 rw [← hcs]
 have HC0 : Hid (cs[0]? = some (.int .u8 ev)) := by rw [hcs]; rfl
 have HC28 : Hid (cs[28]? = some (.int .u8 fb)) := by rw [hcs]; rfl
 have HC29 : Hid (cs[29]? = some (.int .u8 un)) := by rw [hcs]; rfl
 have HC30 : Hid (cs[30]? = some (.int .u8 fc)) := by rw [hcs]; rfl
 obtain ⟨gc,hgc⟩ : ∃ l,l = g.cells := ⟨_,rfl⟩
 have HGL : Hid (gc.length = 27) := by rw [hgc]; rfl
 have HCR : Hid (∀ j v,gc[j]? = some v → cs[1 + j]? = some v) := fun j v hv => by
  rw [hcs,Nat.add_comm]
  show (g.cells ++ _)[j]? = _
  rw [← hgc,List.getElem?_append_left (List.getElem?_eq_some_iff.1 hv).1,hv]
 have MK : Hid (∀ (A : Option Addr) (c : Nat) (al : List Int) (w : World),IntsAt w A al → Lt5 al 5 → (A = none → al = [] ∧ c = 0) → Calls Try.prog 17 #[.slice A al.length c,.agg gc.toArray] w (GivesGm al w)) := fun A c al w h1 h2 h3 => by rw [hgc]; exact make3_c A c al g w h1 h2 h3 HG.out
 clear hev hg hun hfc hcs hgc HG
 go_enter Try.func6,Try.ntmps6
 obtain ⟨kb,hkb⟩ : ∃ g,g = w.heap.size := ⟨_,rfl⟩
 obtain ⟨rb,hrb⟩ : ∃ g,g = w.heap.size + 1 := ⟨_,rfl⟩
 go_upto_region 1 with fail
 try rw [← hrb]
 try rw [← hkb]
 refine wp_world (fun W => Sep w.heap.size w [eBlk rb 41 [.slice none 0 0,.int .i64 0,.slice none 0 0,.slice none 0 0,.slice none 0 0,.slice none 0 0,.slice none 0 0,.int .i64 0],eBlk kb 30 cs] W) (((Sep.here w).alloc' _ cs rfl hkb).alloc' _ [_,_,_,_,_,_,_,_] rfl (by simp; omega)) fun W S => ?_
 have S0 := Lib.hid S
 clear S hkb hrb
 go_cut [3] (fun v3 wx => ∃ (nb : Nat) (sal : List Int) (sn : Int) (smr : List Int) (sed : List Ed) (B1 : Option Addr) (b1 : Nat) (B2 : Option Addr) (b2 : Nat) (B3 : Option Addr) (b3 : Nat) (unc : List Int) (AU : Option Addr) (cU : Nat) (frc : List Int) (AC : Option Addr) (cC : Nat),v3 = .pointer (some ⟨nb,0,none⟩) ∧ Au.Right ⟨sal,sn,smr,sed⟩ ∧ Lt5 sal 5 ∧ (sn ≤ 5 ∧ sed.length ≤ 25 ∧ smr.length ≤ 5) ∧ Lt5 unc 5 ∧ Hid (Sep w.heap.size w [eBlk nb 41 [.slice B1 sal.length b1,.int .i64 sn,.slice B2 smr.length b2,.slice B3 sed.length b3,.slice none 0 0,.slice AU unc.length cU,.slice AC frc.length cC,.int .i64 4],eInts sal (.slice B1 sal.length b1),eInts smr (.slice B2 smr.length b2),eEds sed (.slice B3 sed.length b3),eInts unc (.slice AU unc.length cU),eInts frc (.slice AC frc.length cC),eBlk rb 41 [.slice none 0 0,.int .i64 0,.slice none 0 0,.slice none 0 0,.slice none 0 0,.slice none 0 0,.slice none 0 0,.int .i64 0],eBlk kb 30 cs] wx))
 case first => as_aux_lemma =>
  have S1 := Lib.hid S0.out.drew
  refine wp_region_held_drew (S := (fun V => Sep w.heap.size w [eBlk kb 30 cs] V)) (by kernel_rfl) ?_ (fun hHeld => ?_)
  · exact S1.out.pick [1] (by decide)
  generalize hwz : W.drew = w1 at *
  clear hwz
  rw [show Array.replicate _ false = #[false,false,false,false,false,false,false,false,false,false,false,false,false,false,false,false,false,false,false] from rfl]
  refine tkP 0 rfl hHeld ?_
  try simp only [sx]
  refine tkP 1 rfl hHeld ?_
  try simp only [sx]
  refine tkH 2 rfl (v := ?_) (by kernel_rfl) ?_ hHeld ?_
  rotate_left
  · intro V hSw
    have k0 := (BlkAt.cell (hSw.get 0 rfl) 0).trans HC0.out
    clear hSw
    first | (go_simp; done) | (go_simp; with_reducible rfl)
  try simp only [sx]
  refine tkP 4 rfl hHeld ?_
  try simp only [sx]
  refine tkP 5 rfl hHeld ?_
  try simp only [sx]
  refine wpAnyH_take (i := 6) (v := _) rfl (by kernel_rfl) (by kernel_rfl) (by kernel_rfl) (fun _ _ _ h => h) (yieldsIf_load_mid (by kernel_rfl) 26 (.tmp 10) rfl kb 1 rfl gc _ (fun V hSw => fun j v hv => (BlkAt.cell (Sep.get (show Sep w.heap.size w _ V from hSw) 0 rfl) (1 + j)).trans (HCR.out j v hv)) Try.underlying26 rfl (by rw [HGL.out]; kernel_rfl)) hHeld ?_
  try simp only [sx]
  refine tkP 8 rfl hHeld ?_
  try simp only [sx]
  refine tkH 9 rfl (v := ?_) (by kernel_rfl) ?_ hHeld ?_
  rotate_left
  · intro V hSw
    have k29 := (BlkAt.cell (hSw.get 0 rfl) 29).trans HC29.out
    clear hSw
    first | (go_simp; done) | (go_simp; with_reducible rfl)
  try simp only [sx]
  refine tkP 10 rfl hHeld ?_
  try simp only [sx]
  refine tkP 12 rfl hHeld ?_
  try simp only [sx]
  refine tkH 13 rfl (v := ?_) (by kernel_rfl) ?_ hHeld ?_
  rotate_left
  · intro V hSw
    have k30 := (BlkAt.cell (hSw.get 0 rfl) 30).trans HC30.out
    clear hSw
    first | (go_simp; done) | (go_simp; with_reducible rfl)
  try simp only [sx]
  refine tkP 14 rfl hHeld ?_
  try simp only [sx]
  refine act_name ?_
  intro A0 hA0
  obtain ⟨F,hF⟩ : ∃ F : Value → Value → Value → Value → Value → Value → Act,Hid (∀ x8 x12 x16 x20 x21 x3,F x8 x12 x16 x20 x21 x3 = ((((((A0.put (some 8) x8).put (some 12) x12).put (some 16) x16).put (some 20) x20).put (some 21) x21).put (some 3) x3)) := ⟨fun x8 x12 x16 x20 x21 x3 => ((((((A0.put (some 8) x8).put (some 12) x12).put (some 16) x16).put (some 20) x20).put (some 21) x21).put (some 3) x3),fun _ _ _ _ _ _ => rfl⟩
  subst hA0
  unfold Hid at hF
  simp only [List.getElem_toArray,List.getElem_cons_zero,List.getElem_cons_succ,Act.put,List.setIfInBounds_toArray,List.set_cons_zero,List.set_cons_succ] at hF
  have HF := Lib.hid hF
  clear hF
  obtain ⟨INV,hI⟩ : ∃ I : Array Bool → Act → World → Prop,Hid (∀ l_ a_ W_,I l_ a_ W_ ↔ ∃ (fb3 fb7 fb11 fb15 fb16 fb17 fb18 : Bool) (x8 x12 x16 x20 x21 x3 : Value) (E_l0 E_mk E_un E_fc E_bd E_nb : Ent),l_ = #[true,true,true,fb3,true,true,true,fb7,true,true,true,fb11,true,true,true,fb15,fb16,fb17,fb18] ∧ a_ = F x8 x12 x16 x20 x21 x3 ∧ Hid (Sep w.heap.size w [E_l0,E_mk,E_un,E_fc,E_bd,E_nb,eBlk rb 41 [.slice none 0 0,.int .i64 0,.slice none 0 0,.slice none 0 0,.slice none 0 0,.slice none 0 0,.slice none 0 0,.int .i64 0],eBlk kb 30 cs] W_) ∧ True ∧ Hid (fb7 = true → fb3 = true) ∧ Hid (fb11 = true → fb7 = true) ∧ Hid (fb15 = true → fb11 = true) ∧ Hid (fb16 = true → fb15 = true) ∧ Hid (fb18 = true → fb16 = true) ∧ Hid (fb18 = true → fb17 = true) ∧ Hid (fb3 = false → E_l0 = eNo) ∧ Hid (fb3 = true → ∃ (l : List Int) (A : Option Addr) (c : Nat),x8 = .slice A l.length c ∧ E_l0 = eInts l (.slice A l.length c) ∧ Lt5 l 5 ∧ (A = none → l = [] ∧ c = 0)) ∧ Hid (fb7 = false → E_mk = eNo) ∧ Hid (fb7 = true → ∃ (a : Au) (p : AuP),x12 = .agg #[.slice p.A1 a.al.length p.c1,.int .i64 a.n,.slice p.A2 a.mr.length p.c2,.slice p.A3 a.ed.length p.c3] ∧ E_mk = eTwo (eInts a.al (.slice p.A1 a.al.length p.c1)) (eTwo (eInts a.mr (.slice p.A2 a.mr.length p.c2)) (eEds a.ed (.slice p.A3 a.ed.length p.c3))) ∧ a.Right ∧ Lt5 a.al 5 ∧ (a.n ≤ 5 ∧ a.ed.length ≤ 25 ∧ a.mr.length ≤ 5)) ∧ Hid (fb11 = false → E_un = eNo) ∧ Hid (fb11 = true → ∃ (l : List Int) (A : Option Addr) (c : Nat),x16 = .slice A l.length c ∧ E_un = eInts l (.slice A l.length c) ∧ Lt5 l 5 ∧ (A = none → l = [] ∧ c = 0)) ∧ Hid (fb15 = false → E_fc = eNo) ∧ Hid (fb15 = true → ∃ (l : List Int) (A : Option Addr) (c : Nat),x20 = .slice A l.length c ∧ E_fc = eInts l (.slice A l.length c) ∧ Lt5 l 5 ∧ (A = none → l = [] ∧ c = 0)) ∧ Hid (fb16 = false → E_bd = eNo) ∧ Hid (fb16 = true → ∃ (a : Au) (p : AuP) (unc : List Int) (AU : Option Addr) (cU : Nat) (frc : List Int) (AC : Option Addr) (cC : Nat),x12 = .agg #[.slice p.A1 a.al.length p.c1,.int .i64 a.n,.slice p.A2 a.mr.length p.c2,.slice p.A3 a.ed.length p.c3] ∧ x16 = .slice AU unc.length cU ∧ x20 = .slice AC frc.length cC ∧ x21 = .agg #[.slice p.A1 a.al.length p.c1,.int .i64 a.n,.slice p.A2 a.mr.length p.c2,.slice p.A3 a.ed.length p.c3,.slice none 0 0,.slice AU unc.length cU,.slice AC frc.length cC,.int .i64 4] ∧ E_bd = eNo) ∧ Hid (fb17 = false → E_nb = eNo) ∧ Hid (fb17 = true → fb18 = false → ∃ g,x3 = .pointer (some ⟨g,0,none⟩) ∧ E_nb = eBlk g 41 [.slice none 0 0,.int .i64 0,.slice none 0 0,.slice none 0 0,.slice none 0 0,.slice none 0 0,.slice none 0 0,.int .i64 0]) ∧ Hid (fb18 = true → ∃ (g : Nat) (a : Au) (p : AuP) (unc : List Int) (AU : Option Addr) (cU : Nat) (frc : List Int) (AC : Option Addr) (cC : Nat),x3 = .pointer (some ⟨g,0,none⟩) ∧ x12 = .agg #[.slice p.A1 a.al.length p.c1,.int .i64 a.n,.slice p.A2 a.mr.length p.c2,.slice p.A3 a.ed.length p.c3] ∧ x16 = .slice AU unc.length cU ∧ x20 = .slice AC frc.length cC ∧ E_nb = eBlk g 41 [.slice p.A1 a.al.length p.c1,.int .i64 a.n,.slice p.A2 a.mr.length p.c2,.slice p.A3 a.ed.length p.c3,.slice none 0 0,.slice AU unc.length cU,.slice AC frc.length cC,.int .i64 4])) := ⟨_,fun _ _ _ => Iff.rfl⟩
  refine wpAnyH_inv (INV := INV) (D := [[],[0],[1],[2],[],[4],[5],[3,6],[],[8],[9],[7,10],[],[12],[13],[11,14],[7,11,15],[],[0,1,2,3,4,5,6,7,8,9,10,11,12,13,14,15,16,17]]) [3,7,11,15,16,17,18] (by kernel_rfl) (fun l_ a_ W_ h => ?_) (fun l_ a_ W_ h => ?_) (fun l_ a_ W_ h hall => ?_) ?_ _ _ _ _ (by decide) ?_
  · obtain ⟨fb3,fb7,fb11,fb15,fb16,fb17,fb18,x8,x12,x16,x20,x21,x3,E_l0,E_mk,E_un,E_fc,E_bd,E_nb,rfl,rfl,S_,_,mf3_7,mf7_11,mf11_15,mf15_16,mf16_18,mf17_18,d_l0,d_l00,d_mk,d_mk0,d_un,d_un0,d_fc,d_fc0,d_bd,d_bd0,d_nb,d_nb0,d_nb1⟩ := (hI.out _ _ _).1 h
    exact S_.out.pick [7] (by decide)
  · obtain ⟨fb3,fb7,fb11,fb15,fb16,fb17,fb18,x8,x12,x16,x20,x21,x3,E_l0,E_mk,E_un,E_fc,E_bd,E_nb,rfl,rfl,S_,_,mf3_7,mf7_11,mf11_15,mf15_16,mf16_18,mf17_18,d_l0,d_l00,d_mk,d_mk0,d_un,d_un0,d_fc,d_fc0,d_bd,d_bd0,d_nb,d_nb0,d_nb1⟩ := (hI.out _ _ _).1 h
    rfl
  · obtain ⟨fb3,fb7,fb11,fb15,fb16,fb17,fb18,x8,x12,x16,x20,x21,x3,E_l0,E_mk,E_un,E_fc,E_bd,E_nb,rfl,rfl,S_,_,mf3_7,mf7_11,mf11_15,mf15_16,mf16_18,mf17_18,d_l0,d_l00,d_mk,d_mk0,d_un,d_un0,d_fc,d_fc0,d_bd,d_bd0,d_nb,d_nb0,d_nb1⟩ := (hI.out _ _ _).1 h
    obtain rfl : fb3 = true := hall 3 (by decide)
    obtain rfl : fb7 = true := hall 7 (by decide)
    obtain rfl : fb11 = true := hall 11 (by decide)
    obtain rfl : fb15 = true := hall 15 (by decide)
    obtain rfl : fb16 = true := hall 16 (by decide)
    obtain rfl : fb17 = true := hall 17 (by decide)
    obtain rfl : fb18 = true := hall 18 (by decide)
    clear hall h hI INV
    rw [HF.out]
    clear HF F
    have v_l0 := d_l00.out rfl
    have v_mk := d_mk0.out rfl
    have v_un := d_un0.out rfl
    have v_fc := d_fc0.out rfl
    have v_bd := d_bd0.out rfl
    have v_nb := d_nb1.out rfl
    clear mf3_7 mf7_11 mf11_15 mf15_16 mf16_18 mf17_18 d_l0 d_l00 d_mk d_mk0 d_un d_un0 d_fc d_fc0 d_bd d_bd0 d_nb d_nb0 d_nb1
    obtain ⟨nb,a,p,unc,AU,cU,frc,AC,cC,rfl,rfl,rfl,rfl,rfl⟩ := v_nb
    obtain ⟨a2,p2,h78,rfl,hr,h5a,hle⟩ := v_mk
    obtain ⟨l,A',c',h79,rfl,h5u,hnu⟩ := v_un
    obtain ⟨l2,A2',c2',h77,rfl,h5f,hnf⟩ := v_fc
    have S9 := Lib.hid ((S_.out.pick [1,5,2,3,6,7] (by decide)).untwo3.pick [3,2,0,1,4,5,6,7] (by decide))
    clear S_
    have HR9 := Lib.hid hr
    have HA9 := Lib.hid h5a
    have HL9 := Lib.hid hle
    have HU9 := Lib.hid h5u
    clear hr h5a hle h5u h5f hnf hnu
    simp only [Value.agg.injEq,Array.mk.injEq,List.cons.injEq,Value.slice.injEq,Value.int.injEq,true_and,and_true] at h78 h79 h77
    obtain ⟨⟨e1,e2,e3⟩,e4,⟨e5,e6,e7⟩,e8,e9,e10⟩ := h78
    obtain ⟨f1,f2,f3⟩ := h79
    obtain ⟨g1,g2,g3⟩ := h77
    simp only [e1,e2,e3,e4,e5,e6,e7,e8,e9,e10,f1,f2,f3,g1,g2,g3] at S9 ⊢
    clear e1 e2 e3 e4 e5 e6 e7 e8 e9 e10 f1 f2 f3 g1 g2 g3
    go_wp2_with fail
    go_meet
    exact ⟨nb,a2.al,a2.n,a2.mr,a2.ed,p2.A1,p2.c1,p2.A2,p2.c2,p2.A3,p2.c3,l,A',c',l2,A2',c2',rfl,HR9.out,HA9.out,HL9.out,HU9.out,S9.out⟩
  · clear hHeld S1
    refine StepsI.cons rfl (fun l_ a_ W_ h hf hd K hK => ?_) (StepsI.cons rfl (fun l_ a_ W_ h hf hd K hK => ?_) (StepsI.cons rfl (fun l_ a_ W_ h hf hd K hK => ?_) (StepsI.cons rfl (fun l_ a_ W_ h hf hd K hK => ?_) (StepsI.cons rfl (fun l_ a_ W_ h hf hd K hK => ?_) (StepsI.cons rfl (fun l_ a_ W_ h hf hd K hK => ?_) (StepsI.cons rfl (fun l_ a_ W_ h hf hd K hK => ?_) (StepsI.nil)))))))
    · obtain ⟨fb3,fb7,fb11,fb15,fb16,fb17,fb18,x8,x12,x16,x20,x21,x3,E_l0,E_mk,E_un,E_fc,E_bd,E_nb,rfl,rfl,S_,_,mf3_7,mf7_11,mf11_15,mf15_16,mf16_18,mf17_18,d_l0,d_l00,d_mk,d_mk0,d_un,d_un0,d_fc,d_fc0,d_bd,d_bd0,d_nb,d_nb0,d_nb1⟩ := (hI.out _ _ _).1 h
      obtain rfl : fb3 = false := hf
      clear h
      obtain rfl : fb7 = false := by cases fb7 with | false => rfl | true => exact nomatch (mf3_7.out rfl)
      obtain rfl : fb11 = false := by cases fb11 with | false => rfl | true => exact nomatch (mf7_11.out rfl)
      obtain rfl : fb15 = false := by cases fb15 with | false => rfl | true => exact nomatch (mf11_15.out rfl)
      obtain rfl : fb16 = false := by cases fb16 with | false => rfl | true => exact nomatch (mf15_16.out rfl)
      obtain rfl : fb18 = false := by cases fb18 with | false => rfl | true => exact nomatch (mf16_18.out rfl)
      clear hd
      rw [HF.out]
      have v_l0 := d_l0.out rfl
      have v_mk := d_mk.out rfl
      have v_un := d_un.out rfl
      have v_fc := d_fc.out rfl
      have v_bd := d_bd.out rfl
      obtain rfl := v_l0
      go_simp
      refine (setEvents_c ev W_ HEV.out.1 HEV.out.2).mono ?_
      rintro e_ W2 ⟨l,v_,rfl,h5_,ho_,hb_⟩
      have H5_ := Lib.hid h5_
      obtain ⟨A,c,rfl⟩ := Own.form ho_.out
      have S2 := Lib.hid (S_.out.fill1 0 rfl ((Sep.here W_).newI ho_.out hb_))
      have HN_ : Hid (A = none → l = [] ∧ c = 0) := fun e => Own.none ho_.out e
      clear ho_ hb_ h5_
      try simp only [sx]
      refine hK.out _ _ ((hI.out _ _ _).2 ⟨true,false,false,false,false,fb17,false,_,_,_,_,_,_,_,_,_,_,_,_,rfl,(HF.out _ _ _ _ _ _).symm,S2,trivial,(fun _ => rfl),(fun h => nomatch h),(fun h => nomatch h),(fun h => nomatch h),(fun h => nomatch h),(fun h => nomatch h),(fun h => nomatch h),(fun _ => ⟨l,A,c,rfl,rfl,H5_.out,HN_.out⟩),d_mk,(fun h => nomatch h),d_un,(fun h => nomatch h),d_fc,(fun h => nomatch h),d_bd,(fun h => nomatch h),d_nb,d_nb0,(fun h => nomatch h)⟩)
    · obtain ⟨fb3,fb7,fb11,fb15,fb16,fb17,fb18,x8,x12,x16,x20,x21,x3,E_l0,E_mk,E_un,E_fc,E_bd,E_nb,rfl,rfl,S_,_,mf3_7,mf7_11,mf11_15,mf15_16,mf16_18,mf17_18,d_l0,d_l00,d_mk,d_mk0,d_un,d_un0,d_fc,d_fc0,d_bd,d_bd0,d_nb,d_nb0,d_nb1⟩ := (hI.out _ _ _).1 h
      obtain rfl : fb7 = false := hf
      clear h
      obtain rfl : fb3 = true := hd 3 (by decide)
      obtain rfl : fb11 = false := by cases fb11 with | false => rfl | true => exact nomatch (mf7_11.out rfl)
      obtain rfl : fb15 = false := by cases fb15 with | false => rfl | true => exact nomatch (mf11_15.out rfl)
      obtain rfl : fb16 = false := by cases fb16 with | false => rfl | true => exact nomatch (mf15_16.out rfl)
      obtain rfl : fb18 = false := by cases fb18 with | false => rfl | true => exact nomatch (mf16_18.out rfl)
      clear hd
      rw [HF.out]
      have v_l0 := d_l00.out rfl
      have v_mk := d_mk.out rfl
      have v_un := d_un.out rfl
      have v_fc := d_fc.out rfl
      have v_bd := d_bd.out rfl
      obtain rfl := v_mk
      obtain ⟨l0,A0,c0,rfl,rfl,h5l,hnl⟩ := v_l0
      have H5l0 := Lib.hid h5l
      have HNl0 := Lib.hid hnl
      clear h5l hnl
      go_simp
      refine (MK.out A0 c0 l0 W_ (S_.out.ints 0 rfl) H5l0.out HNl0.out).mono ?_
      rintro e_ W2 ⟨a,p,rfl,hr_,hal_,hn_,hel_,hml_,ho_,hb_⟩
      have S2 := Lib.hid (S_.out.fill1 1 rfl (AuOwn.sepK ho_.out hb_).two3)
      have HR := Lib.hid hr_
      have HAL : Hid (Lt5 a.al 5) := by rw [Hid,hal_]; exact H5l0.out
      have HLE := Lib.hid (And.intro hn_ (And.intro hel_ hml_))
      clear ho_ hb_ hr_ hal_ hn_ hel_ hml_
      try simp only [sx]
      refine hK.out _ _ ((hI.out _ _ _).2 ⟨true,true,false,false,false,fb17,false,_,_,_,_,_,_,_,_,_,_,_,_,rfl,(HF.out _ _ _ _ _ _).symm,S2,trivial,(fun _ => rfl),(fun _ => rfl),(fun h => nomatch h),(fun h => nomatch h),(fun h => nomatch h),(fun h => nomatch h),(fun h => nomatch h),d_l00,(fun h => nomatch h),(fun _ => ⟨a,p,rfl,rfl,HR.out,HAL.out,HLE.out⟩),d_un,(fun h => nomatch h),d_fc,(fun h => nomatch h),d_bd,(fun h => nomatch h),d_nb,d_nb0,(fun h => nomatch h)⟩)
    · obtain ⟨fb3,fb7,fb11,fb15,fb16,fb17,fb18,x8,x12,x16,x20,x21,x3,E_l0,E_mk,E_un,E_fc,E_bd,E_nb,rfl,rfl,S_,_,mf3_7,mf7_11,mf11_15,mf15_16,mf16_18,mf17_18,d_l0,d_l00,d_mk,d_mk0,d_un,d_un0,d_fc,d_fc0,d_bd,d_bd0,d_nb,d_nb0,d_nb1⟩ := (hI.out _ _ _).1 h
      obtain rfl : fb11 = false := hf
      clear h
      obtain rfl : fb7 = true := hd 7 (by decide)
      obtain rfl : fb3 = true := mf3_7.out rfl
      obtain rfl : fb15 = false := by cases fb15 with | false => rfl | true => exact nomatch (mf11_15.out rfl)
      obtain rfl : fb16 = false := by cases fb16 with | false => rfl | true => exact nomatch (mf15_16.out rfl)
      obtain rfl : fb18 = false := by cases fb18 with | false => rfl | true => exact nomatch (mf16_18.out rfl)
      clear hd
      rw [HF.out]
      have v_l0 := d_l00.out rfl
      have v_mk := d_mk0.out rfl
      have v_un := d_un.out rfl
      have v_fc := d_fc.out rfl
      have v_bd := d_bd.out rfl
      obtain rfl := v_un
      go_simp
      refine (setEvents_c (bits .and .u8 un 15) W_ HUN.out.1 HUN.out.2).mono ?_
      rintro e_ W2 ⟨l,v_,rfl,h5_,ho_,hb_⟩
      have H5_ := Lib.hid h5_
      obtain ⟨A,c,rfl⟩ := Own.form ho_.out
      have S2 := Lib.hid (S_.out.fill1 2 rfl ((Sep.here W_).newI ho_.out hb_))
      have HN_ : Hid (A = none → l = [] ∧ c = 0) := fun e => Own.none ho_.out e
      clear ho_ hb_ h5_
      try simp only [sx]
      refine hK.out _ _ ((hI.out _ _ _).2 ⟨true,true,true,false,false,fb17,false,_,_,_,_,_,_,_,_,_,_,_,_,rfl,(HF.out _ _ _ _ _ _).symm,S2,trivial,(fun _ => rfl),(fun _ => rfl),(fun _ => rfl),(fun h => nomatch h),(fun h => nomatch h),(fun h => nomatch h),(fun h => nomatch h),d_l00,(fun h => nomatch h),d_mk0,(fun h => nomatch h),(fun _ => ⟨l,A,c,rfl,rfl,H5_.out,HN_.out⟩),d_fc,(fun h => nomatch h),d_bd,(fun h => nomatch h),d_nb,d_nb0,(fun h => nomatch h)⟩)
    · obtain ⟨fb3,fb7,fb11,fb15,fb16,fb17,fb18,x8,x12,x16,x20,x21,x3,E_l0,E_mk,E_un,E_fc,E_bd,E_nb,rfl,rfl,S_,_,mf3_7,mf7_11,mf11_15,mf15_16,mf16_18,mf17_18,d_l0,d_l00,d_mk,d_mk0,d_un,d_un0,d_fc,d_fc0,d_bd,d_bd0,d_nb,d_nb0,d_nb1⟩ := (hI.out _ _ _).1 h
      obtain rfl : fb15 = false := hf
      clear h
      obtain rfl : fb11 = true := hd 11 (by decide)
      obtain rfl : fb7 = true := mf7_11.out rfl
      obtain rfl : fb3 = true := mf3_7.out rfl
      obtain rfl : fb16 = false := by cases fb16 with | false => rfl | true => exact nomatch (mf15_16.out rfl)
      obtain rfl : fb18 = false := by cases fb18 with | false => rfl | true => exact nomatch (mf16_18.out rfl)
      clear hd
      rw [HF.out]
      have v_l0 := d_l00.out rfl
      have v_mk := d_mk0.out rfl
      have v_un := d_un0.out rfl
      have v_fc := d_fc.out rfl
      have v_bd := d_bd.out rfl
      obtain rfl := v_fc
      go_simp
      refine (setEvents_c (bits .and .u8 fc 15) W_ HFC.out.1 HFC.out.2).mono ?_
      rintro e_ W2 ⟨l,v_,rfl,h5_,ho_,hb_⟩
      have H5_ := Lib.hid h5_
      obtain ⟨A,c,rfl⟩ := Own.form ho_.out
      have S2 := Lib.hid (S_.out.fill1 3 rfl ((Sep.here W_).newI ho_.out hb_))
      have HN_ : Hid (A = none → l = [] ∧ c = 0) := fun e => Own.none ho_.out e
      clear ho_ hb_ h5_
      try simp only [sx]
      refine hK.out _ _ ((hI.out _ _ _).2 ⟨true,true,true,true,false,fb17,false,_,_,_,_,_,_,_,_,_,_,_,_,rfl,(HF.out _ _ _ _ _ _).symm,S2,trivial,(fun _ => rfl),(fun _ => rfl),(fun _ => rfl),(fun _ => rfl),(fun h => nomatch h),(fun h => nomatch h),(fun h => nomatch h),d_l00,(fun h => nomatch h),d_mk0,(fun h => nomatch h),d_un0,(fun h => nomatch h),(fun _ => ⟨l,A,c,rfl,rfl,H5_.out,HN_.out⟩),d_bd,(fun h => nomatch h),d_nb,d_nb0,(fun h => nomatch h)⟩)
    · obtain ⟨fb3,fb7,fb11,fb15,fb16,fb17,fb18,x8,x12,x16,x20,x21,x3,E_l0,E_mk,E_un,E_fc,E_bd,E_nb,rfl,rfl,S_,_,mf3_7,mf7_11,mf11_15,mf15_16,mf16_18,mf17_18,d_l0,d_l00,d_mk,d_mk0,d_un,d_un0,d_fc,d_fc0,d_bd,d_bd0,d_nb,d_nb0,d_nb1⟩ := (hI.out _ _ _).1 h
      obtain rfl : fb16 = false := hf
      clear h
      obtain rfl : fb7 = true := hd 7 (by decide)
      obtain rfl : fb11 = true := hd 11 (by decide)
      obtain rfl : fb15 = true := hd 15 (by decide)
      obtain rfl : fb3 = true := mf3_7.out rfl
      obtain rfl : fb18 = false := by cases fb18 with | false => rfl | true => exact nomatch (mf16_18.out rfl)
      clear hd
      rw [HF.out]
      have v_l0 := d_l00.out rfl
      have v_mk := d_mk0.out rfl
      have v_un := d_un0.out rfl
      have v_fc := d_fc0.out rfl
      have v_bd := d_bd.out rfl
      obtain rfl := v_bd
      obtain ⟨a,p,rfl,rfl,hr,h5a,hle⟩ := v_mk
      obtain ⟨unc,AU,cU,rfl,rfl,h5u,hnu⟩ := v_un
      obtain ⟨frc,AC,cC,rfl,rfl,h5f,hnf⟩ := v_fc
      clear hr h5a hle h5u hnu h5f hnf
      refine step_build 41 _ rfl rfl #[.slice p.A1 a.al.length p.c1,.int .i64 a.n,.slice p.A2 a.mr.length p.c2,.slice p.A3 a.ed.length p.c3,.slice none 0 0,.slice AU unc.length cU,.slice AC frc.length cC,.int .i64 4] (built46 _ _ _ _ _ _ _ _ _ _ _ _ _ _ _ _ _ rfl rfl rfl rfl) ?_
      try simp only [sx]
      refine hK.out _ _ ((hI.out _ _ _).2 ⟨true,true,true,true,true,fb17,false,_,_,_,_,_,_,_,_,_,_,_,_,rfl,(HF.out _ _ _ _ _ _).symm,S_,trivial,(fun _ => rfl),(fun _ => rfl),(fun _ => rfl),(fun _ => rfl),(fun _ => rfl),(fun h => nomatch h),(fun h => nomatch h),d_l00,(fun h => nomatch h),d_mk0,(fun h => nomatch h),d_un0,(fun h => nomatch h),d_fc0,(fun h => nomatch h),(fun _ => ⟨a,p,unc,AU,cU,frc,AC,cC,rfl,rfl,rfl,rfl,rfl⟩),d_nb,d_nb0,(fun h => nomatch h)⟩)
    · obtain ⟨fb3,fb7,fb11,fb15,fb16,fb17,fb18,x8,x12,x16,x20,x21,x3,E_l0,E_mk,E_un,E_fc,E_bd,E_nb,rfl,rfl,S_,_,mf3_7,mf7_11,mf11_15,mf15_16,mf16_18,mf17_18,d_l0,d_l00,d_mk,d_mk0,d_un,d_un0,d_fc,d_fc0,d_bd,d_bd0,d_nb,d_nb0,d_nb1⟩ := (hI.out _ _ _).1 h
      obtain rfl : fb17 = false := hf
      clear h
      obtain rfl : fb18 = false := by cases fb18 with | false => rfl | true => exact nomatch (mf17_18.out rfl)
      clear hd
      rw [HF.out]
      have v_nb := d_nb.out rfl
      obtain rfl := v_nb
      go_simp
      obtain ⟨g2,hg2⟩ : ∃ g,g = W_.heap.size := ⟨_,rfl⟩
      obtain ⟨W2,hW2⟩ : ∃ v,v = W_.alloc (.cells #[.slice none 0 0,.int .i64 0,.slice none 0 0,.slice none 0 0,.slice none 0 0,.slice none 0 0,.slice none 0 0,.int .i64 0] 41) := ⟨_,rfl⟩
      rw [← hW2,← hg2]
      have S2 := Lib.hid (S_.out.fillAlloc 5 rfl 41 [.slice none 0 0,.int .i64 0,.slice none 0 0,.slice none 0 0,.slice none 0 0,.slice none 0 0,.slice none 0 0,.int .i64 0] (o := .cells #[.slice none 0 0,.int .i64 0,.slice none 0 0,.slice none 0 0,.slice none 0 0,.slice none 0 0,.slice none 0 0,.int .i64 0] 41) rfl hg2)
      rw [← hW2] at S2
      clear hW2 hg2
      try simp only [sx]
      refine hK.out _ _ ((hI.out _ _ _).2 ⟨fb3,fb7,fb11,fb15,fb16,true,false,_,_,_,_,_,_,_,_,_,_,_,_,rfl,(HF.out _ _ _ _ _ _).symm,S2,trivial,mf3_7,mf7_11,mf11_15,mf15_16,(fun h => nomatch h),(fun _ => rfl),d_l0,d_l00,d_mk,d_mk0,d_un,d_un0,d_fc,d_fc0,d_bd,d_bd0,(fun h => nomatch h),(fun _ _ => ⟨_,rfl,rfl⟩),(fun h => nomatch h)⟩)
    · obtain ⟨fb3,fb7,fb11,fb15,fb16,fb17,fb18,x8,x12,x16,x20,x21,x3,E_l0,E_mk,E_un,E_fc,E_bd,E_nb,rfl,rfl,S_,_,mf3_7,mf7_11,mf11_15,mf15_16,mf16_18,mf17_18,d_l0,d_l00,d_mk,d_mk0,d_un,d_un0,d_fc,d_fc0,d_bd,d_bd0,d_nb,d_nb0,d_nb1⟩ := (hI.out _ _ _).1 h
      obtain rfl : fb18 = false := hf
      clear h
      obtain rfl : fb3 = true := hd 3 (by decide)
      obtain rfl : fb7 = true := hd 7 (by decide)
      obtain rfl : fb11 = true := hd 11 (by decide)
      obtain rfl : fb15 = true := hd 15 (by decide)
      obtain rfl : fb16 = true := hd 16 (by decide)
      obtain rfl : fb17 = true := hd 17 (by decide)
      clear hd
      rw [HF.out]
      have v_l0 := d_l00.out rfl
      have v_mk := d_mk0.out rfl
      have v_un := d_un0.out rfl
      have v_fc := d_fc0.out rfl
      have v_bd := d_bd0.out rfl
      have v_nb := d_nb0.out rfl rfl
      obtain ⟨g,rfl,rfl⟩ := v_nb
      obtain ⟨a,p,unc,AU,cU,frc,AC,cC,rfl,rfl,rfl,rfl,_⟩ := v_bd
      refine step_storeRow rfl 41 (.tmp 3) (.tmp 21) rfl S_.out 5 rfl [.slice p.A1 a.al.length p.c1,.int .i64 a.n,.slice p.A2 a.mr.length p.c2,.slice p.A3 a.ed.length p.c3,.slice none 0 0,.slice AU unc.length cU,.slice AC frc.length cC,.int .i64 4] rfl rfl (by kernel_rfl) rfl rfl ?_
      intro W2 S2'
      have S2 := Lib.hid S2'
      clear S2'
      try simp only [sx]
      refine hK.out _ _ ((hI.out _ _ _).2 ⟨true,true,true,true,true,true,true,_,_,_,_,_,_,_,_,_,_,_,_,rfl,(HF.out _ _ _ _ _ _).symm,S2,trivial,(fun _ => rfl),(fun _ => rfl),(fun _ => rfl),(fun _ => rfl),(fun _ => rfl),(fun _ => rfl),(fun h => nomatch h),d_l00,(fun h => nomatch h),d_mk0,(fun h => nomatch h),d_un0,(fun h => nomatch h),d_fc0,(fun h => nomatch h),d_bd0,(fun h => nomatch h),(fun _ h => nomatch h),(fun _ => ⟨g,a,p,unc,AU,cU,frc,AC,cC,rfl,rfl,rfl,rfl,rfl⟩)⟩)
  · refine (hI.out _ _ _).2 ⟨false,false,false,false,false,false,false,_,_,_,_,_,_,eNo,eNo,eNo,eNo,eNo,eNo,rfl,(HF.out _ _ _ _ _ _).symm,(S1.out.no.no.no.no.no.no : Sep w.heap.size w [eNo,eNo,eNo,eNo,eNo,eNo,eBlk rb 41 [.slice none 0 0,.int .i64 0,.slice none 0 0,.slice none 0 0,.slice none 0 0,.slice none 0 0,.slice none 0 0,.int .i64 0],eBlk kb 30 cs] w1),trivial,(fun h => nomatch h),(fun h => nomatch h),(fun h => nomatch h),(fun h => nomatch h),(fun h => nomatch h),(fun h => nomatch h),(fun _ => rfl),(fun h => nomatch h),(fun _ => rfl),(fun h => nomatch h),(fun _ => rfl),(fun h => nomatch h),(fun _ => rfl),(fun h => nomatch h),(fun _ => rfl),(fun h => nomatch h),(fun _ => rfl),(fun h => nomatch h),(fun h => nomatch h)⟩
 case rest =>
  clear S0
  obtain ⟨nb,sal,sn,smr,sed,B1,b1,B2,b2,B3,b3,unc,AU,cU,frc,AC,cC,rfl,HR',H5',HL',HU',S⟩ := hcut
  have HR := Lib.hid HR'
  have H5 := Lib.hid H5'
  have HU := Lib.hid HU'
  have HL := Lib.hid HL'
  have hn5 := HL'.1
  have n0 := HR'.n0
  dsimp only at n0
  clear HR' H5' HL' HU'
  obtain ⟨N,rfl⟩ := Int.eq_ofNat_of_zero_le n0
  have hN5 : N ≤ 5 := by omega
  have S1 : Hid (Sep w.heap.size w [eBlk nb 41 [.slice B1 sal.length b1,.int .i64 (N : Int),.slice B2 smr.length b2,.slice B3 sed.length b3,.slice none 0 0,.slice AU unc.length cU,.slice AC frc.length cC,.int .i64 4],eInts [] (.slice none 0 0),eInts sal (.slice B1 sal.length b1),eInts smr (.slice B2 smr.length b2),eEds sed (.slice B3 sed.length b3),eInts unc (.slice AU unc.length cU),eInts frc (.slice AC frc.length cC),eBlk rb 41 [.slice none 0 0,.int .i64 0,.slice none 0 0,.slice none 0 0,.slice none 0 0,.slice none 0 0,.slice none 0 0,.int .i64 0],eBlk kb 30 cs] wc) := (S.out.nilOwn encI 1 3).pick [1,0,2,3,4,5,6,7,8] (by decide)
  clear S n0 hn5
  go_wp2_with fail
  go_loopw [4] (fun vi wr => ∃ (i : Nat) (fo : List Int) (AF : Option Addr) (cF : Nat),vi = .int .i64 (i : Int) ∧ i ≤ N ∧ Hid (Lt5 fo i) ∧ Hid (Sep w.heap.size w [eBlk nb 41 [.slice B1 sal.length b1,.int .i64 (N : Int),.slice B2 smr.length b2,.slice B3 sed.length b3,.slice AF fo.length cF,.slice AU unc.length cU,.slice AC frc.length cC,.int .i64 4],eInts fo (.slice AF fo.length cF),eInts sal (.slice B1 sal.length b1),eInts smr (.slice B2 smr.length b2),eEds sed (.slice B3 sed.length b3),eInts unc (.slice AU unc.length cU),eInts frc (.slice AC frc.length cC),eBlk rb 41 [.slice none 0 0,.int .i64 0,.slice none 0 0,.slice none 0 0,.slice none 0 0,.slice none 0 0,.slice none 0 0,.int .i64 0],eBlk kb 30 cs] wr)) (fun vi _ => N - (intOf vi).toNat)
  case atStart => exact ⟨0,[],none,0,rfl,by omega,⟨fun i j x y _ hx => by simp at hx,by simp,by simp⟩,S1.out⟩
  case round =>
   clear S1
   obtain ⟨i,fo,AF,cF,rfl,hi,HFO,S⟩ := hrel
   have n1 := BlkAt.cell (S.out.get 0 rfl) 1; simp only [List.getElem?_cons_succ,List.getElem?_cons_zero] at n1
   by_cases hlt : i < N
   · have k28 := (BlkAt.cell (S.out.get 8 rfl) 28).trans HC28.out
     have hfl := HFO.out.len
     obtain ⟨bt,hbt⟩ : ∃ b,(bits BinOp.and IntKind.u8 (fb / 2 ^ i) 1 == 1) = b := ⟨_,rfl⟩
     cases bt
     · have HN := Lib.hid HFO.out.skip
       clear HFO
       go_wp2_with fail
       go_roundw
       case rel => exact ⟨i + 1,fo,AF,cF,by go_num,by omega,HN.out,S.out⟩
       case measure => simp [intOf]; omega
     · have HN := Lib.hid HFO.out.more
       have n4 := BlkAt.cell (S.out.get 0 rfl) 4; simp only [List.getElem?_cons_succ,List.getElem?_cons_zero] at n4
       clear HFO
       go_wp2_with (at_builtin; refine wpList_pushS rfl _ _ 36 rfl (S.out.alloc 3 [.int .i64 (i : Int)]) 2 rfl Try.underlying36 _ 8 intInfo rfl (by decide) rfl (i : Int) _ rfl rfl (one_cell _ _ [_] _ rfl) (encI_one _) (by omega) (by decide) ?_)
       intro A' c' w6 S9 _
       have S10 : Hid (Sep w.heap.size w [eBlk nb 41 [.slice B1 sal.length b1,.int .i64 (N : Int),.slice B2 smr.length b2,.slice B3 sed.length b3,.slice AF fo.length cF,.slice AU unc.length cU,.slice AC frc.length cC,.int .i64 4],eInts (fo ++ [(i : Int)]) (.slice A' (fo.length + 1) c'),eInts sal (.slice B1 sal.length b1),eInts smr (.slice B2 smr.length b2),eEds sed (.slice B3 sed.length b3),eInts unc (.slice AU unc.length cU),eInts frc (.slice AC frc.length cC),eBlk rb 41 [.slice none 0 0,.int .i64 0,.slice none 0 0,.slice none 0 0,.slice none 0 0,.slice none 0 0,.slice none 0 0,.int .i64 0],eBlk kb 30 cs] w6) := S9.drop1
       clear S9 S n4 n1
       have n4 := BlkAt.cell (S10.out.get 0 rfl) 4; simp only [List.getElem?_cons_succ,List.getElem?_cons_zero] at n4
       have n4f := BlkAt.free (S10.out.get 0 rfl) 4
       have S11 : Hid (Sep w.heap.size w [eBlk nb 41 [.slice B1 sal.length b1,.int .i64 (N : Int),.slice B2 smr.length b2,.slice B3 sed.length b3,.slice A' (fo ++ [(i : Int)]).length c',.slice AU unc.length cU,.slice AC frc.length cC,.int .i64 4],eInts (fo ++ [(i : Int)]) (.slice A' (fo ++ [(i : Int)]).length c'),eInts sal (.slice B1 sal.length b1),eInts smr (.slice B2 smr.length b2),eEds sed (.slice B3 sed.length b3),eInts unc (.slice AU unc.length cU),eInts frc (.slice AC frc.length cC),eBlk rb 41 [.slice none 0 0,.int .i64 0,.slice none 0 0,.slice none 0 0,.slice none 0 0,.slice none 0 0,.slice none 0 0,.int .i64 0],eBlk kb 30 cs] (w6.setCell ⟨nb,4,none⟩ (.slice A' (fo.length + 1) c'))) := by
        have h := S10.out.set 0 rfl 4 (.slice A' (fo.length + 1) c')
        rw [show (fo ++ [(i : Int)]).length = fo.length + 1 by simp]
        exact h
       clear S10
       go_wp2_with fail
       go_roundw
       case rel => exact ⟨i + 1,_,A',c',by go_num,by omega,HN.out,S11.out⟩
       case measure => simp [intOf]; omega
   · obtain rfl : i = N := by omega
     clear n1
     have o0 := BlkAt.cell (S.out.get 0 rfl) 0; have o1 := BlkAt.cell (S.out.get 0 rfl) 1; have o2 := BlkAt.cell (S.out.get 0 rfl) 2; have o3 := BlkAt.cell (S.out.get 0 rfl) 3; have o4 := BlkAt.cell (S.out.get 0 rfl) 4; have o5 := BlkAt.cell (S.out.get 0 rfl) 5; have o6 := BlkAt.cell (S.out.get 0 rfl) 6; have o7 := BlkAt.cell (S.out.get 0 rfl) 7; simp only [List.getElem?_cons_succ,List.getElem?_cons_zero] at o0 o1 o2 o3 o4 o5 o6 o7
     have r0 := BlkAt.cell (S.out.get 7 rfl) 0; have r1 := BlkAt.cell (S.out.get 7 rfl) 1; have r2 := BlkAt.cell (S.out.get 7 rfl) 2; have r3 := BlkAt.cell (S.out.get 7 rfl) 3; have r4 := BlkAt.cell (S.out.get 7 rfl) 4; have r5 := BlkAt.cell (S.out.get 7 rfl) 5; have r6 := BlkAt.cell (S.out.get 7 rfl) 6; have r7 := BlkAt.cell (S.out.get 7 rfl) 7; simp only [List.getElem?_cons_succ,List.getElem?_cons_zero] at r0 r1 r2 r3 r4 r5 r6 r7
     have f0 := BlkAt.free (S.out.get 7 rfl) 0; have f1 := BlkAt.free (S.out.get 7 rfl) 1; have f2 := BlkAt.free (S.out.get 7 rfl) 2; have f3 := BlkAt.free (S.out.get 7 rfl) 3; have f4 := BlkAt.free (S.out.get 7 rfl) 4; have f5 := BlkAt.free (S.out.get 7 rfl) 5; have f6 := BlkAt.free (S.out.get 7 rfl) 6; have f7 := BlkAt.free (S.out.get 7 rfl) 7
     have S3 : Hid (Sep w.heap.size w [eBlk nb 41 [.slice B1 sal.length b1,.int .i64 (i : Int),.slice B2 smr.length b2,.slice B3 sed.length b3,.slice AF fo.length cF,.slice AU unc.length cU,.slice AC frc.length cC,.int .i64 4],eInts fo (.slice AF fo.length cF),eInts sal (.slice B1 sal.length b1),eInts smr (.slice B2 smr.length b2),eEds sed (.slice B3 sed.length b3),eInts unc (.slice AU unc.length cU),eInts frc (.slice AC frc.length cC),eBlk rb 41 [.slice B1 sal.length b1,.int .i64 (i : Int),.slice B2 smr.length b2,.slice B3 sed.length b3,.slice AF fo.length cF,.slice AU unc.length cU,.slice AC frc.length cC,.int .i64 4],eBlk kb 30 cs] (((((((((wr.setCell ⟨rb,0,none⟩ (.slice B1 sal.length b1)).setCell ⟨rb,1,none⟩ (.int .i64 (i : Int))).setCell ⟨rb,2,none⟩ (.slice B2 smr.length b2)).setCell ⟨rb,3,none⟩ (.slice B3 sed.length b3)).setCell ⟨rb,4,none⟩ (.slice AF fo.length cF)).setCell ⟨rb,5,none⟩ (.slice AU unc.length cU)).setCell ⟨rb,6,none⟩ (.slice AC frc.length cC)).setCell ⟨rb,7,none⟩ (.int .i64 4)))) := ((((((((S.out.set 7 rfl 0 _).set 7 rfl 1 _).set 7 rfl 2 _).set 7 rfl 3 _).set 7 rfl 4 _).set 7 rfl 5 _).set 7 rfl 6 _).set 7 rfl 7 _)
     have q0 := BlkAt.cell (S3.out.get 7 rfl) 0; have q1 := BlkAt.cell (S3.out.get 7 rfl) 1; have q2 := BlkAt.cell (S3.out.get 7 rfl) 2; have q3 := BlkAt.cell (S3.out.get 7 rfl) 3; have q4 := BlkAt.cell (S3.out.get 7 rfl) 4; have q5 := BlkAt.cell (S3.out.get 7 rfl) 5; have q6 := BlkAt.cell (S3.out.get 7 rfl) 6; have q7 := BlkAt.cell (S3.out.get 7 rfl) 7; simp only [List.getElem?_cons_succ,List.getElem?_cons_zero] at q0 q1 q2 q3 q4 q5 q6 q7
     clear S
     go_wp2_with fail
     refine bodyPost_ret (v := .agg #[.slice B1 sal.length b1,.int .i64 (i : Int),.slice B2 smr.length b2,.slice B3 sed.length b3,.slice AF fo.length cF,.slice AU unc.length cU,.slice AC frc.length cC,.int .i64 4]) (by simp [results,Try.results6,go_sem, *]) rfl ?_
     have HFO' : Lt5 fo i := HFO.out
     have H5' : Lt5 sal 5 := H5.out
     have HU' : Lt5 unc 5 := HU.out
     refine ⟨⟨sal,(i : Int),smr,sed⟩,⟨B1,b1,B2,b2,B3,b3⟩,fo,unc,frc,AF,cF,AU,cU,AC,cC,rfl,⟨HR.out,Lt5.setOk HFO' (Int.le_refl _),Lt5.setOk HU' (by omega)⟩,H5',by have := HL.out; exact ⟨by show (i : Int) ≤ 5; omega,this.2⟩,S3.out.pick [2,3,4,1,5,6] (by decide)⟩
end Go.Proofs.Ytccfcaejlohahaa
