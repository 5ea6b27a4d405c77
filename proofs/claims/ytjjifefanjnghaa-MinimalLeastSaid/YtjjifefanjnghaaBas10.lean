/-
  slices.ContainsFunc of ints; minimal.Merge of any automaton.
  minimal: Distinguish and Equivalent of any automata: results and errors.
  overseerlaw08: same, equal, few, example.
  Plain: two states that some word tells apart are told apart by a word that is shorter than the number of states.
  Plain: the automaton of the examples of the chapter on minimal automata.
  overseerlaw08: the examples of the chapter.
-/
import Derived.Test.YtjjifefanjnghaaBas09
import Derived.Test.YtjjifefanjnghaaBas07
import Derived.Test.YtjjifefanjnghaaBas04
set_option linter.unusedSimpArgs false
set_option linter.unusedVariables false
namespace Go.Proofs.Ytjjifefanjnghaa
open Go.RowKit
set_option maxRecDepth 100000
def PredOn {α : Type} (P : Program) (g : Nat) (lb : Array Value) (enc : α → Value) (p : α → Prop) (l : List α) (w : World) : Prop :=
 ∀ (W : World) (x : α),x ∈ l → Below w.heap.size w W → Calls P g (#[enc x] ++ lb) W (Tells (p x) W)

def Indexes {α : Type} (p : α → Prop) (l : List α) (w : World) (e : Ending) (w' : World) : Prop :=
 ∃ r : Int,e = .returned (.int .i64 r) ∧ (r = -1 ∧ (∀ x,x ∈ l → ¬ p x) ∨ ∃ k x,r = (k : Nat) ∧ l[k]? = some x ∧ p x ∧ ∀ j y,j < k → l[j]? = some y → ¬ p y) ∧ Below w.heap.size w w'

def Ed.enc (x : Ed) : Value := .agg #[.int .i64 x.src,.int .i64 x.ev,.int .i64 x.dst]

theorem Indexes.some_iff {α : Type} {p : α → Prop} {l : List α} {r : Int} (h : r = -1 ∧ (∀ x,x ∈ l → ¬ p x) ∨ ∃ k x,r = (k : Nat) ∧ l[k]? = some x ∧ p x ∧ ∀ j y,j < k → l[j]? = some y → ¬ p y) : 0 ≤ r ↔ ∃ x,x ∈ l ∧ p x := by
 rcases h with ⟨rfl,h⟩ | ⟨k,x,rfl,hx,hp,_⟩
 · exact ⟨fun h => absurd h (by omega),fun ⟨x,hx,hp⟩ => absurd hp (h x hx)⟩
 · exact ⟨fun _ => ⟨x,List.mem_of_getElem? hx,hp⟩,fun _ => by omega⟩

set_option maxHeartbeats 400000 in
theorem indexI_c (g : Nat) (lb : Array Value) (eg : ∀ args w,(callFunc g args).run Try.prog w = .ok (.enter g args) w) (p : Int → Prop) (A : Option Addr) (c : Nat) (l : List Int) (w : World)
 (hA : IntsAt w A l) (hl : l.length ≤ 140737488355328) (hp : PredOn Try.prog g lb (Value.int .i64) p l w) :
 Calls Try.prog 70 #[.slice A l.length c,.func (.func g) #[] lb] w (Indexes p l w) := by
 have HA := Lib.hid hA; clear hA
 have HP := Lib.hid hp; clear hp
 go_enter Try.func70,Try.ntmps70
 go_wp2
 go_loopw [8] (fun i wr => ∃ k : Nat,k ≤ l.length ∧ i = .int .i64 k ∧ Hid (Below w.heap.size w wr) ∧ Hid (∀ j y,j < k → l[j]? = some y → ¬ p y)) (fun i _ => l.length - (intOf i).toNat)
 case atStart => exact ⟨0,by omega,rfl,Below.refl _ _,fun j y h => absurd h (by omega)⟩
 case round =>
  obtain ⟨k,hk,rfl,BW,HN⟩ := hrel
  by_cases hlt : k < l.length
  · obtain ⟨b,off,x,rfl,hb,hx,e0⟩ := IntsAt.at (HA.out.below IntE.stays BW.out) hlt
    have hm : x ∈ l := List.mem_of_getElem? hx
    have hc := Lib.hid (HP.out wr x hm BW.out)
    clear hm
    go_wp2_with fail
    refine hc.out.mono ?_
    intro e w1 hs
    rcases hs.yes1 with ⟨rfl,S,hb1⟩ | ⟨rfl,S,hb1⟩
    · go_wp2
      go_ret
      exact ⟨k,rfl,.inr ⟨k,_,rfl,hx,S.out,HN.out⟩,BW.out.trans (hb1.mono BW.out.size)⟩
    · go_wp2
      go_roundw
      case rel => exact ⟨k + 1,by omega,by go_num,BW.out.trans (hb1.mono BW.out.size),fun j y hj hy => by
       by_cases h : j = k
       · subst h; rw [hx] at hy; cases hy; exact S.out
       · exact HN.out j y (by omega) hy⟩
      case measure => simp [intOf]; omega
  · obtain rfl : k = l.length := by omega
    go_wp2
    go_ret
    refine ⟨-1,rfl,.inl ⟨rfl,fun x hx => ?_⟩,BW.out⟩
    obtain ⟨j,hj,rfl⟩ := List.mem_iff_getElem.1 hx
    exact HN.out j _ hj (List.getElem?_eq_getElem hj)

set_option maxHeartbeats 400000 in
theorem containsI_c (g : Nat) (lb : Array Value) (eg : ∀ args w,(callFunc g args).run Try.prog w = .ok (.enter g args) w) (p : Int → Prop) (A : Option Addr) (c : Nat) (l : List Int) (w : World)
 (hA : IntsAt w A l) (hl : l.length ≤ 140737488355328) (hp : PredOn Try.prog g lb (Value.int .i64) p l w) :
 Calls Try.prog 45 #[.slice A l.length c,.func (.func g) #[] lb] w (Tells (∃ x,x ∈ l ∧ p x) w) := by
 have HC := Lib.hid (indexI_c g lb eg p A c l w hA hl hp)
 clear hA hp
 go_enter Try.func45,Try.ntmps45
 go_wp2_with (go_at_call 70; refine HC.out.mono ?_; rintro e w' ⟨r,rfl,hr,hb⟩; have HR := Lib.hid hr; clear hr)
 go_ret
 exact ⟨_,rfl,by rw [decide_eq_true_eq]; exact Indexes.some_iff HR.out,hb⟩

def MgErr (a : Au) (c : List Int) (r : Int) : Prop := ChkErr a r ∨ (a.Right ∧ (((c.length : Int) ≠ a.n ∧ r = 4) ∨ ((c.length : Int) = a.n ∧ (∃ x,x ∈ c ∧ (x < 0 ∨ a.n ≤ x)) ∧ r = 2) ∨ ((c.length : Int) = a.n ∧ ¬ (∃ x,x ∈ c ∧ (x < 0 ∨ a.n ≤ x)) ∧ ¬ ConsV a c ∧ r = 13)))
def GivesMg (a : Au) (c : List Int) (w : World) (e : Ending) (w' : World) : Prop := ∃ r : Int,(r ≠ 0 ∧ e = .returned (.tuple #[.agg #[.slice none 0 0,.int .i64 0,.slice none 0 0,.slice none 0 0],.int .i64 r]) ∧ Below w.heap.size w w' ∧ MgErr a c r) ∨
 (r = 0 ∧ ∃ m p',e = .returned (.tuple #[m.val p',.int .i64 0]) ∧ Hid (Sep w.heap.size w (eAu m p') w') ∧ Hid (Lens m) ∧ Hid (a.Right ∧ (c.length : Int) = a.n ∧ (¬ ∃ x,x ∈ c ∧ (x < 0 ∨ a.n ≤ x)) ∧ ConsV a c ∧ Mrg a c m))
theorem merge1_c (x n : Int) (b : Nat) (v0 v2 v3 : Value) (w : World) (h : BlkAt w b 25 [v0,.int .i64 n,v2,v3]) :
 Calls Try.prog 46 #[.int .i64 x,.pointer (some ⟨b,0,none⟩)] w (Tells (x < 0 ∨ n ≤ x) w) := by
 have a1 : w.cell? ⟨b,1,none⟩ = some (.int .i64 n) := h.cell 1
 clear h
 by_cases hx : x < 0
 · have e1 : decide (x < 0) = true := by simpa using hx
   have HX := Lib.hid hx
   clear hx
   go_enter Try.func46,Try.ntmps46
   go_wp2_with fail
   go_ret
   exact Tells.yes (.inl HX.out) (Below.refl _ _)
 · have e1 : decide (x < 0) = false := by simpa using hx
   by_cases hn : n ≤ x
   · have e2 : decide (n ≤ x) = true := by simpa using hn
     have HX := Lib.hid hn
     clear hx hn
     go_enter Try.func46,Try.ntmps46
     go_wp2_with fail
     go_ret
     exact Tells.yes (.inr HX.out) (Below.refl _ _)
   · have e2 : decide (n ≤ x) = false := by simpa using hn
     have HX : Hid (¬ (x < 0 ∨ n ≤ x)) := by simp only [Hid]; omega
     clear hx hn
     go_enter Try.func46,Try.ntmps46
     go_wp2_with fail
     go_ret
     exact Tells.no HX.out (Below.refl _ _)
set_option maxHeartbeats 1000000 in
theorem mergeX_c (a : Au) (p : AuP) (AC : Option Addr) (cC : Nat) (c : List Int) (w : World) (hc : a.Right → Caps a p) (hA : Au.At w a p) (hC : IntsAt w AC c) (hl : c.length ≤ 100000) :
 Calls Try.prog 24 #[a.val p,.slice AC c.length cC] w (GivesMg a c w) := by
 have HA := Lib.hid hA
 have HCP := Lib.hid hc
 have HC := Lib.hid hC
 obtain ⟨al,n,mr,ed⟩ := a
 obtain ⟨A1,c1,A2,c2,A3,c3⟩ := p
 dsimp only [Au.val]
 clear hA hc hC
 go_enter Try.func24,Try.ntmps24
 go_wp2_with fail
 refine calls_world (fun W => Sep w.heap.size w [eBlk (w.heap.size + 1) 25 [.slice none 0 0,.int .i64 0,.slice none 0 0,.slice none 0 0],eBlk w.heap.size 25 [.slice A1 al.length c1,.int .i64 n,.slice A2 mr.length c2,.slice A3 ed.length c3]] W) ?_ fun W S => ?_
 · exact ((Sep.here w).alloc' _ [_,_,_,_] rfl rfl).alloc' _ [_,_,_,_] rfl (by simp)
 refine (CheckX_c ⟨al,n,mr,ed⟩ ⟨A1,c1,A2,c2,A3,c3⟩ W (HA.out.below S.below)).mono ?_
 rintro e w1 ⟨r,rfl,hr,hb⟩
 have S0 := Lib.hid (S.next hb)
 have CR := Lib.hid hr
 clear S hb hr
 have a0 := BlkAt.cell (S0.out.get 1 rfl) 0; have a1 := BlkAt.cell (S0.out.get 1 rfl) 1; have a2 := BlkAt.cell (S0.out.get 1 rfl) 2; have a3 := BlkAt.cell (S0.out.get 1 rfl) 3; simp only [List.getElem?_cons_succ,List.getElem?_cons_zero] at a0 a1 a2 a3
 by_cases h0 : r = 0
 · subst h0
   have HR := Lib.hid (CR.out.zero.1 rfl)
   by_cases hn : (c.length : Int) = n
   · have e1 : ((c.length : Int) != n) = false := by simpa using hn
     have HNL := Lib.hid hn
     have CFC : Hid (Calls Try.prog 45 #[.slice AC c.length cC,.func (.func 46) #[] #[.pointer (some ⟨w.heap.size,0,none⟩)]] w1 (Tells (∃ x,x ∈ c ∧ (x < 0 ∨ n ≤ x)) w1)) :=
      containsI_c 46 #[.pointer (some ⟨w.heap.size,0,none⟩)] (fun args w => by rfl) (fun x => x < 0 ∨ n ≤ x) AC cC c w1 (HC.out.below IntE.stays S0.out.below) (by omega) (fun V x _ hb => merge1_c x n _ _ _ _ V ((S0.out.get 1 rfl).below hb (S0.out.get 1 rfl).lt))
     clear hn
     go_wp2_with fail
     refine CFC.out.mono ?_
     intro e w2 hs
     rcases hs.yes1 with ⟨rfl,HX,hb⟩ | ⟨rfl,HX,hb⟩
     · have S1 := Lib.hid (S0.out.next hb)
       clear hb hs CFC a0 a1 a2 a3
       have r0 := BlkAt.cell (S1.out.get 0 rfl) 0; have r1 := BlkAt.cell (S1.out.get 0 rfl) 1; have r2 := BlkAt.cell (S1.out.get 0 rfl) 2; have r3 := BlkAt.cell (S1.out.get 0 rfl) 3; have rf0 := BlkAt.free (S1.out.get 0 rfl) 0; have rf1 := BlkAt.free (S1.out.get 0 rfl) 1; have rf2 := BlkAt.free (S1.out.get 0 rfl) 2; have rf3 := BlkAt.free (S1.out.get 0 rfl) 3; simp only [List.getElem?_cons_succ,List.getElem?_cons_zero] at r0 r1 r2 r3
       have S9 := Lib.hid ((((S1.out.set 0 rfl 0 (.slice none 0 0)).set 0 rfl 1 (.int .i64 0)).set 0 rfl 2 (.slice none 0 0)).set 0 rfl 3 (.slice none 0 0))
       have t0 := BlkAt.cell (S9.out.get 0 rfl) 0
       have t1 := BlkAt.cell (S9.out.get 0 rfl) 1
       have t2 := BlkAt.cell (S9.out.get 0 rfl) 2
       have t3 := BlkAt.cell (S9.out.get 0 rfl) 3
       simp only [List.set_cons_succ,List.set_cons_zero,List.getElem?_cons_succ,List.getElem?_cons_zero] at t0 t1 t2 t3
       have FCT : Hid (MgErr ⟨al,n,mr,ed⟩ c 2) := .inr ⟨HR.out,.inr (.inl ⟨HNL.out,HX.out,rfl⟩)⟩
       go_wp2_with fail
       refine bodyPost_ret (v := .tuple #[.agg #[.slice none 0 0,.int .i64 0,.slice none 0 0,.slice none 0 0],.int .i64 2]) (by simp [results,Try.results24,go_sem, *]) rfl ?_
       exact ⟨2,.inl ⟨by decide,rfl,S9.out.below,FCT.out⟩⟩
     · have S1 := Lib.hid (S0.out.next hb)
       clear hb hs CFC a0 a1 a2 a3
       have a0 := BlkAt.cell (S1.out.get 1 rfl) 0; have a1 := BlkAt.cell (S1.out.get 1 rfl) 1; have a2 := BlkAt.cell (S1.out.get 1 rfl) 2; have a3 := BlkAt.cell (S1.out.get 1 rfl) 3; simp only [List.getElem?_cons_succ,List.getElem?_cons_zero] at a0 a1 a2 a3
       go_wp2_with fail
       refine (consistent_c ⟨al,n,mr,ed⟩ ⟨A1,c1,A2,c2,A3,c3⟩ AC cC c w2 HR.out (HCP.out HR.out) (HA.out.below S1.out.below) (HC.out.below IntE.stays S1.out.below) HNL.out).mono ?_
       intro e w3 hs
       rcases hs.yes1 with ⟨rfl,HK,hb⟩ | ⟨rfl,HK,hb⟩
       · have S2 := Lib.hid (S1.out.next hb)
         clear hb hs a0 a1 a2 a3
         have hlen : c.length = (⟨al,n,mr,ed⟩ : Au).n.toNat := by
          have := HNL.out
          show c.length = n.toNat
          omega
         have MMC0 := (merge_min_c ⟨al,n,mr,ed⟩ ⟨A1,c1,A2,c2,A3,c3⟩ AC cC c w3 HR.out (HCP.out HR.out) (HA.out.below S2.out.below) (HC.out.below IntE.stays S2.out.below) hlen)
         rw [← hlen] at MMC0
         have MMC := Lib.hid MMC0
         clear hlen MMC0
         have a0 := BlkAt.cell (S2.out.get 1 rfl) 0; have a1 := BlkAt.cell (S2.out.get 1 rfl) 1; have a2 := BlkAt.cell (S2.out.get 1 rfl) 2; have a3 := BlkAt.cell (S2.out.get 1 rfl) 3; simp only [List.getElem?_cons_succ,List.getElem?_cons_zero] at a0 a1 a2 a3
         go_wp2_with fail
         refine MMC.out.mono ?_
         rintro e w4 ⟨⟨al1,n1,mr1,ed1⟩,⟨D1,d1,D2,d2,D3,d3⟩,rfl,T,LN1,FACT⟩
         have S3 := ckN S2.out T.out
         clear T a0 a1 a2 a3
         have r0 := BlkAt.cell (S3.out.get 3 rfl) 0; have r1 := BlkAt.cell (S3.out.get 3 rfl) 1; have r2 := BlkAt.cell (S3.out.get 3 rfl) 2; have r3 := BlkAt.cell (S3.out.get 3 rfl) 3; have rf0 := BlkAt.free (S3.out.get 3 rfl) 0; have rf1 := BlkAt.free (S3.out.get 3 rfl) 1; have rf2 := BlkAt.free (S3.out.get 3 rfl) 2; have rf3 := BlkAt.free (S3.out.get 3 rfl) 3; simp only [List.getElem?_cons_succ,List.getElem?_cons_zero] at r0 r1 r2 r3
         have S9 := Lib.hid ((((S3.out.set 3 rfl 0 (.slice D1 al1.length d1)).set 3 rfl 1 (.int .i64 n1)).set 3 rfl 2 (.slice D2 mr1.length d2)).set 3 rfl 3 (.slice D3 ed1.length d3))
         have t0 := BlkAt.cell (S9.out.get 3 rfl) 0
         have t1 := BlkAt.cell (S9.out.get 3 rfl) 1
         have t2 := BlkAt.cell (S9.out.get 3 rfl) 2
         have t3 := BlkAt.cell (S9.out.get 3 rfl) 3
         simp only [List.set_cons_succ,List.set_cons_zero,List.getElem?_cons_succ,List.getElem?_cons_zero] at t0 t1 t2 t3
         dsimp only [Au.val]
         go_wp2_with fail
         refine bodyPost_ret (v := .tuple #[.agg #[.slice D1 al1.length d1,.int .i64 n1,.slice D2 mr1.length d2,.slice D3 ed1.length d3],.int .i64 0]) (by simp [results,Try.results24,go_sem, *]) rfl ?_
         exact ⟨0,.inr ⟨rfl,⟨al1,n1,mr1,ed1⟩,⟨D1,d1,D2,d2,D3,d3⟩,rfl,S9.out.pick [0,1,2] (by decide),LN1.out,HR.out,HNL.out,HX.out,HK.out,FACT.out⟩⟩
       · have S2 := Lib.hid (S1.out.next hb)
         clear hb hs a0 a1 a2 a3
         have r0 := BlkAt.cell (S2.out.get 0 rfl) 0; have r1 := BlkAt.cell (S2.out.get 0 rfl) 1; have r2 := BlkAt.cell (S2.out.get 0 rfl) 2; have r3 := BlkAt.cell (S2.out.get 0 rfl) 3; have rf0 := BlkAt.free (S2.out.get 0 rfl) 0; have rf1 := BlkAt.free (S2.out.get 0 rfl) 1; have rf2 := BlkAt.free (S2.out.get 0 rfl) 2; have rf3 := BlkAt.free (S2.out.get 0 rfl) 3; simp only [List.getElem?_cons_succ,List.getElem?_cons_zero] at r0 r1 r2 r3
         have S9 := Lib.hid ((((S2.out.set 0 rfl 0 (.slice none 0 0)).set 0 rfl 1 (.int .i64 0)).set 0 rfl 2 (.slice none 0 0)).set 0 rfl 3 (.slice none 0 0))
         have t0 := BlkAt.cell (S9.out.get 0 rfl) 0
         have t1 := BlkAt.cell (S9.out.get 0 rfl) 1
         have t2 := BlkAt.cell (S9.out.get 0 rfl) 2
         have t3 := BlkAt.cell (S9.out.get 0 rfl) 3
         simp only [List.set_cons_succ,List.set_cons_zero,List.getElem?_cons_succ,List.getElem?_cons_zero] at t0 t1 t2 t3
         have FCT : Hid (MgErr ⟨al,n,mr,ed⟩ c 13) := .inr ⟨HR.out,.inr (.inr ⟨HNL.out,HX.out,HK.out,rfl⟩)⟩
         go_wp2_with fail
         refine bodyPost_ret (v := .tuple #[.agg #[.slice none 0 0,.int .i64 0,.slice none 0 0,.slice none 0 0],.int .i64 13]) (by simp [results,Try.results24,go_sem, *]) rfl ?_
         exact ⟨13,.inl ⟨by decide,rfl,S9.out.below,FCT.out⟩⟩
   · have e1 : ((c.length : Int) != n) = true := by simpa using hn
     have r0 := BlkAt.cell (S0.out.get 0 rfl) 0; have r1 := BlkAt.cell (S0.out.get 0 rfl) 1; have r2 := BlkAt.cell (S0.out.get 0 rfl) 2; have r3 := BlkAt.cell (S0.out.get 0 rfl) 3; have rf0 := BlkAt.free (S0.out.get 0 rfl) 0; have rf1 := BlkAt.free (S0.out.get 0 rfl) 1; have rf2 := BlkAt.free (S0.out.get 0 rfl) 2; have rf3 := BlkAt.free (S0.out.get 0 rfl) 3; simp only [List.getElem?_cons_succ,List.getElem?_cons_zero] at r0 r1 r2 r3
     have S9 := Lib.hid ((((S0.out.set 0 rfl 0 (.slice none 0 0)).set 0 rfl 1 (.int .i64 0)).set 0 rfl 2 (.slice none 0 0)).set 0 rfl 3 (.slice none 0 0))
     have t0 := BlkAt.cell (S9.out.get 0 rfl) 0
     have t1 := BlkAt.cell (S9.out.get 0 rfl) 1
     have t2 := BlkAt.cell (S9.out.get 0 rfl) 2
     have t3 := BlkAt.cell (S9.out.get 0 rfl) 3
     simp only [List.set_cons_succ,List.set_cons_zero,List.getElem?_cons_succ,List.getElem?_cons_zero] at t0 t1 t2 t3
     have FCT : Hid (MgErr ⟨al,n,mr,ed⟩ c 4) := .inr ⟨HR.out,.inl ⟨hn,rfl⟩⟩
     clear hn
     go_wp2_with fail
     refine bodyPost_ret (v := .tuple #[.agg #[.slice none 0 0,.int .i64 0,.slice none 0 0,.slice none 0 0],.int .i64 4]) (by simp [results,Try.results24,go_sem, *]) rfl ?_
     exact ⟨4,.inl ⟨by decide,rfl,S9.out.below,FCT.out⟩⟩
 · have hne : (r != 0) = true := by simp [h0]
   have r0 := BlkAt.cell (S0.out.get 0 rfl) 0; have r1 := BlkAt.cell (S0.out.get 0 rfl) 1; have r2 := BlkAt.cell (S0.out.get 0 rfl) 2; have r3 := BlkAt.cell (S0.out.get 0 rfl) 3; have rf0 := BlkAt.free (S0.out.get 0 rfl) 0; have rf1 := BlkAt.free (S0.out.get 0 rfl) 1; have rf2 := BlkAt.free (S0.out.get 0 rfl) 2; have rf3 := BlkAt.free (S0.out.get 0 rfl) 3; simp only [List.getElem?_cons_succ,List.getElem?_cons_zero] at r0 r1 r2 r3
   have S9 := Lib.hid ((((S0.out.set 0 rfl 0 (.slice none 0 0)).set 0 rfl 1 (.int .i64 0)).set 0 rfl 2 (.slice none 0 0)).set 0 rfl 3 (.slice none 0 0))
   have t0 := BlkAt.cell (S9.out.get 0 rfl) 0
   have t1 := BlkAt.cell (S9.out.get 0 rfl) 1
   have t2 := BlkAt.cell (S9.out.get 0 rfl) 2
   have t3 := BlkAt.cell (S9.out.get 0 rfl) 3
   simp only [List.set_cons_succ,List.set_cons_zero,List.getElem?_cons_succ,List.getElem?_cons_zero] at t0 t1 t2 t3
   have FCT : Hid (MgErr ⟨al,n,mr,ed⟩ c r) := .inl CR.out
   go_wp2_with fail
   refine bodyPost_ret (v := .tuple #[.agg #[.slice none 0 0,.int .i64 0,.slice none 0 0,.slice none 0 0],.int .i64 r]) (by simp [results,Try.results24,go_sem, *]) rfl ?_
   exact ⟨r,.inl ⟨h0,rfl,S9.out.below,FCT.out⟩⟩
def DistW (a b : Au) (x y : Int) (f : Bool) (l : List Int) : Prop := f = true ∧ LeastW (LeadsTo (stp2 a b) (x,y) (unionS a.al b.al) (fun q => pdV a b q = true)) l ∨ f = false ∧ l = [] ∧ ∀ u,¬ LeadsTo (stp2 a b) (x,y) (unionS a.al b.al) (fun q => pdV a b q = true) u
def InSt (a : Au) (x y : Int) : Prop := (0 ≤ x ∧ x < a.n) ∧ (0 ≤ y ∧ y < a.n)
def GivesDX (a : Au) (x y : Int) (w : World) (e : Ending) (w' : World) : Prop := ∃ (A : Option Addr) (c : Nat) (l : List Int) (f : Bool) (r : Int),e = .returned (.tuple #[.slice A l.length c,.bool f,.int .i64 r]) ∧ Hid (IntsAt w' A l) ∧ Below w.heap.size w w' ∧
 Hid ((r ≠ 0 ∧ l = [] ∧ f = false ∧ (ChkErr a r ∨ a.Right ∧ r = 2 ∧ ¬ InSt a x y)) ∨ (r = 0 ∧ a.Right ∧ InSt a x y ∧ DistW a a x y f l))
set_option maxHeartbeats 4000000 in
theorem distX_c (a : Au) (p : AuP) (x y : Int) (w : World) (hc : a.Right → Caps a p) (hN : a.Right → (a.n.toNat + 2) * (a.n.toNat + 2) ≤ 1000000) (hA : Au.At w a p) :
 Calls Try.prog 17 #[a.val p,.int .i64 x,.int .i64 y] w (GivesDX a x y w) := by
 have HA := Lib.hid hA
 have HC := Lib.hid hc
 have HN := Lib.hid hN
 obtain ⟨al,n,mr,ed⟩ := a
 obtain ⟨A1,c1,A2,c2,A3,c3⟩ := p
 dsimp only [Au.val]
 clear hA hc hN
 go_enter Try.func17,Try.ntmps17
 go_wp2_with fail
 refine calls_world (fun W => Sep w.heap.size w [eBlk w.heap.size 25 [.slice A1 al.length c1,.int .i64 n,.slice A2 mr.length c2,.slice A3 ed.length c3]] W) ?_ fun W S => ?_
 · exact (Sep.here w).alloc' _ [_,_,_,_] rfl rfl
 refine (CheckX_c ⟨al,n,mr,ed⟩ ⟨A1,c1,A2,c2,A3,c3⟩ W (HA.out.below S.below)).mono ?_
 rintro e w1 ⟨r,rfl,hr,hb⟩
 have S0 := Lib.hid (S.next hb)
 have CR := Lib.hid hr
 clear S hb hr
 have a0 := BlkAt.cell (S0.out.get 0 rfl) 0; have a1 := BlkAt.cell (S0.out.get 0 rfl) 1; have a2 := BlkAt.cell (S0.out.get 0 rfl) 2; have a3 := BlkAt.cell (S0.out.get 0 rfl) 3; simp only [List.getElem?_cons_succ,List.getElem?_cons_zero] at a0 a1 a2 a3
 by_cases h0 : r = 0
 · subst h0
   have HR := Lib.hid (CR.out.zero.1 rfl)
   by_cases q1 : x < 0
   · have NO : Hid (¬ InSt ⟨al,n,mr,ed⟩ x y) := fun h => by have := h.1.1; omega
     have e1 : decide (x < 0) = true := by simpa using q1
     clear q1
     go_wp2_with fail
     refine bodyPost_ret (v := .tuple #[.slice none 0 0,.bool false,.int .i64 2]) (by simp [results,Try.results17,go_sem]) rfl ?_
     exact ⟨none,0,[],false,2,rfl,SlAt.nil,S0.out.below,.inl ⟨by decide,rfl,rfl,.inr ⟨HR.out,rfl,NO.out⟩⟩⟩
   have e1 : decide (x < 0) = false := by simpa using q1
   by_cases q2 : n ≤ x
   · have NO : Hid (¬ InSt ⟨al,n,mr,ed⟩ x y) := fun h => by have := h.1.2; simp only at this; omega
     have e2 : decide (x ≥ n) = true := by simpa using q2
     have e2' : decide (n ≤ x) = true := e2
     clear q1 q2
     go_wp2_with fail
     refine bodyPost_ret (v := .tuple #[.slice none 0 0,.bool false,.int .i64 2]) (by simp [results,Try.results17,go_sem]) rfl ?_
     exact ⟨none,0,[],false,2,rfl,SlAt.nil,S0.out.below,.inl ⟨by decide,rfl,rfl,.inr ⟨HR.out,rfl,NO.out⟩⟩⟩
   have e2 : decide (x ≥ n) = false := by simpa using q2
   have e2' : decide (n ≤ x) = false := e2
   by_cases q3 : y < 0
   · have NO : Hid (¬ InSt ⟨al,n,mr,ed⟩ x y) := fun h => by have := h.2.1; omega
     have e3 : decide (y < 0) = true := by simpa using q3
     clear q1 q2 q3
     go_wp2_with fail
     refine bodyPost_ret (v := .tuple #[.slice none 0 0,.bool false,.int .i64 2]) (by simp [results,Try.results17,go_sem]) rfl ?_
     exact ⟨none,0,[],false,2,rfl,SlAt.nil,S0.out.below,.inl ⟨by decide,rfl,rfl,.inr ⟨HR.out,rfl,NO.out⟩⟩⟩
   have e3 : decide (y < 0) = false := by simpa using q3
   by_cases q4 : n ≤ y
   · have NO : Hid (¬ InSt ⟨al,n,mr,ed⟩ x y) := fun h => by have := h.2.2; simp only at this; omega
     have e4 : decide (y ≥ n) = true := by simpa using q4
     have e4' : decide (n ≤ y) = true := e4
     clear q1 q2 q3 q4
     go_wp2_with fail
     refine bodyPost_ret (v := .tuple #[.slice none 0 0,.bool false,.int .i64 2]) (by simp [results,Try.results17,go_sem]) rfl ?_
     exact ⟨none,0,[],false,2,rfl,SlAt.nil,S0.out.below,.inl ⟨by decide,rfl,rfl,.inr ⟨HR.out,rfl,NO.out⟩⟩⟩
   have e4 : decide (y ≥ n) = false := by simpa using q4
   have e4' : decide (n ≤ y) = false := e4
   have IN : Hid (InSt ⟨al,n,mr,ed⟩ x y) := ⟨⟨by omega,by simp only; omega⟩,⟨by omega,by simp only; omega⟩⟩
   obtain ⟨i,rfl⟩ := Int.eq_ofNat_of_zero_le (show 0 ≤ x by omega)
   obtain ⟨j,rfl⟩ := Int.eq_ofNat_of_zero_le (show 0 ≤ y by omega)
   have DC := Lib.hid (distinguish_c ⟨al,n,mr,ed⟩ ⟨al,n,mr,ed⟩ ⟨A1,c1,A2,c2,A3,c3⟩ ⟨A1,c1,A2,c2,A3,c3⟩ i j w1 HR.out HR.out (HC.out HR.out) (HC.out HR.out) (HA.out.below S0.out.below) (HA.out.below S0.out.below) IN.out.1.2 IN.out.2.2 (HN.out HR.out))
   clear q1 q2 q3 q4
   go_wp2_with fail
   refine DC.out.mono ?_
   rintro e w2 ⟨A,c,l,f,rfl,hl,hb,hd⟩
   have S2 := Lib.hid (S0.out.next hb)
   have HL := Lib.hid hl.out
   have HD := Lib.hid hd.out
   clear hl hb hd DC a0 a1 a2 a3
   go_wp2_with fail
   refine bodyPost_ret (v := .tuple #[.slice A l.length c,.bool f,.int .i64 0]) (by simp [results,Try.results17,go_sem]) rfl ?_
   exact ⟨A,c,l,f,0,rfl,HL.out,S2.out.below,.inr ⟨rfl,HR.out,IN.out,HD.out⟩⟩
 · have hne : (r != 0) = true := by simp [h0]
   clear a0 a1 a2 a3
   go_wp2_with fail
   refine bodyPost_ret (v := .tuple #[.slice none 0 0,.bool false,.int .i64 r]) (by simp [results,Try.results17,go_sem]) rfl ?_
   exact ⟨none,0,[],false,r,rfl,SlAt.nil,S0.out.below,.inl ⟨h0,rfl,rfl,.inl CR.out⟩⟩
def GivesQX (a b : Au) (w : World) (e : Ending) (w' : World) : Prop := ∃ (A : Option Addr) (c : Nat) (l : List Int) (f : Bool) (r : Int),e = .returned (.tuple #[.bool f,.slice A l.length c,.int .i64 r]) ∧ Hid (IntsAt w' A l) ∧ Below w.heap.size w w' ∧
 Hid ((r ≠ 0 ∧ l = [] ∧ f = false ∧ (ChkErr a r ∨ a.Right ∧ ChkErr b r)) ∨ (r = 0 ∧ a.Right ∧ b.Right ∧ (((a.n = 0 ∨ b.n = 0) ∧ l = [] ∧ f = decide (a.n = b.n)) ∨ (0 < a.n ∧ 0 < b.n ∧ ∃ g,f = !g ∧ DistW a b 0 0 g l))))
set_option maxHeartbeats 4000000 in
theorem eqvX_c (a b : Au) (p q : AuP) (w : World) (ca : a.Right → Caps a p) (cb : b.Right → Caps b q) (hN : a.Right → b.Right → (a.n.toNat + 2) * (b.n.toNat + 2) ≤ 1000000) (hA : Au.At w a p) (hB : Au.At w b q) :
 Calls Try.prog 18 #[a.val p,b.val q] w (GivesQX a b w) := by
 have HA := Lib.hid hA
 have HB := Lib.hid hB
 have CA := Lib.hid ca
 have CB := Lib.hid cb
 have HN := Lib.hid hN
 obtain ⟨al,n,mr,ed⟩ := a
 obtain ⟨A1,c1,A2,c2,A3,c3⟩ := p
 obtain ⟨bl,m,nr,fd⟩ := b
 obtain ⟨B1,d1,B2,d2,B3,d3⟩ := q
 dsimp only [Au.val]
 clear hA hB ca cb hN
 go_enter Try.func18,Try.ntmps18
 go_wp2_with fail
 refine calls_world (fun W => Sep w.heap.size w [eBlk (w.heap.size + 1) 25 [.slice B1 bl.length d1,.int .i64 m,.slice B2 nr.length d2,.slice B3 fd.length d3],eBlk w.heap.size 25 [.slice A1 al.length c1,.int .i64 n,.slice A2 mr.length c2,.slice A3 ed.length c3]] W) ?_ fun W S => ?_
 · exact ((Sep.here w).alloc' _ [_,_,_,_] rfl rfl).alloc' _ [_,_,_,_] (g := w.heap.size + 1) rfl (by simp)
 refine (CheckX_c ⟨al,n,mr,ed⟩ ⟨A1,c1,A2,c2,A3,c3⟩ W (HA.out.below S.below)).mono ?_
 rintro e w1 ⟨r,rfl,hr,hb⟩
 have S0 := Lib.hid (S.next hb)
 have CR := Lib.hid hr
 clear S hb hr
 have a0 := BlkAt.cell (S0.out.get 1 rfl) 0; have a1 := BlkAt.cell (S0.out.get 1 rfl) 1; have a2 := BlkAt.cell (S0.out.get 1 rfl) 2; have a3 := BlkAt.cell (S0.out.get 1 rfl) 3; simp only [List.getElem?_cons_succ,List.getElem?_cons_zero] at a0 a1 a2 a3
 have b0 := BlkAt.cell (S0.out.get 0 rfl) 0; have b1 := BlkAt.cell (S0.out.get 0 rfl) 1; have b2 := BlkAt.cell (S0.out.get 0 rfl) 2; have b3 := BlkAt.cell (S0.out.get 0 rfl) 3; simp only [List.getElem?_cons_succ,List.getElem?_cons_zero] at b0 b1 b2 b3
 by_cases h0 : r = 0
 · subst h0
   have HR := Lib.hid (CR.out.zero.1 rfl)
   go_wp2_with fail
   refine (CheckX_c ⟨bl,m,nr,fd⟩ ⟨B1,d1,B2,d2,B3,d3⟩ w1 (HB.out.below S0.out.below)).mono ?_
   rintro e w2 ⟨r,rfl,hr,hb⟩
   have S1 := Lib.hid (S0.out.next hb)
   have CR2 := Lib.hid hr
   clear hb hr a0 a1 a2 a3 b0 b1 b2 b3
   have a0 := BlkAt.cell (S1.out.get 1 rfl) 0; have a1 := BlkAt.cell (S1.out.get 1 rfl) 1; have a2 := BlkAt.cell (S1.out.get 1 rfl) 2; have a3 := BlkAt.cell (S1.out.get 1 rfl) 3; simp only [List.getElem?_cons_succ,List.getElem?_cons_zero] at a0 a1 a2 a3
   have b0 := BlkAt.cell (S1.out.get 0 rfl) 0; have b1 := BlkAt.cell (S1.out.get 0 rfl) 1; have b2 := BlkAt.cell (S1.out.get 0 rfl) 2; have b3 := BlkAt.cell (S1.out.get 0 rfl) 3; simp only [List.getElem?_cons_succ,List.getElem?_cons_zero] at b0 b1 b2 b3
   by_cases h0 : r = 0
   · subst h0
     have HR2 := Lib.hid (CR2.out.zero.1 rfl)
     by_cases z1 : n = 0
     · have e1 : (n == 0) = true := by simpa using z1
       have NN := Lib.hid z1
       clear z1
       go_wp2_with fail
       refine bodyPost_ret (v := .tuple #[.bool (n == m),.slice none 0 0,.int .i64 0]) (by simp [results,Try.results18,go_sem]) rfl ?_
       exact ⟨none,0,[],_,0,rfl,SlAt.nil,S1.out.below,.inr ⟨rfl,HR.out,HR2.out,.inl ⟨.inl NN.out,rfl,rfl⟩⟩⟩
     · have e1 : (n == 0) = false := by simpa using z1
       by_cases z2 : m = 0
       · have e2 : (m == 0) = true := by simpa using z2
         have NN := Lib.hid z2
         clear z1 z2
         go_wp2_with fail
         refine bodyPost_ret (v := .tuple #[.bool (n == m),.slice none 0 0,.int .i64 0]) (by simp [results,Try.results18,go_sem]) rfl ?_
         exact ⟨none,0,[],_,0,rfl,SlAt.nil,S1.out.below,.inr ⟨rfl,HR.out,HR2.out,.inl ⟨.inr NN.out,rfl,rfl⟩⟩⟩
       · have e2 : (m == 0) = false := by simpa using z2
         have n0 := HR.out.n0
         have m0 := HR2.out.n0
         simp only at n0 m0
         have IN : Hid (0 < n ∧ 0 < m) := ⟨by omega,by omega⟩
         have DC := Lib.hid (distinguish_c ⟨al,n,mr,ed⟩ ⟨bl,m,nr,fd⟩ ⟨A1,c1,A2,c2,A3,c3⟩ ⟨B1,d1,B2,d2,B3,d3⟩ 0 0 w2 HR.out HR2.out (CA.out HR.out) (CB.out HR2.out) (HA.out.below S1.out.below) (HB.out.below S1.out.below) IN.out.1 IN.out.2 (HN.out HR.out HR2.out))
         clear z1 z2 n0 m0
         go_wp2_with fail
         refine DC.out.mono ?_
         rintro e w3 ⟨A,c,l,f,rfl,hl,hb,hd⟩
         have S2 := Lib.hid (S1.out.next hb)
         have HL := Lib.hid hl.out
         have HD := Lib.hid hd.out
         clear hl hb hd DC a0 a1 a2 a3 b0 b1 b2 b3
         go_wp2_with fail
         refine bodyPost_ret (v := .tuple #[.bool (!f),.slice A l.length c,.int .i64 0]) (by simp [results,Try.results18,go_sem]) rfl ?_
         exact ⟨A,c,l,!f,0,rfl,HL.out,S2.out.below,.inr ⟨rfl,HR.out,HR2.out,.inr ⟨IN.out.1,IN.out.2,f,rfl,HD.out⟩⟩⟩
   · have hne : (r != 0) = true := by simp [h0]
     clear a0 a1 a2 a3 b0 b1 b2 b3
     go_wp2_with fail
     refine bodyPost_ret (v := .tuple #[.bool false,.slice none 0 0,.int .i64 r]) (by simp [results,Try.results18,go_sem]) rfl ?_
     exact ⟨none,0,[],false,r,rfl,SlAt.nil,S1.out.below,.inl ⟨h0,rfl,rfl,.inr ⟨HR.out,CR2.out⟩⟩⟩
 · have hne : (r != 0) = true := by simp [h0]
   clear a0 a1 a2 a3 b0 b1 b2 b3
   go_wp2_with fail
   refine bodyPost_ret (v := .tuple #[.bool false,.slice none 0 0,.int .i64 r]) (by simp [results,Try.results18,go_sem]) rfl ?_
   exact ⟨none,0,[],false,r,rfl,SlAt.nil,S0.out.below,.inl ⟨h0,rfl,rfl,.inl CR.out⟩⟩
set_option maxHeartbeats 400000 in
theorem same8_c (A1 A2 : Option Addr) (c1 c2 : Nat) (l1 l2 : List Int) (w : World) (h1 : IntsAt w A1 l1) (h2 : IntsAt w A2 l2) (n1 : l1.length ≤ 140737488355328) (n2 : l2.length ≤ 140737488355328) :
 Calls Try.prog 23 #[.slice A1 l1.length c1,.slice A2 l2.length c2] w (Tells (l1 = l2) w) := by
 have H1 := Lib.hid h1
 have H2 := Lib.hid h2
 clear h1 h2
 by_cases hl : l1.length = l2.length
 · go_enter Try.func23,Try.ntmps23
   have HL := Lib.hid hl
   rw [← hl]
   clear hl n2
   go_wp2
   go_loopw [5] (fun i wr => ∃ k : Nat,k ≤ l1.length ∧ i = .int .i64 k ∧ Hid (Below w.heap.size w wr) ∧ Hid (l1.take k = l2.take k)) (fun i _ => l1.length - (intOf i).toNat)
   case atStart => exact ⟨0,by omega,rfl,Below.refl _ _,rfl⟩
   case round =>
    obtain ⟨k,hk,rfl,BW,HN⟩ := hrel
    by_cases hlt : k < l1.length
    · obtain ⟨b,off,x,rfl,hb,hx,e0⟩ := IntsAt.at (H1.out.below IntE.stays BW.out) hlt
      obtain ⟨b2,off2,y,rfl,hb2,hy,g0⟩ := IntsAt.at (H2.out.below IntE.stays BW.out) (HL.out ▸ hlt)
      have HX := Lib.hid hx
      have HY := Lib.hid hy
      clear hx hy
      by_cases hxy : x = y
      · subst hxy
        go_wp2_with fail
        go_quiet (fail)
        go_wp2
        go_roundw
        case rel => exact ⟨k + 1,by omega,by go_num,BW.out.draws _,Lib.hid (by rw [List.take_add_one,List.take_add_one,HN.out,HX.out,HY.out])⟩
        case measure => simp [intOf]; omega
      · have hne : (x == y) = false := by simpa using hxy
        go_wp2_with fail
        go_quiet (fail)
        go_wp2
        go_ret
        exact Tells.no (fun h => by subst h; have := HX.out; rw [HY.out] at this; cases this; exact hxy rfl) (BW.out.draws _)
    · obtain rfl : k = l1.length := by omega
      go_wp2
      go_ret
      exact Tells.yes (by have := HN.out; rw [List.take_length,HL.out,List.take_length] at this; exact this) BW.out
 · have hne : ((l1.length : Int) == (l2.length : Int)) = false := by rw [beq_eq_false_iff_ne]; omega
   go_enter Try.func23,Try.ntmps23
   go_wp2
   go_ret
   exact Tells.no (fun h => hl (by rw [h])) (Below.refl _ _)
set_option maxHeartbeats 400000 in
theorem same4_c (A1 A2 : Option Addr) (c1 c2 : Nat) (l1 l2 : List Int) (w : World) (h1 : IntsAt w A1 l1) (h2 : IntsAt w A2 l2) (n1 : l1.length ≤ 140737488355328) (n2 : l2.length ≤ 140737488355328) :
 Calls Try.prog 87 #[.slice A1 l1.length c1,.slice A2 l2.length c2] w (Tells (l1 = l2) w) := by
 have H1 := Lib.hid h1
 have H2 := Lib.hid h2
 clear h1 h2
 by_cases hl : l1.length = l2.length
 · go_enter Try.func87,Try.ntmps87
   have HL := Lib.hid hl
   rw [← hl]
   clear hl n2
   go_wp2
   go_loopw [5] (fun i wr => ∃ k : Nat,k ≤ l1.length ∧ i = .int .i64 k ∧ Hid (Below w.heap.size w wr) ∧ Hid (l1.take k = l2.take k)) (fun i _ => l1.length - (intOf i).toNat)
   case atStart => exact ⟨0,by omega,rfl,Below.refl _ _,rfl⟩
   case round =>
    obtain ⟨k,hk,rfl,BW,HN⟩ := hrel
    by_cases hlt : k < l1.length
    · obtain ⟨b,off,x,rfl,hb,hx,e0⟩ := IntsAt.at (H1.out.below IntE.stays BW.out) hlt
      obtain ⟨b2,off2,y,rfl,hb2,hy,g0⟩ := IntsAt.at (H2.out.below IntE.stays BW.out) (HL.out ▸ hlt)
      have HX := Lib.hid hx
      have HY := Lib.hid hy
      clear hx hy
      by_cases hxy : x = y
      · subst hxy
        go_wp2_with fail
        go_quiet (fail)
        go_wp2
        go_roundw
        case rel => exact ⟨k + 1,by omega,by go_num,BW.out.draws _,Lib.hid (by rw [List.take_add_one,List.take_add_one,HN.out,HX.out,HY.out])⟩
        case measure => simp [intOf]; omega
      · have hne : (x == y) = false := by simpa using hxy
        go_wp2_with fail
        go_quiet (fail)
        go_wp2
        go_ret
        exact Tells.no (fun h => by subst h; have := HX.out; rw [HY.out] at this; cases this; exact hxy rfl) (BW.out.draws _)
    · obtain rfl : k = l1.length := by omega
      go_wp2
      go_ret
      exact Tells.yes (by have := HN.out; rw [List.take_length,HL.out,List.take_length] at this; exact this) BW.out
 · have hne : ((l1.length : Int) == (l2.length : Int)) = false := by rw [beq_eq_false_iff_ne]; omega
   go_enter Try.func87,Try.ntmps87
   go_wp2
   go_ret
   exact Tells.no (fun h => hl (by rw [h])) (Below.refl _ _)

def FewV (a : Au) : Prop := a.al.length ≤ 6 ∧ a.mr.length ≤ 8 ∧ a.ed.length ≤ 12 ∧ (a.n ≤ 8 ∨ 4096 < a.n)
section

def EqK (a : Au) (k : Nat) (i j : Int) : Prop := ∀ w : List Int,w.length ≤ k → (0 ≤ runV a.ed i w ↔ 0 ≤ runV a.ed j w) ∧ (runV a.ed i w ∈ a.mr ↔ runV a.ed j w ∈ a.mr)
section
variable {a : Au} {k : Nat}
theorem EqK.refl (k : Nat) (i : Int) : EqK a k i i := fun _ _ => ⟨Iff.rfl,Iff.rfl⟩
theorem EqK.symm {i j : Int} (h : EqK a k i j) : EqK a k j i := fun w hw => ⟨(h w hw).1.symm,(h w hw).2.symm⟩
theorem EqK.trans {i j l : Int} (h : EqK a k i j) (g : EqK a k j l) : EqK a k i l := fun w hw => ⟨(h w hw).1.trans (g w hw).1,(h w hw).2.trans (g w hw).2⟩
theorem EqK.less {i j : Int} {m : Nat} (h : EqK a k i j) (hm : m ≤ k) : EqK a m i j := fun w hw => h w (by omega)
theorem runV_cons {l : List Ed} {s e : Int} (h : 0 ≤ s) (r : List Int) : runV l s (e :: r) = runV l (nextV l s e) r := by simp [runV,h]
theorem EqK.next {i j : Int} (h : EqK a (k + 1) i j) (hi : 0 ≤ i) (hj : 0 ≤ j) (e : Int) : EqK a k (nextV a.ed i e) (nextV a.ed j e) := fun w hw => by
 have := h (e :: w) (by simp; omega)
 rw [runV_cons hi,runV_cons hj] at this
 exact this
open Classical in
noncomputable def reps (a : Au) (n k : Nat) : List Nat := (List.range n).filter fun s => decide (∀ t : Nat,t < s → ¬ EqK a k t s)
end
end
theorem Canon.uniq {c d : List Int} {m k : Nat} (hc : Canon c m) (hd : Canon d k) (hl : c.length = d.length) (h : ∀ i j : Nat,i < c.length → j < c.length → (c[i]? = c[j]? ↔ d[i]? = d[j]?)) : c = d := by
 have key : ∀ i : Nat,i < c.length → c[i]? = d[i]? := by
  intro i
  induction i using Nat.strongRecOn with
  | ind i ih =>
    intro hi
    have hid : i < d.length := by omega
    by_cases hj : ∃ j,j < i ∧ c[j]? = c[i]?
    · obtain ⟨j,hji,hje⟩ := hj
      rw [← hje,ih j hji (by omega)]
      exact (h j i (by omega) hi).1 hje
    · have hx : c[i]? = some c[i] := List.getElem?_eq_getElem hi
      have hy : d[i]? = some d[i] := List.getElem?_eq_getElem hid
      have r1 := hc.rg i _ hx
      have r2 := hd.rg i _ hy
      rw [hx,hy]
      rcases Int.lt_trichotomy c[i] d[i] with g | g | g
      · obtain ⟨t,ht,htd⟩ := hd.cn i _ hy c[i].toNat (by omega)
        refine absurd ⟨t,ht,?_⟩ hj
        rw [ih t ht (by omega),htd,hx]
        congr 1; omega
      · rw [g]
      · obtain ⟨t,ht,htd⟩ := hc.cn i _ hx d[i].toNat (by omega)
        refine absurd ⟨t,ht,?_⟩ hj
        refine (h t i (by omega) hi).2 ?_
        rw [← ih t ht (by omega),htd,hy]
        congr 1; omega
 apply List.ext_getElem?
 intro i
 by_cases hi : i < c.length
 · exact key i hi
 · rw [List.getElem?_eq_none (by omega),List.getElem?_eq_none (by omega)]
def exA : Au := ⟨[0,1],4,[3],[⟨0,0,1⟩,⟨0,1,2⟩,⟨1,0,3⟩,⟨2,0,3⟩]⟩
theorem exA_right : exA.Right := by
 refine ⟨fun i x hi hx => ?_,by decide,by decide,fun i x hi hx => ?_,fun i hi x hx => ?_⟩
 · match i,hx with
   | 0,hx => simp [exA] at hx; subst hx; exact ⟨Int.le_refl _,by decide,fun y h0 => absurd h0 (by omega)⟩
   | 1,hx => simp [exA] at hx; subst hx; exact ⟨by decide,by decide,fun y _ hy => by simp [exA] at hy; subst hy; decide⟩
   | i + 2,hx => simp [exA] at hx
 · match i,hx with
   | 0,hx => simp [exA] at hx; subst hx; exact ⟨by decide,by decide,fun y h0 => absurd h0 (by omega)⟩
   | i + 1,hx => simp [exA] at hx
 · match i,hx with
   | 0,hx => simp [exA] at hx; subst hx; exact ⟨by decide,by decide,by decide,by decide,by decide,fun y h0 => absurd h0 (by omega)⟩
   | 1,hx => simp [exA] at hx; subst hx; exact ⟨by decide,by decide,by decide,by decide,by decide,fun y _ hy => by simp [exA] at hy; subst hy; decide⟩
   | 2,hx => simp [exA] at hx; subst hx; exact ⟨by decide,by decide,by decide,by decide,by decide,fun y _ hy => by simp [exA] at hy; subst hy; decide⟩
   | 3,hx => simp [exA] at hx; subst hx; exact ⟨by decide,by decide,by decide,by decide,by decide,fun y _ hy => by simp [exA] at hy; subst hy; decide⟩
   | i + 4,hx => simp [exA] at hx
theorem exA_n12 (e : Int) : nextV exA.ed (1 : Nat) e = nextV exA.ed (2 : Nat) e := by
 by_cases h : e = 0
 · subst h; decide
 · have h' : ¬ (0 : Int) = e := fun g => h g.symm
   simp [nextV,exA,List.find?,h']
theorem exA12 : Eqv exA (1 : Nat) (2 : Nat) := fun w => by
 cases w with
 | nil => decide
 | cons e r =>
   rw [runV_cons (by decide),runV_cons (by decide),show nextV exA.ed (1 : Nat) e = nextV exA.ed (2 : Nat) e from exA_n12 e]
   exact ⟨Iff.rfl,Iff.rfl⟩
theorem Eqv.refl (a : Au) (i : Int) : Eqv a i i := fun _ => ⟨Iff.rfl,Iff.rfl⟩
def exC : List Int := [0,1,1,2]
theorem exC_canon : Canon exC 3 := by
 refine ⟨fun s x h => ?_,fun y hy => ?_,fun s x h y hy => ?_⟩
 · match s,h with
   | 0,h => simp [exC] at h; subst h; decide
   | 1,h => simp [exC] at h; subst h; decide
   | 2,h => simp [exC] at h; subst h; decide
   | 3,h => simp [exC] at h; subst h; decide
   | s + 4,h => simp [exC] at h
 · match y,hy with
   | 0,_ => exact ⟨0,rfl⟩
   | 1,_ => exact ⟨1,rfl⟩
   | 2,_ => exact ⟨3,rfl⟩
   | y + 3,hy => omega
 · match s,h with
   | 0,h => simp [exC] at h; subst h; omega
   | 1,h =>
     simp [exC] at h; subst h
     obtain rfl : y = 0 := by omega
     exact ⟨0,by omega,rfl⟩
   | 2,h =>
     simp [exC] at h; subst h
     obtain rfl : y = 0 := by omega
     exact ⟨0,by omega,rfl⟩
   | 3,h =>
     simp [exC] at h; subst h
     have : y = 0 ∨ y = 1 := by omega
     rcases this with rfl | rfl
     · exact ⟨0,by omega,rfl⟩
     · exact ⟨1,by omega,rfl⟩
   | s + 4,h => simp [exC] at h
theorem exA_no {i j : Nat} (w : List Int) (h : ¬ (0 ≤ runV exA.ed i w ↔ 0 ≤ runV exA.ed j w)) : ¬ Eqv exA i j := fun g => h (g w).1
theorem exA_ker : ∀ i j : Nat,i < 4 → j < 4 → (exC[i]? = exC[j]? ↔ Eqv exA i j) := by
 have n01 : ¬ Eqv exA (0 : Nat) (1 : Nat) := exA_no [1] (by decide)
 have n02 : ¬ Eqv exA (0 : Nat) (2 : Nat) := exA_no [1] (by decide)
 have n03 : ¬ Eqv exA (0 : Nat) (3 : Nat) := exA_no [0] (by decide)
 have n13 : ¬ Eqv exA (1 : Nat) (3 : Nat) := exA_no [0] (by decide)
 have n23 : ¬ Eqv exA (2 : Nat) (3 : Nat) := exA_no [0] (by decide)
 intro i j hi hj
 have h1 : i = 0 ∨ i = 1 ∨ i = 2 ∨ i = 3 := by omega
 have h2 : j = 0 ∨ j = 1 ∨ j = 2 ∨ j = 3 := by omega
 rcases h1 with rfl | rfl | rfl | rfl <;> rcases h2 with rfl | rfl | rfl | rfl
 all_goals first
  | exact ⟨fun _ => Eqv.refl _ _,fun _ => rfl⟩
  | exact ⟨fun _ => exA12,fun _ => rfl⟩
  | exact ⟨fun _ => exA12.symm,fun _ => rfl⟩
  | exact ⟨fun h => by simp [exC] at h,fun h => absurd h n01⟩
  | exact ⟨fun h => by simp [exC] at h,fun h => absurd h n02⟩
  | exact ⟨fun h => by simp [exC] at h,fun h => absurd h n03⟩
  | exact ⟨fun h => by simp [exC] at h,fun h => absurd h n13⟩
  | exact ⟨fun h => by simp [exC] at h,fun h => absurd h n23⟩
  | exact ⟨fun h => by simp [exC] at h,fun h => absurd h.symm n01⟩
  | exact ⟨fun h => by simp [exC] at h,fun h => absurd h.symm n02⟩
  | exact ⟨fun h => by simp [exC] at h,fun h => absurd h.symm n03⟩
  | exact ⟨fun h => by simp [exC] at h,fun h => absurd h.symm n13⟩
  | exact ⟨fun h => by simp [exC] at h,fun h => absurd h.symm n23⟩
theorem exA_classes {c : List Int} {m : Nat} (h1 : c.length = exA.n.toNat) (h2 : Canon c m) (h3 : ∀ i j : Nat,i < c.length → j < c.length → (c[i]? = c[j]? ↔ Eqv exA i j)) : c = exC :=
 h2.uniq exC_canon h1 fun i j hi hj => (h3 i j hi hj).trans (exA_ker i j (by rw [h1] at hi; exact hi) (by rw [h1] at hj; exact hj)).symm
theorem exA_min {m : Au} (h : MinB exA m) : m.n = 3 := by
 obtain ⟨c,k,h1,h2,h3,hal,h4⟩ := h
 obtain rfl := exA_classes h1 h2 h3
 rcases h4 with ⟨h0,_⟩ | ⟨fs,B,hfs,_⟩
 · exact absurd h0 (by decide)
 · have hz := (List.getElem?_eq_some_iff.1 B.z).1
   have hup : ∀ s e,stepS (outK exA fun _ => true) s e = ((outK exA (fun _ => true) s).find? fun x => decide (x.1 = e)).map (·.2) := fun _ _ => rfl
   have cls : ∀ v,v ∈ fs → v = 0 ∨ v = 1 ∨ v = 2 ∨ v = 3 := fun v hv => by
    have := hfs v hv
    have e : exA.n = 4 := rfl
    omega
   have p1 : ∃ (d : Nat) (u : Int),fs[d]? = some u ∧ clsV exC u = 1 := by
    rcases B.step 0 0 B.z 0 with ⟨_,g⟩ | ⟨d,u,t,_,g2,g3,g4⟩
    · exact absurd g (by decide)
    · have : t = 1 := by
       have h : stepS (outK exA fun _ => true) 0 0 = some 1 := by decide
       rw [h] at g3; exact (Option.some.inj g3).symm
      subst this
      exact ⟨d,u,g2,g4⟩
   obtain ⟨d1,u1,q1,q2⟩ := p1
   have hu1 : u1 = 1 ∨ u1 = 2 := by
    rcases cls u1 (List.mem_of_getElem? q1) with rfl | rfl | rfl | rfl
    · exact absurd q2 (by decide)
    · exact .inl rfl
    · exact .inr rfl
    · exact absurd q2 (by decide)
   have p2 : ∃ (d : Nat) (u : Int),fs[d]? = some u ∧ clsV exC u = 2 := by
    have h : stepS (outK exA fun _ => true) u1 0 = some 3 := by rcases hu1 with rfl | rfl <;> decide
    rcases B.step d1 u1 q1 0 with ⟨_,g⟩ | ⟨d,u,t,_,g2,g3,g4⟩
    · rw [h] at g; cases g
    · rw [h] at g3
      obtain rfl := Option.some.inj g3
      exact ⟨d,u,g2,g4⟩
   obtain ⟨d2,u2,q3,q4⟩ := p2
   have e1 := (List.getElem?_eq_some_iff.1 q1).1
   have e2 := (List.getElem?_eq_some_iff.1 q3).1
   have c0 : clsV exC 0 = 0 := by decide
   have n1 : d1 ≠ 0 := fun h => by subst h; rw [B.z] at q1; cases q1; rw [c0] at q2; cases q2
   have n2 : d2 ≠ 0 := fun h => by subst h; rw [B.z] at q3; cases q3; rw [c0] at q4; cases q4
   have n3 : d1 ≠ d2 := fun h => by subst h; rw [q1] at q3; cases q3; rw [q2] at q4; cases q4
   have hle : fs.length ≤ 3 := by
    have := sub_len (fs.map fun v => (clsV exC v).toNat) [0,1,2] (by
     rw [List.nodup_iff_pairwise_ne,List.pairwise_map,List.pairwise_iff_getElem]
     intro i j hi hj hij he
     have h1 := cls fs[i] (List.getElem_mem hi)
     have h2 := cls fs[j] (List.getElem_mem hj)
     have hk : clsV exC fs[i] = clsV exC fs[j] := by
      have pos : ∀ v : Int,v = 0 ∨ v = 1 ∨ v = 2 ∨ v = 3 → 0 ≤ clsV exC v := fun v hv => by rcases hv with rfl | rfl | rfl | rfl <;> decide
      have := pos _ h1; have := pos _ h2; omega
     have := B.nd i j _ _ (List.getElem?_eq_getElem hi) (List.getElem?_eq_getElem hj) hk
     omega) (fun x hx => by
     obtain ⟨v,hv,rfl⟩ := List.mem_map.1 hx
     rcases cls v hv with rfl | rfl | rfl | rfl <;> decide)
    simpa using this
   rw [B.n]
   omega
theorem exA_dist {f : Bool} {l : List Int} (h : DistW exA exA 0 1 f l) : f = true ∧ l = [0] := by
 have hm : ∀ e,e ∈ unionS exA.al exA.al ↔ e = 0 ∨ e = 1 := fun e => by rw [mem_unionS]; simp [exA]
 have is : LeadsTo (stp2 exA exA) (0,1) (unionS exA.al exA.al) (fun q => pdV exA exA q = true) [0] := ⟨fun e he => by
  simp at he; subst he; exact (hm 0).2 (.inl rfl),by decide⟩
 have hl : LeastW (LeadsTo (stp2 exA exA) (0,1) (unionS exA.al exA.al) (fun q => pdV exA exA q = true)) [0] := ⟨is,fun u hu => by
  match u,hu with
  | [],hu => exact absurd hu.2 (by decide)
  | [e],hu =>
    rcases (hm e).1 (hu.1 e (by simp)) with rfl | rfl
    · exact sle.refl _
    · exact .inl (.inr ⟨rfl,.inl (by decide)⟩)
  | e :: e' :: r,hu => exact .inl (.inl (by simp))⟩
 rcases h with ⟨h1,h2⟩ | ⟨_,_,h3⟩
 · exact ⟨h1,h2.uniq hl⟩
 · exact absurd is (h3 _)
theorem exA_inst : InSt exA 0 1 := ⟨⟨by decide,by decide⟩,⟨by decide,by decide⟩⟩
theorem exA_cons : ¬ ConsV exA [0,1,1,1] := fun h => by
 have := (h 1 3 (by decide) (by decide) rfl).1
 exact absurd this (by decide)
theorem exA_mgerr {r : Int} (h0 : r ≠ 0) (h : MgErr exA [0,1,1,1] r) : r = 13 := by
 rcases h with h | ⟨_,⟨h1,_⟩ | ⟨_,⟨x,hx,h2⟩,_⟩ | ⟨_,_,_,h3⟩⟩
 · exact absurd (h.zero.2 exA_right) h0
 · exact absurd rfl h1
 · have e : exA.n = 4 := rfl
   simp at hx
   omega
 · exact h3
theorem ints_new (w : World) (l : List Int) : IntsAt (w.alloc (.cells (l.map (Value.int .i64)).toArray 3)) (some ⟨w.heap.size,0,none⟩) l := IntsAt.blk l (BlkAt.new w 3 (l.map (Value.int .i64)))
def GivesEx (w : World) (e : Ending) (w' : World) : Prop := ∃ X1 x1 X2 x2 X3 x3,e = .returned (.agg #[.slice X1 2 x1,.int .i64 4,.slice X2 1 x2,.slice X3 4 x3]) ∧ Hid (Sep w.heap.size w [eInts [0,1] (.slice X1 2 x1),eInts [3] (.slice X2 1 x2),eEds exA.ed (.slice X3 4 x3)] w')
set_option maxHeartbeats 1000000 in
theorem example8_c (w : World) : Calls Try.prog 35 #[] w (GivesEx w) := by
 go_enter Try.func35,Try.ntmps35
 go_upto_region 1 with fail
 refine wp_world (fun W => Sep w.heap.size w [eBlk w.heap.size 25 [.slice none 0 0,.int .i64 0,.slice none 0 0,.slice none 0 0]] W) ?_ fun W S => ?_
 · exact (Sep.here w).alloc' _ [_,_,_,_] rfl rfl
 have S1 := (S.alloc' 3 [.int .i64 0,.int .i64 1] rfl (g := W.heap.size) rfl).own 0 rfl encI 1 [0,1] rfl (fun _ => rfl) (by decide)
 have S2 := (S1.alloc' 3 [.int .i64 3] rfl (g := W.heap.size + 1) (by simp)).own 0 rfl encI 1 [3] rfl (fun _ => rfl) (by decide)
 have S3 := (S2.alloc' 70 [.int .i64 0,.int .i64 0,.int .i64 1,.int .i64 0,.int .i64 1,.int .i64 2,.int .i64 1,.int .i64 0,.int .i64 3,.int .i64 2,.int .i64 0,.int .i64 3] rfl (g := W.heap.size + 1 + 1) (by simp)).own 0 rfl Ed.cells 3 exA.ed rfl (fun _ => rfl) (by decide)
 have c0 := ckC S3 3 rfl 0 rfl
 have c1 := ckC S3 3 rfl 1 rfl
 have c2 := ckC S3 3 rfl 2 rfl
 have c3 := ckC S3 3 rfl 3 rfl
 have f0 := BlkAt.free (S3.get 3 rfl) 0
 have f1 := BlkAt.free (S3.get 3 rfl) 1
 have f2 := BlkAt.free (S3.get 3 rfl) 2
 have f3 := BlkAt.free (S3.get 3 rfl) 3
 have S4 := Lib.hid ((((S3.set 3 rfl 0 (.slice (some ⟨W.heap.size,0,none⟩) 2 2)).set 3 rfl 1 (.int .i64 4)).set 3 rfl 2 (.slice (some ⟨W.heap.size + 1,0,none⟩) 1 1)).set 3 rfl 3 (.slice (some ⟨W.heap.size + 1 + 1,0,none⟩) 4 4))
 have t0 := BlkAt.cell (S4.out.get 3 rfl) 0
 have t1 := BlkAt.cell (S4.out.get 3 rfl) 1
 have t2 := BlkAt.cell (S4.out.get 3 rfl) 2
 have t3 := BlkAt.cell (S4.out.get 3 rfl) 3
 simp only [List.set_cons_succ,List.set_cons_zero,List.getElem?_cons_succ,List.getElem?_cons_zero] at t0 t1 t2 t3
 clear S S1 S2 S3
 go_wp2_with fail
 refine bodyPost_ret (v := .agg #[.slice (some ⟨W.heap.size,0,none⟩) 2 2,.int .i64 4,.slice (some ⟨W.heap.size + 1,0,none⟩) 1 1,.slice (some ⟨W.heap.size + 1 + 1,0,none⟩) 4 4]) (by simp [results,Try.results35,go_sem, *]) rfl ?_
 exact ⟨_,_,_,_,_,_,rfl,S4.out.pick [2,1,0] (by decide)⟩
theorem ex_lens : Lens exA := ⟨by decide,by decide,by decide⟩
theorem exA_need : (exA.n.toNat + 2) * (exA.n.toNat + 2) ≤ 1000000 := by decide
set_option maxHeartbeats 4000000 in
theorem known8_c (w : World) : Calls Try.prog 11 #[] w (Ret (.bool true) w) := by
 go_enter Try.func11,Try.ntmps11
 go_wp2_with fail
 refine (example8_c w).mono ?_
 rintro e w1 ⟨X1,x1,X2,x2,X3,x3,rfl,T⟩
 have S0 := Lib.hid T.out
 clear T
 have CC : Hid (Calls Try.prog 14 #[.agg #[.slice X1 2 x1,.int .i64 4,.slice X2 1 x2,.slice X3 4 x3]] w1 (GivesKX exA w1)) := classesX_c exA ⟨X1,x1,X2,x2,X3,x3⟩ w1 (fun _ => Sep.auCaps (m := exA) (p := ⟨X1,x1,X2,x2,X3,x3⟩) (es := []) S0.out) (Sep.au (m := exA) (p := ⟨X1,x1,X2,x2,X3,x3⟩) (es := []) S0.out ex_lens)
 go_wp2_with fail
 refine CC.out.mono ?_
 rintro e w2 ⟨r,hr,⟨h0,_,_⟩ | ⟨rfl,gc,c,mc,rfl,T,HK⟩⟩
 · exact absurd (hr.zero.2 exA_right) h0
 obtain rfl := exA_classes HK.out.1 HK.out.2.1 HK.out.2.2
 have S1 : Hid (Sep w.heap.size w [eBlk gc 3 (exC.map (Value.int .i64))] w2) := ((S0.out.news T.out).pick [0] (by decide))
 clear T HK hr CC S0
 go_wp2_with fail
 refine (example8_c w2).mono ?_
 rintro e w3 ⟨X1,x1,X2,x2,X3,x3,rfl,T⟩
 have A0 := Lib.hid T.out
 have S2 : Hid (Sep w.heap.size w [eBlk gc 3 (exC.map (Value.int .i64))] w3) := S1.out.next T.out.below
 clear T S1
 have CC : Hid (Calls Try.prog 15 #[.agg #[.slice X1 2 x1,.int .i64 4,.slice X2 1 x2,.slice X3 4 x3]] w3 (GivesMX exA w3)) := minimizeX_c exA ⟨X1,x1,X2,x2,X3,x3⟩ w3 (fun _ => Sep.auCaps (m := exA) (p := ⟨X1,x1,X2,x2,X3,x3⟩) (es := []) A0.out) (Sep.au (m := exA) (p := ⟨X1,x1,X2,x2,X3,x3⟩) (es := []) A0.out ex_lens)
 go_wp2_with fail
 refine CC.out.mono ?_
 rintro e w4 ⟨r,hr,⟨h0,_,_⟩ | ⟨rfl,m,pm,rfl,T,LN,MI⟩⟩
 · exact absurd (hr.zero.2 exA_right) h0
 have MN := exA_min MI.out
 obtain ⟨ml,mn,mm,me⟩ := m
 obtain ⟨D1,d1,D2,d2,D3,d3⟩ := pm
 obtain rfl : mn = 3 := MN
 have S3 : Hid (Sep w.heap.size w [eBlk gc 3 (exC.map (Value.int .i64))] w4) := S2.out.next T.out.below
 clear T LN MI hr CC A0 S2
 dsimp only [Au.val]
 obtain ⟨b3,h3⟩ : ∃ b,b = w4.heap.size := ⟨_,rfl⟩
 go_upto_region 3 with fail
 rw [← h3]
 refine wp_world (fun V => Sep w.heap.size w [eBlk b3 25 [.slice D1 ml.length d1,.int .i64 3,.slice D2 mm.length d2,.slice D3 me.length d3],eBlk gc 3 (exC.map (Value.int .i64))] V) (S3.out.alloc' 25 [.slice D1 ml.length d1,.int .i64 3,.slice D2 mm.length d2,.slice D3 me.length d3] rfl h3) fun W5 S' => ?_
 have S4 := Lib.hid S'
 clear S' S3 h3
 go_wp2_with fail
 refine (example8_c W5).mono ?_
 rintro e w6 ⟨X1,x1,X2,x2,X3,x3,rfl,T⟩
 have A0 := Lib.hid T.out
 have S5 : Hid (Sep w.heap.size w [eBlk b3 25 [.slice D1 ml.length d1,.int .i64 3,.slice D2 mm.length d2,.slice D3 me.length d3],eBlk gc 3 (exC.map (Value.int .i64))] w6) := S4.out.next T.out.below
 clear T S4
 have CC : Hid (Calls Try.prog 17 #[.agg #[.slice X1 2 x1,.int .i64 4,.slice X2 1 x2,.slice X3 4 x3],.int .i64 0,.int .i64 1] w6 (GivesDX exA 0 1 w6)) := distX_c exA ⟨X1,x1,X2,x2,X3,x3⟩ 0 1 w6 (fun _ => Sep.auCaps (m := exA) (p := ⟨X1,x1,X2,x2,X3,x3⟩) (es := []) A0.out) (fun _ => exA_need) (Sep.au (m := exA) (p := ⟨X1,x1,X2,x2,X3,x3⟩) (es := []) A0.out ex_lens)
 go_wp2_with fail
 refine CC.out.mono ?_
 rintro e w7 ⟨AL,cL,l,f,r,rfl,HL,hb,HD⟩
 obtain ⟨rfl,rfl,rfl⟩ : r = 0 ∧ f = true ∧ l = [0] := by
  rcases HD.out with ⟨h0,_,_,h1 | ⟨_,_,h1⟩⟩ | ⟨h0,_,_,h1⟩
  · exact absurd (h1.zero.2 exA_right) h0
  · exact absurd exA_inst h1
  · exact ⟨h0,exA_dist h1⟩
 have HI7 := Lib.hid HL.out
 have S6 := Lib.hid (S5.out.next hb)
 clear HL hb HD CC A0 S5
 go_wp2_with fail
 refine (example8_c w7).mono ?_
 rintro e w8 ⟨X1,x1,X2,x2,X3,x3,rfl,T⟩
 have A0 := Lib.hid T.out
 have S7 : Hid (Sep w.heap.size w [eBlk b3 25 [.slice D1 ml.length d1,.int .i64 3,.slice D2 mm.length d2,.slice D3 me.length d3],eBlk gc 3 (exC.map (Value.int .i64))] w8) := S6.out.next T.out.below
 have HI8 := Lib.hid (HI7.out.below IntE.stays T.out.below)
 clear T S6 HI7
 obtain ⟨W9,h9⟩ : ∃ W,W = w8.alloc (.cells #[.int .i64 0,.int .i64 1,.int .i64 1,.int .i64 1] 3) := ⟨_,rfl⟩
 have B9 : Below w8.heap.size w8 W9 := by rw [h9]; exact Below.new w8 _
 have A9 := Lib.hid (A0.out.next B9)
 have I9 : Hid (IntsAt W9 (some ⟨w8.heap.size,0,none⟩) [0,1,1,1]) := by rw [h9]; exact ints_new w8 [0,1,1,1]
 have S8 := Lib.hid (S7.out.next B9)
 have HI9 := Lib.hid (HI8.out.below IntE.stays B9)
 have CC : Hid (Calls Try.prog 24 #[.agg #[.slice X1 2 x1,.int .i64 4,.slice X2 1 x2,.slice X3 4 x3],.slice (some ⟨w8.heap.size,0,none⟩) 4 4] W9 (GivesMg exA [0,1,1,1] W9)) := mergeX_c exA ⟨X1,x1,X2,x2,X3,x3⟩ (some ⟨w8.heap.size,0,none⟩) 4 [0,1,1,1] W9 (fun _ => Sep.auCaps (m := exA) (p := ⟨X1,x1,X2,x2,X3,x3⟩) (es := []) A9.out) (Sep.au (m := exA) (p := ⟨X1,x1,X2,x2,X3,x3⟩) (es := []) A9.out ex_lens) I9.out (by decide)
 rw [h9] at CC
 clear A0 S7 HI8 B9 I9 A9
 go_wp2_with fail
 refine CC.out.mono ?_
 clear CC
 rintro e w10 ⟨r,⟨h0,rfl,hb,hme⟩ | ⟨_,_,_,_,_,_,hr⟩⟩
 rotate_left
 · exact absurd hr.out.2.2.2.1 exA_cons
 obtain rfl := exA_mgerr h0 hme
 rw [← h9] at hb
 have S9 := Lib.hid (S8.out.next hb)
 have HI10 := Lib.hid (HI9.out.below IntE.stays hb)
 clear hb hme h0 h9 S8 HI9
 go_upto_region 5 with fail
 obtain ⟨W11,h11⟩ : ∃ W,W = w10.alloc (.cells #[.slice none 0 0,.int .i64 0,.slice none 0 0,.slice none 0 0] 25) := ⟨_,rfl⟩
 have B11 : Below w10.heap.size w10 W11 := by rw [h11]; exact Below.new w10 _
 have S10 := Lib.hid (S9.out.next B11)
 have HI11 := Lib.hid (HI10.out.below IntE.stays B11)
 rw [← h11]
 clear h11 B11 S9 HI10
 have r1 := ckC S10.out 0 rfl 1 rfl
 obtain ⟨W12,h12⟩ : ∃ W,W = W11.alloc (.cells #[.int .i64 0,.int .i64 1,.int .i64 1,.int .i64 2] 3) := ⟨_,rfl⟩
 have B12 : Below W11.heap.size W11 W12 := by rw [h12]; exact Below.new W11 _
 have I12 : Hid (IntsAt W12 (some ⟨W11.heap.size,0,none⟩) [0,1,1,2]) := by rw [h12]; exact ints_new W11 [0,1,1,2]
 have S11 := Lib.hid (S10.out.next B12)
 have HI12 := Lib.hid (HI11.out.below IntE.stays B12)
 have CC : Hid (Calls Try.prog 23 #[.slice (some ⟨gc,0,none⟩) exA.n.toNat exA.n.toNat,.slice (some ⟨W11.heap.size,0,none⟩) 4 4] W12 (Tells (exC = [0,1,1,2]) W12)) := same8_c (some ⟨gc,0,none⟩) (some ⟨W11.heap.size,0,none⟩) 4 4 exC [0,1,1,2] W12 (IntsAt.blk exC (S11.out.get 1 rfl)) I12.out (by decide) (by decide)
 rw [h12] at CC
 clear S10 HI11 B12 I12 r1
 go_wp2_with fail
 refine CC.out.mono ?_
 intro e w13 hs
 clear CC
 rw [← h12] at hs
 obtain ⟨rfl,hb⟩ := hs.yes2 (by first | rfl | trivial)
 have S12 := Lib.hid (S11.out.next hb)
 have HI13 := Lib.hid (HI12.out.below IntE.stays hb)
 clear hs hb h12 S11 HI12
 have r1 := ckC S12.out 0 rfl 1 rfl
 obtain ⟨W14,h14⟩ : ∃ W,W = w13.alloc (.cells #[.int .i64 0] 3) := ⟨_,rfl⟩
 have B14 : Below w13.heap.size w13 W14 := by rw [h14]; exact Below.new w13 _
 have I14 : Hid (IntsAt W14 (some ⟨w13.heap.size,0,none⟩) [0]) := by rw [h14]; exact ints_new w13 [0]
 have S13 := Lib.hid (S12.out.next B14)
 have CC : Hid (Calls Try.prog 23 #[.slice AL 1 cL,.slice (some ⟨w13.heap.size,0,none⟩) 1 1] W14 (Tells (([0] : List Int) = [0]) W14)) := same8_c AL (some ⟨w13.heap.size,0,none⟩) cL 1 [0] [0] W14 (HI13.out.below IntE.stays B14) I14.out (by decide) (by decide)
 rw [h14] at CC
 clear S12 HI13 B14 I14
 dsimp only [List.length_cons,List.length_nil,Nat.zero_add]
 go_wp2_with fail
 refine CC.out.mono ?_
 intro e w15 hs
 clear CC
 rw [← h14] at hs
 obtain ⟨rfl,hb⟩ := hs.yes2 (by first | rfl | trivial)
 have S14 := Lib.hid (S13.out.next hb).below
 clear hs hb h14 S13 r1
 go_wp2_with fail
 go_ret
 exact ⟨rfl,S14.out⟩
end Go.Proofs.Ytjjifefanjnghaa
