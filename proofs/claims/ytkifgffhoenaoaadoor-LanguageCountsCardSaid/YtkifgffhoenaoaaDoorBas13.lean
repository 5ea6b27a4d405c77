/-
  reach.Trim, language.small of right automata.
  Words for memory: maps whose entries bear their stamps in order; entries that are laid first and filled later.
  Plain: the numerals of two numbers, with a blank between them, tell the numbers.
-/
import Derived.Test.YtkifgffhoenaoaaDoorBas12
import Derived.Test.YtkifgffhoenaoaaDoorBas07
import Derived.Test.YtkifgffhoenaoaaDoorBas02
import Derived.WideKeyEntry
import Derived.Test.YtkifgffhoenaoaaDoorBas01
import Derived.Lib.ItoaNum
set_option linter.unusedSimpArgs false
set_option linter.unusedVariables false
namespace Go.Proofs.YtkifgffhoenaoaaDoor
open Go.RowKit
set_option maxRecDepth 100000
theorem trimd_of {a m : Au} {d : Nat → Int} (hr : a.Right) (hd : ∀ s : Nat,s < a.n.toNat → (0 ≤ d s ↔ ∃ u,runV a.ed s u ∈ a.mr)) (h : RsOf a (coV d a.n.toNat) m) : Trimd a m := by
 have h0 := hr.n0
 have hk : ∀ v : Int,0 ≤ v → v < a.n → (decide (v ∈ coV d a.n.toNat) = true ↔ ∃ w,runV a.ed v w ∈ a.mr) := fun v hv hn => by
  obtain ⟨s,rfl⟩ := Int.eq_ofNat_of_zero_le hv
  have hs : s < a.n.toNat := by omega
  rw [decide_eq_true_eq,mem_coV,← hd s hs]
  constructor
  · rintro ⟨t,h1,_,h3⟩
    obtain rfl : s = t := by omega
    exact h3
  · exact fun h => ⟨s,rfl,hs,h⟩
 obtain ⟨hal,⟨hno,rfl⟩ | ⟨hyes,fs,B,hfs,hm⟩⟩ := h
 · by_cases hn : a.n = 0
   · exact Trimd.empty hr (.inl hn)
   · refine Trimd.empty hr (.inr ⟨by omega,fun w hw => hno ?_⟩)
     have := (hk 0 (Int.le_refl _) (by omega)).2 ⟨w,hw⟩
     simpa using this
 · have hn : 0 < a.n := by
    obtain ⟨s,h1,h2,_⟩ := mem_coV.1 hyes
    omega
   exact Built.trim hr hk hn (decide_eq_true hyes) B hfs hal hm
def GivesTr (a : Au) (w : World) (e : Ending) (w' : World) : Prop := ∃ m p',e = .returned (.tuple #[m.val p',.int .i64 0]) ∧ Hid (Sep w.heap.size w (eAu m p') w') ∧ Hid (Lens m) ∧ Hid (Trimd a m)
set_option maxHeartbeats 4000000 in
theorem trim_c (a : Au) (p : AuP) (w : World) (hr : a.Right) (hc : Caps a p) (hA : Au.At w a p) :
 Calls Tryd.prog 90 #[a.val p] w (GivesTr a w) := by
 have h0 := hr.n0
 have HR := Lib.hid hr
 have HA := Lib.hid hA
 have HC := Lib.hid hc
 obtain ⟨al,n,mr,ed⟩ := a
 obtain ⟨A1,c1,A2,c2,A3,c3⟩ := p
 obtain ⟨N,rfl⟩ := Int.eq_ofNat_of_zero_le h0
 dsimp only [Au.val]
 clear hr hA hc h0
 go_enter Tryd.func90,Tryd.ntmps90
 go_wp2_with fail
 refine calls_world (fun W => Sep w.heap.size w [eBlk (w.heap.size + 1) 35 [.slice none 0 0,.int .i64 0,.slice none 0 0,.slice none 0 0],eBlk w.heap.size 35 [.slice A1 al.length c1,.int .i64 (N : Int),.slice A2 mr.length c2,.slice A3 ed.length c3]] W) ?_ fun W S => ?_
 · exact ((Sep.here w).alloc' _ [_,_,_,_] rfl rfl).alloc' _ [_,_,_,_] rfl (by simp)
 refine (coreachable_c ⟨al,N,mr,ed⟩ ⟨A1,c1,A2,c2,A3,c3⟩ W HR.out (HA.out.below S.below)).mono ?_
 rintro e w1 ⟨d,AK,cK,rfl,T,HD⟩
 dsimp only [Int.toNat_natCast]
 have S1 : Hid (Sep w.heap.size w [eInts (coV d N) (.slice AK (coV d N).length cK),eBlk (w.heap.size + 1) 35 [.slice none 0 0,.int .i64 0,.slice none 0 0,.slice none 0 0],eBlk w.heap.size 35 [.slice A1 al.length c1,.int .i64 (N : Int),.slice A2 mr.length c2,.slice A3 ed.length c3]] w1) := S.news T.out
 clear T S
 have b0 := ckC S1.out 2 rfl 0 rfl
 have b1 := ckC S1.out 2 rfl 1 rfl
 have b2 := ckC S1.out 2 rfl 2 rfl
 have b3 := ckC S1.out 2 rfl 3 rfl
 have HKP : Hid (setOk (coV d N) (N : Int) (coV d N).length) := setOk_of (coV_rises d N) (fun x hx => by
  obtain ⟨s,h1,h2,_⟩ := mem_coV.1 hx
  omega)
 go_wp2_with fail
 refine (restrict_c ⟨al,N,mr,ed⟩ ⟨A1,c1,A2,c2,A3,c3⟩ AK cK (coV d N) _ HR.out (HA.out.below S1.out.below) HC.out (S1.out.ints 0 rfl) HKP.out).mono ?_
 rintro e w2 ⟨⟨al1,n1,mr1,ed1⟩,⟨D11,d11,D21,d21,D31,d31⟩,rfl,T1,LN1,FA1⟩
 have S2 : Hid (Sep w.heap.size w [eInts al1 (.slice D11 al1.length d11),eInts mr1 (.slice D21 mr1.length d21),eEds ed1 (.slice D31 ed1.length d31),eInts (coV d N) (.slice AK (coV d N).length cK),eBlk (w.heap.size + 1) 35 [.slice none 0 0,.int .i64 0,.slice none 0 0,.slice none 0 0],eBlk w.heap.size 35 [.slice A1 al.length c1,.int .i64 (N : Int),.slice A2 mr.length c2,.slice A3 ed.length c3]] w2) := S1.out.news T1.out
 have FT : Hid (Trimd ⟨al,N,mr,ed⟩ ⟨al1,n1,mr1,ed1⟩) := trimd_of HR.out HD.out FA1.out
 clear T1 S1 b0 b1 b2 b3 FA1 HD
 have r0 := ckC S2.out 4 rfl 0 rfl
 have r1 := ckC S2.out 4 rfl 1 rfl
 have r2 := ckC S2.out 4 rfl 2 rfl
 have r3 := ckC S2.out 4 rfl 3 rfl
 have s0 := BlkAt.free (S2.out.get 4 rfl) 0
 have s1 := BlkAt.free (S2.out.get 4 rfl) 1
 have s2 := BlkAt.free (S2.out.get 4 rfl) 2
 have s3 := BlkAt.free (S2.out.get 4 rfl) 3
 have S3 : Hid (Sep w.heap.size w [eInts al1 (.slice D11 al1.length d11),eInts mr1 (.slice D21 mr1.length d21),eEds ed1 (.slice D31 ed1.length d31),eInts (coV d N) (.slice AK (coV d N).length cK),eBlk (w.heap.size + 1) 35 [.slice D11 al1.length d11,.int .i64 n1,.slice D21 mr1.length d21,.slice D31 ed1.length d31],eBlk w.heap.size 35 [.slice A1 al.length c1,.int .i64 (N : Int),.slice A2 mr.length c2,.slice A3 ed.length c3]] _) := ((((S2.out.set 4 rfl 0 (.slice D11 al1.length d11)).set 4 rfl 1 (.int .i64 n1)).set 4 rfl 2 (.slice D21 mr1.length d21)).set 4 rfl 3 (.slice D31 ed1.length d31))
 have SF : Hid (Sep w.heap.size w (eAu ⟨al1,n1,mr1,ed1⟩ ⟨D11,d11,D21,d21,D31,d31⟩) _) := S3.out.pick [0,1,2] (by decide)
 have t0 := ckC S3.out 4 rfl 0 rfl
 have t1 := ckC S3.out 4 rfl 1 rfl
 have t2 := ckC S3.out 4 rfl 2 rfl
 have t3 := ckC S3.out 4 rfl 3 rfl
 clear S2
 dsimp only [Au.val]
 go_wp2_with fail
 refine bodyPost_ret (v := .tuple #[.agg #[.slice D11 al1.length d11,.int .i64 n1,.slice D21 mr1.length d21,.slice D31 ed1.length d31],.int .i64 0]) (by simp [results,Tryd.results90,go_sem, *]) rfl ?_
 exact ⟨⟨al1,n1,mr1,ed1⟩,⟨D11,d11,D21,d21,D31,d31⟩,rfl,SF.out,LN1.out,FT.out⟩

def GivesSm (a : Au) (w : World) (e : Ending) (w' : World) : Prop := ∃ m p',e = .returned (.tuple #[m.val p',.int .i64 0]) ∧ Hid (Sep w.heap.size w (eAu m p') w') ∧ Hid (Lens m) ∧ Hid (IsMin m (fun u => rn a u ∈ a.mr) ∧ m.al = a.al)
set_option maxHeartbeats 4000000 in
theorem small_c (a : Au) (p : AuP) (w : World) (hr : a.Right) (hc : Caps a p) (hA : Au.At w a p) :
 Calls Tryd.prog 87 #[a.val p] w (GivesSm a w) := by
 have HR := Lib.hid hr
 have HA := Lib.hid hA
 have HC := Lib.hid hc
 obtain ⟨al,N,mr,ed⟩ := a
 obtain ⟨A1,c1,A2,c2,A3,c3⟩ := p
 dsimp only [Au.val]
 clear hr hA hc
 go_enter Tryd.func87,Tryd.ntmps87
 go_wp2_with fail
 refine calls_world (fun W => Sep w.heap.size w [eBlk (w.heap.size + 1) 35 [.slice none 0 0,.int .i64 0,.slice none 0 0,.slice none 0 0],eBlk w.heap.size 35 [.slice A1 al.length c1,.int .i64 (N : Int),.slice A2 mr.length c2,.slice A3 ed.length c3]] W) ?_ fun W S => ?_
 · exact ((Sep.here w).alloc' _ [_,_,_,_] rfl rfl).alloc' _ [_,_,_,_] rfl (by simp)
 refine (trim_c ⟨al,N,mr,ed⟩ ⟨A1,c1,A2,c2,A3,c3⟩ W HR.out HC.out (HA.out.below S.below)).mono ?_
 rintro e w1 ⟨⟨al1,n1,mr1,ed1⟩,⟨D11,d11,D21,d21,D31,d31⟩,rfl,T1,LN1,FA1⟩
 have S1 : Hid (Sep w.heap.size w [eInts al1 (.slice D11 al1.length d11),eInts mr1 (.slice D21 mr1.length d21),eEds ed1 (.slice D31 ed1.length d31),eBlk (w.heap.size + 1) 35 [.slice none 0 0,.int .i64 0,.slice none 0 0,.slice none 0 0],eBlk w.heap.size 35 [.slice A1 al.length c1,.int .i64 (N : Int),.slice A2 mr.length c2,.slice A3 ed.length c3]] w1) := S.news T1.out
 clear T1 S
 obtain ⟨tb,htb⟩ : ∃ g,g = w1.heap.size := ⟨_,rfl⟩
 dsimp only [Au.val]
 go_upto_region 4 with fail
 rw [← htb]
 refine wp_world (fun V => Sep w.heap.size w [eBlk tb 35 [.slice D11 al1.length d11,.int .i64 n1,.slice D21 mr1.length d21,.slice D31 ed1.length d31],eInts al1 (.slice D11 al1.length d11),eInts mr1 (.slice D21 mr1.length d21),eEds ed1 (.slice D31 ed1.length d31),eBlk (w.heap.size + 1) 35 [.slice none 0 0,.int .i64 0,.slice none 0 0,.slice none 0 0],eBlk w.heap.size 35 [.slice A1 al.length c1,.int .i64 (N : Int),.slice A2 mr.length c2,.slice A3 ed.length c3]] V) (S1.out.alloc' _ [_,_,_,_] rfl htb) fun W2 S' => ?_
 have S2 := Lib.hid S'
 clear S' S1 htb
 have q0 := ckC S2.out 0 rfl 0 rfl
 have q1 := ckC S2.out 0 rfl 1 rfl
 have q2 := ckC S2.out 0 rfl 2 rfl
 have q3 := ckC S2.out 0 rfl 3 rfl
 have AT1 : Hid (Au.At W2 ⟨al1,n1,mr1,ed1⟩ ⟨D11,d11,D21,d21,D31,d31⟩) := Sep.au (es := [eBlk (w.heap.size + 1) 35 [.slice none 0 0,.int .i64 0,.slice none 0 0,.slice none 0 0],eBlk w.heap.size 35 [.slice A1 al.length c1,.int .i64 (N : Int),.slice A2 mr.length c2,.slice A3 ed.length c3]]) S2.out.drop1 LN1.out
 have CP1 : Hid (Caps ⟨al1,n1,mr1,ed1⟩ ⟨D11,d11,D21,d21,D31,d31⟩) := Sep.auCaps (es := [eBlk (w.heap.size + 1) 35 [.slice none 0 0,.int .i64 0,.slice none 0 0,.slice none 0 0],eBlk w.heap.size 35 [.slice A1 al.length c1,.int .i64 (N : Int),.slice A2 mr.length c2,.slice A3 ed.length c3]]) S2.out.drop1
 go_wp2_with fail
 refine (minimize_c ⟨al1,n1,mr1,ed1⟩ ⟨D11,d11,D21,d21,D31,d31⟩ _ FA1.out.rt CP1.out AT1.out).mono ?_
 rintro e w3 ⟨⟨al2,n2,mr2,ed2⟩,⟨D12,d12,D22,d22,D32,d32⟩,rfl,T2,LN2,FA2⟩
 have S3 : Hid (Sep w.heap.size w [eInts al2 (.slice D12 al2.length d12),eInts mr2 (.slice D22 mr2.length d22),eEds ed2 (.slice D32 ed2.length d32),eBlk tb 35 [.slice D11 al1.length d11,.int .i64 n1,.slice D21 mr1.length d21,.slice D31 ed1.length d31],eInts al1 (.slice D11 al1.length d11),eInts mr1 (.slice D21 mr1.length d21),eEds ed1 (.slice D31 ed1.length d31),eBlk (w.heap.size + 1) 35 [.slice none 0 0,.int .i64 0,.slice none 0 0,.slice none 0 0],eBlk w.heap.size 35 [.slice A1 al.length c1,.int .i64 (N : Int),.slice A2 mr.length c2,.slice A3 ed.length c3]] w3) := S2.out.news T2.out
 have FM : Hid (IsMin ⟨al2,n2,mr2,ed2⟩ (fun u => rn ⟨al,N,mr,ed⟩ u ∈ mr) ∧ al2 = al) := ⟨Mini.isMin FA1.out FA2.out,FA2.out.al.trans FA1.out.al⟩
 clear T2 S2 q0 q1 q2 q3 AT1 CP1 FA1 FA2
 have r0 := ckC S3.out 7 rfl 0 rfl
 have r1 := ckC S3.out 7 rfl 1 rfl
 have r2 := ckC S3.out 7 rfl 2 rfl
 have r3 := ckC S3.out 7 rfl 3 rfl
 have s0 := BlkAt.free (S3.out.get 7 rfl) 0
 have s1 := BlkAt.free (S3.out.get 7 rfl) 1
 have s2 := BlkAt.free (S3.out.get 7 rfl) 2
 have s3 := BlkAt.free (S3.out.get 7 rfl) 3
 have S4 : Hid (Sep w.heap.size w [eInts al2 (.slice D12 al2.length d12),eInts mr2 (.slice D22 mr2.length d22),eEds ed2 (.slice D32 ed2.length d32),eBlk tb 35 [.slice D11 al1.length d11,.int .i64 n1,.slice D21 mr1.length d21,.slice D31 ed1.length d31],eInts al1 (.slice D11 al1.length d11),eInts mr1 (.slice D21 mr1.length d21),eEds ed1 (.slice D31 ed1.length d31),eBlk (w.heap.size + 1) 35 [.slice D12 al2.length d12,.int .i64 n2,.slice D22 mr2.length d22,.slice D32 ed2.length d32],eBlk w.heap.size 35 [.slice A1 al.length c1,.int .i64 (N : Int),.slice A2 mr.length c2,.slice A3 ed.length c3]] _) := ((((S3.out.set 7 rfl 0 (.slice D12 al2.length d12)).set 7 rfl 1 (.int .i64 n2)).set 7 rfl 2 (.slice D22 mr2.length d22)).set 7 rfl 3 (.slice D32 ed2.length d32))
 have SF : Hid (Sep w.heap.size w (eAu ⟨al2,n2,mr2,ed2⟩ ⟨D12,d12,D22,d22,D32,d32⟩) _) := S4.out.pick [0,1,2] (by decide)
 have t0 := ckC S4.out 7 rfl 0 rfl
 have t1 := ckC S4.out 7 rfl 1 rfl
 have t2 := ckC S4.out 7 rfl 2 rfl
 have t3 := ckC S4.out 7 rfl 3 rfl
 clear S3
 dsimp only [Au.val]
 go_wp2_with fail
 refine bodyPost_ret (v := .tuple #[.agg #[.slice D12 al2.length d12,.int .i64 n2,.slice D22 mr2.length d22,.slice D32 ed2.length d32],.int .i64 0]) (by simp [results,Tryd.results87,go_sem, *]) rfl ?_
 exact ⟨⟨al2,n2,mr2,ed2⟩,⟨D12,d12,D22,d22,D32,d32⟩,rfl,SF.out,LN2.out,FM.out⟩
section
section
variable {κ β : Type} [DecidableEq κ]
def MapS (key : κ → Value) (ve : β → Value) (w : World) (b : Nat) (f : κ → Option β) : Prop :=
 ∃ (l : List (κ × β × Nat)) (clock : Nat),w.heap[b]? = some (.map (l.map (entryG key ve)).toArray clock) ∧ (∀ x,f x = valG l x) ∧ ∀ e,e ∈ l → e.2.2 < clock
theorem MapS.g {key : κ → Value} {ve : β → Value} {w : World} {b : Nat} {f : κ → Option β} (h : MapS key ve w b f) : MapG key ve w b f := by
 obtain ⟨l,c,h1,h2,_⟩ := h
 exact ⟨l,c,h1,h2⟩
def MapW (key : κ → Value) (ve : β → Value) (w : World) (b : Nat) (f : κ → Option β) (y : κ) (z : β) (c : Nat) : Prop :=
 ∃ l : List (κ × β × Nat),w.heap[b]? = some (.map ((l ++ [(y,z,c)]).map (entryG key ve)).toArray (c + 1)) ∧ (∀ x,f x = valG l x) ∧ f y = none ∧ ∀ e,e ∈ l → e.2.2 < c
def eMapS (key : κ → Value) (ve : β → Value) (b : Nat) (f : κ → Option β) : Ent where
 foot := [b]
 ok w := MapS key ve w b f
 lt w h k hk := by simp at hk; subst hk; exact h.g.lt
 turn w w' h hg := by
  obtain ⟨l,c,h1,h2⟩ := h
  exact ⟨l,c,(hg b (by simp)).trans h1,h2⟩
def eMapW (key : κ → Value) (ve : β → Value) (b : Nat) (f : κ → Option β) (y : κ) (z : β) (c : Nat) : Ent where
 foot := [b]
 ok w := MapW key ve w b f y z c
 lt w h k hk := by
  simp at hk; subst hk
  obtain ⟨l,h1,_⟩ := h
  exact (Array.getElem?_eq_some_iff.1 h1).1
 turn w w' h hg := by
  obtain ⟨l,h1,h2⟩ := h
  exact ⟨l,(hg b (by simp)).trans h1,h2⟩
theorem Sep.allocMapS {n : Nat} {w0 w : World} {es : List Ent} (S : Sep n w0 es w) (key : κ → Value) (ve : β → Value) {g : Nat} (hg : g = w.heap.size) : Sep n w0 (eMapS key ve g (fun _ => none) :: es) (w.alloc (.map #[] 0)) := by
 subst hg
 exact S.new1 (Below.new w _) (eMapS key ve w.heap.size (fun _ => none)) ⟨[],0,(MapKept.heap_alloc w _).1,fun _ => rfl,by simp⟩ (by simp [eMapS])
theorem Sep.mapSAs {key : κ → Value} {ve : β → Value} {n b : Nat} {w0 w : World} {es : List Ent} {f : κ → Option β} (S : Sep n w0 es w) (i : Nat) (hi : es[i]? = some (eMapS key ve b f)) (g : κ → Option β) (h : ∀ x,g x = f x) : Sep n w0 (es.set i (eMapS key ve b g)) w :=
 S.as i hi _ (fun hm => by
  obtain ⟨l,c,h1,h2,h3⟩ := hm
  exact ⟨l,c,h1,fun x => (h x).trans (h2 x),h3⟩) (fun _ hg => hg)
theorem valG_fresh {l : List (κ × β × Nat)} {y : κ} (h : valG l y = none) : l.findIdx? (fun e => decide (e.1 = y)) = none := by
 cases hj : l.findIdx? (fun e => decide (e.1 = y)) with
 | none => rfl
 | some j =>
   obtain ⟨e,_,_,h2,_⟩ := valG_some hj
   rw [h] at h2; cases h2
theorem MapS.store {P : Program} {M T E : TypeId} {D : TypeDesc} {key : κ → Value} {ve : β → Value} (K : KeyG P T D key) (hM : P.underlying M = some (.map T E)) {w : World} {b : Nat} {f : κ → Option β} (h : MapS key ve w b f) (y : κ) (hy : f y = none) (v : β) :
 ∃ w',(Instr.mapUpdate M (.map (some b)) (key y) (ve v)).run P w = .ok () w' ∧ MapS key ve w' b (fun u => if u = y then some v else f u) ∧ w.grownBy w' (some b) := by
 obtain ⟨l,c,hb,hf,hs⟩ := h
 have hk := findKeyG_run (ve := ve) K y w l
 have hj := valG_fresh ((hf y).symm.trans hy)
 rw [hj] at hk
 simp only [Option.bind_none] at hk
 refine ⟨ChangeMaps.setBlock w b (.map ((l ++ [(y,v,c)]).map (entryG key ve)).toArray (c + 1)),?_,⟨l ++ [(y,v,c)],c + 1,ChangeMaps.heap_setBlock_same hb _,fun u => by rw [findG_push hj]; simp only [hf],fun e he => ?_⟩,
  ⟨rfl,rfl,rfl,by simp [ChangeMaps.setBlock],fun i _ hi => ChangeMaps.heap_setBlock_other hb _ (fun e => hi (by rw [e]))⟩⟩
 · simp [Instr.mapUpdate,run_underlying hM,MapKept.run_getObj_map hb,K.chk,hk,MapKept.run_setObj_map _ hb,Result.andThen,ChangeMaps.setBlock,entryG]
 · rcases List.mem_append.1 he with g | g
   · have := hs e g; omega
   · rw [List.mem_singleton.1 g]; exact Nat.lt_succ_self c
theorem MapS.entry {P : Program} {M T E : TypeId} {D : TypeDesc} {key : κ → Value} {ve : β → Value} (K : KeyG P T D key) (hM : P.underlying M = some (.map T E)) {z : β} (hz : ∀ w,(zeroValue E).run P w = .ok (ve z) w) {w : World} {b : Nat} {f : κ → Option β} (h : MapS key ve w b f) (y : κ) (hy : f y = none) :
 ∃ (w' : World) (c : Nat),(Instr.mapEntry M (.map (some b)) (key y)).run P w = .ok (.tuple #[ve z,.int .i64 (c : Int)]) w' ∧ MapW key ve w' b f y z c ∧ w.grownBy w' (some b) := by
 obtain ⟨l,c,hb,hf,hs⟩ := h
 have hk := findKeyG_run (ve := ve) K y w l
 have hj := valG_fresh ((hf y).symm.trans hy)
 rw [hj] at hk
 simp only [Option.bind_none] at hk
 refine ⟨ChangeMaps.setBlock w b (.map ((l ++ [(y,z,c)]).map (entryG key ve)).toArray (c + 1)),c,?_,⟨l,ChangeMaps.heap_setBlock_same hb _,hf,hy,hs⟩,
  ⟨rfl,rfl,rfl,by simp [ChangeMaps.setBlock],fun i _ hi => ChangeMaps.heap_setBlock_other hb _ (fun e => hi (by rw [e]))⟩⟩
 simp [Instr.mapEntry,run_underlying hM,MapKept.run_getObj_map hb,K.chk,hk,hz,MapKept.run_setObj_map _ hb,Result.andThen,ChangeMaps.setBlock,entryG,goInt]
theorem MapW.fill {P : Program} {M : TypeId} {key : κ → Value} {ve : β → Value} {w : World} {b : Nat} {f : κ → Option β} {y : κ} {z : β} {c : Nat} (h : MapW key ve w b f y z c) (v : β) :
 ∃ w',(Instr.entryStore M (.map (some b)) (.int .i64 (c : Int)) (ve v)).run P w = .ok () w' ∧ MapS key ve w' b (fun u => if u = y then some v else f u) ∧ w.grownBy w' (some b) := by
 obtain ⟨l,hb,hf,hy,hs⟩ := h
 have hj := valG_fresh ((hf y).symm.trans hy)
 have hidx : ((l ++ [(y,z,c)]).map (entryG key ve)).toArray.findIdx? (fun e => ((e.born : Nat) : Int) == ((c : Nat) : Int)) = some l.length := by
  rw [WideElems.findIdx_arr,List.toList_toArray,List.findIdx?_eq_some_iff_getElem]
  refine ⟨by simp,by simp [entryG],fun j hj => ?_⟩
  have hjl : j < l.length := hj
  have : ((l ++ [(y,z,c)]).map (entryG key ve))[j]'(by simp; omega) = entryG key ve l[j] := by
   rw [List.getElem_map,List.getElem_append_left hjl]
  rw [this]
  have h2 := hs l[j] (List.getElem_mem hjl)
  simp only [entryG,beq_iff_eq]
  omega
 refine ⟨ChangeMaps.setBlock w b (.map ((l ++ [(y,v,c)]).map (entryG key ve)).toArray (c + 1)),?_,⟨l ++ [(y,v,c)],c + 1,ChangeMaps.heap_setBlock_same hb _,fun u => by rw [findG_push hj]; simp only [hf],fun e he => ?_⟩,
  ⟨rfl,rfl,rfl,by simp [ChangeMaps.setBlock],fun i _ hi => ChangeMaps.heap_setBlock_other hb _ (fun e => hi (by rw [e]))⟩⟩
 · have hmod : ((l ++ [(y,z,c)]).map (entryG key ve)).toArray.modify l.length (fun e => { e with val := ve v }) = ((l ++ [(y,v,c)]).map (entryG key ve)).toArray := by
    apply Array.ext'
    rw [Array.toList_modify]
    simp only [List.map_append,List.map_cons,List.map_nil]
    have := WideElems.modify_last (fun e : MapEntry => { e with val := ve v }) (entryG key ve (y,z,c)) (l.map (entryG key ve))
    rw [List.length_map] at this
    exact this
   simp only [List.map_append,List.map_cons,List.map_nil] at hidx hmod hb
   simp [Instr.entryStore,MapKept.run_getObj_map hb,asInt,asIntOf,hidx,hmod,MapKept.run_setObj_map _ hb,Result.andThen,ChangeMaps.setBlock]
 · rcases List.mem_append.1 he with g | g
   · have := hs e g; omega
   · rw [List.mem_singleton.1 g]; exact Nat.lt_succ_self c

variable {n : Nat} {w0 w : World} {es : List Ent} {P : Program} {ops : Array Oper} {o : Oper} {a : Act} {K' : Act → World → Prop} {Q : Exit → Act → World → Prop} {F : Prop}
theorem step_insertS (hg : o.guard = none) (m x v : Operand) (M T E : TypeId) (hop : o.op = Op.insert M m x v) {D : TypeDesc} {key : κ → Value} {ve : β → Value} {b : Nat} {f : κ → Option β} (S : Sep n w0 es w) (i : Nat) (hei : es[i]? = some (eMapS key ve b f)) (K : KeyG P T D key) (hM : P.underlying M = some (.map T E))
 (y : κ) (hy : f y = none) (z : β) (hm : a.eval m = .map (some b)) (hx : a.eval x = key y) (hv : a.eval v = ve z)
 (hK : ∀ w',Sep n w0 (es.set i (eMapS key ve b (fun u => if u = y then some z else f u))) w' → K' (a.put o.dst undef) w') :
 if Region.wanted o (yielded ops a.tmps) = true then Oper.wp P o a w K' Q else F := by
 have hw : Region.wanted o (yielded ops a.tmps) = true := by simp [Region.wanted,hg]
 rw [if_pos hw]
 obtain ⟨w',hrun,r1,r2⟩ := MapS.store K hM (S.get i hei) y hy z
 unfold Oper.wp
 simp [execOp,hop,hm,hx,hv,hrun,Result.andThen]
 exact hK w' (S.chg i hei _ (Off.grown r2) r1 (fun g hg => .inl hg))
theorem step_mapEntryS (hg : o.guard = none) (m x : Operand) (M T E : TypeId) (hop : o.op = Op.mapEntry M m x) {D : TypeDesc} {key : κ → Value} {ve : β → Value} {b : Nat} {f : κ → Option β} (S : Sep n w0 es w) (i : Nat) (hei : es[i]? = some (eMapS key ve b f)) (K : KeyG P T D key) (hM : P.underlying M = some (.map T E))
 {z : β} (hz : ∀ w,(zeroValue E).run P w = .ok (ve z) w) (y : κ) (hy : f y = none) (hm : a.eval m = .map (some b)) (hx : a.eval x = key y)
 (hK : ∀ (c : Nat) w',Sep n w0 (es.set i (eMapW key ve b f y z c)) w' → K' (a.put o.dst (.tuple #[ve z,.int .i64 (c : Int)])) w') :
 if Region.wanted o (yielded ops a.tmps) = true then Oper.wp P o a w K' Q else F := by
 have hw : Region.wanted o (yielded ops a.tmps) = true := by simp [Region.wanted,hg]
 rw [if_pos hw]
 obtain ⟨w',c,hrun,r1,r2⟩ := MapS.entry K hM hz (S.get i hei) y hy
 unfold Oper.wp
 simp [execOp,hop,hm,hx,hrun,Result.andThen]
 exact hK c w' (S.chg i hei _ (Off.grown r2) r1 (fun g hg => .inl hg))
theorem step_entryStoreS (hg : o.guard = none) (m s v : Operand) (M : TypeId) (hop : o.op = Op.entryStore M m s v) {key : κ → Value} {ve : β → Value} {b : Nat} {f : κ → Option β} {y : κ} {z : β} {c : Nat} (S : Sep n w0 es w) (i : Nat) (hei : es[i]? = some (eMapW key ve b f y z c))
 (u : β) (hm : a.eval m = .map (some b)) (hs : a.eval s = .int .i64 (c : Int)) (hv : a.eval v = ve u)
 (hK : ∀ w',Sep n w0 (es.set i (eMapS key ve b (fun x => if x = y then some u else f x))) w' → K' (a.put o.dst undef) w') :
 if Region.wanted o (yielded ops a.tmps) = true then Oper.wp P o a w K' Q else F := by
 have hw : Region.wanted o (yielded ops a.tmps) = true := by simp [Region.wanted,hg]
 rw [if_pos hw]
 obtain ⟨w',hrun,r1,r2⟩ := MapW.fill (P := P) (M := M) (S.get i hei) u
 unfold Oper.wp
 simp [execOp,hop,hm,hs,hv,hrun,Result.andThen]
 exact hK w' (S.chg i hei _ (Off.grown r2) r1 (fun g hg => .inl hg))
end
end
def isDg (b : UInt8) : Prop := 48 ≤ b.toNat ∧ b.toNat ≤ 57
theorem dg_nat {i : Nat} (h : i < 10) : (UInt8.ofNat (48 + i)).toNat = 48 + i := by
 rw [UInt8.toNat_ofNat',Nat.mod_eq_of_lt (by omega)]
theorem decDigits_step {u : Nat} (h : ¬ u < 10) : Lib.decDigits u = Lib.decDigits (u / 10) ++ [UInt8.ofNat (48 + u % 10)] := by
 rw [Lib.decDigits,dif_neg h]
def valD (l : List UInt8) : Nat := l.foldl (fun n b => n * 10 + (b.toNat - 48)) 0
theorem valD_snoc (l : List UInt8) (b : UInt8) : valD (l ++ [b]) = valD l * 10 + (b.toNat - 48) := by simp [valD]
theorem decDigits_val : ∀ (n u : Nat),u ≤ n → valD (Lib.decDigits u) = u ∧ ∀ b,b ∈ Lib.decDigits u → isDg b := by
 intro n
 induction n with
 | zero =>
   intro u h
   obtain rfl : u = 0 := by omega
   rw [Lib.decDigits_one (by omega)]
   refine ⟨rfl,fun b hb => ?_⟩
   rw [List.mem_singleton.1 hb]
   unfold isDg; rw [dg_nat (by omega)]; omega
 | succ n ih =>
   intro u h
   by_cases g : u < 10
   · rw [Lib.decDigits_one g]
     refine ⟨by unfold valD; simp only [List.foldl]; rw [dg_nat g]; omega,fun b hb => ?_⟩
     rw [List.mem_singleton.1 hb]
     unfold isDg; rw [dg_nat g]; omega
   · obtain ⟨h1,h2⟩ := ih (u / 10) (by omega)
     rw [decDigits_step g]
     refine ⟨?_,fun b hb => ?_⟩
     · rw [valD_snoc,h1,dg_nat (by omega)]; omega
     · rcases List.mem_append.1 hb with k | k
       · exact h2 b k
       · rw [List.mem_singleton.1 k]
         unfold isDg; rw [dg_nat (by omega)]; omega
theorem itoa_no32 (n : Int) : ∀ b,b ∈ Lib.itoa n → b ≠ 32 := by
 intro b hb e
 subst e
 unfold Lib.itoa at hb
 split at hb
 · rcases List.mem_cons.1 hb with k | k
   · exact absurd k (by decide)
   · have := (decDigits_val _ _ (Nat.le_refl _)).2 _ k
     unfold isDg at this
     have : (32 : UInt8).toNat = 32 := rfl
     omega
 · have := (decDigits_val _ _ (Nat.le_refl _)).2 _ hb
   unfold isDg at this
   have : (32 : UInt8).toNat = 32 := rfl
   omega
theorem itoa_inj {m n : Int} (h : Lib.itoa m = Lib.itoa n) : m = n := by
 have no45 : ∀ u : Nat,¬ (45 : UInt8) ∈ Lib.decDigits u := fun u hu => by
  have := (decDigits_val _ _ (Nat.le_refl _)).2 _ hu
  unfold isDg at this
  have : (45 : UInt8).toNat = 45 := rfl
  omega
 have val : ∀ {u v : Nat},Lib.decDigits u = Lib.decDigits v → u = v := fun {u v} e => by
  have h1 := (decDigits_val u u (Nat.le_refl _)).1
  have h2 := (decDigits_val v v (Nat.le_refl _)).1
  rw [e] at h1; omega
 unfold Lib.itoa at h
 by_cases h1 : m < 0 <;> by_cases h2 : n < 0
 · rw [if_pos h1,if_pos h2] at h
   have := val (List.cons.inj h).2
   omega
 · rw [if_pos h1,if_neg h2] at h
   exact absurd (by rw [← h]; simp) (no45 n.toNat)
 · rw [if_neg h1,if_pos h2] at h
   exact absurd (by rw [h]; simp) (no45 m.toNat)
 · rw [if_neg h1,if_neg h2] at h
   have := val h
   omega
theorem split32 : ∀ {a b c d : List UInt8},(∀ x,x ∈ a → x ≠ 32) → (∀ x,x ∈ c → x ≠ 32) → a ++ 32 :: b = c ++ 32 :: d → a = c ∧ b = d
 | [],b,[],d,_,_,h => ⟨rfl,(List.cons.inj h).2⟩
 | [],b,y :: c,d,_,hc,h => absurd (List.cons.inj h).1.symm (hc y (by simp))
 | x :: a,b,[],d,ha,_,h => absurd (List.cons.inj h).1 (ha x (by simp))
 | x :: a,b,y :: c,d,ha,hc,h => by
   obtain ⟨h1,h2⟩ := List.cons.inj h
   obtain ⟨h3,h4⟩ := split32 (fun z hz => ha z (by simp [hz])) (fun z hz => hc z (by simp [hz])) h2
   exact ⟨by rw [h1,h3],h4⟩
def textP (p : Int × Int) : ByteArray := ⟨(Lib.itoa p.1 ++ 32 :: Lib.itoa p.2).toArray⟩
theorem textP_inj {p q : Int × Int} (h : textP p = textP q) : p = q := by
 have h1 := congrArg (fun b : ByteArray => b.data.toList) h
 simp only [textP,List.toList_toArray] at h1
 obtain ⟨h2,h3⟩ := split32 (itoa_no32 _) (itoa_no32 _) h1
 obtain ⟨a,b⟩ := p
 obtain ⟨c,d⟩ := q
 simp only at h2 h3
 rw [itoa_inj h2,itoa_inj h3]
end Go.Proofs.YtkifgffhoenaoaaDoor
