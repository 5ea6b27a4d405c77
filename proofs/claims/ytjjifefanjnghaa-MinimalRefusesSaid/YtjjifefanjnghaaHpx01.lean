/-
  How arguments read: structs by their fields, slices by their elements, whatever these are.
  How automata, edges, problems and certificates read.
  overseerlaw08.MinimalRefuses.
-/
import Derived.Test.YtjjifefanjnghaaBas01
import Derived.WalkKit
import Derived.ProofKit
import Derived.OpenShut
import Derived.ShutString
import Derived.ChangeOld
import Derived.Below
import Derived.Lib.SmallJoins
import Derived.Deep.MidRow
import Derived.Test.YtjjifefanjnghaaRows
import Derived.Test.YtjjifefanjnghaaBas04
import Derived.Test.YtjjifefanjnghaaBas09
set_option linter.unusedSimpArgs false
set_option linter.unusedVariables false
namespace Go.Proofs.Ytjjifefanjnghaa
open Go.RowKit
set_option maxRecDepth 100000
section
open Go.ChangeShapes Go.WideShapes Go.ChangeAt Go.RowKit

section
variable {H : Type} {enc : TypeId × Value → H} {P : Program} {w : World} {base : Nat} {spare : Nat → Bool} {held : Bool}

def consec (P : Program) : List Field → Nat → Nat → Bool
 | [],n,m => n == m
 | f :: r,n,m => f.offset == n && consec P r (n + P.cellsOf f.type) m
theorem consec_cut {P : Program} : ∀ (fs : List Field) (n m : Nat) (cs : List Value),consec P fs n m = true → cs.length = m →
 n ≤ m ∧ cs.drop n = (fs.map fun f => (cs.drop f.offset).take (P.cellsOf f.type)).flatten ∧ ∀ f,f ∈ fs → ((cs.drop f.offset).take (P.cellsOf f.type)).length = P.cellsOf f.type := by
 intro fs
 induction fs with
 | nil =>
   intro n m cs h hl
   have : n = m := by simpa [consec] using h
   subst this
   exact ⟨Nat.le_refl _,by simp [hl],fun f hf => by cases hf⟩
 | cons f r ih =>
   intro n m cs h hl
   simp only [consec,Bool.and_eq_true,beq_iff_eq] at h
   obtain ⟨h1,h2⟩ := h
   obtain ⟨g1,g2,g3⟩ := ih _ _ cs h2 hl
   refine ⟨by omega,?_,fun x hx => ?_⟩
   · simp only [List.map_cons,List.flatten_cons]
     rw [← g2,h1,← List.drop_drop,List.take_append_drop]
   · rcases List.mem_cons.1 hx with rfl | hx
     · rw [List.length_take,List.length_drop]; omega
     · exact g3 x hx

theorem st_of {t : TypeId} {fs : List Field} (ht : P.underlying t = some (.struct fs.toArray)) (hc : consec P fs 0 (P.cellsOf t) = true) {fuel : Nat} {cs : List Value} {x : DataW H × List MemPlace}
 (h : DataW.trod enc P w base spare held fuel t cs = some x) :
 ∃ css : List (List Value),cs = css.flatten ∧ css.length = fs.length ∧ ∀ (i : Nat) (f : Field),fs[i]? = some f → ∃ (c : List Value) (y : DataW H × List MemPlace) (n : Nat),css[i]? = some c ∧ c.length = P.cellsOf f.type ∧ DataW.trod enc P w base spare held n f.type c = some y := by
 obtain ⟨xs,n,_,_,hl,hlen,hf⟩ := DataW.trod_struct ht h
 obtain ⟨_,g2,g3⟩ := consec_cut fs 0 _ cs hc hl
 refine ⟨fs.map fun f => (cs.drop f.offset).take (P.cellsOf f.type),by simpa using g2,by simp,fun i f hfi => ?_⟩
 have h1 := hf i f (by simpa using hfi)
 have hi : i < fs.length := (List.getElem?_eq_some_iff.1 hfi).1
 rw [List.getElem?_eq_getElem (by simp at hlen; omega)] at h1
 exact ⟨_,_,n,by rw [List.getElem?_map,hfi]; rfl,g3 f (List.mem_of_getElem? hfi),h1⟩
theorem st3_of {t : TypeId} {f0 f1 f2 : Field} (ht : P.underlying t = some (.struct #[f0,f1,f2])) (hc : consec P [f0,f1,f2] 0 (P.cellsOf t) = true) {fuel : Nat} {cs : List Value} {x : DataW H × List MemPlace}
 (h : DataW.trod enc P w base spare held fuel t cs = some x) :
 ∃ (c0 c1 c2 : List Value) (y0 y1 y2 : DataW H × List MemPlace) (n0 n1 n2 : Nat),cs = c0 ++ (c1 ++ c2) ∧ DataW.trod enc P w base spare held n0 f0.type c0 = some y0 ∧ DataW.trod enc P w base spare held n1 f1.type c1 = some y1 ∧ DataW.trod enc P w base spare held n2 f2.type c2 = some y2 := by
 obtain ⟨css,rfl,hl,hf⟩ := st_of (fs := [f0,f1,f2]) ht hc h
 match css,hl with
 | [c0,c1,c2],_ =>
   obtain ⟨_,y0,n0,e0,_,t0⟩ := hf 0 f0 rfl
   obtain ⟨_,y1,n1,e1,_,t1⟩ := hf 1 f1 rfl
   obtain ⟨_,y2,n2,e2,_,t2⟩ := hf 2 f2 rfl
   cases e0; cases e1; cases e2
   exact ⟨c0,c1,c2,y0,y1,y2,n0,n1,n2,by simp,t0,t1,t2⟩
theorem st4_of {t : TypeId} {f0 f1 f2 f3 : Field} (ht : P.underlying t = some (.struct #[f0,f1,f2,f3])) (hc : consec P [f0,f1,f2,f3] 0 (P.cellsOf t) = true) {fuel : Nat} {cs : List Value} {x : DataW H × List MemPlace}
 (h : DataW.trod enc P w base spare held fuel t cs = some x) :
 ∃ (c0 c1 c2 c3 : List Value) (y0 y1 y2 y3 : DataW H × List MemPlace) (n0 n1 n2 n3 : Nat),cs = c0 ++ (c1 ++ (c2 ++ c3)) ∧ DataW.trod enc P w base spare held n0 f0.type c0 = some y0 ∧ DataW.trod enc P w base spare held n1 f1.type c1 = some y1 ∧ DataW.trod enc P w base spare held n2 f2.type c2 = some y2 ∧ DataW.trod enc P w base spare held n3 f3.type c3 = some y3 := by
 obtain ⟨css,rfl,hl,hf⟩ := st_of (fs := [f0,f1,f2,f3]) ht hc h
 match css,hl with
 | [c0,c1,c2,c3],_ =>
   obtain ⟨_,y0,n0,e0,_,t0⟩ := hf 0 f0 rfl
   obtain ⟨_,y1,n1,e1,_,t1⟩ := hf 1 f1 rfl
   obtain ⟨_,y2,n2,e2,_,t2⟩ := hf 2 f2 rfl
   obtain ⟨_,y3,n3,e3,_,t3⟩ := hf 3 f3 rfl
   cases e0; cases e1; cases e2; cases e3
   exact ⟨c0,c1,c2,c3,y0,y1,y2,y3,n0,n1,n2,n3,by simp,t0,t1,t2,t3⟩

theorem sl_of {α : Type} {E : Reading α} {k : Nat} {t e : TypeId} (ht : P.underlying t = some (.slice e)) (hce : P.cellsOf e = k) (hk : 0 < k)
 (hel : ∀ (n : Nat) (cs : List Value) (x : DataW H × List MemPlace),DataW.trod enc P w base spare held n e cs = some x → ∃ y : α,E w y cs) {fuel : Nat} {cs : List Value} {x : DataW H × List MemPlace}
 (h : DataW.trod enc P w base spare held fuel t cs = some x) : ∃ (A : Option Addr) (c : Nat) (l : List α),cs = [.slice A l.length c] ∧ SlAt E k w A l ∧ l.length ≤ c ∧ c ≤ maxLen := by
 rcases DataW.trod_slice ht h with ⟨rfl,_⟩ | ⟨a,len,cap,elems,rest,n,_,rfl,_,_,hl,hm,hlen,hi,_,_⟩
 · exact ⟨none,0,[],rfl,SlAt.nil,by simp,by simp⟩
 · rw [hce] at hi
   have hx : ∀ i,i < len → ∃ y : α,∃ vs : List Value,vs.length = k ∧ E w y vs ∧ ∀ j v,vs[j]? = some v → w.cell? ((a.add (i * k)).add j) = some v := fun i hil => by
    have h1 := hi i hil
    rw [List.getElem?_eq_getElem (by omega)] at h1
    obtain ⟨cs',hc,hd⟩ := Option.bind_eq_some_iff.1 h1
    obtain ⟨_,hcl,hat⟩ := World.cells?_some hc
    obtain ⟨y,hy⟩ := hel n cs' _ hd
    refine ⟨y,cs',hcl,hy,fun j v hj => ?_⟩
    have hjk : j < k := by have := (List.getElem?_eq_some_iff.1 hj).1; omega
    rw [hat j hjk,hj]
   let f : Fin len → α := fun i => Classical.choose (hx i.1 i.2)
   have hf : ∀ i : Fin len,∃ vs : List Value,vs.length = k ∧ E w (f i) vs ∧ ∀ j v,vs[j]? = some v → w.cell? ((a.add (i.1 * k)).add j) = some v := fun i => Classical.choose_spec (hx i.1 i.2)
   refine ⟨some a,cap,List.ofFn f,by simp,fun hne => ?_,by simpa using hl,hm⟩
   have h0 : 0 < len := by
    rcases Nat.eq_zero_or_pos len with e | e
    · subst e; simp at hne
    · exact e
   obtain ⟨vs,hvl,_,hv⟩ := hf ⟨0,h0⟩
   obtain ⟨u,hu⟩ : ∃ u,vs[0]? = some u := ⟨_,List.getElem?_eq_getElem (by omega)⟩
   obtain ⟨b,off,spot⟩ := a
   have hc0 := hv 0 u hu
   have hspot : spot = none := by simpa [Addr.add] using World.cell?_spot hc0
   subst hspot
   refine ⟨b,off,rfl,?_,fun i x hxx => ?_⟩
   · have := World.block_lt_of_cell? w _ hc0
     simpa [Addr.add] using this
   · obtain ⟨hil,rfl⟩ := List.getElem?_eq_some_iff.1 hxx
     have hil' : i < len := by simpa using hil
     obtain ⟨vs,g1,g2,g3⟩ := hf ⟨i,hil'⟩
     refine ⟨vs,g1,by simpa using g2,fun j v hj => ?_⟩
     have := g3 j v hj
     simpa [Addr.add_mid,Nat.add_assoc] using this
theorem int_of {t : TypeId} (he : P.underlying t = some (.int .i64)) {fuel : Nat} {cs : List Value} {x : DataW H × List MemPlace} (h : DataW.trod enc P w base spare held fuel t cs = some x) : ∃ n : Int,cs = [.int .i64 n] := by
 obtain ⟨n,hn,_,_⟩ := DataW.trod_int he h
 exact ⟨n,hn⟩
theorem i64s_of {t e : TypeId} (ht : P.underlying t = some (.slice e)) (he : P.underlying e = some (.int .i64)) (hce : P.cellsOf e = 1) {fuel : Nat} {cs : List Value} {x : DataW H × List MemPlace}
 (h : DataW.trod enc P w base spare held fuel t cs = some x) : ∃ (A : Option Addr) (c : Nat) (l : List Int),cs = [.slice A l.length c] ∧ IntsAt w A l ∧ l.length ≤ c ∧ c ≤ maxLen :=
 sl_of (E := IntE) ht hce (by decide) (fun n cs x h => int_of he h) h
end
end
section
open Go.ChangeShapes Go.WideShapes Go.ChangeAt Go.RowKit

theorem own_ : ownKnob Try.prog.godebug = none := by kernel_rfl
theorem laidOut_ : laidOutB Try.prog = true := by kernel_rfl
section
variable {H : Type} {enc : TypeId × Value → H} {w : World} {base : Nat} {spare : Nat → Bool} {held : Bool}
theorem ints_of_ {fuel : Nat} {cs : List Value} {x : DataW H × List MemPlace} (h : DataW.trod enc Try.prog w base spare held fuel 22 cs = some x) : ∃ (A : Option Addr) (c : Nat) (l : List Int),cs = [.slice A l.length c] ∧ IntsAt w A l ∧ l.length ≤ c ∧ c ≤ maxLen :=
 i64s_of Try.underlying22 Try.underlying3 (by kernel_rfl) h
theorem ed_of {fuel : Nat} {cs : List Value} {x : DataW H × List MemPlace} (h : DataW.trod enc Try.prog w base spare held fuel 70 cs = some x) : ∃ y : Ed,EdE w y cs := by
 obtain ⟨c0,c1,c2,_,_,_,_,_,_,rfl,h0,h1,h2⟩ := st3_of Try.underlying70 (by kernel_rfl) h
 obtain ⟨a,rfl⟩ := int_of Try.underlying3 h0
 obtain ⟨b,rfl⟩ := int_of Try.underlying3 h1
 obtain ⟨c,rfl⟩ := int_of Try.underlying3 h2
 exact ⟨⟨a,b,c⟩,rfl⟩
theorem eds_of {fuel : Nat} {cs : List Value} {x : DataW H × List MemPlace} (h : DataW.trod enc Try.prog w base spare held fuel 23 cs = some x) : ∃ (A : Option Addr) (c : Nat) (l : List Ed),cs = [.slice A l.length c] ∧ EdsAt w A l ∧ l.length ≤ c ∧ c ≤ maxLen :=
 sl_of (E := EdE) Try.underlying23 (by kernel_rfl) (by decide) (fun n cs x h => ed_of h) h
structure AuIn (w : World) (a : Au) (p : AuP) : Prop where
 h1 : IntsAt w p.A1 a.al
 h2 : IntsAt w p.A2 a.mr
 h3 : EdsAt w p.A3 a.ed
 l1 : a.al.length ≤ p.c1
 l2 : a.mr.length ≤ p.c2
 l3 : a.ed.length ≤ p.c3
 m1 : p.c1 ≤ maxLen
 m2 : p.c2 ≤ maxLen
 m3 : p.c3 ≤ maxLen
theorem au_of {fuel : Nat} {cs : List Value} {x : DataW H × List MemPlace} (h : DataW.trod enc Try.prog w base spare held fuel 25 cs = some x) :
 ∃ (a : Au) (p : AuP),cs = [.slice p.A1 a.al.length p.c1,.int .i64 a.n,.slice p.A2 a.mr.length p.c2,.slice p.A3 a.ed.length p.c3] ∧ AuIn w a p := by
 obtain ⟨c0,c1,c2,c3,_,_,_,_,_,_,_,_,rfl,h0,h1,h2,h3⟩ := st4_of Try.underlying25 (by kernel_rfl) h
 obtain ⟨A1,d1,l1,rfl,i1,m1,k1⟩ := ints_of_ h0
 obtain ⟨n,rfl⟩ := int_of Try.underlying3 h1
 obtain ⟨A2,d2,l2,rfl,i2,m2,k2⟩ := ints_of_ h2
 obtain ⟨A3,d3,l3,rfl,i3,m3,k3⟩ := eds_of h3
 exact ⟨⟨l1,n,l2,l3⟩,⟨A1,d1,A2,d2,A3,d3⟩,rfl,i1,i2,i3,m1,m2,m3,k1,k2,k3⟩
end
theorem cells_of {H : Type} {enc : TypeId × Value → H} {P : Program} {w : World} {base : Nat} {spare : Nat → Bool} {held : Bool} {t : TypeId} {fs : Array Field} {r : Reach} {b0 : Nat} {v : Value} {d : DataW H} {p : List MemPlace} (ht : P.underlying t = some (.struct fs)) (hv : Value.okWide P w r b0 t v) (h : DataW.Trod enc P w base spare held t v d p) :
 ∃ (cs : List Value) (fuel : Nat),v = .agg cs.toArray ∧ DataW.trod enc P w base spare held fuel t cs = some (d,p) := by
 obtain ⟨⟨cs⟩,rfl,hsz⟩ := okWide_struct ht hv
 obtain ⟨fuel,hf⟩ := h
 exact ⟨cs,fuel,rfl,by simpa [Value.cells] using hf⟩
theorem acells_of {H : Type} {enc : TypeId × Value → H} {P : Program} {w : World} {base : Nat} {spare : Nat → Bool} {held : Bool} {t e : TypeId} {n : Nat} {r : Reach} {b0 : Nat} {v : Value} {d : DataW H} {p : List MemPlace} (ht : P.underlying t = some (.array n e)) (hv : Value.okWide P w r b0 t v) (h : DataW.Trod enc P w base spare held t v d p) :
 ∃ (cs : List Value) (fuel : Nat),v = .agg cs.toArray ∧ DataW.trod enc P w base spare held fuel t cs = some (d,p) := by
 unfold Value.okWide at hv
 rw [ht] at hv
 obtain ⟨⟨cs⟩,rfl,_,_⟩ := hv
 obtain ⟨fuel,hf⟩ := h
 exact ⟨cs,fuel,rfl,by simpa [Value.cells] using hf⟩
theorem pair_in {H : Type} {enc : TypeId × Value → H} {w : World} {base : Nat} {spare : Nat → Bool} {held : Bool} {v : Value} {d : DataW H} {p : List MemPlace} {r : Reach} {b0 : Nat} (hv : Value.okWide Try.prog w r b0 26 v) (h : DataW.Trod enc Try.prog w base spare held 26 v d p) :
 ∃ s1 s2 : Int,v = .agg #[.int .i64 s1,.int .i64 s2] := by
 obtain ⟨cs,fuel,rfl,hq⟩ := acells_of Try.underlying26 hv h
 obtain ⟨xs,m,_,_,hl,hlen,hf⟩ := DataW.trod_array Try.underlying26 hq
 have hc : Try.prog.cellsOf 3 = 1 := by kernel_rfl
 have hc2 : Try.prog.cellsOf 26 = 2 := by kernel_rfl
 rw [hc2] at hl
 match cs,hl with
 | [c0,c1],_ =>
   have h0 := hf 0 (by decide)
   have h1 := hf 1 (by decide)
   rw [hc,List.getElem?_eq_getElem (by omega)] at h0 h1
   obtain ⟨s1,e1⟩ := int_of Try.underlying3 (show DataW.trod enc Try.prog w base spare held m 3 [c0] = _ from h0)
   obtain ⟨s2,e2⟩ := int_of Try.underlying3 (show DataW.trod enc Try.prog w base spare held m 3 [c1] = _ from h1)
   cases e1; cases e2
   exact ⟨s1,s2,rfl⟩
end
theorem few_need {a b : Au} (ha : a.Right) (hb : b.Right) (h1 : FewV a) (h2 : FewV b) : (a.n.toNat + 2) * (b.n.toNat + 2) ≤ 1000000 := by
 have e1 : a.n.toNat + 2 ≤ 10 := by rcases h1.2.2.2 with h | h; · omega
                                    · have := ha.n1; omega
 have e2 : b.n.toNat + 2 ≤ 10 := by rcases h2.2.2.2 with h | h; · omega
                                    · have := hb.n1; omega
 exact Nat.le_trans (Nat.mul_le_mul e1 e2) (by decide)
set_option maxHeartbeats 8000000 in
theorem refuses8_c (a b : Au) (p q : AuP) (s1 s2 : Int) (w : World) (ca : Caps a p) (cb : Caps b q) (hA : FewV a → Au.At w a p) (hB : FewV b → Au.At w b q) :
 Calls Try.prog 3 #[a.val p,b.val q,.agg #[.int .i64 s1,.int .i64 s2]] w (Ret (.bool true) w) := by
 have HA0 := Lib.hid hA
 have HB0 := Lib.hid hB
 have CA := Lib.hid ca
 have CB := Lib.hid cb
 obtain ⟨al,n,mr,ed⟩ := a
 obtain ⟨A1,c1,A2,c2,A3,c3⟩ := p
 obtain ⟨bl,m,nr,fd⟩ := b
 obtain ⟨B1,d1,B2,d2,B3,d3⟩ := q
 dsimp only [Au.val]
 clear hA hB ca cb
 go_enter Try.func3,Try.ntmps3
 go_upto_region 1 with fail
 refine wp_world (fun W => Sep w.heap.size w [eBlk (w.heap.size + 1 + 1) 26 [.int .i64 s1,.int .i64 s2],eBlk (w.heap.size + 1) 25 [.slice B1 bl.length d1,.int .i64 m,.slice B2 nr.length d2,.slice B3 fd.length d3],eBlk w.heap.size 25 [.slice A1 al.length c1,.int .i64 n,.slice A2 mr.length c2,.slice A3 ed.length c3]] W) ?_ fun W S => ?_
 · exact ((((Sep.here w).alloc' _ [_,_,_,_] rfl rfl).alloc' _ [_,_,_,_] (g := w.heap.size + 1) rfl (by simp)).alloc' _ [_,_] (g := w.heap.size + 1 + 1) rfl (by simp))
 have S0 : Hid (Sep w.heap.size w [eBlk (w.heap.size + 1 + 1) 26 [.int .i64 s1,.int .i64 s2],eBlk (w.heap.size + 1) 25 [.slice B1 bl.length d1,.int .i64 m,.slice B2 nr.length d2,.slice B3 fd.length d3],eBlk w.heap.size 25 [.slice A1 al.length c1,.int .i64 n,.slice A2 mr.length c2,.slice A3 ed.length c3]] W) := S
 clear S
 have p0 := BlkAt.cell (S0.out.get 0 rfl) 0; have p1 := BlkAt.cell (S0.out.get 0 rfl) 1; have b0 := BlkAt.cell (S0.out.get 1 rfl) 0; have b1 := BlkAt.cell (S0.out.get 1 rfl) 1; have b2 := BlkAt.cell (S0.out.get 1 rfl) 2; have b3 := BlkAt.cell (S0.out.get 1 rfl) 3; have a0 := BlkAt.cell (S0.out.get 2 rfl) 0; have a1 := BlkAt.cell (S0.out.get 2 rfl) 1; have a2 := BlkAt.cell (S0.out.get 2 rfl) 2; have a3 := BlkAt.cell (S0.out.get 2 rfl) 3; simp only [List.getElem?_cons_succ,List.getElem?_cons_zero] at p0 p1 b0 b1 b2 b3 a0 a1 a2 a3
 go_wp2_with fail
 refine (known8_c W).mono ?_
 rintro e w1 ⟨rfl,hb⟩
 have S1 := Lib.hid (S0.out.next hb)
 clear hb p0 p1 b0 b1 b2 b3 a0 a1 a2 a3 S0
 have p0 := BlkAt.cell (S1.out.get 0 rfl) 0; have p1 := BlkAt.cell (S1.out.get 0 rfl) 1; have b0 := BlkAt.cell (S1.out.get 1 rfl) 0; have b1 := BlkAt.cell (S1.out.get 1 rfl) 1; have b2 := BlkAt.cell (S1.out.get 1 rfl) 2; have b3 := BlkAt.cell (S1.out.get 1 rfl) 3; have a0 := BlkAt.cell (S1.out.get 2 rfl) 0; have a1 := BlkAt.cell (S1.out.get 2 rfl) 1; have a2 := BlkAt.cell (S1.out.get 2 rfl) 2; have a3 := BlkAt.cell (S1.out.get 2 rfl) 3; simp only [List.getElem?_cons_succ,List.getElem?_cons_zero] at p0 p1 b0 b1 b2 b3 a0 a1 a2 a3
 go_wp2_with fail
 refine (few8_c ⟨al,n,mr,ed⟩ ⟨A1,c1,A2,c2,A3,c3⟩ w1).mono ?_
 intro e w2 hs
 rcases hs.no1 with ⟨rfl,hf,hb⟩ | ⟨rfl,hf,hb⟩
 · have S2 := Lib.hid (S1.out.next hb)
   clear hb hf hs S1 p0 p1 b0 b1 b2 b3 a0 a1 a2 a3
   go_wp2_with fail
   refine (known8_c w2).mono ?_
   rintro e w3 ⟨rfl,hb⟩
   have S3 := Lib.hid (S2.out.next hb)
   clear hb S2
   go_wp2_with fail
   go_ret
   exact ⟨rfl,S3.out.below⟩
 have FA := Lib.hid hf.out
 have HA := Lib.hid (HA0.out FA.out)
 have S2 := Lib.hid (S1.out.next hb)
 clear hb hf hs S1 p0 p1 b0 b1 b2 b3 a0 a1 a2 a3
 have p0 := BlkAt.cell (S2.out.get 0 rfl) 0; have p1 := BlkAt.cell (S2.out.get 0 rfl) 1; have b0 := BlkAt.cell (S2.out.get 1 rfl) 0; have b1 := BlkAt.cell (S2.out.get 1 rfl) 1; have b2 := BlkAt.cell (S2.out.get 1 rfl) 2; have b3 := BlkAt.cell (S2.out.get 1 rfl) 3; have a0 := BlkAt.cell (S2.out.get 2 rfl) 0; have a1 := BlkAt.cell (S2.out.get 2 rfl) 1; have a2 := BlkAt.cell (S2.out.get 2 rfl) 2; have a3 := BlkAt.cell (S2.out.get 2 rfl) 3; simp only [List.getElem?_cons_succ,List.getElem?_cons_zero] at p0 p1 b0 b1 b2 b3 a0 a1 a2 a3
 go_wp2_with fail
 refine (few8_c ⟨bl,m,nr,fd⟩ ⟨B1,d1,B2,d2,B3,d3⟩ w2).mono ?_
 intro e w3 hs
 rcases hs.no1 with ⟨rfl,hf,hb⟩ | ⟨rfl,hf,hb⟩
 · have S3 := Lib.hid (S2.out.next hb)
   clear hb hf hs S2 p0 p1 b0 b1 b2 b3 a0 a1 a2 a3
   go_wp2_with fail
   refine (known8_c w3).mono ?_
   rintro e w4 ⟨rfl,hb⟩
   have S4 := Lib.hid (S3.out.next hb)
   clear hb S3
   go_wp2_with fail
   go_ret
   exact ⟨rfl,S4.out.below⟩
 have FB := Lib.hid hf.out
 have HB := Lib.hid (HB0.out FB.out)
 have S3 := Lib.hid (S2.out.next hb)
 clear hb hf hs S2 p0 p1 b0 b1 b2 b3 a0 a1 a2 a3
 have p0 := BlkAt.cell (S3.out.get 0 rfl) 0; have p1 := BlkAt.cell (S3.out.get 0 rfl) 1; have b0 := BlkAt.cell (S3.out.get 1 rfl) 0; have b1 := BlkAt.cell (S3.out.get 1 rfl) 1; have b2 := BlkAt.cell (S3.out.get 1 rfl) 2; have b3 := BlkAt.cell (S3.out.get 1 rfl) 3; have a0 := BlkAt.cell (S3.out.get 2 rfl) 0; have a1 := BlkAt.cell (S3.out.get 2 rfl) 1; have a2 := BlkAt.cell (S3.out.get 2 rfl) 2; have a3 := BlkAt.cell (S3.out.get 2 rfl) 3; simp only [List.getElem?_cons_succ,List.getElem?_cons_zero] at p0 p1 b0 b1 b2 b3 a0 a1 a2 a3
 go_wp2_with fail
 refine (CheckX_c ⟨al,n,mr,ed⟩ ⟨A1,c1,A2,c2,A3,c3⟩ w3 (HA.out.below S3.out.below)).mono ?_
 rintro e w4 ⟨r,rfl,hr,hb⟩
 have S4 := Lib.hid (S3.out.next hb)
 have CR := Lib.hid hr
 clear hr
 clear hb p0 p1 b0 b1 b2 b3 a0 a1 a2 a3 S3
 have p0 := BlkAt.cell (S4.out.get 0 rfl) 0; have p1 := BlkAt.cell (S4.out.get 0 rfl) 1; have b0 := BlkAt.cell (S4.out.get 1 rfl) 0; have b1 := BlkAt.cell (S4.out.get 1 rfl) 1; have b2 := BlkAt.cell (S4.out.get 1 rfl) 2; have b3 := BlkAt.cell (S4.out.get 1 rfl) 3; have a0 := BlkAt.cell (S4.out.get 2 rfl) 0; have a1 := BlkAt.cell (S4.out.get 2 rfl) 1; have a2 := BlkAt.cell (S4.out.get 2 rfl) 2; have a3 := BlkAt.cell (S4.out.get 2 rfl) 3; simp only [List.getElem?_cons_succ,List.getElem?_cons_zero] at p0 p1 b0 b1 b2 b3 a0 a1 a2 a3
 go_wp2_with fail
 refine (classesX_c ⟨al,n,mr,ed⟩ ⟨A1,c1,A2,c2,A3,c3⟩ w4 (fun _ => CA.out) (HA.out.below S4.out.below)).mono ?_
 intro e w5 hs
 obtain ⟨V8,N8,C8,rfl,hb,h8⟩ : ∃ V N C,e = .returned (.tuple #[.slice V N C,.int .i64 r]) ∧ Below w4.heap.size w4 w5 ∧ Hid (r ≠ 0 → N = 0) := by
  obtain ⟨r',hr',⟨h0,he,hb⟩ | ⟨h0,g,c,k,he,T,_⟩⟩ := hs
  · obtain rfl := hr'.uniq CR.out
    exact ⟨_,_,_,he,hb,fun _ => rfl⟩
  · obtain rfl := hr'.uniq CR.out
    exact ⟨_,_,_,by rw [he,h0],T.out.below,fun h => absurd h0 h⟩
 have S5 := Lib.hid (S4.out.next hb)
 clear hb hs S4 p0 p1 b0 b1 b2 b3 a0 a1 a2 a3
 have p0 := BlkAt.cell (S5.out.get 0 rfl) 0; have p1 := BlkAt.cell (S5.out.get 0 rfl) 1; have b0 := BlkAt.cell (S5.out.get 1 rfl) 0; have b1 := BlkAt.cell (S5.out.get 1 rfl) 1; have b2 := BlkAt.cell (S5.out.get 1 rfl) 2; have b3 := BlkAt.cell (S5.out.get 1 rfl) 3; have a0 := BlkAt.cell (S5.out.get 2 rfl) 0; have a1 := BlkAt.cell (S5.out.get 2 rfl) 1; have a2 := BlkAt.cell (S5.out.get 2 rfl) 2; have a3 := BlkAt.cell (S5.out.get 2 rfl) 3; simp only [List.getElem?_cons_succ,List.getElem?_cons_zero] at p0 p1 b0 b1 b2 b3 a0 a1 a2 a3
 go_wp2_with fail
 refine (minimizeX_c ⟨al,n,mr,ed⟩ ⟨A1,c1,A2,c2,A3,c3⟩ w5 (fun _ => CA.out) (HA.out.below S5.out.below)).mono ?_
 intro e w6 hs
 obtain ⟨⟨ml,mn,mm,me⟩,⟨D1,e1,D2,e2,D3,e3⟩,rfl,hb,h10⟩ : ∃ (m : Au) (p : AuP),e = .returned (.tuple #[m.val p,.int .i64 r]) ∧ Below w5.heap.size w5 w6 ∧ Hid (Au.At w6 m p ∧ (r ≠ 0 → m = ⟨[],0,[],[]⟩)) := by
  obtain ⟨r',hr',⟨h0,he,hb⟩ | ⟨h0,m,p',he,T,LN,_⟩⟩ := hs
  · obtain rfl := hr'.uniq CR.out
    exact ⟨⟨[],0,[],[]⟩,⟨none,0,none,0,none,0⟩,he,hb,⟨SlAt.nil,SlAt.nil,SlAt.nil,by decide,by decide,by decide⟩,fun _ => rfl⟩
  · obtain rfl := hr'.uniq CR.out
    exact ⟨m,p',by rw [he,h0],T.out.below,Sep.au (es := []) T.out LN.out,fun h => absurd h0 h⟩
 have S6 := Lib.hid (S5.out.next hb)
 clear hb hs S5 p0 p1 b0 b1 b2 b3 a0 a1 a2 a3
 have p0 := BlkAt.cell (S6.out.get 0 rfl) 0; have p1 := BlkAt.cell (S6.out.get 0 rfl) 1; have b0 := BlkAt.cell (S6.out.get 1 rfl) 0; have b1 := BlkAt.cell (S6.out.get 1 rfl) 1; have b2 := BlkAt.cell (S6.out.get 1 rfl) 2; have b3 := BlkAt.cell (S6.out.get 1 rfl) 3; have a0 := BlkAt.cell (S6.out.get 2 rfl) 0; have a1 := BlkAt.cell (S6.out.get 2 rfl) 1; have a2 := BlkAt.cell (S6.out.get 2 rfl) 2; have a3 := BlkAt.cell (S6.out.get 2 rfl) 3; simp only [List.getElem?_cons_succ,List.getElem?_cons_zero] at p0 p1 b0 b1 b2 b3 a0 a1 a2 a3
 dsimp only [Au.val]
 obtain ⟨b10,hb10⟩ : ∃ b,b = w6.heap.size := ⟨_,rfl⟩
 go_upto_region 6 with fail
 rw [← hb10]
 refine wp_world (fun V => Sep w.heap.size w [eBlk b10 25 [.slice D1 ml.length e1,.int .i64 mn,.slice D2 mm.length e2,.slice D3 me.length e3],eBlk (w.heap.size + 1 + 1) 26 [.int .i64 s1,.int .i64 s2],eBlk (w.heap.size + 1) 25 [.slice B1 bl.length d1,.int .i64 m,.slice B2 nr.length d2,.slice B3 fd.length d3],eBlk w.heap.size 25 [.slice A1 al.length c1,.int .i64 n,.slice A2 mr.length c2,.slice A3 ed.length c3]] V ∧ Below w6.heap.size w6 V) ⟨S6.out.alloc' 25 [.slice D1 ml.length e1,.int .i64 mn,.slice D2 mm.length e2,.slice D3 me.length e3] rfl hb10,Below.new w6 _⟩ fun W7 S' => ?_
 have S7 : Hid (Sep w.heap.size w [eBlk b10 25 [.slice D1 ml.length e1,.int .i64 mn,.slice D2 mm.length e2,.slice D3 me.length e3],eBlk (w.heap.size + 1 + 1) 26 [.int .i64 s1,.int .i64 s2],eBlk (w.heap.size + 1) 25 [.slice B1 bl.length d1,.int .i64 m,.slice B2 nr.length d2,.slice B3 fd.length d3],eBlk w.heap.size 25 [.slice A1 al.length c1,.int .i64 n,.slice A2 mr.length c2,.slice A3 ed.length c3]] W7) := S'.1
 have M7 : Hid (Au.At W7 ⟨ml,mn,mm,me⟩ ⟨D1,e1,D2,e2,D3,e3⟩ ∧ (r ≠ 0 → (⟨ml,mn,mm,me⟩ : Au) = ⟨[],0,[],[]⟩)) := ⟨h10.out.1.below S'.2,h10.out.2⟩
 clear S' S6 hb10 h10 p0 p1 b0 b1 b2 b3 a0 a1 a2 a3
 have p0 := BlkAt.cell (S7.out.get 1 rfl) 0; have p1 := BlkAt.cell (S7.out.get 1 rfl) 1; have b0 := BlkAt.cell (S7.out.get 2 rfl) 0; have b1 := BlkAt.cell (S7.out.get 2 rfl) 1; have b2 := BlkAt.cell (S7.out.get 2 rfl) 2; have b3 := BlkAt.cell (S7.out.get 2 rfl) 3; have a0 := BlkAt.cell (S7.out.get 3 rfl) 0; have a1 := BlkAt.cell (S7.out.get 3 rfl) 1; have a2 := BlkAt.cell (S7.out.get 3 rfl) 2; have a3 := BlkAt.cell (S7.out.get 3 rfl) 3; simp only [List.getElem?_cons_succ,List.getElem?_cons_zero] at p0 p1 b0 b1 b2 b3 a0 a1 a2 a3
 go_wp2_with fail
 refine (isMinX_c ⟨al,n,mr,ed⟩ ⟨A1,c1,A2,c2,A3,c3⟩ W7 (fun _ => CA.out) (HA.out.below S7.out.below)).mono ?_
 intro e w8 hs
 obtain ⟨f12,rfl,hb,h12⟩ : ∃ f : Bool,e = .returned (.tuple #[.bool f,.int .i64 r]) ∧ Below W7.heap.size W7 w8 ∧ Hid (r ≠ 0 → f = false) := by
  obtain ⟨r',f,hr',he,hb,hx⟩ := hs
  obtain rfl := hr'.uniq CR.out
  exact ⟨f,he,hb,fun h => hx.elim (fun g => g.2) fun g => absurd g.1 h⟩
 have S8 := Lib.hid (S7.out.next hb)
 have M8 : Hid (Au.At w8 ⟨ml,mn,mm,me⟩ ⟨D1,e1,D2,e2,D3,e3⟩ ∧ (r ≠ 0 → (⟨ml,mn,mm,me⟩ : Au) = ⟨[],0,[],[]⟩)) := ⟨M7.out.1.below hb,M7.out.2⟩
 clear hb hs S7 M7 p0 p1 b0 b1 b2 b3 a0 a1 a2 a3
 have p0 := BlkAt.cell (S8.out.get 1 rfl) 0; have p1 := BlkAt.cell (S8.out.get 1 rfl) 1; have b0 := BlkAt.cell (S8.out.get 2 rfl) 0; have b1 := BlkAt.cell (S8.out.get 2 rfl) 1; have b2 := BlkAt.cell (S8.out.get 2 rfl) 2; have b3 := BlkAt.cell (S8.out.get 2 rfl) 3; have a0 := BlkAt.cell (S8.out.get 3 rfl) 0; have a1 := BlkAt.cell (S8.out.get 3 rfl) 1; have a2 := BlkAt.cell (S8.out.get 3 rfl) 2; have a3 := BlkAt.cell (S8.out.get 3 rfl) 3; simp only [List.getElem?_cons_succ,List.getElem?_cons_zero] at p0 p1 b0 b1 b2 b3 a0 a1 a2 a3
 go_wp2_with fail
 refine (distX_c ⟨al,n,mr,ed⟩ ⟨A1,c1,A2,c2,A3,c3⟩ s1 s2 w8 (fun _ => CA.out) (fun h => few_need h h FA.out FA.out) (HA.out.below S8.out.below)).mono ?_
 rintro e w9 ⟨A14,C14,l14,f15,r16,rfl,_,hb,H16⟩
 have S9 := Lib.hid (S8.out.next hb)
 have M9 : Hid (Au.At w9 ⟨ml,mn,mm,me⟩ ⟨D1,e1,D2,e2,D3,e3⟩ ∧ (r ≠ 0 → (⟨ml,mn,mm,me⟩ : Au) = ⟨[],0,[],[]⟩)) := ⟨M8.out.1.below hb,M8.out.2⟩
 clear hb S8 M8 p0 p1 b0 b1 b2 b3 a0 a1 a2 a3
 have p0 := BlkAt.cell (S9.out.get 1 rfl) 0; have p1 := BlkAt.cell (S9.out.get 1 rfl) 1; have b0 := BlkAt.cell (S9.out.get 2 rfl) 0; have b1 := BlkAt.cell (S9.out.get 2 rfl) 1; have b2 := BlkAt.cell (S9.out.get 2 rfl) 2; have b3 := BlkAt.cell (S9.out.get 2 rfl) 3; have a0 := BlkAt.cell (S9.out.get 3 rfl) 0; have a1 := BlkAt.cell (S9.out.get 3 rfl) 1; have a2 := BlkAt.cell (S9.out.get 3 rfl) 2; have a3 := BlkAt.cell (S9.out.get 3 rfl) 3; simp only [List.getElem?_cons_succ,List.getElem?_cons_zero] at p0 p1 b0 b1 b2 b3 a0 a1 a2 a3
 go_wp2_with fail
 refine (eqvX_c ⟨al,n,mr,ed⟩ ⟨bl,m,nr,fd⟩ ⟨A1,c1,A2,c2,A3,c3⟩ ⟨B1,d1,B2,d2,B3,d3⟩ w9 (fun _ => CA.out) (fun _ => CB.out) (fun h k => few_need h k FA.out FB.out) (HA.out.below S9.out.below) (HB.out.below S9.out.below)).mono ?_
 rintro e w10 ⟨A18,C18,l18,f17,r19,rfl,_,hb,H19⟩
 have S10 := Lib.hid (S9.out.next hb)
 have M10 : Hid (Au.At w10 ⟨ml,mn,mm,me⟩ ⟨D1,e1,D2,e2,D3,e3⟩ ∧ (r ≠ 0 → (⟨ml,mn,mm,me⟩ : Au) = ⟨[],0,[],[]⟩)) := ⟨M9.out.1.below hb,M9.out.2⟩
 clear hb S9 M9 p0 p1 b0 b1 b2 b3 a0 a1 a2 a3
 have p0 := BlkAt.cell (S10.out.get 1 rfl) 0; have p1 := BlkAt.cell (S10.out.get 1 rfl) 1; have b0 := BlkAt.cell (S10.out.get 2 rfl) 0; have b1 := BlkAt.cell (S10.out.get 2 rfl) 1; have b2 := BlkAt.cell (S10.out.get 2 rfl) 2; have b3 := BlkAt.cell (S10.out.get 2 rfl) 3; have a0 := BlkAt.cell (S10.out.get 3 rfl) 0; have a1 := BlkAt.cell (S10.out.get 3 rfl) 1; have a2 := BlkAt.cell (S10.out.get 3 rfl) 2; have a3 := BlkAt.cell (S10.out.get 3 rfl) 3; simp only [List.getElem?_cons_succ,List.getElem?_cons_zero] at p0 p1 b0 b1 b2 b3 a0 a1 a2 a3
 have m0 := ckC S10.out 0 rfl 0 rfl
 have m1 := ckC S10.out 0 rfl 1 rfl
 have m2 := ckC S10.out 0 rfl 2 rfl
 have m3 := ckC S10.out 0 rfl 3 rfl
 by_cases h0 : r = 0
 · subst h0
   have HR : Hid (⟨al,n,mr,ed⟩ : Au).Right := CR.out.zero.1 rfl
   have F16 : Hid ((r16 = 2 ∧ l14 = [] ∧ f15 = false ∧ ¬ InSt ⟨al,n,mr,ed⟩ s1 s2) ∨ (r16 = 0 ∧ InSt ⟨al,n,mr,ed⟩ s1 s2)) := by
    rcases H16.out with ⟨h0,h1,h2,h3 | ⟨_,h4,h5⟩⟩ | ⟨h1,_,h2,_⟩
    · exact absurd (h3.zero.2 HR.out) h0
    · exact .inl ⟨h4,h1,h2,h5⟩
    · exact .inr ⟨h1,h2⟩
   have F19 : Hid (ChkErr ⟨bl,m,nr,fd⟩ r19 ∧ (r19 ≠ 0 → l18 = [] ∧ f17 = false)) := by
    rcases H19.out with ⟨h0,h1,h2,h3 | ⟨_,h4⟩⟩ | ⟨h1,_,h2,_⟩
    · exact absurd (h3.zero.2 HR.out) h0
    · exact ⟨h4,fun _ => ⟨h1,h2⟩⟩
    · subst h1; exact ⟨ChkErr.of_right h2,fun h => absurd rfl h⟩
   clear H16 H19 h8 h12 M10
   go_wp2_with fail
   refine (CheckX_c ⟨bl,m,nr,fd⟩ ⟨B1,d1,B2,d2,B3,d3⟩ w10 (HB.out.below S10.out.below)).mono ?_
   rintro e w11 ⟨rb,rfl,hr,hb⟩
   obtain rfl := hr.uniq F19.out.1
   have S11 := Lib.hid (S10.out.next hb)
   clear hb hr S10 p0 p1 b0 b1 b2 b3 a0 a1 a2 a3 m0 m1 m2 m3
   obtain ⟨ap,hap⟩ : ∃ ap : Bool,ap = true ↔ ¬ InSt ⟨al,n,mr,ed⟩ s1 s2 := by
    by_cases h : InSt ⟨al,n,mr,ed⟩ s1 s2
    · exact ⟨false,by simp [h]⟩
    · exact ⟨true,by simp [h]⟩
   have HAP := Lib.hid hap
   clear hap
   go_upto_region 13 with fail
   go_cut [100] (fun v wx => v = .bool ap ∧ Hid (Sep w.heap.size w [eBlk b10 25 [.slice D1 ml.length e1,.int .i64 mn,.slice D2 mm.length e2,.slice D3 me.length e3],eBlk (w.heap.size + 1 + 1) 26 [.int .i64 s1,.int .i64 s2],eBlk (w.heap.size + 1) 25 [.slice B1 bl.length d1,.int .i64 m,.slice B2 nr.length d2,.slice B3 fd.length d3],eBlk w.heap.size 25 [.slice A1 al.length c1,.int .i64 n,.slice A2 mr.length c2,.slice A3 ed.length c3]] wx))
   case first =>
    have p0 := BlkAt.cell (S11.out.get 1 rfl) 0; have p1 := BlkAt.cell (S11.out.get 1 rfl) 1; have b0 := BlkAt.cell (S11.out.get 2 rfl) 0; have b1 := BlkAt.cell (S11.out.get 2 rfl) 1; have b2 := BlkAt.cell (S11.out.get 2 rfl) 2; have b3 := BlkAt.cell (S11.out.get 2 rfl) 3; have a0 := BlkAt.cell (S11.out.get 3 rfl) 0; have a1 := BlkAt.cell (S11.out.get 3 rfl) 1; have a2 := BlkAt.cell (S11.out.get 3 rfl) 2; have a3 := BlkAt.cell (S11.out.get 3 rfl) 3; simp only [List.getElem?_cons_succ,List.getElem?_cons_zero] at p0 p1 b0 b1 b2 b3 a0 a1 a2 a3
    by_cases q1 : s1 < 0
    · have k1 : decide (s1 < 0) = true := by simpa using q1
      have e1 : ap = true := HAP.out.2 (fun h => by have := h.1.1; omega)
      subst e1
      clear q1
      go_wp2_with fail
      go_meet
      exact ⟨rfl,S11.out⟩
    have k1 : decide (s1 < 0) = false := by simpa using q1
    by_cases q2 : n ≤ s1
    · have k2 : decide (n ≤ s1) = true := by simpa using q2
      have e1 : ap = true := HAP.out.2 (fun h => by have := h.1.2; simp only at this; omega)
      subst e1
      clear q1 q2
      go_wp2_with fail
      go_meet
      exact ⟨rfl,S11.out⟩
    have k2 : decide (n ≤ s1) = false := by simpa using q2
    by_cases q3 : s2 < 0
    · have k3 : decide (s2 < 0) = true := by simpa using q3
      have e1 : ap = true := HAP.out.2 (fun h => by have := h.2.1; omega)
      subst e1
      clear q1 q2 q3
      go_wp2_with fail
      go_meet
      exact ⟨rfl,S11.out⟩
    have k3 : decide (s2 < 0) = false := by simpa using q3
    by_cases q4 : n ≤ s2
    · have k4 : decide (n ≤ s2) = true := by simpa using q4
      have e1 : ap = true := HAP.out.2 (fun h => by have := h.2.2; simp only at this; omega)
      subst e1
      clear q1 q2 q3 q4
      go_wp2_with fail
      go_meet
      exact ⟨rfl,S11.out⟩
    have k4 : decide (n ≤ s2) = false := by simpa using q4
    have e1 : ap = false := by
     cases ap
     · rfl
     · exact absurd (show InSt ⟨al,n,mr,ed⟩ s1 s2 from ⟨⟨by omega,by simp only; omega⟩,⟨by omega,by simp only; omega⟩⟩) (HAP.out.1 rfl)
    subst e1
    clear q1 q2 q3 q4
    go_wp2_with fail
    go_meet
    exact ⟨rfl,S11.out⟩
   case rest =>
    obtain ⟨rfl,S12⟩ := hcut
    clear S11
    have R12 := Lib.hid S12.out.below
    clear S12
    cases ap
    · have IN : Hid (InSt ⟨al,n,mr,ed⟩ s1 s2) := Classical.byContradiction fun h => by have := HAP.out.2 h; cases this
      obtain rfl : r16 = 0 := by
       rcases F16.out with ⟨_,_,_,h⟩ | ⟨h,_⟩
       · exact absurd IN.out h
       · exact h
      by_cases hz : rb = 0
      · subst hz
        go_wp2_with fail
        go_ret
        exact ⟨rfl,R12.out⟩
      · obtain ⟨rfl,rfl⟩ := F19.out.2 hz
        have e0 : (rb == 0) = false := by simp [hz]
        clear hz
        dsimp only [List.length_nil]
        go_wp2_with fail
        go_ret
        exact ⟨rfl,R12.out⟩
    · have IN : Hid (¬ InSt ⟨al,n,mr,ed⟩ s1 s2) := HAP.out.1 rfl
      obtain ⟨rfl,rfl,rfl⟩ : r16 = 2 ∧ l14 = [] ∧ f15 = false := by
       rcases F16.out with ⟨h1,h2,h3,_⟩ | ⟨_,h⟩
       · exact ⟨h1,h2,h3⟩
       · exact absurd h IN.out
      by_cases hz : rb = 0
      · subst hz
        dsimp only [List.length_nil]
        go_wp2_with fail
        go_ret
        exact ⟨rfl,R12.out⟩
      · obtain ⟨rfl,rfl⟩ := F19.out.2 hz
        have e0 : (rb == 0) = false := by simp [hz]
        clear hz
        dsimp only [List.length_nil]
        go_wp2_with fail
        go_ret
        exact ⟨rfl,R12.out⟩
 · have NR : Hid (¬ (⟨al,n,mr,ed⟩ : Au).Right) := fun h => h0 (CR.out.zero.2 h)
   obtain ⟨rfl,rfl,rfl⟩ : r16 = r ∧ l14 = [] ∧ f15 = false := by
    rcases H16.out with ⟨_,h1,h2,h3 | ⟨h3,_⟩⟩ | ⟨_,h3,_⟩
    · exact ⟨h3.uniq CR.out,h1,h2⟩
    · exact absurd h3 NR.out
    · exact absurd h3 NR.out
   obtain ⟨rfl,rfl,rfl⟩ : r19 = r16 ∧ l18 = [] ∧ f17 = false := by
    rcases H19.out with ⟨_,h1,h2,h3 | ⟨h3,_⟩⟩ | ⟨_,h3,_⟩
    · exact ⟨h3.uniq CR.out,h1,h2⟩
    · exact absurd h3 NR.out
    · exact absurd h3 NR.out
   obtain rfl := h8.out h0
   obtain rfl := h12.out h0
   have hm := M10.out.2 h0
   cases hm
   have e0 : (r19 == 0) = false := by simp [h0]
   have EQ := Lib.hid (eq8_c ⟨[],0,[],[]⟩ ⟨[],0,[],[]⟩ ⟨D1,e1,D2,e2,D3,e3⟩ ⟨none,0,none,0,none,0⟩ w10 M10.out.1 ⟨SlAt.nil,SlAt.nil,SlAt.nil,by decide,by decide,by decide⟩)
   clear H16 H19 h8 h12 M10 h0
   dsimp only [List.length_nil]
   go_wp2_with fail
   refine EQ.out.mono ?_
   intro e w11 hs
   obtain ⟨rfl,hb⟩ := hs.yes2 (by first | rfl | trivial)
   have S11 := Lib.hid (S10.out.next hb).below
   clear hs hb EQ S10 p0 p1 b0 b1 b2 b3 a0 a1 a2 a3 m0 m1 m2 m3
   go_wp2_with fail
   go_ret
   exact ⟨rfl,S11.out⟩
end Go.Proofs.Ytjjifefanjnghaa
