/-
  What the row leans on.
-/
import Derived.Test.YtkifgffhoenaoaaGreatDoorBas18
import Derived.Test.YtkifgffhoenaoaaGreatDoorQqx04
import Derived.Test.YtkifgffhoenaoaaGreatDoorQqx03
set_option linter.unusedSimpArgs false
set_option linter.unusedVariables false
namespace Go.Proofs.YtkifgffhoenaoaaGreatDoor
open Go.RowKit
set_option maxRecDepth 100000
section
open Go.ChangeShapes Go.WideShapes Go.ChangeAt Go.RowKit
section
variable {H : Type} {enc : TypeId × Value → H} {w : World} {base : Nat} {spare : Nat → Bool} {held : Bool}

theorem u8_bounds {n : Int} (h : (Lit.int .u8 n).wf = true) : 0 ≤ n ∧ n < 256 := by
 simp [Lit.wf,IntKind.min,IntKind.max,IntKind.signed,IntKind.bits] at h; omega
theorem list5 {α : Type} {cs : List α} (h : cs.length = 5) : ∃ c0 c1 c2 c3 c4,cs = [c0,c1,c2,c3,c4] := by
 match cs,h with
 | [c0,c1,c2,c3,c4],_ => exact ⟨c0,c1,c2,c3,c4,rfl⟩
theorem cut5 {α : Type} {cs : List α} (h : cs.length = 25) : cs = (cs.drop 0).take 5 ++ ((cs.drop 5).take 5 ++ ((cs.drop 10).take 5 ++ ((cs.drop 15).take 5 ++ (cs.drop 20).take 5))) := by
 have e4 : (cs.drop 20).take 5 = cs.drop 20 := List.take_of_length_le (by simp [h]);have e3 : (cs.drop 15).take 5 ++ cs.drop 20 = cs.drop 15 := by have := List.take_append_drop 5 (cs.drop 15); rwa [List.drop_drop] at this
 have e2 : (cs.drop 10).take 5 ++ cs.drop 15 = cs.drop 10 := by have := List.take_append_drop 5 (cs.drop 10); rwa [List.drop_drop] at this
 have e1 : (cs.drop 5).take 5 ++ cs.drop 10 = cs.drop 5 := by have := List.take_append_drop 5 (cs.drop 5); rwa [List.drop_drop] at this
 rw [e4,e3,e2,e1,List.drop_zero,List.take_append_drop]

theorem b5_of {P : Program} {t e : TypeId} (ht : P.underlying t = some (.array 5 e)) (he : P.underlying e = some (.int .u8)) (hc : P.cellsOf t = 5) (hce : P.cellsOf e = 1) {fuel : Nat} {cs : List Value} {x : DataW H × List MemPlace}
 (h : DataW.trod enc P w base spare held fuel t cs = some x) : ∃ f : B5,f.Ok ∧ cs = f.cells := by
 obtain ⟨xs,m,_,_,hl,hlen,hf⟩ := DataW.trod_array ht h;obtain ⟨c0,c1,c2,c3,c4,rfl⟩ := list5 (hl.trans hc);have g : ∀ i,i < 5 → ∀ c,([c0,c1,c2,c3,c4].drop i).take 1 = [c] → ∃ n,c = .int .u8 n ∧ 0 ≤ n ∧ n < 256 := fun i hi c hcc => by
  have h1 := hf i hi;rw [hce,Nat.mul_one,hcc,List.getElem?_eq_getElem (by omega)] at h1;obtain ⟨n,hn,_,hw⟩ := DataW.trod_int he h1;cases hn;exact ⟨n,rfl,u8_bounds hw⟩
 obtain ⟨x0,rfl,b0⟩ := g 0 (by omega) c0 rfl;obtain ⟨x1,rfl,b1⟩ := g 1 (by omega) c1 rfl;obtain ⟨x2,rfl,b2⟩ := g 2 (by omega) c2 rfl;obtain ⟨x3,rfl,b3⟩ := g 3 (by omega) c3 rfl;obtain ⟨x4,rfl,b4⟩ := g 4 (by omega) c4 rfl;exact ⟨⟨x0,x1,x2,x3,x4⟩,⟨fun x hx => by
  simp only [List.mem_cons,List.not_mem_nil,or_false] at hx;rcases hx with rfl | rfl | rfl | rfl | rfl <;> assumption⟩,rfl⟩

theorem b25_of {P : Program} {t e e' : TypeId} (ht : P.underlying t = some (.array 5 e)) (he : P.underlying e = some (.array 5 e')) (he' : P.underlying e' = some (.int .u8)) (hc : P.cellsOf t = 25) (hce : P.cellsOf e = 5) (hce' : P.cellsOf e' = 1) {fuel : Nat} {cs : List Value} {x : DataW H × List MemPlace}
 (h : DataW.trod enc P w base spare held fuel t cs = some x) : ∃ r0 r1 r2 r3 r4 : B5,r0.Ok ∧ r1.Ok ∧ r2.Ok ∧ r3.Ok ∧ r4.Ok ∧ cs = r0.cells ++ (r1.cells ++ (r2.cells ++ (r3.cells ++ r4.cells))) := by
 obtain ⟨xs,m,_,_,hl,hlen,hf⟩ := DataW.trod_array ht h;have g : ∀ i,i < 5 → ∃ f : B5,f.Ok ∧ (cs.drop (i * 5)).take 5 = f.cells := fun i hi => by
  have h1 := hf i hi;rw [hce,List.getElem?_eq_getElem (by omega)] at h1;exact b5_of he he' hce hce' h1
 obtain ⟨r0,o0,e0⟩ := g 0 (by omega);obtain ⟨r1,o1,e1⟩ := g 1 (by omega);obtain ⟨r2,o2,e2⟩ := g 2 (by omega);obtain ⟨r3,o3,e3⟩ := g 3 (by omega);obtain ⟨r4,o4,e4⟩ := g 4 (by omega);refine ⟨r0,r1,r2,r3,r4,o0,o1,o2,o3,o4,?_⟩;rw [← e0,← e1,← e2,← e3,← e4];exact cut5 (hl.trans hc)

theorem gr_of {fuel : Nat} {cs : List Value} {x : DataW H × List MemPlace} (h : DataW.trod enc Tryz.prog w base spare held fuel 26 cs = some x) : ∃ g : Gr,g.Ok ∧ cs = g.cells := by
 obtain ⟨xs,n,_,_,hl,hlen,hf⟩ := DataW.trod_struct Tryz.underlying26 h;have hC : Tryz.prog.cellsOf 26 = 27 := by kernel_rfl
 have c1 : Tryz.prog.cellsOf 5 = 1 := by kernel_rfl
 have c25 : Tryz.prog.cellsOf 24 = 25 := by kernel_rfl
 rw [hC] at hl;have e3 : xs.length = 3 := hlen;have h0 : DataW.trod enc Tryz.prog w base spare held n 5 ((cs.drop 0).take (Tryz.prog.cellsOf 5)) = some xs[0] := by
  have := hf 0 _ rfl; rw [List.getElem?_eq_getElem (by omega)] at this; exact this
 rw [c1] at h0;have h1 : DataW.trod enc Tryz.prog w base spare held n 5 ((cs.drop 1).take (Tryz.prog.cellsOf 5)) = some xs[1] := by
  have := hf 1 _ rfl; rw [List.getElem?_eq_getElem (by omega)] at this; exact this
 rw [c1] at h1;have h2 : DataW.trod enc Tryz.prog w base spare held n 24 ((cs.drop 2).take (Tryz.prog.cellsOf 24)) = some xs[2] := by
  have := hf 2 _ rfl; rw [List.getElem?_eq_getElem (by omega)] at this; exact this
 rw [c25] at h2;obtain ⟨s,hs,_,ws⟩ := DataW.trod_int Tryz.underlying5 h0;obtain ⟨m,hm,_,wm⟩ := DataW.trod_int Tryz.underlying5 h1;obtain ⟨r0,r1,r2,r3,r4,o0,o1,o2,o3,o4,hr⟩ := b25_of Tryz.underlying24 Tryz.underlying23 Tryz.underlying5 (by kernel_rfl) (by kernel_rfl) (by kernel_rfl) h2;refine ⟨⟨s,m,r0,r1,r2,r3,r4⟩,⟨u8_bounds ws,u8_bounds wm,o0,o1,o2,o3,o4⟩,?_⟩;have a0 : cs.drop 0 = (cs.drop 0).take 1 ++ cs.drop 1 := by have := List.take_append_drop 1 (cs.drop 0); rw [List.drop_drop] at this; exact this.symm
 have a1 : cs.drop 1 = (cs.drop 1).take 1 ++ cs.drop 2 := by have := List.take_append_drop 1 (cs.drop 1); rw [List.drop_drop] at this; exact this.symm
 have a2 : (cs.drop 2).take 25 = cs.drop 2 := List.take_of_length_le (by simp [hl]);rw [hr] at a2;rw [← a2,hm] at a1;rw [a1,hs] at a0;rw [← List.drop_zero (l := cs),a0];rfl
theorem gr_in {v : Value} {d : DataW H} {p : List MemPlace} {r : Reach} {b0 : Nat} (hv : Value.okWide Tryz.prog w r b0 26 v) (h : DataW.Trod enc Tryz.prog w base spare held 26 v d p) :
 ∃ g : Gr,v = .agg g.cells.toArray ∧ g.Ok := by
 obtain ⟨⟨cs⟩,rfl,hsz⟩ := okWide_struct Tryz.underlying26 hv;obtain ⟨fuel,hf0⟩ := h;have hf : DataW.trod enc Tryz.prog w base spare held fuel 26 cs = some (d,p) := by simpa [Value.cells] using hf0
 obtain ⟨g,og,rfl⟩ := gr_of hf;exact ⟨g,rfl,og⟩
end
end
end Go.Proofs.YtkifgffhoenaoaaGreatDoor
