/-
  How the arguments of the laws of layer 44 read.
-/
import Derived.Test.YtimdepdbcdbikaaBas10
import Derived.Test.YtimdepdbcdbikaaBas21
set_option linter.unusedSimpArgs false
set_option linter.unusedVariables false
namespace Go.Proofs.Ytimdepdbcdbikaa
open Go.RowKit
set_option maxRecDepth 100000
section
open Go.ChangeShapes Go.WideShapes Go.ChangeAt Go.RowKit
section
variable {H : Type} {enc : TypeId × Value → H} {w : World} {base : Nat} {spare : Nat → Bool} {held : Bool}
theorem sm5_of {fuel : Nat} {cs : List Value} {x : DataW H × List MemPlace} (h : DataW.trod enc Try.prog w base spare held fuel 29 cs = some x) : ∃ d : Sm5,d.Ok ∧ cs = d.cells := by
 obtain ⟨xs,n,_,_,hl,hlen,hf⟩ := DataW.trod_struct Try.underlying29 h
 have hC : Try.prog.cellsOf 29 = 34 := by kernel_rfl
 have c26 : Try.prog.cellsOf 25 = 26 := by kernel_rfl
 have c8 : Try.prog.cellsOf 27 = 8 := by kernel_rfl
 rw [hC] at hl
 have e2 : xs.length = 2 := hlen
 have h0 : DataW.trod enc Try.prog w base spare held n 25 ((cs.drop 0).take (Try.prog.cellsOf 25)) = some xs[0] := by
  have := hf 0 _ rfl; rw [List.getElem?_eq_getElem (by omega)] at this; exact this
 rw [c26] at h0
 have h1 : DataW.trod enc Try.prog w base spare held n 27 ((cs.drop 26).take (Try.prog.cellsOf 27)) = some xs[1] := by
  have := hf 1 _ rfl; rw [List.getElem?_eq_getElem (by omega)] at this; exact this
 rw [c8] at h1
 obtain ⟨d,od,hd⟩ := sm_of h0
 obtain ⟨g,lg,bg,hg⟩ := u8_arr2 (N := 4) (k := 2) Try.underlying27 Try.underlying26 Try.underlying5 (by kernel_rfl) (by kernel_rfl) (by kernel_rfl) h1
 refine ⟨⟨d,g⟩,⟨od,lg,bg⟩,?_⟩
 have a1 : (cs.drop 26).take 8 = cs.drop 26 := List.take_of_length_le (by simp [hl])
 rw [a1] at hg
 rw [List.drop_zero] at hd
 rw [← List.take_append_drop 26 cs,hd,hg]
 rfl
theorem sm5_in {v : Value} {d : DataW H} {p : List MemPlace} {r : Reach} {b0 : Nat} (hv : Value.okWide Try.prog w r b0 29 v) (h : DataW.Trod enc Try.prog w base spare held 29 v d p) :
 ∃ d : Sm5,v = .agg d.cells.toArray ∧ d.Ok := by
 obtain ⟨⟨cs⟩,rfl,hsz⟩ := okWide_struct Try.underlying29 hv
 obtain ⟨fuel,hf0⟩ := h
 have hf : DataW.trod enc Try.prog w base spare held fuel 29 cs = some (d,p) := by simpa [Value.cells] using hf0
 obtain ⟨g,og,rfl⟩ := sm5_of hf
 exact ⟨g,rfl,og⟩
theorem u8s_in {v : Value} {d : DataW H} {p : List MemPlace} {r : Reach} {b0 : Nat} (hv : Value.okWide Try.prog w r b0 48 v) (h : DataW.Trod enc Try.prog w base spare held 48 v d p) :
 ∃ (A : Option Addr) (c : Nat) (l : List Int),v = .slice A l.length c ∧ U8sAt w A l := by
 obtain ⟨a,len,cap,rfl⟩ := okWide_slice Try.underlying48 hv
 obtain ⟨fuel,hf0⟩ := h
 have hf : DataW.trod enc Try.prog w base spare held fuel 48 [.slice a len cap] = some (d,p) := by simpa [Value.cells] using hf0
 obtain ⟨A,c,l,e,hs,_⟩ := sl_of (E := U8E) (k := 1) Try.underlying48 (by kernel_rfl) (by decide) (fun n cs x h => by
  obtain ⟨k,hk,_,hw⟩ := DataW.trod_int Try.underlying5 h
  exact ⟨k,hk,(u8_bounds hw).1,(u8_bounds hw).2⟩) hf
 exact ⟨A,c,l,List.head_eq_of_cons_eq e,hs⟩
end
end
end Go.Proofs.Ytimdepdbcdbikaa
