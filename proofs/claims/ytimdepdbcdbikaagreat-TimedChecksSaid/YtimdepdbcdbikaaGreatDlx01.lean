/-
  What the row leans on.
-/
import Derived.Test.YtimdepdbcdbikaaGreatBas01
import Derived.WalkKit
import Derived.ProofKit
import Derived.OpenShut
import Derived.ShutString
import Derived.ChangeOld
import Derived.Below
import Derived.Lib.SmallJoins
import Derived.Deep.MidRow
import Derived.Test.YtimdepdbcdbikaaGreatRows
import Derived.Test.YtimdepdbcdbikaaGreatBas04
import Derived.Test.YtimdepdbcdbikaaGreatBas12
import Derived.Test.YtimdepdbcdbikaaGreatBas19
import Derived.BigQuiet
import Derived.Test.YtimdepdbcdbikaaGreatBas18
import Derived.Great.BuildSlice
set_option linter.unusedSimpArgs false
set_option linter.unusedVariables false
namespace Go.Proofs.YtimdepdbcdbikaaGreat
open Go.RowKit
set_option maxRecDepth 100000
section
abbrev SepW (w : World) (es : List Ent) (V : World) : Prop := Hid (Sep w.heap.size w es V)
open Go.ChangeShapes Go.WideShapes Go.ChangeAt Go.RowKit

section
variable {H : Type} {enc : TypeId × Value → H} {P : Program} {w : World} {base : Nat} {spare : Nat → Bool} {held : Bool}

def consec (P : Program) : List Field → Nat → Nat → Bool
 | [],n,m => n == m
 | f :: r,n,m => f.offset == n && consec P r (n + P.cellsOf f.type) m
theorem consec_cut {P : Program} : ∀ (fs : List Field) (n m : Nat) (cs : List Value),consec P fs n m = true → cs.length = m →
 n ≤ m ∧ cs.drop n = (fs.map fun f => (cs.drop f.offset).take (P.cellsOf f.type)).flatten ∧ ∀ f,f ∈ fs → ((cs.drop f.offset).take (P.cellsOf f.type)).length = P.cellsOf f.type := by
 intro fs;induction fs with
 | nil =>
   intro n m cs h hl;have : n = m := by simpa [consec] using h
   subst this;exact ⟨Nat.le_refl _,by simp [hl],fun f hf => by cases hf⟩
 | cons f r ih =>
   intro n m cs h hl;simp only [consec,Bool.and_eq_true,beq_iff_eq] at h;obtain ⟨h1,h2⟩ := h;obtain ⟨g1,g2,g3⟩ := ih _ _ cs h2 hl;refine ⟨by omega,?_,fun x hx => ?_⟩
   · simp only [List.map_cons,List.flatten_cons];rw [← g2,h1,← List.drop_drop,List.take_append_drop]
   · rcases List.mem_cons.1 hx with rfl | hx
     · rw [List.length_take,List.length_drop]; omega
     · exact g3 x hx

theorem st_of {t : TypeId} {fs : List Field} (ht : P.underlying t = some (.struct fs.toArray)) (hc : consec P fs 0 (P.cellsOf t) = true) {fuel : Nat} {cs : List Value} {x : DataW H × List MemPlace}
 (h : DataW.trod enc P w base spare held fuel t cs = some x) :
 ∃ css : List (List Value),cs = css.flatten ∧ css.length = fs.length ∧ ∀ (i : Nat) (f : Field),fs[i]? = some f → ∃ (c : List Value) (y : DataW H × List MemPlace) (n : Nat),css[i]? = some c ∧ c.length = P.cellsOf f.type ∧ DataW.trod enc P w base spare held n f.type c = some y := by
 obtain ⟨xs,n,_,_,hl,hlen,hf⟩ := DataW.trod_struct ht h;obtain ⟨_,g2,g3⟩ := consec_cut fs 0 _ cs hc hl;refine ⟨fs.map fun f => (cs.drop f.offset).take (P.cellsOf f.type),by simpa using g2,by simp,fun i f hfi => ?_⟩;have h1 := hf i f (by simpa using hfi);have hi : i < fs.length := (List.getElem?_eq_some_iff.1 hfi).1;rw [List.getElem?_eq_getElem (by simp at hlen; omega)] at h1;exact ⟨_,_,n,by rw [List.getElem?_map,hfi]; rfl,g3 f (List.mem_of_getElem? hfi),h1⟩
theorem st2_of {t : TypeId} {f0 f1 : Field} (ht : P.underlying t = some (.struct #[f0,f1])) (hc : consec P [f0,f1] 0 (P.cellsOf t) = true) {fuel : Nat} {cs : List Value} {x : DataW H × List MemPlace}
 (h : DataW.trod enc P w base spare held fuel t cs = some x) :
 ∃ (c0 c1 : List Value) (y0 y1 : DataW H × List MemPlace) (n0 n1 : Nat),cs = c0 ++ c1 ∧ DataW.trod enc P w base spare held n0 f0.type c0 = some y0 ∧ DataW.trod enc P w base spare held n1 f1.type c1 = some y1 := by
 obtain ⟨css,rfl,hl,hf⟩ := st_of (fs := [f0,f1]) ht hc h;match css,hl with
 | [c0,c1],_ =>
   obtain ⟨_,y0,n0,e0,_,t0⟩ := hf 0 f0 rfl;obtain ⟨_,y1,n1,e1,_,t1⟩ := hf 1 f1 rfl;cases e0; cases e1
   exact ⟨c0,c1,y0,y1,n0,n1,by simp,t0,t1⟩
theorem st3_of {t : TypeId} {f0 f1 f2 : Field} (ht : P.underlying t = some (.struct #[f0,f1,f2])) (hc : consec P [f0,f1,f2] 0 (P.cellsOf t) = true) {fuel : Nat} {cs : List Value} {x : DataW H × List MemPlace}
 (h : DataW.trod enc P w base spare held fuel t cs = some x) :
 ∃ (c0 c1 c2 : List Value) (y0 y1 y2 : DataW H × List MemPlace) (n0 n1 n2 : Nat),cs = c0 ++ (c1 ++ c2) ∧ DataW.trod enc P w base spare held n0 f0.type c0 = some y0 ∧ DataW.trod enc P w base spare held n1 f1.type c1 = some y1 ∧ DataW.trod enc P w base spare held n2 f2.type c2 = some y2 := by
 obtain ⟨css,rfl,hl,hf⟩ := st_of (fs := [f0,f1,f2]) ht hc h;match css,hl with
 | [c0,c1,c2],_ =>
   obtain ⟨_,y0,n0,e0,_,t0⟩ := hf 0 f0 rfl;obtain ⟨_,y1,n1,e1,_,t1⟩ := hf 1 f1 rfl;obtain ⟨_,y2,n2,e2,_,t2⟩ := hf 2 f2 rfl;cases e0; cases e1; cases e2
   exact ⟨c0,c1,c2,y0,y1,y2,n0,n1,n2,by simp,t0,t1,t2⟩
theorem st4_of {t : TypeId} {f0 f1 f2 f3 : Field} (ht : P.underlying t = some (.struct #[f0,f1,f2,f3])) (hc : consec P [f0,f1,f2,f3] 0 (P.cellsOf t) = true) {fuel : Nat} {cs : List Value} {x : DataW H × List MemPlace}
 (h : DataW.trod enc P w base spare held fuel t cs = some x) :
 ∃ (c0 c1 c2 c3 : List Value) (y0 y1 y2 y3 : DataW H × List MemPlace) (n0 n1 n2 n3 : Nat),cs = c0 ++ (c1 ++ (c2 ++ c3)) ∧ DataW.trod enc P w base spare held n0 f0.type c0 = some y0 ∧ DataW.trod enc P w base spare held n1 f1.type c1 = some y1 ∧ DataW.trod enc P w base spare held n2 f2.type c2 = some y2 ∧ DataW.trod enc P w base spare held n3 f3.type c3 = some y3 := by
 obtain ⟨css,rfl,hl,hf⟩ := st_of (fs := [f0,f1,f2,f3]) ht hc h;match css,hl with
 | [c0,c1,c2,c3],_ =>
   obtain ⟨_,y0,n0,e0,_,t0⟩ := hf 0 f0 rfl;obtain ⟨_,y1,n1,e1,_,t1⟩ := hf 1 f1 rfl;obtain ⟨_,y2,n2,e2,_,t2⟩ := hf 2 f2 rfl;obtain ⟨_,y3,n3,e3,_,t3⟩ := hf 3 f3 rfl;cases e0; cases e1; cases e2; cases e3
   exact ⟨c0,c1,c2,c3,y0,y1,y2,y3,n0,n1,n2,n3,by simp,t0,t1,t2,t3⟩

theorem sl_of {α : Type} {E : Reading α} {k : Nat} {t e : TypeId} (ht : P.underlying t = some (.slice e)) (hce : P.cellsOf e = k) (hk : 0 < k)
 (hel : ∀ (n : Nat) (cs : List Value) (x : DataW H × List MemPlace),DataW.trod enc P w base spare held n e cs = some x → ∃ y : α,E w y cs) {fuel : Nat} {cs : List Value} {x : DataW H × List MemPlace}
 (h : DataW.trod enc P w base spare held fuel t cs = some x) : ∃ (A : Option Addr) (c : Nat) (l : List α),cs = [.slice A l.length c] ∧ SlAt E k w A l ∧ l.length ≤ c ∧ c ≤ maxLen := by
 rcases DataW.trod_slice ht h with ⟨rfl,_⟩ | ⟨a,len,cap,elems,rest,n,_,rfl,_,_,hl,hm,hlen,hi,_,_⟩
 · exact ⟨none,0,[],rfl,SlAt.nil,by simp,by simp⟩
 · rw [hce] at hi;have hx : ∀ i,i < len → ∃ y : α,∃ vs : List Value,vs.length = k ∧ E w y vs ∧ ∀ j v,vs[j]? = some v → w.cell? ((a.add (i * k)).add j) = some v := fun i hil => by
    have h1 := hi i hil;rw [List.getElem?_eq_getElem (by omega)] at h1;obtain ⟨cs',hc,hd⟩ := Option.bind_eq_some_iff.1 h1;obtain ⟨_,hcl,hat⟩ := World.cells?_some hc;obtain ⟨y,hy⟩ := hel n cs' _ hd;refine ⟨y,cs',hcl,hy,fun j v hj => ?_⟩;have hjk : j < k := by have := (List.getElem?_eq_some_iff.1 hj).1; omega
    rw [hat j hjk,hj]
   let f : Fin len → α := fun i => Classical.choose (hx i.1 i.2)
   have hf : ∀ i : Fin len,∃ vs : List Value,vs.length = k ∧ E w (f i) vs ∧ ∀ j v,vs[j]? = some v → w.cell? ((a.add (i.1 * k)).add j) = some v := fun i => Classical.choose_spec (hx i.1 i.2);refine ⟨some a,cap,List.ofFn f,by simp,fun hne => ?_,by simpa using hl,hm⟩;have h0 : 0 < len := by
    rcases Nat.eq_zero_or_pos len with e | e
    · subst e; simp at hne
    · exact e
   obtain ⟨vs,hvl,_,hv⟩ := hf ⟨0,h0⟩;obtain ⟨u,hu⟩ : ∃ u,vs[0]? = some u := ⟨_,List.getElem?_eq_getElem (by omega)⟩;obtain ⟨b,off,spot⟩ := a;have hc0 := hv 0 u hu;have hspot : spot = none := by simpa [Addr.add] using World.cell?_spot hc0
   subst hspot;refine ⟨b,off,rfl,?_,fun i x hxx => ?_⟩
   · have := World.block_lt_of_cell? w _ hc0;simpa [Addr.add] using this
   · obtain ⟨hil,rfl⟩ := List.getElem?_eq_some_iff.1 hxx;have hil' : i < len := by simpa using hil
     obtain ⟨vs,g1,g2,g3⟩ := hf ⟨i,hil'⟩;refine ⟨vs,g1,by simpa using g2,fun j v hj => ?_⟩;have := g3 j v hj;simpa [Addr.add_mid,Nat.add_assoc] using this
theorem int_of {t : TypeId} (he : P.underlying t = some (.int .i64)) {fuel : Nat} {cs : List Value} {x : DataW H × List MemPlace} (h : DataW.trod enc P w base spare held fuel t cs = some x) : ∃ n : Int,cs = [.int .i64 n] := by
 obtain ⟨n,hn,_,_⟩ := DataW.trod_int he h;exact ⟨n,hn⟩
theorem i64s_of {t e : TypeId} (ht : P.underlying t = some (.slice e)) (he : P.underlying e = some (.int .i64)) (hce : P.cellsOf e = 1) {fuel : Nat} {cs : List Value} {x : DataW H × List MemPlace}
 (h : DataW.trod enc P w base spare held fuel t cs = some x) : ∃ (A : Option Addr) (c : Nat) (l : List Int),cs = [.slice A l.length c] ∧ IntsAt w A l ∧ l.length ≤ c ∧ c ≤ maxLen :=
 sl_of (E := IntE) ht hce (by decide) (fun n cs x h => int_of he h) h
end
end
section
open Go.ChangeShapes Go.WideShapes Go.ChangeAt Go.RowKit

theorem own_ : ownKnob Tryz.prog.godebug = none := by kernel_rfl
theorem laidOut_ : laidOutB Tryz.prog = true := by kernel_rfl
section
variable {H : Type} {enc : TypeId × Value → H} {w : World} {base : Nat} {spare : Nat → Bool} {held : Bool}
theorem ints_of_ {fuel : Nat} {cs : List Value} {x : DataW H × List MemPlace} (h : DataW.trod enc Tryz.prog w base spare held fuel 31 cs = some x) : ∃ (A : Option Addr) (c : Nat) (l : List Int),cs = [.slice A l.length c] ∧ IntsAt w A l ∧ l.length ≤ c ∧ c ≤ maxLen :=
 i64s_of Tryz.underlying31 Tryz.underlying3 (by kernel_rfl) h
theorem ed_of {fuel : Nat} {cs : List Value} {x : DataW H × List MemPlace} (h : DataW.trod enc Tryz.prog w base spare held fuel 76 cs = some x) : ∃ y : Ed,EdE w y cs := by
 obtain ⟨c0,c1,c2,_,_,_,_,_,_,rfl,h0,h1,h2⟩ := st3_of Tryz.underlying76 (by kernel_rfl) h;obtain ⟨a,rfl⟩ := int_of Tryz.underlying3 h0;obtain ⟨b,rfl⟩ := int_of Tryz.underlying3 h1;obtain ⟨c,rfl⟩ := int_of Tryz.underlying3 h2;exact ⟨⟨a,b,c⟩,rfl⟩
theorem eds_of {fuel : Nat} {cs : List Value} {x : DataW H × List MemPlace} (h : DataW.trod enc Tryz.prog w base spare held fuel 32 cs = some x) : ∃ (A : Option Addr) (c : Nat) (l : List Ed),cs = [.slice A l.length c] ∧ EdsAt w A l ∧ l.length ≤ c ∧ c ≤ maxLen :=
 sl_of (E := EdE) Tryz.underlying32 (by kernel_rfl) (by decide) (fun n cs x h => ed_of h) h
structure AuIn (w : World) (a : Au) (p : AuP) : Prop where
 h1 : IntsAt w p.A1 a.al
 h2 : IntsAt w p.A2 a.mr
 h3 : EdsAt w p.A3 a.ed
 l1 : a.al.length ≤ p.c1
 l2 : a.mr.length ≤ p.c2
 l3 : a.ed.length ≤ p.c3
 m1 : p.c1 ≤ maxLen
 m2 : p.c2 ≤ maxLen
 m3 : p.c3 ≤ maxLen
theorem au_of {fuel : Nat} {cs : List Value} {x : DataW H × List MemPlace} (h : DataW.trod enc Tryz.prog w base spare held fuel 34 cs = some x) :
 ∃ (a : Au) (p : AuP),cs = [.slice p.A1 a.al.length p.c1,.int .i64 a.n,.slice p.A2 a.mr.length p.c2,.slice p.A3 a.ed.length p.c3] ∧ AuIn w a p := by
 obtain ⟨c0,c1,c2,c3,_,_,_,_,_,_,_,_,rfl,h0,h1,h2,h3⟩ := st4_of Tryz.underlying34 (by kernel_rfl) h;obtain ⟨A1,d1,l1,rfl,i1,m1,k1⟩ := ints_of_ h0;obtain ⟨n,rfl⟩ := int_of Tryz.underlying3 h1;obtain ⟨A2,d2,l2,rfl,i2,m2,k2⟩ := ints_of_ h2;obtain ⟨A3,d3,l3,rfl,i3,m3,k3⟩ := eds_of h3;exact ⟨⟨l1,n,l2,l3⟩,⟨A1,d1,A2,d2,A3,d3⟩,rfl,i1,i2,i3,m1,m2,m3,k1,k2,k3⟩
end
theorem cells_of {H : Type} {enc : TypeId × Value → H} {P : Program} {w : World} {base : Nat} {spare : Nat → Bool} {held : Bool} {t : TypeId} {fs : Array Field} {r : Reach} {b0 : Nat} {v : Value} {d : DataW H} {p : List MemPlace} (ht : P.underlying t = some (.struct fs)) (hv : Value.okWide P w r b0 t v) (h : DataW.Trod enc P w base spare held t v d p) :
 ∃ (cs : List Value) (fuel : Nat),v = .agg cs.toArray ∧ DataW.trod enc P w base spare held fuel t cs = some (d,p) := by
 obtain ⟨⟨cs⟩,rfl,hsz⟩ := okWide_struct ht hv;obtain ⟨fuel,hf⟩ := h;exact ⟨cs,fuel,rfl,by simpa [Value.cells] using hf⟩
theorem ocells_of {H : Type} {enc : TypeId × Value → H} {P : Program} {w : World} {base : Nat} {spare : Nat → Bool} {held : Bool} {t : TypeId} {v : Value} {d : DataW H} {p : List MemPlace} (hv : v.oneCell' = true) (h : DataW.Trod enc P w base spare held t v d p) :
 ∃ (fuel : Nat),DataW.trod enc P w base spare held fuel t [v] = some (d,p) := by
 obtain ⟨fuel,hf⟩ := h;refine ⟨fuel,?_⟩;cases v <;> simp_all [Value.cells,Value.oneCell']
theorem ints_in {H : Type} {enc : TypeId × Value → H} {w : World} {base : Nat} {spare : Nat → Bool} {held : Bool} {v : Value} {d : DataW H} {p : List MemPlace} {r : Reach} {b0 : Nat} (hv : Value.okWide Tryz.prog w r b0 31 v) (h : DataW.Trod enc Tryz.prog w base spare held 31 v d p) :
 ∃ (A : Option Addr) (c : Nat) (l : List Int),v = .slice A l.length c ∧ IntsAt w A l ∧ l.length ≤ c ∧ c ≤ maxLen := by
 obtain ⟨A,n,c,rfl⟩ := okWide_slice Tryz.underlying31 hv;obtain ⟨fuel,hf⟩ := ocells_of rfl h;obtain ⟨A,c,l,e,h⟩ := ints_of_ hf;cases e;exact ⟨_,_,l,rfl,h⟩
end
section
open Go.ChangeShapes Go.WideShapes Go.ChangeAt Go.RowKit
section
variable {H : Type} {enc : TypeId × Value → H} {w : World} {base : Nat} {spare : Nat → Bool} {held : Bool}
theorem ac_of {fuel : Nat} {cs : List Value} {x : DataW H × List MemPlace} (h : DataW.trod enc Tryz.prog w base spare held fuel 44 cs = some x) : ∃ y : Ac,AcE w y cs := by
 obtain ⟨c0,c1,c2,_,_,_,_,_,_,rfl,h0,h1,h2⟩ := st3_of Tryz.underlying44 (by kernel_rfl) h;obtain ⟨a,rfl⟩ := int_of Tryz.underlying3 h0;obtain ⟨b,rfl⟩ := int_of Tryz.underlying3 h1;obtain ⟨c,rfl⟩ := int_of Tryz.underlying3 h2;exact ⟨⟨a,b,c⟩,rfl⟩
theorem acs_of {fuel : Nat} {cs : List Value} {x : DataW H × List MemPlace} (h : DataW.trod enc Tryz.prog w base spare held fuel 35 cs = some x) : ∃ (A : Option Addr) (c : Nat) (l : List Ac),cs = [.slice A l.length c] ∧ AcsAt w A l ∧ l.length ≤ c ∧ c ≤ maxLen :=
 sl_of (E := AcE) Tryz.underlying35 (by kernel_rfl) (by decide) (fun n cs x h => ac_of h) h
theorem md_of {fuel : Nat} {cs : List Value} {x : DataW H × List MemPlace} (h : DataW.trod enc Tryz.prog w base spare held fuel 37 cs = some x) :
 ∃ (m : Md) (P : MdP),cs = m.cells P ∧ AuIn w m.a P.p ∧ AcsAt w P.B m.ac := by
 obtain ⟨c0,c1,c2,_,_,_,_,_,_,rfl,h0,h1,h2⟩ := st3_of Tryz.underlying37 (by kernel_rfl) h;obtain ⟨a,p,rfl,AI⟩ := au_of h0;obtain ⟨B,d,ac,rfl,hac,_,_⟩ := acs_of h1;obtain ⟨tk,rfl⟩ := int_of Tryz.underlying3 h2;exact ⟨⟨a,ac,tk⟩,⟨p,B,d⟩,rfl,AI,hac⟩
theorem ts_of {fuel : Nat} {cs : List Value} {x : DataW H × List MemPlace} (h : DataW.trod enc Tryz.prog w base spare held fuel 52 cs = some x) :
 ∃ (s : Int) (A : Option Addr) (c : Nat) (l : List Int),cs = [.int .i64 s,.slice A l.length c] ∧ IntsAt w A l := by
 obtain ⟨c0,c1,_,_,_,_,rfl,h0,h1⟩ := st2_of Tryz.underlying52 (by kernel_rfl) h;obtain ⟨s,rfl⟩ := int_of Tryz.underlying3 h0;obtain ⟨A,c,l,rfl,hl,_,_⟩ := ints_of_ h1;exact ⟨s,A,c,l,rfl,hl⟩
end
end
section
def acE (x : Ac) (e : Int) : Int := if x.ev ≠ e then 6 else if x.lo < 0 ∨ 16 < x.lo then 2 else if x.up ≠ -1 ∧ (x.up < x.lo ∨ 16 < x.up) then 2 else 0
def acEk (m : Md) (k : Nat) : Int := acE (m.at k) (m.a.al.getD k 0)
def acsE (m : Md) : Nat → Int
 | 0 => 0
 | k + 1 => if acsE m k = 0 then acEk m k else acsE m k
def mdE (m : Md) (r : Int) : Int := if r ≠ 0 then r else if m.tk < 0 ∨ 32 ≤ m.tk then 2 else if m.tk ∈ m.a.al then 13 else if m.ac.length ≠ m.a.al.length then 4 else acsE m m.ac.length
def MErr (m : Md) (e : Int) : Prop := ∃ r,ChkErr m.a r ∧ e = mdE m r
section
variable {m : Md}
theorem MErr.uniq {e f : Int} (h : MErr m e) (g : MErr m f) : e = f := by
 obtain ⟨r,hr,rfl⟩ := h;obtain ⟨q,hq,rfl⟩ := g;rw [hr.uniq hq]
theorem acsE_first {k : Nat} (h : acsE m k = 0) (hk : acEk m k ≠ 0) : ∀ n,k < n → acsE m n = acEk m k := by
 intro n hn;induction n with
 | zero => omega
 | succ n ih =>
   by_cases e : n = k
   · subst e; show (if acsE m n = 0 then _ else _) = _; rw [if_pos h]
   · have h2 := ih (by omega);show (if acsE m n = 0 then _ else _) = _
     rw [if_neg (by rw [h2]; exact hk),h2]
theorem acsE_next {k : Nat} (h : acsE m k = 0) (hk : acEk m k = 0) : acsE m (k + 1) = 0 := by
 show (if acsE m k = 0 then _ else _) = _
 rw [if_pos h,hk]
theorem acsE_all : ∀ n,acsE m n = 0 → ∀ j,j < n → acEk m j = 0 := by
 intro n;induction n with
 | zero => intro _ j hj; omega
 | succ n ih =>
   intro hn j hj;have hn : (if acsE m n = 0 then acEk m n else acsE m n) = 0 := hn;by_cases e : acsE m n = 0
   · rw [if_pos e] at hn;by_cases g : j = n
     · subst g; exact hn
     · exact ih e j (by omega)
   · rw [if_neg e] at hn; exact absurd hn e
theorem acE_zero {x : Ac} {e : Int} (h : acE x e = 0) : x.ev = e ∧ (0 ≤ x.lo ∧ x.lo ≤ 16) ∧ (x.up = -1 ∨ x.lo ≤ x.up ∧ x.up ≤ 16) := by
 unfold acE at h
 by_cases h1 : x.ev ≠ e
 · rw [if_pos h1] at h; cases h
 · rw [if_neg h1] at h;by_cases h2 : x.lo < 0 ∨ 16 < x.lo
   · rw [if_pos h2] at h; cases h
   · rw [if_neg h2] at h;by_cases h3 : x.up ≠ -1 ∧ (x.up < x.lo ∨ 16 < x.up)
     · rw [if_pos h3] at h; cases h
     · exact ⟨by omega,by omega,by omega⟩
theorem MErr.ok (h : MErr m 0) : m.Ok := by
 obtain ⟨r,hr,he⟩ := h;unfold mdE at he
 by_cases h0 : r ≠ 0
 · rw [if_pos h0] at he; exact absurd he.symm h0
 · rw [if_neg h0] at he;have h0 : r = 0 := by omega
   subst h0;have hR := hr.zero.1 rfl;by_cases h1 : m.tk < 0 ∨ 32 ≤ m.tk
   · rw [if_pos h1] at he; cases he
   · rw [if_neg h1] at he;by_cases h2 : m.tk ∈ m.a.al
     · rw [if_pos h2] at he; cases he
     · rw [if_neg h2] at he;by_cases h3 : m.ac.length ≠ m.a.al.length
       · rw [if_pos h3] at he; cases he
       · rw [if_neg h3] at he;have h3 : m.ac.length = m.a.al.length := by omega
         have key : ∀ j (hj : j < m.ac.length),(m.ac[j]).ev = m.a.al[j]'(by omega) ∧ (0 ≤ (m.ac[j]).lo ∧ (m.ac[j]).lo ≤ 16) ∧ ((m.ac[j]).up = -1 ∨ (m.ac[j]).lo ≤ (m.ac[j]).up ∧ (m.ac[j]).up ≤ 16) := by
          intro j hj;have h := acE_zero (acsE_all _ he.symm j hj);have e1 : m.at j = m.ac[j] := Md.at_get (List.getElem?_eq_getElem hj);have e2 : m.a.al.getD j 0 = m.a.al[j]'(by omega) := by rw [List.getD_eq_getElem?_getD,List.getElem?_eq_getElem (by omega)]; rfl
          rw [e1,e2] at h;exact h
         refine ⟨hR,by omega,h2,?_,fun x hx => ?_⟩
         · refine List.ext_getElem (by rw [List.length_map,h3]) fun j h4 h5 => ?_;rw [List.getElem_map];exact (key j (by rw [List.length_map] at h4; exact h4)).1
         · obtain ⟨j,hj,rfl⟩ := List.mem_iff_getElem.1 hx;exact (key j hj).2
theorem acsE_zero : ∀ n,(∀ j,j < n → acEk m j = 0) → acsE m n = 0 := by
 intro n;induction n with
 | zero => intro _; rfl
 | succ n ih => exact fun h => acsE_next (ih fun j hj => h j (by omega)) (h n (by omega))
theorem MErr.not {r : Int} (h : MErr m r) (h0 : r ≠ 0) : ¬ m.Ok := fun k => by
 obtain ⟨q,hq,rfl⟩ := h;obtain rfl := hq.zero.2 k.a;refine h0 ?_;unfold mdE
 have htk := k.tk;rw [if_neg (by omega),if_neg (by omega),if_neg k.no,if_neg (by have := k.len; omega)];refine acsE_zero _ fun j hj => ?_;have hev : m.a.al[j]? = some (m.at j).ev := by
  rw [← k.ev,List.getElem?_map,List.getElem?_eq_getElem hj,Option.map_some,Md.at_get (List.getElem?_eq_getElem hj)]
 have hbd := k.bd _ (Md.at_mem hj);unfold acEk acE
 rw [List.getD_eq_getElem?_getD,hev];rw [if_neg (by simp),if_neg (by omega),if_neg (by omega)]
theorem MErr.aut {r : Int} (h : ChkErr m.a r) (h0 : r ≠ 0) : MErr m r := ⟨r,h,by unfold mdE; rw [if_pos h0]⟩
theorem MErr.tick (h : ChkErr m.a 0) (h1 : m.tk < 0 ∨ 32 ≤ m.tk) : MErr m 2 := ⟨0,h,by unfold mdE; rw [if_neg (by omega),if_pos h1]⟩
theorem MErr.conf (h : ChkErr m.a 0) (h1 : ¬ (m.tk < 0 ∨ 32 ≤ m.tk)) (h2 : m.tk ∈ m.a.al) : MErr m 13 := ⟨0,h,by unfold mdE; rw [if_neg (by omega),if_neg h1,if_pos h2]⟩
theorem MErr.size (h : ChkErr m.a 0) (h1 : ¬ (m.tk < 0 ∨ 32 ≤ m.tk)) (h2 : ¬ m.tk ∈ m.a.al) (h3 : m.ac.length ≠ m.a.al.length) : MErr m 4 := ⟨0,h,by unfold mdE; rw [if_neg (by omega),if_neg h1,if_neg h2,if_pos h3]⟩
theorem MErr.acts (h : ChkErr m.a 0) (h1 : ¬ (m.tk < 0 ∨ 32 ≤ m.tk)) (h2 : ¬ m.tk ∈ m.a.al) (h3 : m.ac.length = m.a.al.length) : MErr m (acsE m m.ac.length) := ⟨0,h,by unfold mdE; rw [if_neg (by omega),if_neg h1,if_neg h2,if_neg (by omega)]⟩
end
end
set_option maxHeartbeats 4000000 in
theorem checkX44_c (m : Md) (P : MdP) (w : World) (hA : Md.At w m P) :
 Calls Tryz.prog 18 #[.agg (m.cells P).toArray] w (ErrsXB (MErr m) w) := by
 have HA := Lib.hid hA;have hlal := hA.a.lal;have HLAL := Lib.hid hlal;obtain ⟨p,B,d⟩ := P;dsimp only [Md.cells];clear hA hlal;go_enter Tryz.func18,Tryz.ntmps18
 obtain ⟨mb,hmb⟩ : ∃ g,g = w.heap.size := ⟨_,rfl⟩;obtain ⟨ab,hab⟩ : ∃ g,g = w.heap.size + 1 := ⟨_,rfl⟩;go_upto_region 1 with fail
 rw [← hmb];refine wp_world (fun W => Sep w.heap.size w [eBlk mb 37 [.slice p.A1 m.a.al.length p.c1,.int .i64 m.a.n,.slice p.A2 m.a.mr.length p.c2,.slice p.A3 m.a.ed.length p.c3,.slice B m.ac.length d,.int .i64 m.tk]] W ∧ W.heap.size = ab) ⟨(Sep.here w).alloc' _ [_,_,_,_,_,_] rfl hmb,by rw [hab]; simp⟩ fun W ⟨S,hW⟩ => ?_;have S0 := Lib.hid S;clear S hmb hab;have a0 := BlkAt.cell (S0.out.get 0 rfl) 0; have a1 := BlkAt.cell (S0.out.get 0 rfl) 1; have a2 := BlkAt.cell (S0.out.get 0 rfl) 2; have a3 := BlkAt.cell (S0.out.get 0 rfl) 3; simp only [List.getElem?_cons_succ,List.getElem?_cons_zero] at a0 a1 a2 a3;go_upto_region 2 with fail
 (try rw [hW]);refine wp_world (fun V => Sep w.heap.size w [eBlk ab 34 [.slice p.A1 m.a.al.length p.c1,.int .i64 m.a.n,.slice p.A2 m.a.mr.length p.c2,.slice p.A3 m.a.ed.length p.c3],eBlk mb 37 [.slice p.A1 m.a.al.length p.c1,.int .i64 m.a.n,.slice p.A2 m.a.mr.length p.c2,.slice p.A3 m.a.ed.length p.c3,.slice B m.ac.length d,.int .i64 m.tk]] V) (S0.out.alloc' _ [_,_,_,_] rfl hW.symm) fun W1 S => ?_;have S1 := Lib.hid S;clear S S0 hW a0 a1 a2 a3;have a0 := BlkAt.cell (S1.out.get 0 rfl) 0; have a1 := BlkAt.cell (S1.out.get 0 rfl) 1; have a2 := BlkAt.cell (S1.out.get 0 rfl) 2; have a3 := BlkAt.cell (S1.out.get 0 rfl) 3; simp only [List.getElem?_cons_succ,List.getElem?_cons_zero] at a0 a1 a2 a3;have CX := Lib.hid (CheckX_c m.a p W1 (HA.out.a.below S1.out.below));go_wp2_with fail
 refine CX.out.mono ?_;intro e w2 hc;rcases hc.two with ⟨r,rfl,hr0,HR0,HR,hb⟩ | ⟨rfl,HR,hb⟩
 · have S2 := Lib.hid (S1.out.next hb);have hr1 : (r != 0) = true := by simpa using hr0
   have HE : Hid (MErr m r) := MErr.aut HR.out HR0.out;clear S1 hb CX a0 a1 a2 a3 hr0;go_wp2_with fail
   go_ret
   exact ⟨_,rfl,HE.out,S2.out.below⟩
 have S2 := Lib.hid (S1.out.next hb);clear S1 hb CX a0 a1 a2 a3;have a0 := BlkAt.cell (S2.out.get 0 rfl) 0; simp only [List.getElem?_cons_succ,List.getElem?_cons_zero] at a0;have b4 := BlkAt.cell (S2.out.get 1 rfl) 4; have b5 := BlkAt.cell (S2.out.get 1 rfl) 5; simp only [List.getElem?_cons_succ,List.getElem?_cons_zero] at b4 b5;by_cases h1 : m.tk < 0
 · have hd1 : decide (m.tk < 0) = true := decide_eq_true h1;have HE : Hid (MErr m 2) := MErr.tick HR.out (.inl h1);clear h1;go_wp2_with fail
   go_ret
   exact ⟨_,rfl,HE.out,S2.out.below⟩
 have hd1 : decide (m.tk < 0) = false := decide_eq_false h1;by_cases h2 : 32 ≤ m.tk
 · have hd2 : decide (32 ≤ m.tk) = true := decide_eq_true h2;have HE : Hid (MErr m 2) := MErr.tick HR.out (.inr h2);clear h1 h2;go_wp2_with fail
   go_ret
   exact ⟨_,rfl,HE.out,S2.out.below⟩
 have hd2 : decide (32 ≤ m.tk) = false := decide_eq_false h2;have HTK : Hid (¬ (m.tk < 0 ∨ 32 ≤ m.tk)) := fun h => h.elim h1 h2;clear h1 h2;have CV := Lib.hid (containsV_c p.A1 p.c1 m.a.al m.tk w2 (HA.out.a.al.below IntE.stays S2.out.below) HLAL.out);go_wp2_with fail
 refine CV.out.mono ?_;intro e w5 hs;by_cases h3 : m.tk ∈ m.a.al
 · obtain ⟨rfl,rfl⟩ := hs.yes3 h3;have HE : Hid (MErr m 13) := MErr.conf HR.out HTK.out h3;clear h3 hs CV;go_wp2_with fail
   go_ret
   exact ⟨_,rfl,HE.out,S2.out.below⟩
 obtain ⟨rfl,rfl⟩ := hs.no3 h3;have HNO := Lib.hid h3;clear hs CV h3;by_cases h4 : m.ac.length = m.a.al.length;rotate_left
 · have hn1 : ((m.ac.length : Int) != (m.a.al.length : Int)) = true := by simp; omega
   have hn2 : (m.ac.length != m.a.al.length) = true := by simpa using h4
   have HE : Hid (MErr m 4) := MErr.size HR.out HTK.out HNO.out h4;clear h4;go_wp2_with fail
   go_ret
   exact ⟨_,rfl,HE.out,S2.out.below⟩
 have hd3 : ((m.ac.length : Int) != (m.a.al.length : Int)) = false := by simp [h4]
 have HAC : Hid (MErr m (acsE m m.ac.length)) := MErr.acts HR.out HTK.out HNO.out h4;have HLL := Lib.hid h4;have h32 : m.ac.length ≤ 32 := by
  have hal := (HR.out.zero.1 rfl).al;have := rises_len (n := 32) (l := m.a.al) hal.incr (fun x hx => by
   obtain ⟨i,hi,rfl⟩ := List.mem_iff_getElem.1 hx;have := hal i _ hi (List.getElem?_eq_getElem hi);exact ⟨this.1,this.2.1⟩)
  rw [h4]; exact this
 clear h4;go_wp2_with fail
 clear a0 b4 b5;go_loopw [37] (fun i wr => ∃ k : Nat,i = .int .i64 ↑k ∧ k ≤ m.ac.length ∧ Hid (acsE m k = 0) ∧ (SepW w [eBlk ab 34 [.slice p.A1 m.a.al.length p.c1,.int .i64 m.a.n,.slice p.A2 m.a.mr.length p.c2,.slice p.A3 m.a.ed.length p.c3],eBlk mb 37 [.slice p.A1 m.a.al.length p.c1,.int .i64 m.a.n,.slice p.A2 m.a.mr.length p.c2,.slice p.A3 m.a.ed.length p.c3,.slice B m.ac.length d,.int .i64 m.tk]] wr)) (fun i _ => m.ac.length - (intOf i).toNat)
 case atStart => exact ⟨0,rfl,Nat.zero_le _,rfl,S2.out⟩
 case round =>
  clear S2;obtain ⟨k,rfl,hk,HK,S⟩ := hrel;by_cases hlt : k < m.ac.length
  · obtain ⟨b,off,x,hAe,hb,hx,e0,e1,e2⟩ := AcsAt.at (HA.out.ac.below AcE.stays S.out.below) hlt;dsimp only at hAe;subst hAe;have HX : Hid (m.at k = x) := Md.at_get hx;obtain ⟨be,hbe⟩ : ∃ g,g = wr.heap.size := ⟨_,rfl⟩;clear hx hb;go_upto_region 14 with fail
    rw [← hbe];refine wp_world (fun W => Sep w.heap.size w [eBlk be 44 [.int .i64 x.ev,.int .i64 x.lo,.int .i64 x.up],eBlk ab 34 [.slice p.A1 m.a.al.length p.c1,.int .i64 m.a.n,.slice p.A2 m.a.mr.length p.c2,.slice p.A3 m.a.ed.length p.c3],eBlk mb 37 [.slice p.A1 m.a.al.length p.c1,.int .i64 m.a.n,.slice p.A2 m.a.mr.length p.c2,.slice p.A3 m.a.ed.length p.c3,.slice (some ⟨b,off,none⟩) m.ac.length d,.int .i64 m.tk]] W) (S.out.alloc' _ [_,_,_] rfl hbe) fun W S' => ?_;have S3 := Lib.hid S';clear S' S hbe e0 e1 e2;have hkn : k < m.a.al.length := by rw [← HLL.out]; exact hlt
    have hkl : (k : Int) < (m.a.al.length : Int) := by omega
    obtain ⟨b1,off1,y,hA1,_,hy,cy⟩ := IntsAt.at (HA.out.a.al.below IntE.stays S3.out.below) hkn;have hA1 := Lib.hid hA1;have HY : Hid (m.a.al.getD k 0 = y) := by rw [Hid,List.getD_eq_getElem?_getD,hy]; rfl
    have HEK : Hid (acEk m k = acE x y) := by unfold acEk; rw [Hid,HX.out,HY.out]
    have HEF : Hid (acE x y ≠ 0 → MErr m (acE x y)) := fun h => by
     have h2 := acsE_first HK.out (by rw [HEK.out]; exact h) _ hlt;have h3 := HAC.out;rw [h2,HEK.out] at h3;exact h3
    clear hy;have z0 := BlkAt.cell (S3.out.get 0 rfl) 0; have z1 := BlkAt.cell (S3.out.get 0 rfl) 1; have z2 := BlkAt.cell (S3.out.get 0 rfl) 2; simp only [List.getElem?_cons_succ,List.getElem?_cons_zero] at z0 z1 z2;have a0 := BlkAt.cell (S3.out.get 1 rfl) 0; simp only [List.getElem?_cons_succ,List.getElem?_cons_zero] at a0;rw [hA1.out] at a0;have hwr : IntKind.i64.wrap ((k : Int) + 1) = (k : Int) + 1 := IntWalk.i64_in _ (by omega);by_cases g1 : x.ev = y;rotate_left
    · have hd4 : (x.ev != y) = true := by simpa using g1
      have HE : Hid (MErr m 6) := by
       have e : acE x y = 6 := by unfold acE; rw [if_pos g1]
       have h := HEF.out;rw [e] at h;exact h (by decide)
      clear g1;go_quiet (fail)
      go_wp2_with fail
      go_ret
      exact ⟨_,rfl,HE.out,(S3.out.draws _).below⟩
    have hd4 : (x.ev != y) = false := by simpa using g1
    by_cases g2 : x.lo < 0
    · have hd5 : decide (x.lo < 0) = true := decide_eq_true g2;have HE : Hid (MErr m 2) := by
       have e : acE x y = 2 := by unfold acE; rw [if_neg (by omega),if_pos (.inl g2)]
       have h := HEF.out;rw [e] at h;exact h (by decide)
      clear g1 g2;go_quiet (fail)
      go_wp2_with fail
      go_ret
      exact ⟨_,rfl,HE.out,(S3.out.draws _).below⟩
    have hd5 : decide (x.lo < 0) = false := decide_eq_false g2;by_cases g3 : 16 < x.lo
    · have hd6 : decide (16 < x.lo) = true := decide_eq_true g3;have HE : Hid (MErr m 2) := by
       have e : acE x y = 2 := by unfold acE; rw [if_neg (by omega),if_pos (.inr g3)]
       have h := HEF.out;rw [e] at h;exact h (by decide)
      clear g1 g2 g3;go_quiet (fail)
      go_wp2_with fail
      go_ret
      exact ⟨_,rfl,HE.out,(S3.out.draws _).below⟩
    have hd6 : decide (16 < x.lo) = false := decide_eq_false g3;by_cases hu : x.up = -1
    · have hd7 : (x.up != -1) = false := by simp [hu]
      have HN : Hid (acsE m (k + 1) = 0) := acsE_next HK.out (by rw [HEK.out]; unfold acE; rw [if_neg (by omega),if_neg (by omega),if_neg (by omega)]);clear g1 g2 g3 hu;go_quiet (fail)
      go_wp2_with fail
      go_roundw
      case rel => exact ⟨k + 1,by go_num,by omega,HN.out,S3.out.drop1.draws _⟩
      case measure => simp [intOf]; omega
    have hd7 : (x.up != -1) = true := by simpa using hu
    by_cases g4 : x.up < x.lo
    · have hd8 : decide (x.up < x.lo) = true := decide_eq_true g4;have HE : Hid (MErr m 2) := by
       have e : acE x y = 2 := by unfold acE; rw [if_neg (by omega),if_neg (by omega),if_pos ⟨hu,.inl g4⟩]
       have h := HEF.out;rw [e] at h;exact h (by decide)
      clear g1 g2 g3 g4 hu;go_quiet (fail)
      go_wp2_with fail
      go_ret
      exact ⟨_,rfl,HE.out,(S3.out.draws _).below⟩
    have hd8 : decide (x.up < x.lo) = false := decide_eq_false g4;by_cases g5 : 16 < x.up
    · have hd9 : decide (16 < x.up) = true := decide_eq_true g5;have HE : Hid (MErr m 2) := by
       have e : acE x y = 2 := by unfold acE; rw [if_neg (by omega),if_neg (by omega),if_pos ⟨hu,.inr g5⟩]
       have h := HEF.out;rw [e] at h;exact h (by decide)
      clear g1 g2 g3 g4 g5 hu;go_quiet (fail)
      go_wp2_with fail
      go_ret
      exact ⟨_,rfl,HE.out,(S3.out.draws _).below⟩
    have hd9 : decide (16 < x.up) = false := decide_eq_false g5;have HN : Hid (acsE m (k + 1) = 0) := acsE_next HK.out (by rw [HEK.out]; unfold acE; rw [if_neg (by omega),if_neg (by omega),if_neg (by omega)]);clear g1 g2 g3 g4 g5 hu;go_quiet (fail)
    go_wp2_with fail
    go_roundw
    case rel => exact ⟨k + 1,by go_num,by omega,HN.out,S3.out.drop1.draws _⟩
    case measure => simp [intOf]; omega
  · obtain rfl : k = m.ac.length := by omega
    have HE : Hid (MErr m 0) := by have h := HAC.out; rw [HK.out] at h; exact h
    go_wp2_with fail
    go_ret
    exact ⟨_,rfl,HE.out,S.out.below⟩
def GivesEr (m : Md) (f : Int → Value) (w : World) (e : Ending) (w' : World) : Prop := ∃ r : Int,e = .returned (f r) ∧ (r ≠ 0 ∧ MErr m r) ∧ Below w.heap.size w w'
theorem GivesEr.two {m : Md} {f : Int → Value} {w w' : World} {e : Ending} (h : GivesEr m f w e w') : ∃ r : Int,e = .returned (f r) ∧ (r != 0) = true ∧ Hid (r ≠ 0 ∧ MErr m r) ∧ Below w.heap.size w w' := by
 obtain ⟨r,rfl,hr,hb⟩ := h;exact ⟨r,rfl,by simpa using hr.1,hr,hb⟩
theorem checkE_c (m : Md) (P : MdP) (w : World) (hn : ¬ m.Ok) (hA : Md.At w m P) :
 Calls Tryz.prog 18 #[.agg (m.cells P).toArray] w (GivesEr m (fun r => .int .i64 r) w) := by
 refine (checkX44_c m P w hA).mono ?_;rintro e w2 ⟨r,rfl,hr,hb⟩;exact ⟨r,rfl,⟨fun h => hn (by subst h; exact hr.ok),hr⟩,hb⟩
set_option maxHeartbeats 4000000 in
theorem beginE_c (m : Md) (P : MdP) (c : Ck) (AT : Option Addr) (cp : Nat) (w : World) (hn : ¬ m.Ok) (hA : Md.At w m P) :
 Calls Tryz.prog 38 #[.agg (m.cells P).toArray,.agg #[.int .i64 c.1,.slice AT c.2.length cp]] w (GivesEr m (fun r => .tuple #[.pointer none,.agg (ckC (0,[])).toArray,.int .i64 r]) w) := by
 have HN := Lib.hid hn;have HA := Lib.hid hA;obtain ⟨p,B,d⟩ := P;dsimp only [Md.cells];clear hn hA;go_enter Tryz.func38,Tryz.ntmps38
 obtain ⟨mb,hmb⟩ : ∃ g,g = w.heap.size := ⟨_,rfl⟩;obtain ⟨sb,hsb⟩ : ∃ g,g = w.heap.size + 1 := ⟨_,rfl⟩;obtain ⟨cb,hcb⟩ : ∃ g,g = w.heap.size + 1 + 1 := ⟨_,rfl⟩;go_upto_region 1 with fail
 rw [← hcb,← hsb,← hmb];refine wp_world (fun W => Sep w.heap.size w [eBlk cb 91 (ckC (0,[])),eBlk sb 52 [.int .i64 c.1,.slice AT c.2.length cp],eBlk mb 37 [.slice p.A1 m.a.al.length p.c1,.int .i64 m.a.n,.slice p.A2 m.a.mr.length p.c2,.slice p.A3 m.a.ed.length p.c3,.slice B m.ac.length d,.int .i64 m.tk]] W) ((((Sep.here w).alloc' _ [_,_,_,_,_,_] rfl hmb).alloc' _ [_,_] rfl (by rw [hsb]; simp)).alloc' _ (ckC (0,[])) rfl (by rw [hcb]; simp)) fun W S => ?_;have S0 := Lib.hid S;clear S hmb hsb hcb;have b0 := BlkAt.cell (S0.out.get 2 rfl) 0; have b1 := BlkAt.cell (S0.out.get 2 rfl) 1; have b2 := BlkAt.cell (S0.out.get 2 rfl) 2; have b3 := BlkAt.cell (S0.out.get 2 rfl) 3; have b4 := BlkAt.cell (S0.out.get 2 rfl) 4; have b5 := BlkAt.cell (S0.out.get 2 rfl) 5; simp only [List.getElem?_cons_succ,List.getElem?_cons_zero] at b0 b1 b2 b3 b4 b5;have s0 := BlkAt.cell (S0.out.get 1 rfl) 0; have s1 := BlkAt.cell (S0.out.get 1 rfl) 1; simp only [List.getElem?_cons_succ,List.getElem?_cons_zero] at s0 s1;have PC := checkE_c m ⟨p,B,d⟩ W HN.out (HA.out.below S0.out.below);dsimp only [Md.cells] at PC;have PC2 := Lib.hid PC;clear PC;go_wp2_with fail
 refine PC2.out.mono ?_;intro e1 w1 he;obtain ⟨r,rfl,hr,HR,hb⟩ := he.two;have S1 := Lib.hid (S0.out.next hb);clear PC2 he hb S0 b0 b1 b2 b3 b4 b5 s0 s1;have hbd : ∀ V,(Instr.build 91 #[]).run Tryz.prog V = .ok (.agg (ckC (0,[])).toArray) V := fun V => run_build V _ _ _ built_ckz;go_upto_region 3 with fail
 go_wp2_with (refine wpList_ckAt (0,[]) (by simp) rfl _ _ rfl S1.out 0 cb (0,[]) (by simp) rfl rfl rfl ?_)
 intro w9 S9';have S9 := Lib.hid S9';clear S9' S1;go_wp2_with fail
 refine bodyPost_ret (v := .tuple #[.pointer none,.agg (ckC (0,[])).toArray,.int .i64 r]) (res_bg Tryz.results38 rfl rfl rfl (S9.out.get 0 rfl) (by simp)) rfl ?_;exact ⟨r,rfl,HR.out,S9.out.below⟩
set_option maxHeartbeats 4000000 in
theorem checkStateE_c (m : Md) (P : MdP) (c : Ck) (AT : Option Addr) (cp : Nat) (w : World) (hn : ¬ m.Ok) (hA : Md.At w m P) :
 Calls Tryz.prog 19 #[.agg (m.cells P).toArray,.agg #[.int .i64 c.1,.slice AT c.2.length cp]] w (GivesEr m (fun r => .int .i64 r) w) := by
 have HN := Lib.hid hn;have HA := Lib.hid hA;obtain ⟨p,B,d⟩ := P;dsimp only [Md.cells];clear hn hA;go_enter Tryz.func19,Tryz.ntmps19
 obtain ⟨mb,hmb⟩ : ∃ g,g = w.heap.size := ⟨_,rfl⟩;obtain ⟨sb,hsb⟩ : ∃ g,g = w.heap.size + 1 := ⟨_,rfl⟩;go_upto_region 1 with fail
 rw [← hsb,← hmb];refine wp_world (fun W => Sep w.heap.size w [eBlk sb 52 [.int .i64 c.1,.slice AT c.2.length cp],eBlk mb 37 [.slice p.A1 m.a.al.length p.c1,.int .i64 m.a.n,.slice p.A2 m.a.mr.length p.c2,.slice p.A3 m.a.ed.length p.c3,.slice B m.ac.length d,.int .i64 m.tk]] W) (((Sep.here w).alloc' _ [_,_,_,_,_,_] rfl hmb).alloc' _ [_,_] rfl (by rw [hsb]; simp)) fun W S => ?_;have S0 := Lib.hid S;clear S hmb hsb;have b0 := BlkAt.cell (S0.out.get 1 rfl) 0; have b1 := BlkAt.cell (S0.out.get 1 rfl) 1; have b2 := BlkAt.cell (S0.out.get 1 rfl) 2; have b3 := BlkAt.cell (S0.out.get 1 rfl) 3; have b4 := BlkAt.cell (S0.out.get 1 rfl) 4; have b5 := BlkAt.cell (S0.out.get 1 rfl) 5; simp only [List.getElem?_cons_succ,List.getElem?_cons_zero] at b0 b1 b2 b3 b4 b5;have s0 := BlkAt.cell (S0.out.get 0 rfl) 0; have s1 := BlkAt.cell (S0.out.get 0 rfl) 1; simp only [List.getElem?_cons_succ,List.getElem?_cons_zero] at s0 s1;have BG := beginE_c m ⟨p,B,d⟩ c AT cp W HN.out (HA.out.below S0.out.below);dsimp only [Md.cells] at BG;have BG2 := Lib.hid BG;clear BG;go_wp2_with fail
 refine BG2.out.mono ?_;intro e1 w1 he;obtain ⟨r,rfl,hr,HR,hb⟩ := he.two;have S1 := Lib.hid (S0.out.next hb);clear BG2 he hb S0 b0 b1 b2 b3 b4 b5 s0 s1;obtain ⟨cb,hcb⟩ : ∃ g,g = w1.heap.size := ⟨_,rfl⟩;go_upto_region 2 with (refine wpList_ckNew (0,[]) (by simp) rfl _ _ rfl _ rfl rfl (by kernel_rfl) ?_)
 rw [← hcb];refine wp_world (fun V => (SepW w [eBlk cb 91 (ckC (0,[])),eBlk sb 52 [.int .i64 c.1,.slice AT c.2.length cp],eBlk mb 37 [.slice p.A1 m.a.al.length p.c1,.int .i64 m.a.n,.slice p.A2 m.a.mr.length p.c2,.slice p.A3 m.a.ed.length p.c3,.slice B m.ac.length d,.int .i64 m.tk]] V)) (S1.out.alloc' _ (ckC (0,[])) rfl hcb) fun W3 S => ?_;have S3 := Lib.hid S.out;clear S S1 hcb;go_wp2_with fail
 go_ret
 exact ⟨r,rfl,HR.out,S3.out.below⟩
set_option maxHeartbeats 4000000 in
theorem urgentE_c (m : Md) (P : MdP) (c : Ck) (AT : Option Addr) (cp : Nat) (w : World) (hn : ¬ m.Ok) (hA : Md.At w m P) :
 Calls Tryz.prog 16 #[.agg (m.cells P).toArray,.agg #[.int .i64 c.1,.slice AT c.2.length cp]] w (GivesEr m (fun r => .tuple #[.slice none 0 0,.int .i64 r]) w) := by
 have HN := Lib.hid hn;have HA := Lib.hid hA;obtain ⟨p,B,d⟩ := P;dsimp only [Md.cells];clear hn hA;go_enter Tryz.func16,Tryz.ntmps16
 obtain ⟨mb,hmb⟩ : ∃ g,g = w.heap.size := ⟨_,rfl⟩;obtain ⟨sb,hsb⟩ : ∃ g,g = w.heap.size + 1 := ⟨_,rfl⟩;go_upto_region 1 with fail
 rw [← hsb,← hmb];refine wp_world (fun W => Sep w.heap.size w [eBlk sb 52 [.int .i64 c.1,.slice AT c.2.length cp],eBlk mb 37 [.slice p.A1 m.a.al.length p.c1,.int .i64 m.a.n,.slice p.A2 m.a.mr.length p.c2,.slice p.A3 m.a.ed.length p.c3,.slice B m.ac.length d,.int .i64 m.tk]] W) (((Sep.here w).alloc' _ [_,_,_,_,_,_] rfl hmb).alloc' _ [_,_] rfl (by rw [hsb]; simp)) fun W S => ?_;have S0 := Lib.hid S;clear S hmb hsb;have b0 := BlkAt.cell (S0.out.get 1 rfl) 0; have b1 := BlkAt.cell (S0.out.get 1 rfl) 1; have b2 := BlkAt.cell (S0.out.get 1 rfl) 2; have b3 := BlkAt.cell (S0.out.get 1 rfl) 3; have b4 := BlkAt.cell (S0.out.get 1 rfl) 4; have b5 := BlkAt.cell (S0.out.get 1 rfl) 5; simp only [List.getElem?_cons_succ,List.getElem?_cons_zero] at b0 b1 b2 b3 b4 b5;have s0 := BlkAt.cell (S0.out.get 0 rfl) 0; have s1 := BlkAt.cell (S0.out.get 0 rfl) 1; simp only [List.getElem?_cons_succ,List.getElem?_cons_zero] at s0 s1;have BG := beginE_c m ⟨p,B,d⟩ c AT cp W HN.out (HA.out.below S0.out.below);dsimp only [Md.cells] at BG;have BG2 := Lib.hid BG;clear BG;go_wp2_with fail
 refine BG2.out.mono ?_;intro e1 w1 he;obtain ⟨r,rfl,hr,HR,hb⟩ := he.two;have S1 := Lib.hid (S0.out.next hb);clear BG2 he hb S0 b0 b1 b2 b3 b4 b5 s0 s1;obtain ⟨cb,hcb⟩ : ∃ g,g = w1.heap.size := ⟨_,rfl⟩;go_upto_region 2 with (refine wpList_ckNew (0,[]) (by simp) rfl _ _ rfl _ rfl rfl (by kernel_rfl) ?_)
 rw [← hcb];refine wp_world (fun V => (SepW w [eBlk cb 91 (ckC (0,[])),eBlk sb 52 [.int .i64 c.1,.slice AT c.2.length cp],eBlk mb 37 [.slice p.A1 m.a.al.length p.c1,.int .i64 m.a.n,.slice p.A2 m.a.mr.length p.c2,.slice p.A3 m.a.ed.length p.c3,.slice B m.ac.length d,.int .i64 m.tk]] V)) (S1.out.alloc' _ (ckC (0,[])) rfl hcb) fun W3 S => ?_;have S3 := Lib.hid S.out;clear S S1 hcb;go_wp2_with fail
 go_ret2
 exact ⟨r,rfl,HR.out,S3.out.below⟩
set_option maxHeartbeats 4000000 in
theorem enabledE_c (m : Md) (P : MdP) (c : Ck) (AT : Option Addr) (cp : Nat) (w : World) (hn : ¬ m.Ok) (hA : Md.At w m P) :
 Calls Tryz.prog 15 #[.agg (m.cells P).toArray,.agg #[.int .i64 c.1,.slice AT c.2.length cp]] w (GivesEr m (fun r => .tuple #[.slice none 0 0,.int .i64 r]) w) := by
 have HN := Lib.hid hn;have HA := Lib.hid hA;obtain ⟨p,B,d⟩ := P;dsimp only [Md.cells];clear hn hA;go_enter Tryz.func15,Tryz.ntmps15
 obtain ⟨mb,hmb⟩ : ∃ g,g = w.heap.size := ⟨_,rfl⟩;obtain ⟨sb,hsb⟩ : ∃ g,g = w.heap.size + 1 := ⟨_,rfl⟩;go_upto_region 1 with fail
 rw [← hsb,← hmb];refine wp_world (fun W => Sep w.heap.size w [eBlk sb 52 [.int .i64 c.1,.slice AT c.2.length cp],eBlk mb 37 [.slice p.A1 m.a.al.length p.c1,.int .i64 m.a.n,.slice p.A2 m.a.mr.length p.c2,.slice p.A3 m.a.ed.length p.c3,.slice B m.ac.length d,.int .i64 m.tk]] W) (((Sep.here w).alloc' _ [_,_,_,_,_,_] rfl hmb).alloc' _ [_,_] rfl (by rw [hsb]; simp)) fun W S => ?_;have S0 := Lib.hid S;clear S hmb hsb;have b0 := BlkAt.cell (S0.out.get 1 rfl) 0; have b1 := BlkAt.cell (S0.out.get 1 rfl) 1; have b2 := BlkAt.cell (S0.out.get 1 rfl) 2; have b3 := BlkAt.cell (S0.out.get 1 rfl) 3; have b4 := BlkAt.cell (S0.out.get 1 rfl) 4; have b5 := BlkAt.cell (S0.out.get 1 rfl) 5; simp only [List.getElem?_cons_succ,List.getElem?_cons_zero] at b0 b1 b2 b3 b4 b5;have s0 := BlkAt.cell (S0.out.get 0 rfl) 0; have s1 := BlkAt.cell (S0.out.get 0 rfl) 1; simp only [List.getElem?_cons_succ,List.getElem?_cons_zero] at s0 s1;have BG := beginE_c m ⟨p,B,d⟩ c AT cp W HN.out (HA.out.below S0.out.below);dsimp only [Md.cells] at BG;have BG2 := Lib.hid BG;clear BG;go_wp2_with fail
 refine BG2.out.mono ?_;intro e1 w1 he;obtain ⟨r,rfl,hr,HR,hb⟩ := he.two;have S1 := Lib.hid (S0.out.next hb);clear BG2 he hb S0 b0 b1 b2 b3 b4 b5 s0 s1;obtain ⟨cb,hcb⟩ : ∃ g,g = w1.heap.size := ⟨_,rfl⟩;go_upto_region 2 with (refine wpList_ckNew (0,[]) (by simp) rfl _ _ rfl _ rfl rfl (by kernel_rfl) ?_)
 rw [← hcb];refine wp_world (fun V => (SepW w [eBlk cb 91 (ckC (0,[])),eBlk sb 52 [.int .i64 c.1,.slice AT c.2.length cp],eBlk mb 37 [.slice p.A1 m.a.al.length p.c1,.int .i64 m.a.n,.slice p.A2 m.a.mr.length p.c2,.slice p.A3 m.a.ed.length p.c3,.slice B m.ac.length d,.int .i64 m.tk]] V)) (S1.out.alloc' _ (ckC (0,[])) rfl hcb) fun W3 S => ?_;have S3 := Lib.hid S.out;clear S S1 hcb;go_wp2_with fail
 go_ret2
 exact ⟨r,rfl,HR.out,S3.out.below⟩
set_option maxHeartbeats 4000000 in
theorem stepE44_c (m : Md) (P : MdP) (c : Ck) (AT : Option Addr) (cp : Nat) (ev : Int) (w : World) (hn : ¬ m.Ok) (hA : Md.At w m P) :
 Calls Tryz.prog 17 #[.agg (m.cells P).toArray,.agg #[.int .i64 c.1,.slice AT c.2.length cp],.int .i64 ev] w (GivesEr m (fun r => .tuple #[.agg #[.int .i64 0,.slice none 0 0],.bool false,.int .i64 r]) w) := by
 have HN := Lib.hid hn;have HA := Lib.hid hA;obtain ⟨p,B,d⟩ := P;dsimp only [Md.cells];clear hn hA;go_enter Tryz.func17,Tryz.ntmps17
 obtain ⟨mb,hmb⟩ : ∃ g,g = w.heap.size := ⟨_,rfl⟩;obtain ⟨sb,hsb⟩ : ∃ g,g = w.heap.size + 1 := ⟨_,rfl⟩;obtain ⟨rb,hrb⟩ : ∃ g,g = w.heap.size + 1 + 1 := ⟨_,rfl⟩;go_upto_region 1 with fail
 rw [← hrb,← hsb,← hmb];refine wp_world (fun W => Sep w.heap.size w [eBlk rb 52 [.int .i64 0,.slice none 0 0],eBlk sb 52 [.int .i64 c.1,.slice AT c.2.length cp],eBlk mb 37 [.slice p.A1 m.a.al.length p.c1,.int .i64 m.a.n,.slice p.A2 m.a.mr.length p.c2,.slice p.A3 m.a.ed.length p.c3,.slice B m.ac.length d,.int .i64 m.tk]] W) ((((Sep.here w).alloc' _ [_,_,_,_,_,_] rfl hmb).alloc' _ [_,_] rfl (by rw [hsb]; simp)).alloc' _ [_,_] rfl (by rw [hrb]; simp)) fun W S => ?_;have S0 := Lib.hid S;clear S hmb hsb hrb;have b0 := BlkAt.cell (S0.out.get 2 rfl) 0; have b1 := BlkAt.cell (S0.out.get 2 rfl) 1; have b2 := BlkAt.cell (S0.out.get 2 rfl) 2; have b3 := BlkAt.cell (S0.out.get 2 rfl) 3; have b4 := BlkAt.cell (S0.out.get 2 rfl) 4; have b5 := BlkAt.cell (S0.out.get 2 rfl) 5; simp only [List.getElem?_cons_succ,List.getElem?_cons_zero] at b0 b1 b2 b3 b4 b5;have s0 := BlkAt.cell (S0.out.get 1 rfl) 0; have s1 := BlkAt.cell (S0.out.get 1 rfl) 1; simp only [List.getElem?_cons_succ,List.getElem?_cons_zero] at s0 s1;have BG := beginE_c m ⟨p,B,d⟩ c AT cp W HN.out (HA.out.below S0.out.below);dsimp only [Md.cells] at BG;have BG2 := Lib.hid BG;clear BG;go_wp2_with fail
 refine BG2.out.mono ?_;intro e1 w1 he;obtain ⟨r,rfl,hr,HR,hb⟩ := he.two;have S1 := Lib.hid (S0.out.next hb);clear BG2 he hb S0 b0 b1 b2 b3 b4 b5 s0 s1;obtain ⟨cb,hcb⟩ : ∃ g,g = w1.heap.size := ⟨_,rfl⟩;go_upto_region 2 with (refine wpList_ckNew (0,[]) (by simp) rfl _ _ rfl _ rfl rfl (by kernel_rfl) ?_)
 rw [← hcb];refine wp_world (fun V => (SepW w [eBlk cb 91 (ckC (0,[])),eBlk rb 52 [.int .i64 0,.slice none 0 0],eBlk sb 52 [.int .i64 c.1,.slice AT c.2.length cp],eBlk mb 37 [.slice p.A1 m.a.al.length p.c1,.int .i64 m.a.n,.slice p.A2 m.a.mr.length p.c2,.slice p.A3 m.a.ed.length p.c3,.slice B m.ac.length d,.int .i64 m.tk]] V)) (S1.out.alloc' _ (ckC (0,[])) rfl hcb) fun W3 S => ?_;have S3 := Lib.hid S.out;clear S S1 hcb;have r0 := BlkAt.cell (S3.out.get 1 rfl) 0;have r1 := BlkAt.cell (S3.out.get 1 rfl) 1;have f0 := BlkAt.free (S3.out.get 1 rfl) 0;have f1 := BlkAt.free (S3.out.get 1 rfl) 1;have S5 := Lib.hid ((S3.out.set 1 rfl 0 (.int .i64 0)).set 1 rfl 1 (.slice none 0 0));have g0 := BlkAt.cell (S5.out.get 1 rfl) 0;have g1 := BlkAt.cell (S5.out.get 1 rfl) 1;simp only [List.set_cons_succ,List.set_cons_zero,List.getElem?_cons_succ,List.getElem?_cons_zero] at r0 r1 g0 g1;clear S3;go_wp2_with fail
 refine bodyPost_ret (v := .tuple #[.agg #[.int .i64 0,.slice none 0 0],.bool false,.int .i64 r]) (by simp [results,Tryz.results17,go_sem, *]) rfl ?_;exact ⟨r,rfl,HR.out,S5.out.below⟩
set_option maxHeartbeats 4000000 in
theorem initialE_c (m : Md) (P : MdP) (w : World) (hn : ¬ m.Ok) (hA : Md.At w m P) :
 Calls Tryz.prog 20 #[.agg (m.cells P).toArray] w (GivesEr m (fun r => .tuple #[.agg #[.int .i64 0,.slice none 0 0],.int .i64 r]) w) := by
 have HN := Lib.hid hn;have HA := Lib.hid hA;obtain ⟨p,B,d⟩ := P;dsimp only [Md.cells];clear hn hA;go_enter Tryz.func20,Tryz.ntmps20
 obtain ⟨mb,hmb⟩ : ∃ g,g = w.heap.size := ⟨_,rfl⟩;obtain ⟨rb,hrb⟩ : ∃ g,g = w.heap.size + 1 := ⟨_,rfl⟩;go_upto_region 1 with fail
 rw [← hrb,← hmb];refine wp_world (fun W => Sep w.heap.size w [eBlk rb 52 [.int .i64 0,.slice none 0 0],eBlk mb 37 [.slice p.A1 m.a.al.length p.c1,.int .i64 m.a.n,.slice p.A2 m.a.mr.length p.c2,.slice p.A3 m.a.ed.length p.c3,.slice B m.ac.length d,.int .i64 m.tk]] W) (((Sep.here w).alloc' _ [_,_,_,_,_,_] rfl hmb).alloc' _ [_,_] rfl (by rw [hrb]; simp)) fun W S => ?_;have S0 := Lib.hid S;clear S hmb hrb;have b0 := BlkAt.cell (S0.out.get 1 rfl) 0; have b1 := BlkAt.cell (S0.out.get 1 rfl) 1; have b2 := BlkAt.cell (S0.out.get 1 rfl) 2; have b3 := BlkAt.cell (S0.out.get 1 rfl) 3; have b4 := BlkAt.cell (S0.out.get 1 rfl) 4; have b5 := BlkAt.cell (S0.out.get 1 rfl) 5; simp only [List.getElem?_cons_succ,List.getElem?_cons_zero] at b0 b1 b2 b3 b4 b5;have PC := checkE_c m ⟨p,B,d⟩ W HN.out (HA.out.below S0.out.below);dsimp only [Md.cells] at PC;have PC2 := Lib.hid PC;clear PC;go_wp2_with fail
 refine PC2.out.mono ?_;intro e1 w1 he;obtain ⟨r,rfl,hr,HR,hb⟩ := he.two;have S1 := Lib.hid (S0.out.next hb);clear PC2 he hb S0 b0 b1 b2 b3 b4 b5;have r0 := BlkAt.cell (S1.out.get 0 rfl) 0;have r1 := BlkAt.cell (S1.out.get 0 rfl) 1;have f0 := BlkAt.free (S1.out.get 0 rfl) 0;have f1 := BlkAt.free (S1.out.get 0 rfl) 1;have S5 := Lib.hid ((S1.out.set 0 rfl 0 (.int .i64 0)).set 0 rfl 1 (.slice none 0 0));have g0 := BlkAt.cell (S5.out.get 0 rfl) 0;have g1 := BlkAt.cell (S5.out.get 0 rfl) 1;simp only [List.set_cons_succ,List.set_cons_zero,List.getElem?_cons_succ,List.getElem?_cons_zero] at r0 r1 g0 g1;clear S1;go_wp2_with fail
 refine bodyPost_ret (v := .tuple #[.agg #[.int .i64 0,.slice none 0 0],.int .i64 r]) (by simp [results,Tryz.results20,go_sem, *]) rfl ?_;exact ⟨r,rfl,HR.out,S5.out.below⟩
set_option maxHeartbeats 4000000 in
theorem timedE_c (m : Md) (P : MdP) (w : World) (hn : ¬ m.Ok) (hA : Md.At w m P) :
 Calls Tryz.prog 21 #[.agg (m.cells P).toArray] w (GivesEr m (fun r => .tuple #[.agg #[.slice none 0 0,.int .i64 0,.slice none 0 0,.slice none 0 0],.slice none 0 0,.int .i64 r]) w) := by
 have HN := Lib.hid hn;have HA := Lib.hid hA;obtain ⟨p,B,d⟩ := P;dsimp only [Md.cells];clear hn hA;go_enter Tryz.func21,Tryz.ntmps21
 obtain ⟨mb,hmb⟩ : ∃ g,g = w.heap.size := ⟨_,rfl⟩;obtain ⟨rb,hrb⟩ : ∃ g,g = w.heap.size + 1 := ⟨_,rfl⟩;go_upto_region 1 with fail
 rw [← hrb,← hmb];refine wp_world (fun W => Sep w.heap.size w [eBlk rb 34 [.slice none 0 0,.int .i64 0,.slice none 0 0,.slice none 0 0],eBlk mb 37 [.slice p.A1 m.a.al.length p.c1,.int .i64 m.a.n,.slice p.A2 m.a.mr.length p.c2,.slice p.A3 m.a.ed.length p.c3,.slice B m.ac.length d,.int .i64 m.tk]] W) (((Sep.here w).alloc' _ [_,_,_,_,_,_] rfl hmb).alloc' _ [_,_,_,_] rfl (by rw [hrb]; simp)) fun W S => ?_;have S0 := Lib.hid S;clear S hmb hrb;have b0 := BlkAt.cell (S0.out.get 1 rfl) 0; have b1 := BlkAt.cell (S0.out.get 1 rfl) 1; have b2 := BlkAt.cell (S0.out.get 1 rfl) 2; have b3 := BlkAt.cell (S0.out.get 1 rfl) 3; have b4 := BlkAt.cell (S0.out.get 1 rfl) 4; have b5 := BlkAt.cell (S0.out.get 1 rfl) 5; simp only [List.getElem?_cons_succ,List.getElem?_cons_zero] at b0 b1 b2 b3 b4 b5;have PC := checkE_c m ⟨p,B,d⟩ W HN.out (HA.out.below S0.out.below);dsimp only [Md.cells] at PC;have PC2 := Lib.hid PC;clear PC;go_wp2_with fail
 refine PC2.out.mono ?_;intro e1 w1 he;obtain ⟨r,rfl,hr,HR,hb⟩ := he.two;have S1 := Lib.hid (S0.out.next hb);clear PC2 he hb S0 b0 b1 b2 b3 b4 b5;have r0 := BlkAt.cell (S1.out.get 0 rfl) 0;have r1 := BlkAt.cell (S1.out.get 0 rfl) 1;have r2 := BlkAt.cell (S1.out.get 0 rfl) 2;have r3 := BlkAt.cell (S1.out.get 0 rfl) 3;have f0 := BlkAt.free (S1.out.get 0 rfl) 0;have f1 := BlkAt.free (S1.out.get 0 rfl) 1;have f2 := BlkAt.free (S1.out.get 0 rfl) 2;have f3 := BlkAt.free (S1.out.get 0 rfl) 3;have S5 := Lib.hid ((((S1.out.set 0 rfl 0 (.slice none 0 0)).set 0 rfl 1 (.int .i64 0)).set 0 rfl 2 (.slice none 0 0)).set 0 rfl 3 (.slice none 0 0));have g0 := BlkAt.cell (S5.out.get 0 rfl) 0;have g1 := BlkAt.cell (S5.out.get 0 rfl) 1;have g2 := BlkAt.cell (S5.out.get 0 rfl) 2;have g3 := BlkAt.cell (S5.out.get 0 rfl) 3;simp only [List.set_cons_succ,List.set_cons_zero,List.getElem?_cons_succ,List.getElem?_cons_zero] at r0 r1 r2 r3 g0 g1 g2 g3;clear S1;go_wp2_with fail
 refine bodyPost_ret (v := .tuple #[.agg #[.slice none 0 0,.int .i64 0,.slice none 0 0,.slice none 0 0],.slice none 0 0,.int .i64 r]) (by simp [results,Tryz.results21,go_sem, *]) rfl ?_;exact ⟨r,rfl,HR.out,S5.out.below⟩
set_option maxHeartbeats 4000000 in
theorem kindsE_c (m : Md) (P : MdP) (w : World) (hn : ¬ m.Ok) (hA : Md.At w m P) :
 Calls Tryz.prog 22 #[.agg (m.cells P).toArray] w (GivesEr m (fun r => .tuple #[.slice none 0 0,.slice none 0 0,.int .i64 r]) w) := by
 have HN := Lib.hid hn;have HA := Lib.hid hA;obtain ⟨p,B,d⟩ := P;dsimp only [Md.cells];clear hn hA;go_enter Tryz.func22,Tryz.ntmps22
 obtain ⟨mb,hmb⟩ : ∃ g,g = w.heap.size := ⟨_,rfl⟩;go_upto_region 1 with fail
 rw [← hmb];refine wp_world (fun W => Sep w.heap.size w [eBlk mb 37 [.slice p.A1 m.a.al.length p.c1,.int .i64 m.a.n,.slice p.A2 m.a.mr.length p.c2,.slice p.A3 m.a.ed.length p.c3,.slice B m.ac.length d,.int .i64 m.tk]] W) ((Sep.here w).alloc' _ [_,_,_,_,_,_] rfl hmb) fun W S => ?_;have S0 := Lib.hid S;clear S hmb;have b0 := BlkAt.cell (S0.out.get 0 rfl) 0; have b1 := BlkAt.cell (S0.out.get 0 rfl) 1; have b2 := BlkAt.cell (S0.out.get 0 rfl) 2; have b3 := BlkAt.cell (S0.out.get 0 rfl) 3; have b4 := BlkAt.cell (S0.out.get 0 rfl) 4; have b5 := BlkAt.cell (S0.out.get 0 rfl) 5; simp only [List.getElem?_cons_succ,List.getElem?_cons_zero] at b0 b1 b2 b3 b4 b5;have PC := checkE_c m ⟨p,B,d⟩ W HN.out (HA.out.below S0.out.below);dsimp only [Md.cells] at PC;have PC2 := Lib.hid PC;clear PC;go_wp2_with fail
 refine PC2.out.mono ?_;intro e1 w1 he;obtain ⟨r,rfl,hr,HR,hb⟩ := he.two;have S1 := Lib.hid (S0.out.next hb);clear PC2 he hb S0 b0 b1 b2 b3 b4 b5;go_wp2_with fail
 refine bodyPost_ret (v := .tuple #[.slice none 0 0,.slice none 0 0,.int .i64 r]) (by simp [results,Tryz.results22,go_sem, *]) rfl ?_;exact ⟨r,rfl,HR.out,S1.out.below⟩
set_option maxHeartbeats 4000000 in
theorem durationE_c (m : Md) (P : MdP) (WA : Option Addr) (wl wc : Nat) (w : World) (hn : ¬ m.Ok) (hA : Md.At w m P) :
 Calls Tryz.prog 23 #[.agg (m.cells P).toArray,.slice WA wl wc] w (GivesEr m (fun r => .tuple #[.int .i64 0,.int .i64 0,.bool false,.int .i64 r]) w) := by
 have HN := Lib.hid hn;have HA := Lib.hid hA;obtain ⟨p,B,d⟩ := P;dsimp only [Md.cells];clear hn hA;go_enter Tryz.func23,Tryz.ntmps23
 obtain ⟨mb,hmb⟩ : ∃ g,g = w.heap.size := ⟨_,rfl⟩;go_upto_region 1 with fail
 rw [← hmb];refine wp_world (fun W => Sep w.heap.size w [eBlk mb 37 [.slice p.A1 m.a.al.length p.c1,.int .i64 m.a.n,.slice p.A2 m.a.mr.length p.c2,.slice p.A3 m.a.ed.length p.c3,.slice B m.ac.length d,.int .i64 m.tk]] W) ((Sep.here w).alloc' _ [_,_,_,_,_,_] rfl hmb) fun W S => ?_;have S0 := Lib.hid S;clear S hmb;have b0 := BlkAt.cell (S0.out.get 0 rfl) 0; have b1 := BlkAt.cell (S0.out.get 0 rfl) 1; have b2 := BlkAt.cell (S0.out.get 0 rfl) 2; have b3 := BlkAt.cell (S0.out.get 0 rfl) 3; have b4 := BlkAt.cell (S0.out.get 0 rfl) 4; have b5 := BlkAt.cell (S0.out.get 0 rfl) 5; simp only [List.getElem?_cons_succ,List.getElem?_cons_zero] at b0 b1 b2 b3 b4 b5;have PC := checkE_c m ⟨p,B,d⟩ W HN.out (HA.out.below S0.out.below);dsimp only [Md.cells] at PC;have PC2 := Lib.hid PC;clear PC;go_wp2_with fail
 refine PC2.out.mono ?_;intro e1 w1 he;obtain ⟨r,rfl,hr,HR,hb⟩ := he.two;have S1 := Lib.hid (S0.out.next hb);clear PC2 he hb S0 b0 b1 b2 b3 b4 b5;go_wp2_with fail
 refine bodyPost_ret (v := .tuple #[.int .i64 0,.int .i64 0,.bool false,.int .i64 r]) (by simp [results,Tryz.results23,go_sem, *]) rfl ?_;exact ⟨r,rfl,HR.out,S1.out.below⟩
set_option maxHeartbeats 4000000 in
theorem loopE_c (m : Md) (P : MdP) (w : World) (hn : ¬ m.Ok) (hA : Md.At w m P) :
 Calls Tryz.prog 24 #[.agg (m.cells P).toArray] w (GivesEr m (fun r => .tuple #[.slice none 0 0,.slice none 0 0,.bool false,.int .i64 r]) w) := by
 have HN := Lib.hid hn;have HA := Lib.hid hA;obtain ⟨p,B,d⟩ := P;dsimp only [Md.cells];clear hn hA;go_enter Tryz.func24,Tryz.ntmps24
 obtain ⟨mb,hmb⟩ : ∃ g,g = w.heap.size := ⟨_,rfl⟩;go_upto_region 1 with fail
 rw [← hmb];refine wp_world (fun W => Sep w.heap.size w [eBlk mb 37 [.slice p.A1 m.a.al.length p.c1,.int .i64 m.a.n,.slice p.A2 m.a.mr.length p.c2,.slice p.A3 m.a.ed.length p.c3,.slice B m.ac.length d,.int .i64 m.tk]] W) ((Sep.here w).alloc' _ [_,_,_,_,_,_] rfl hmb) fun W S => ?_;have S0 := Lib.hid S;clear S hmb;have b0 := BlkAt.cell (S0.out.get 0 rfl) 0; have b1 := BlkAt.cell (S0.out.get 0 rfl) 1; have b2 := BlkAt.cell (S0.out.get 0 rfl) 2; have b3 := BlkAt.cell (S0.out.get 0 rfl) 3; have b4 := BlkAt.cell (S0.out.get 0 rfl) 4; have b5 := BlkAt.cell (S0.out.get 0 rfl) 5; simp only [List.getElem?_cons_succ,List.getElem?_cons_zero] at b0 b1 b2 b3 b4 b5;have PC := timedE_c m ⟨p,B,d⟩ W HN.out (HA.out.below S0.out.below);dsimp only [Md.cells] at PC;have PC2 := Lib.hid PC;clear PC;go_wp2_with fail
 refine PC2.out.mono ?_;intro e1 w1 he;obtain ⟨r,rfl,hr,HR,hb⟩ := he.two;have S1 := Lib.hid (S0.out.next hb);clear PC2 he hb S0 b0 b1 b2 b3 b4 b5;obtain ⟨ab,hab⟩ : ∃ g,g = w1.heap.size := ⟨_,rfl⟩;go_upto_region 2 with fail
 rw [← hab];refine wp_world (fun V => (SepW w [eBlk ab 34 [.slice none 0 0,.int .i64 0,.slice none 0 0,.slice none 0 0],eBlk mb 37 [.slice p.A1 m.a.al.length p.c1,.int .i64 m.a.n,.slice p.A2 m.a.mr.length p.c2,.slice p.A3 m.a.ed.length p.c3,.slice B m.ac.length d,.int .i64 m.tk]] V)) (S1.out.alloc' _ [_,_,_,_] rfl hab) fun W3 S => ?_;have S3 := Lib.hid S.out;clear S S1 hab;go_wp2_with fail
 refine bodyPost_ret (v := .tuple #[.slice none 0 0,.slice none 0 0,.bool false,.int .i64 r]) (by simp [results,Tryz.results24,go_sem, *]) rfl ?_;exact ⟨r,rfl,HR.out,S3.out.below⟩
set_option maxHeartbeats 4000000 in
theorem relaxedE_c (m : Md) (P : MdP) (w : World) (hn : ¬ m.Ok) (hA : Md.At w m P) :
 Calls Tryz.prog 7 #[.agg (m.cells P).toArray] w (GivesEr m (fun r => .tuple #[.agg #[.slice none 0 0,.int .i64 0,.slice none 0 0,.slice none 0 0,.slice none 0 0,.int .i64 0],.int .i64 r]) w) := by
 have HN := Lib.hid hn;have HA := Lib.hid hA;obtain ⟨p,B,d⟩ := P;dsimp only [Md.cells];clear hn hA;go_enter Tryz.func7,Tryz.ntmps7
 obtain ⟨mb,hmb⟩ : ∃ g,g = w.heap.size := ⟨_,rfl⟩;obtain ⟨rb,hrb⟩ : ∃ g,g = w.heap.size + 1 := ⟨_,rfl⟩;go_upto_region 1 with fail
 rw [← hrb,← hmb];refine wp_world (fun W => Sep w.heap.size w [eBlk rb 37 [.slice none 0 0,.int .i64 0,.slice none 0 0,.slice none 0 0,.slice none 0 0,.int .i64 0],eBlk mb 37 [.slice p.A1 m.a.al.length p.c1,.int .i64 m.a.n,.slice p.A2 m.a.mr.length p.c2,.slice p.A3 m.a.ed.length p.c3,.slice B m.ac.length d,.int .i64 m.tk]] W) (((Sep.here w).alloc' _ [_,_,_,_,_,_] rfl hmb).alloc' _ [_,_,_,_,_,_] rfl (by rw [hrb]; simp)) fun W S => ?_;have S0 := Lib.hid S;clear S hmb hrb;have b0 := BlkAt.cell (S0.out.get 1 rfl) 0; have b1 := BlkAt.cell (S0.out.get 1 rfl) 1; have b2 := BlkAt.cell (S0.out.get 1 rfl) 2; have b3 := BlkAt.cell (S0.out.get 1 rfl) 3; have b4 := BlkAt.cell (S0.out.get 1 rfl) 4; have b5 := BlkAt.cell (S0.out.get 1 rfl) 5; simp only [List.getElem?_cons_succ,List.getElem?_cons_zero] at b0 b1 b2 b3 b4 b5;have PC := checkE_c m ⟨p,B,d⟩ W HN.out (HA.out.below S0.out.below);dsimp only [Md.cells] at PC;have PC2 := Lib.hid PC;clear PC;go_wp2_with fail
 refine PC2.out.mono ?_;intro e1 w1 he;obtain ⟨r,rfl,hr,HR,hb⟩ := he.two;have S1 := Lib.hid (S0.out.next hb);clear PC2 he hb S0 b0 b1 b2 b3 b4 b5;have r0 := BlkAt.cell (S1.out.get 0 rfl) 0;have r1 := BlkAt.cell (S1.out.get 0 rfl) 1;have r2 := BlkAt.cell (S1.out.get 0 rfl) 2;have r3 := BlkAt.cell (S1.out.get 0 rfl) 3;have r4 := BlkAt.cell (S1.out.get 0 rfl) 4;have r5 := BlkAt.cell (S1.out.get 0 rfl) 5;have f0 := BlkAt.free (S1.out.get 0 rfl) 0;have f1 := BlkAt.free (S1.out.get 0 rfl) 1;have f2 := BlkAt.free (S1.out.get 0 rfl) 2;have f3 := BlkAt.free (S1.out.get 0 rfl) 3;have f4 := BlkAt.free (S1.out.get 0 rfl) 4;have f5 := BlkAt.free (S1.out.get 0 rfl) 5;have S5 := Lib.hid ((((((S1.out.set 0 rfl 0 (.slice none 0 0)).set 0 rfl 1 (.int .i64 0)).set 0 rfl 2 (.slice none 0 0)).set 0 rfl 3 (.slice none 0 0)).set 0 rfl 4 (.slice none 0 0)).set 0 rfl 5 (.int .i64 0));have g0 := BlkAt.cell (S5.out.get 0 rfl) 0;have g1 := BlkAt.cell (S5.out.get 0 rfl) 1;have g2 := BlkAt.cell (S5.out.get 0 rfl) 2;have g3 := BlkAt.cell (S5.out.get 0 rfl) 3;have g4 := BlkAt.cell (S5.out.get 0 rfl) 4;have g5 := BlkAt.cell (S5.out.get 0 rfl) 5;simp only [List.set_cons_succ,List.set_cons_zero,List.getElem?_cons_succ,List.getElem?_cons_zero] at r0 r1 r2 r3 r4 r5 g0 g1 g2 g3 g4 g5;clear S1;go_wp2_with fail
 refine bodyPost_ret (v := .tuple #[.agg #[.slice none 0 0,.int .i64 0,.slice none 0 0,.slice none 0 0,.slice none 0 0,.int .i64 0],.int .i64 r]) (by simp [results,Tryz.results7,go_sem, *]) rfl ?_;exact ⟨r,rfl,HR.out,S5.out.below⟩
set_option maxHeartbeats 4000000 in
theorem untimedE_c (m : Md) (P : MdP) (w : World) (hn : ¬ m.Ok) (hA : Md.At w m P) :
 Calls Tryz.prog 9 #[.agg (m.cells P).toArray] w (GivesEr m (fun r => .tuple #[.agg #[.slice none 0 0,.int .i64 0,.slice none 0 0,.slice none 0 0],.int .i64 r]) w) := by
 have HN := Lib.hid hn;have HA := Lib.hid hA;obtain ⟨p,B,d⟩ := P;dsimp only [Md.cells];clear hn hA;go_enter Tryz.func9,Tryz.ntmps9
 obtain ⟨mb,hmb⟩ : ∃ g,g = w.heap.size := ⟨_,rfl⟩;obtain ⟨rb,hrb⟩ : ∃ g,g = w.heap.size + 1 := ⟨_,rfl⟩;go_upto_region 1 with fail
 rw [← hrb,← hmb];refine wp_world (fun W => Sep w.heap.size w [eBlk rb 34 [.slice none 0 0,.int .i64 0,.slice none 0 0,.slice none 0 0],eBlk mb 37 [.slice p.A1 m.a.al.length p.c1,.int .i64 m.a.n,.slice p.A2 m.a.mr.length p.c2,.slice p.A3 m.a.ed.length p.c3,.slice B m.ac.length d,.int .i64 m.tk]] W) (((Sep.here w).alloc' _ [_,_,_,_,_,_] rfl hmb).alloc' _ [_,_,_,_] rfl (by rw [hrb]; simp)) fun W S => ?_;have S0 := Lib.hid S;clear S hmb hrb;have b0 := BlkAt.cell (S0.out.get 1 rfl) 0; have b1 := BlkAt.cell (S0.out.get 1 rfl) 1; have b2 := BlkAt.cell (S0.out.get 1 rfl) 2; have b3 := BlkAt.cell (S0.out.get 1 rfl) 3; have b4 := BlkAt.cell (S0.out.get 1 rfl) 4; have b5 := BlkAt.cell (S0.out.get 1 rfl) 5; simp only [List.getElem?_cons_succ,List.getElem?_cons_zero] at b0 b1 b2 b3 b4 b5;have PC := timedE_c m ⟨p,B,d⟩ W HN.out (HA.out.below S0.out.below);dsimp only [Md.cells] at PC;have PC2 := Lib.hid PC;clear PC;go_wp2_with fail
 refine PC2.out.mono ?_;intro e1 w1 he;obtain ⟨r,rfl,hr,HR,hb⟩ := he.two;have S1 := Lib.hid (S0.out.next hb);clear PC2 he hb S0 b0 b1 b2 b3 b4 b5;obtain ⟨ab,hab⟩ : ∃ g,g = w1.heap.size := ⟨_,rfl⟩;go_upto_region 2 with fail
 rw [← hab];refine wp_world (fun V => (SepW w [eBlk ab 34 [.slice none 0 0,.int .i64 0,.slice none 0 0,.slice none 0 0],eBlk rb 34 [.slice none 0 0,.int .i64 0,.slice none 0 0,.slice none 0 0],eBlk mb 37 [.slice p.A1 m.a.al.length p.c1,.int .i64 m.a.n,.slice p.A2 m.a.mr.length p.c2,.slice p.A3 m.a.ed.length p.c3,.slice B m.ac.length d,.int .i64 m.tk]] V)) (S1.out.alloc' _ [_,_,_,_] rfl hab) fun W3 S => ?_;have S3 := Lib.hid S.out;clear S S1 hab;have r0 := BlkAt.cell (S3.out.get 1 rfl) 0;have r1 := BlkAt.cell (S3.out.get 1 rfl) 1;have r2 := BlkAt.cell (S3.out.get 1 rfl) 2;have r3 := BlkAt.cell (S3.out.get 1 rfl) 3;have f0 := BlkAt.free (S3.out.get 1 rfl) 0;have f1 := BlkAt.free (S3.out.get 1 rfl) 1;have f2 := BlkAt.free (S3.out.get 1 rfl) 2;have f3 := BlkAt.free (S3.out.get 1 rfl) 3;have S5 := Lib.hid ((((S3.out.set 1 rfl 0 (.slice none 0 0)).set 1 rfl 1 (.int .i64 0)).set 1 rfl 2 (.slice none 0 0)).set 1 rfl 3 (.slice none 0 0));have g0 := BlkAt.cell (S5.out.get 1 rfl) 0;have g1 := BlkAt.cell (S5.out.get 1 rfl) 1;have g2 := BlkAt.cell (S5.out.get 1 rfl) 2;have g3 := BlkAt.cell (S5.out.get 1 rfl) 3;simp only [List.set_cons_succ,List.set_cons_zero,List.getElem?_cons_succ,List.getElem?_cons_zero] at r0 r1 r2 r3 g0 g1 g2 g3;clear S3;go_wp2_with fail
 refine bodyPost_ret (v := .tuple #[.agg #[.slice none 0 0,.int .i64 0,.slice none 0 0,.slice none 0 0],.int .i64 r]) (by simp [results,Tryz.results9,go_sem, *]) rfl ?_;exact ⟨r,rfl,HR.out,S5.out.below⟩
end Go.Proofs.YtimdepdbcdbikaaGreat
