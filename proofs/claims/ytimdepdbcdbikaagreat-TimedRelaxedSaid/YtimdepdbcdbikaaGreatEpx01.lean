/-
  What the row leans on.
-/
import Derived.Test.YtimdepdbcdbikaaGreatBas01
import Derived.WalkKit
import Derived.ProofKit
import Derived.OpenShut
import Derived.ShutString
import Derived.ChangeOld
import Derived.Below
import Derived.Lib.SmallJoins
import Derived.Deep.MidRow
import Derived.Test.YtimdepdbcdbikaaGreatRows
import Derived.Test.YtimdepdbcdbikaaGreatBas04
import Derived.Test.YtimdepdbcdbikaaGreatBas11
import Derived.Test.YtimdepdbcdbikaaGreatBas21
import Derived.Test.YtimdepdbcdbikaaGreatBas15
import Derived.Test.YtimdepdbcdbikaaGreatBas02
import Derived.Shelf.Strings.BuilderRune
import Derived.Shelf.Strings.BuilderK
import Derived.Test.YtimdepdbcdbikaaGreatBas17
import Derived.Test.YtimdepdbcdbikaaGreatBas13
import Derived.BigQuiet
import Derived.Deep.CutBlock
import Derived.Deep.DeepCutAuto
set_option linter.unusedSimpArgs false
set_option linter.unusedVariables false
namespace Go.Proofs.YtimdepdbcdbikaaGreat
open Go.RowKit
set_option maxRecDepth 100000
section
abbrev SepW (w : World) (es : List Ent) (V : World) : Prop := Hid (Sep w.heap.size w es V)
open Go.ChangeShapes Go.WideShapes Go.ChangeAt Go.RowKit

section
variable {H : Type} {enc : TypeId × Value → H} {P : Program} {w : World} {base : Nat} {spare : Nat → Bool} {held : Bool}

def consec (P : Program) : List Field → Nat → Nat → Bool
 | [],n,m => n == m
 | f :: r,n,m => f.offset == n && consec P r (n + P.cellsOf f.type) m
end
end
section
open Go.ChangeShapes Go.WideShapes Go.ChangeAt Go.RowKit

theorem own_ : ownKnob Tryz.prog.godebug = none := by kernel_rfl
theorem laidOut_ : laidOutB Tryz.prog = true := by kernel_rfl
section
variable {H : Type} {enc : TypeId × Value → H} {w : World} {base : Nat} {spare : Nat → Bool} {held : Bool}
structure AuIn (w : World) (a : Au) (p : AuP) : Prop where
 h1 : IntsAt w p.A1 a.al
 h2 : IntsAt w p.A2 a.mr
 h3 : EdsAt w p.A3 a.ed
 l1 : a.al.length ≤ p.c1
 l2 : a.mr.length ≤ p.c2
 l3 : a.ed.length ≤ p.c3
 m1 : p.c1 ≤ maxLen
 m2 : p.c2 ≤ maxLen
 m3 : p.c3 ≤ maxLen
end
end
section
open Go.ChangeShapes Go.WideShapes Go.ChangeAt Go.RowKit
section
variable {H : Type} {enc : TypeId × Value → H} {w : World} {base : Nat} {spare : Nat → Bool} {held : Bool}
theorem u8_bounds {n : Int} (h : (Lit.int .u8 n).wf = true) : 0 ≤ n ∧ n < 256 := by
 simp [Lit.wf,IntKind.min,IntKind.max,IntKind.signed,IntKind.bits] at h; omega
theorem u8_rows (k : Nat) : ∀ (N : Nat) (cs : List Value),cs.length = N * k → (∀ i,i < N → ∃ g : List Int,g.length = k ∧ (∀ x,x ∈ g → 0 ≤ x ∧ x < 256) ∧ (cs.drop (i * k)).take k = g.map (.int .u8)) → ∃ g : List Int,g.length = N * k ∧ (∀ x,x ∈ g → 0 ≤ x ∧ x < 256) ∧ cs = g.map (.int .u8)
 | 0,cs,hl,_ => ⟨[],by simp,by simp,by simpa using hl⟩
 | N + 1,cs,hl,h => by
   obtain ⟨g0,l0,b0,e0⟩ := h 0 (by omega);have hk : (N + 1) * k = k + N * k := by rw [Nat.succ_mul,Nat.add_comm]
   obtain ⟨g1,l1,b1,e1⟩ := u8_rows k N (cs.drop k) (by rw [List.length_drop]; omega) fun i hi => by
    obtain ⟨g,a,b,c⟩ := h (i + 1) (by omega);refine ⟨g,a,b,?_⟩;rw [List.drop_drop,← c];congr 2
    rw [Nat.succ_mul]; omega
   refine ⟨g0 ++ g1,by rw [List.length_append]; omega,fun x hx => (List.mem_append.1 hx).elim (b0 x) (b1 x),?_⟩;rw [List.map_append,← e0,← e1,Nat.zero_mul,List.drop_zero,List.take_append_drop]
theorem u8_arr {P : Program} {t e : TypeId} {N : Nat} (ht : P.underlying t = some (.array N e)) (he : P.underlying e = some (.int .u8)) (hc : P.cellsOf t = N) (hce : P.cellsOf e = 1) {fuel : Nat} {cs : List Value} {x : DataW H × List MemPlace}
 (h : DataW.trod enc P w base spare held fuel t cs = some x) : ∃ g : List Int,g.length = N ∧ (∀ x,x ∈ g → 0 ≤ x ∧ x < 256) ∧ cs = g.map (.int .u8) := by
 obtain ⟨xs,m,_,_,hl,hlen,hf⟩ := DataW.trod_array ht h;obtain ⟨g,a,b,c⟩ := u8_rows 1 N cs (by rw [hl,hc,Nat.mul_one]) fun i hi => by
  have h1 := hf i hi;rw [hce,List.getElem?_eq_getElem (by omega)] at h1;obtain ⟨n,hn,_,hw⟩ := DataW.trod_int he h1;exact ⟨[n],rfl,fun x hx => by simp at hx; subst hx; exact u8_bounds hw,hn⟩
 exact ⟨g,by omega,b,c⟩
theorem u8_arr2 {P : Program} {t e e' : TypeId} {N k : Nat} (ht : P.underlying t = some (.array N e)) (he : P.underlying e = some (.array k e')) (he' : P.underlying e' = some (.int .u8)) (hc : P.cellsOf t = N * k) (hce : P.cellsOf e = k) (hce' : P.cellsOf e' = 1) {fuel : Nat} {cs : List Value} {x : DataW H × List MemPlace}
 (h : DataW.trod enc P w base spare held fuel t cs = some x) : ∃ g : List Int,g.length = N * k ∧ (∀ x,x ∈ g → 0 ≤ x ∧ x < 256) ∧ cs = g.map (.int .u8) := by
 obtain ⟨xs,m,_,_,hl,hlen,hf⟩ := DataW.trod_array ht h;refine u8_rows k N cs (by rw [hl,hc]) fun i hi => ?_;have h1 := hf i hi;rw [hce,List.getElem?_eq_getElem (by omega)] at h1;exact u8_arr he he' hce hce' h1
theorem sm_of {fuel : Nat} {cs : List Value} {x : DataW H × List MemPlace} (h : DataW.trod enc Tryz.prog w base spare held fuel 25 cs = some x) : ∃ d : Sm4,d.Ok ∧ cs = d.cells := by
 obtain ⟨xs,n,_,_,hl,hlen,hf⟩ := DataW.trod_struct Tryz.underlying25 h;have hC : Tryz.prog.cellsOf 25 = 26 := by kernel_rfl
 have c1 : Tryz.prog.cellsOf 5 = 1 := by kernel_rfl
 have c24 : Tryz.prog.cellsOf 23 = 24 := by kernel_rfl
 rw [hC] at hl;have e3 : xs.length = 3 := hlen;have h0 : DataW.trod enc Tryz.prog w base spare held n 5 ((cs.drop 0).take (Tryz.prog.cellsOf 5)) = some xs[0] := by
  have := hf 0 _ rfl; rw [List.getElem?_eq_getElem (by omega)] at this; exact this
 rw [c1] at h0;have h1 : DataW.trod enc Tryz.prog w base spare held n 5 ((cs.drop 1).take (Tryz.prog.cellsOf 5)) = some xs[1] := by
  have := hf 1 _ rfl; rw [List.getElem?_eq_getElem (by omega)] at this; exact this
 rw [c1] at h1;have h2 : DataW.trod enc Tryz.prog w base spare held n 23 ((cs.drop 2).take (Tryz.prog.cellsOf 23)) = some xs[2] := by
  have := hf 2 _ rfl; rw [List.getElem?_eq_getElem (by omega)] at this; exact this
 rw [c24] at h2;obtain ⟨s,hs,_,ws⟩ := DataW.trod_int Tryz.underlying5 h0;obtain ⟨m,hm,_,wm⟩ := DataW.trod_int Tryz.underlying5 h1;obtain ⟨g,lg,bg,hg⟩ := u8_arr2 (N := 6) (k := 4) Tryz.underlying23 Tryz.underlying22 Tryz.underlying5 (by kernel_rfl) (by kernel_rfl) (by kernel_rfl) h2;refine ⟨⟨s,m,g⟩,⟨(u8_bounds ws).1,(u8_bounds ws).2,(u8_bounds wm).1,(u8_bounds wm).2,lg,bg⟩,?_⟩;have a0 : cs.drop 0 = (cs.drop 0).take 1 ++ cs.drop 1 := by have := List.take_append_drop 1 (cs.drop 0); rw [List.drop_drop] at this; exact this.symm
 have a1 : cs.drop 1 = (cs.drop 1).take 1 ++ cs.drop 2 := by have := List.take_append_drop 1 (cs.drop 1); rw [List.drop_drop] at this; exact this.symm
 have a2 : (cs.drop 2).take 24 = cs.drop 2 := List.take_of_length_le (by simp [hl]);rw [hg] at a2;rw [← a2,hm] at a1;rw [a1,hs] at a0;rw [← List.drop_zero (l := cs),a0];rfl
end
end
section
open Go.ChangeShapes Go.WideShapes Go.ChangeAt Go.RowKit
section
variable {H : Type} {enc : TypeId × Value → H} {w : World} {base : Nat} {spare : Nat → Bool} {held : Bool}
end
end
section
open Go.ChangeShapes Go.WideShapes Go.ChangeAt Go.RowKit
section
variable {H : Type} {enc : TypeId × Value → H} {w : World} {base : Nat} {spare : Nat → Bool} {held : Bool}
theorem sm5_of {fuel : Nat} {cs : List Value} {x : DataW H × List MemPlace} (h : DataW.trod enc Tryz.prog w base spare held fuel 29 cs = some x) : ∃ d : Sm5,d.Ok ∧ cs = d.cells := by
 obtain ⟨xs,n,_,_,hl,hlen,hf⟩ := DataW.trod_struct Tryz.underlying29 h;have hC : Tryz.prog.cellsOf 29 = 34 := by kernel_rfl
 have c26 : Tryz.prog.cellsOf 25 = 26 := by kernel_rfl
 have c8 : Tryz.prog.cellsOf 27 = 8 := by kernel_rfl
 rw [hC] at hl;have e2 : xs.length = 2 := hlen;have h0 : DataW.trod enc Tryz.prog w base spare held n 25 ((cs.drop 0).take (Tryz.prog.cellsOf 25)) = some xs[0] := by
  have := hf 0 _ rfl; rw [List.getElem?_eq_getElem (by omega)] at this; exact this
 rw [c26] at h0;have h1 : DataW.trod enc Tryz.prog w base spare held n 27 ((cs.drop 26).take (Tryz.prog.cellsOf 27)) = some xs[1] := by
  have := hf 1 _ rfl; rw [List.getElem?_eq_getElem (by omega)] at this; exact this
 rw [c8] at h1;obtain ⟨d,od,hd⟩ := sm_of h0;obtain ⟨g,lg,bg,hg⟩ := u8_arr2 (N := 4) (k := 2) Tryz.underlying27 Tryz.underlying26 Tryz.underlying5 (by kernel_rfl) (by kernel_rfl) (by kernel_rfl) h1;refine ⟨⟨d,g⟩,⟨od,lg,bg⟩,?_⟩;have a1 : (cs.drop 26).take 8 = cs.drop 26 := List.take_of_length_le (by simp [hl]);rw [a1] at hg;rw [List.drop_zero] at hd;rw [← List.take_append_drop 26 cs,hd,hg];rfl
theorem sm5_in {v : Value} {d : DataW H} {p : List MemPlace} {r : Reach} {b0 : Nat} (hv : Value.okWide Tryz.prog w r b0 29 v) (h : DataW.Trod enc Tryz.prog w base spare held 29 v d p) :
 ∃ d : Sm5,v = .agg d.cells.toArray ∧ d.Ok := by
 obtain ⟨⟨cs⟩,rfl,hsz⟩ := okWide_struct Tryz.underlying29 hv;obtain ⟨fuel,hf0⟩ := h;have hf : DataW.trod enc Tryz.prog w base spare held fuel 29 cs = some (d,p) := by simpa [Value.cells] using hf0
 obtain ⟨g,og,rfl⟩ := sm5_of hf;exact ⟨g,rfl,og⟩
end
end
section
structure Sy (σ : Type) where
 all : List Int
 eff : Int → σ → Option σ
 start : σ
 Is : σ → Prop
structure Sy.Ok {σ : Type} (m : Sy σ) : Prop where
 up : Rises (fun p q : Int => p < q) m.all
 len : m.all.length ≤ 33
 ok : setOk m.all 32 m.all.length
 st : m.Is m.start
 go : ∀ v e t,m.Is v → m.eff e v = some t → m.Is t
def stG {σ : Type} [DecidableEq σ] (m : Sy σ) (i : Nat) (s : List σ × List Ed) (e : Int) : List σ × List Ed :=
 match s.1[i]? with
 | none => s
 | some v => match m.eff e v with
   | none => s
   | some t => if t ∈ s.1 then (s.1,s.2 ++ [⟨i,e,((idxK s.1 t : Nat) : Int)⟩]) else (s.1 ++ [t],s.2 ++ [⟨i,e,(s.1.length : Int)⟩])
def rowG {σ : Type} [DecidableEq σ] (m : Sy σ) (i : Nat) (s : List σ × List Ed) (l : List Int) : List σ × List Ed := l.foldl (stG m i) s
def bldG {σ : Type} [DecidableEq σ] (m : Sy σ) : Nat → List σ × List Ed
 | 0 => ([m.start],[])
 | i + 1 => rowG m i (bldG m i) m.all
theorem rowG_next {σ : Type} [DecidableEq σ] (m : Sy σ) (i : Nat) (s : List σ × List Ed) {l : List Int} {j : Nat} {e : Int} (h : l[j]? = some e) : rowG m i s (l.take (j + 1)) = stG m i (rowG m i s (l.take j)) e := by
 unfold rowG
 rw [List.take_add_one,h,Option.toList_some,List.foldl_append]; rfl
def outEG {σ : Type} [DecidableEq σ] (m : Sy σ) (v : σ) (l : List Int) : List (Int × σ) := l.filterMap fun e => (m.eff e v).map fun t => (e,t)
abbrev outFG {σ : Type} [DecidableEq σ] (m : Sy σ) (v : σ) : List (Int × σ) := outEG m v m.all
section
variable {σ : Type} [DecidableEq σ] {m : Sy σ}
theorem outG_yes {v t : σ} {l : List Int} {j : Nat} {e : Int} (h : l[j]? = some e) (he : m.eff e v = some t) : (outEG m v (l.take (j + 1))).length = (outEG m v (l.take j)).length + 1 := by
 rw [take_snoc h]; unfold outEG; rw [List.filterMap_append,List.length_append]; simp [he]
theorem outG_no {v : σ} {l : List Int} {j : Nat} {e : Int} (h : l[j]? = some e) (he : m.eff e v = none) : (outEG m v (l.take (j + 1))).length = (outEG m v (l.take j)).length := by
 rw [take_snoc h]; unfold outEG; rw [List.filterMap_append,List.length_append]; simp [he]
theorem outG_at {v t : σ} {l : List Int} {j : Nat} {e : Int} (h : l[j]? = some e) (he : m.eff e v = some t) : (outEG m v l)[(outEG m v (l.take j)).length]? = some (e,t) := by
 have hlt := (List.getElem?_eq_some_iff.1 h).1;have e1 : outEG m v l = outEG m v (l.take j) ++ outEG m v (l.drop j) := by unfold outEG; rw [← List.filterMap_append,List.take_append_drop]
 have e2 : l.drop j = e :: l.drop (j + 1) := by
  rw [List.drop_eq_getElem_cons hlt];rw [(List.getElem?_eq_some_iff.1 h).2]
 rw [e1,List.getElem?_append_right (Nat.le_refl _),Nat.sub_self,e2];unfold outEG
 simp [he]
theorem outG_ups (h : Sy.Ok m) (v : σ) : Ups (outFG m v) := by
 have hp := rises_pw h.up;have : (outFG m v).Pairwise fun x y => x.1 < y.1 := by
  unfold outFG outEG
  rw [List.pairwise_filterMap];refine hp.imp fun {x y} hxy u hu w hw => ?_;simp only [Option.mem_def,Option.map_eq_some_iff] at hu hw;obtain ⟨_,_,rfl⟩ := hu;obtain ⟨_,_,rfl⟩ := hw;exact hxy
 exact pw_rises this
theorem mem_outG {v : σ} {x : Int × σ} (h : x ∈ outFG m v) : x.1 ∈ m.all ∧ m.eff x.1 v = some x.2 := by
 unfold outFG outEG at h
 rw [List.mem_filterMap] at h;obtain ⟨e,he,h2⟩ := h;rw [Option.map_eq_some_iff] at h2;obtain ⟨t,h3,rfl⟩ := h2;exact ⟨he,h3⟩
structure UOG {σ : Type} [DecidableEq σ] (m : Sy σ) (i : Nat) (fs : List σ) (ed : List Ed) : Prop where
 eq : (fs,ed) = bldG m i
 is : ∀ c,c ∈ fs → m.Is c
 nd : fs.Nodup
 el : ed.length ≤ 33 * i
 il : i ≤ fs.length
 bl : Bld id (outFG m) m.start i 0 fs ed
 rd : ∀ k,k < i → k < (bldG m k).1.length
structure UIG {σ : Type} [DecidableEq σ] (m : Sy σ) (i j : Nat) (v : σ) (fs : List σ) (ed : List Ed) : Prop where
 eq : (fs,ed) = rowG m i (bldG m i) (m.all.take j)
 is : ∀ c,c ∈ fs → m.Is c
 nd : fs.Nodup
 el : ed.length ≤ 33 * i + j
 at_ : fs[i]? = some v
 bl : Bld id (outFG m) m.start i (outEG m v (m.all.take j)).length fs ed
 rd : ∀ k,k < i + 1 → k < (bldG m k).1.length
theorem UOG.start (hm : Sy.Ok m) : UOG m 0 [m.start] [] :=
 ⟨rfl,fun c hc => by simp at hc; subst hc; exact hm.st,by simp,by simp,by simp,Bld.start,fun k hk => absurd hk (by omega)⟩
theorem UOG.row {i : Nat} {fs : List σ} {ed : List Ed} {v : σ} (h : UOG m i fs ed) (hv : fs[i]? = some v) : UIG m i 0 v fs ed :=
 ⟨by rw [h.eq]; rfl,h.is,h.nd,by have := h.el; omega,hv,by have := h.bl; simpa [outEG] using this,fun k hk => by
  rcases Nat.lt_or_ge k i with g | g
  · exact h.rd k g
  · obtain rfl : k = i := by omega
    rw [← h.eq];exact (List.getElem?_eq_some_iff.1 hv).1⟩
theorem UIG.none_ {i j : Nat} {fs : List σ} {ed : List Ed} {v : σ} {e : Int} (h : UIG m i j v fs ed) (he : m.all[j]? = some e) (hn : m.eff e v = none) : UIG m i (j + 1) v fs ed :=
 ⟨by rw [rowG_next m i _ he,← h.eq]; simp only [stG,h.at_,hn],h.is,h.nd,by have := h.el; omega,h.at_,by rw [outG_no he hn]; exact h.bl,h.rd⟩
theorem UIG.old {i j : Nat} {fs : List σ} {ed : List Ed} {v t : σ} {e : Int} (hm : Sy.Ok m) (h : UIG m i j v fs ed) (he : m.all[j]? = some e) (hn : m.eff e v = some t) (ht : t ∈ fs) :
 UIG m i (j + 1) v fs (ed ++ [⟨i,e,((idxK fs t : Nat) : Int)⟩]) :=
 ⟨by rw [rowG_next m i _ he,← h.eq]; simp only [stG,h.at_,hn,if_pos ht],h.is,h.nd,by rw [List.length_append]; have := h.el; simp only [List.length_singleton]; omega,h.at_,by
  rw [outG_yes he hn];exact h.bl.old h.at_ (outG_ups hm v) (outG_at he hn) (idxK_get ht) rfl,h.rd⟩
theorem UIG.new {i j : Nat} {fs : List σ} {ed : List Ed} {v t : σ} {e : Int} (hm : Sy.Ok m) (h : UIG m i j v fs ed) (he : m.all[j]? = some e) (hn : m.eff e v = some t) (ht : ¬ t ∈ fs) :
 UIG m i (j + 1) v (fs ++ [t]) (ed ++ [⟨i,e,(fs.length : Int)⟩]) := by
 refine ⟨by rw [rowG_next m i _ he,← h.eq]; simp only [stG,h.at_,hn,if_neg ht],fun c hc => ?_,?_,by rw [List.length_append]; have := h.el; simp only [List.length_singleton]; omega,get_keep h.at_ _,?_,h.rd⟩
 · rcases List.mem_append.1 hc with g | g
   · exact h.is c g
   · simp at g; subst g
     exact hm.go v e _ (h.is v (List.mem_of_getElem? h.at_)) hn
 · rw [List.nodup_append];exact ⟨h.nd,by simp,fun a ha b hb e => by simp at hb; subst hb; subst e; exact ht ha⟩
 · rw [outG_yes he hn];exact h.bl.new h.at_ (outG_ups hm v) (outG_at he hn) (fun u hu g => by simp only [id] at g; subst g; exact ht hu)
theorem UIG.fin {i : Nat} {fs : List σ} {ed : List Ed} {v : σ} (hm : Sy.Ok m) (h : UIG m i m.all.length v fs ed) : UOG m (i + 1) fs ed := by
 have hil := (List.getElem?_eq_some_iff.1 h.at_).1;refine ⟨by rw [h.eq,List.take_length]; rfl,h.is,h.nd,by have := h.el; have := hm.len; omega,by omega,?_,h.rd⟩;have hb := h.bl;rw [List.take_length] at hb;exact Bld.next hb h.at_
def UfdG {σ : Type} [DecidableEq σ] (m : Sy σ) (fs : List σ) (ed : List Ed) : Prop := UOG m fs.length fs ed
theorem UfdG.uniq {fs fs' : List σ} {ed ed' : List Ed} (h : UfdG m fs ed) (k : UfdG m fs' ed') : fs = fs' ∧ ed = ed' := by
 have e : fs.length = fs'.length := by
  rcases Nat.lt_trichotomy fs.length fs'.length with g | g | g
  · have := k.rd _ g;rw [← h.eq] at this;simp only at this; omega
  · exact g
  · have := h.rd _ g;rw [← k.eq] at this;simp only at this; omega
 have h1 := h.eq;have h2 := k.eq;rw [e,← h2] at h1;exact ⟨congrArg Prod.fst h1,congrArg Prod.snd h1⟩
end
def mkG {σ : Type} (P : σ → Bool) (fs : List σ) (j : Nat) : Bool := match fs[j]? with
 | some v => P v
 | none => false
theorem mkG_push {σ : Type} {P : σ → Bool} (fs : List σ) (t : σ) {k : Nat} (h : k ≤ fs.length) : mkV (mkG P (fs ++ [t])) k = mkV (mkG P fs) k := by
 unfold mkV
 congr 1
 refine List.filter_congr fun j hj => ?_;have : j < fs.length := by have := List.mem_range.1 hj; omega
 simp only [mkG,List.getElem?_append_left this]
theorem mkG_at {σ : Type} {P : σ → Bool} {fs : List σ} {i : Nat} {v : σ} (h : fs[i]? = some v) : mkG P fs i = P v := by simp only [mkG,h]
def gAu {σ : Type} (m : Sy σ) (P : σ → Bool) (fs : List σ) (ed : List Ed) : Au := ⟨m.all,fs.length,mkV (mkG P fs) fs.length,ed⟩
section
variable {σ : Type} [DecidableEq σ] {m : Sy σ}
theorem UfdG.built (hm : Sy.Ok m) {P : σ → Bool} {fs : List σ} {ed : List Ed} (h : UfdG m fs ed) (hl : fs.length ≤ 4096) : Built id (outFG m) m.start (gAu m P fs ed) fs :=
 h.bl.built (Nat.le_refl _) m.all (mkV (mkG P fs) fs.length) hm.ok hl (mkV_ok _ _) (fun v _ x hx => (mem_outG hx).1) (fun v _ => outG_ups hm v)
end
def FewG {σ : Type} (m : Sy σ) : Prop := ∀ fs : List σ,fs.Nodup → (∀ c,c ∈ fs → m.Is c) → fs.length ≤ 4000
end
section
inductive Rch (ed : List Ed) (ev from_ : List Int) : Int → Prop
 | base {x : Int} : x ∈ from_ → Rch ed ev from_ x
 | step {x : Ed} : Rch ed ev from_ x.src → x ∈ ed → x.ev ∈ ev → Rch ed ev from_ x.dst
open Classical in
noncomputable def rchV (n : Nat) (ed : List Ed) (ev from_ : List Int) : List Int := mkV (fun s => decide (Rch ed ev from_ (s : Int))) n
open Classical in
theorem mem_rchV {n : Nat} {ed : List Ed} {ev from_ : List Int} {x : Int} : x ∈ rchV n ed ev from_ ↔ (0 ≤ x ∧ x < n) ∧ Rch ed ev from_ x := by
 unfold rchV
 rw [mkV_mem];constructor
 · rintro ⟨s,rfl,h1,h2⟩;exact ⟨⟨by omega,by omega⟩,of_decide_eq_true h2⟩
 · rintro ⟨⟨h1,h2⟩,h3⟩;obtain ⟨s,rfl⟩ := Int.eq_ofNat_of_zero_le h1;exact ⟨s,rfl,by omega,decide_eq_true h3⟩
open Classical in
theorem rchV_ok (n : Nat) (ed : List Ed) (ev from_ : List Int) : setOk (rchV n ed ev from_) n (rchV n ed ev from_).length := mkV_ok _ _
theorem rchV_of {n : Nat} {ed : List Ed} {ev from_ l : List Int} (hs : Rises (fun p q : Int => p < q) l) (hm : ∀ x,x ∈ l ↔ Rch ed ev from_ x) (hb : ∀ x,x ∈ l → 0 ≤ x ∧ x < (n : Int)) : l = rchV n ed ev from_ := by
 refine Rises.ext (R := fun p q : Int => p < q) (fun x => by omega) (fun x y h => by omega) hs (rchV_ok n ed ev from_).incr fun x => ?_;rw [mem_rchV,hm];exact ⟨fun h => ⟨hb x ((hm x).2 h),h⟩,fun h => h.2⟩
theorem sortV_up {l : List Int} (h : l.Nodup) : Rises (fun p q : Int => p < q) (sortV l) := by
 have h1 : (sortV l).Pairwise (fun x y => decide (x ≤ y) = true) := List.pairwise_mergeSort (fun a b c h1 h2 => by simp only [decide_eq_true_eq] at *; omega) (fun a b => by simp only [Bool.or_eq_true,decide_eq_true_eq]; omega) l;have h2 : (sortV l).Nodup := (List.mergeSort_perm l _).nodup_iff.2 h;exact pw_rises ((h1.and h2).imp fun {a b} ⟨g1,g2⟩ => by
  simp only [decide_eq_true_eq] at g1;have : a ≠ b := g2;omega)
def add1 (l : List Int) (x : Int) : List Int := if x ∈ l then l else l ++ [x]
theorem mem_add1 {l : List Int} {x y : Int} : y ∈ add1 l x ↔ y ∈ l ∨ y = x := by
 unfold add1
 split
 · rename_i h
   constructor
   · exact .inl
   · rintro (g | rfl)
     · exact g
     · exact h
 · simp
theorem add1_nd {l : List Int} (h : l.Nodup) (x : Int) : (add1 l x).Nodup := by
 unfold add1
 split
 · exact h
 · rename_i g
   rw [List.nodup_append];exact ⟨h,by simp,fun a ha b hb e => by simp at hb; subst hb; subst e; exact g ha⟩
theorem add1_get {l : List Int} {x v : Int} {i : Nat} (h : l[i]? = some v) : (add1 l x)[i]? = some v := by
 unfold add1
 split
 · exact h
 · exact get_keep h _
structure RI (n : Nat) (ed : List Ed) (ev from_ : List Int) (i : Nat) (l : List Int) : Prop where
 nd : l.Nodup
 b : ∀ x,x ∈ l → 0 ≤ x ∧ x < (n : Int)
 r : ∀ x,x ∈ l → Rch ed ev from_ x
 f : ∀ x,x ∈ from_ → x ∈ l
 c : ∀ (k : Nat) (s : Int),k < i → l[k]? = some s → ∀ x,x ∈ outOf ed s.toNat → x.ev ∈ ev → x.dst ∈ l
structure RJ (n : Nat) (ed : List Ed) (ev from_ : List Int) (i j : Nat) (s : Int) (l : List Int) : Prop extends RI n ed ev from_ i l where
 a : l[i]? = some s
 cj : ∀ (q : Nat) (x : Ed),q < j → (outOf ed s.toNat)[q]? = some x → x.ev ∈ ev → x.dst ∈ l
def preV (from_ : List Int) (k : Nat) : List Int := (from_.take k).foldl add1 []
theorem preV_next {from_ : List Int} {k : Nat} {x : Int} (h : from_[k]? = some x) : preV from_ (k + 1) = add1 (preV from_ k) x := by
 unfold preV
 rw [take_snoc h,List.foldl_append]; rfl
theorem preV_mem {from_ : List Int} : ∀ (k : Nat) (x : Int),x ∈ preV from_ k ↔ x ∈ from_.take k
 | 0,x => by simp [preV]
 | k + 1,x => by
   cases h : from_[k]? with
   | none =>
     have e : from_.length ≤ k := List.getElem?_eq_none_iff.1 h;have := preV_mem (from_ := from_) k x;unfold preV at *
     rw [List.take_of_length_le (by omega)] at *;exact this
   | some y => rw [preV_next h,mem_add1,preV_mem k x,take_snoc h]; simp
theorem preV_nd (from_ : List Int) : ∀ k : Nat,(preV from_ k).Nodup
 | 0 => by simp [preV]
 | k + 1 => by
   cases h : from_[k]? with
   | none =>
     have e : from_.length ≤ k := List.getElem?_eq_none_iff.1 h;have := preV_nd from_ k;unfold preV at *
     rw [List.take_of_length_le (by omega)] at *;exact this
   | some y => rw [preV_next h]; exact add1_nd (preV_nd from_ k) y
section
variable {n : Nat} {ed : List Ed} {ev from_ l : List Int} {i j : Nat} {s : Int}
theorem RI.start (hf : ∀ x,x ∈ from_ → 0 ≤ x ∧ x < (n : Int)) : RI n ed ev from_ 0 (preV from_ from_.length) :=
 ⟨preV_nd _ _,fun x h => hf x (by have := (preV_mem _ x).1 h; rwa [List.take_length] at this),fun x h => .base (by have := (preV_mem _ x).1 h; rwa [List.take_length] at this),fun x h => (preV_mem _ x).2 (by rwa [List.take_length]),fun k s h => absurd h (by omega)⟩
theorem RI.row (h : RI n ed ev from_ i l) (hs : l[i]? = some s) : RJ n ed ev from_ i 0 s l := { h with a := hs,cj := fun q x hq => absurd hq (by omega) }
theorem RJ.no {x : Ed} (h : RJ n ed ev from_ i j s l) (hx : (outOf ed s.toNat)[j]? = some x) (hn : ¬ x.ev ∈ ev) : RJ n ed ev from_ i (j + 1) s l :=
 ⟨h.toRI,h.a,fun q y hq hy he => by
  rcases Nat.lt_or_ge q j with g | g
  · exact h.cj q y g hy he
  · obtain rfl : q = j := by omega
    rw [hx] at hy; cases hy;exact absurd he hn⟩
theorem RJ.yes {x : Ed} (h : RJ n ed ev from_ i j s l) (hx : (outOf ed s.toNat)[j]? = some x) (he : x.ev ∈ ev) (hd : ∀ y,y ∈ ed → 0 ≤ y.dst ∧ y.dst < (n : Int)) : RJ n ed ev from_ i (j + 1) s (add1 l x.dst) where
 nd := add1_nd h.nd _
 b := fun y hy => by
  rcases mem_add1.1 hy with g | rfl
  · exact h.b y g
  · exact hd x (mem_outOf.1 (List.mem_of_getElem? hx)).1
 r := fun y hy => by
  rcases mem_add1.1 hy with g | rfl
  · exact h.r y g
  · have hm := mem_outOf.1 (List.mem_of_getElem? hx);have hs := h.b s (List.mem_of_getElem? h.a);have hr := h.r s (List.mem_of_getElem? h.a);rw [show s = x.src by rw [hm.2]; omega] at hr;exact .step hr hm.1 he
 f := fun y hy => mem_add1.2 (.inl (h.f y hy))
 c := fun k t hk ht y hy hye => by
  have hil := (List.getElem?_eq_some_iff.1 h.a).1;refine mem_add1.2 (.inl (h.c k t hk ?_ y hy hye));unfold add1 at ht
  split at ht
  · exact ht
  · rwa [List.getElem?_append_left (by omega)] at ht
 a := add1_get h.a
 cj := fun q y hq hy hye => by
  rcases Nat.lt_or_ge q j with g | g
  · exact mem_add1.2 (.inl (h.cj q y g hy hye))
  · obtain rfl : q = j := by omega
    rw [hx] at hy; cases hy;exact mem_add1.2 (.inr rfl)
theorem RJ.fin (h : RJ n ed ev from_ i (outOf ed s.toNat).length s l) : RI n ed ev from_ (i + 1) l :=
 ⟨h.nd,h.b,h.r,h.f,fun k t hk ht x hx hxe => by
  rcases Nat.lt_or_ge k i with g | g
  · exact h.c k t g ht x hx hxe
  · obtain rfl : k = i := by omega
    rw [h.a] at ht; cases ht;obtain ⟨q,hq,hqx⟩ := List.mem_iff_getElem.1 hx;exact h.cj q x hq (by rw [List.getElem?_eq_getElem hq,hqx]) hxe⟩
theorem RI.all (h : RI n ed ev from_ l.length l) : sortV l = rchV n ed ev from_ := by
 have hm : ∀ x,x ∈ l ↔ Rch ed ev from_ x := fun x => ⟨h.r x,fun hr => by
  induction hr with
  | base g => exact h.f _ g
  | @step x _ g1 g2 ih =>
    obtain ⟨k,hk,hkx⟩ := List.mem_iff_getElem.1 ih;have hb := h.b _ ih;exact h.c k x.src hk (by rw [List.getElem?_eq_getElem hk,hkx]) x (mem_outOf.2 ⟨g1,by omega⟩) g2⟩
 exact rchV_of (sortV_up h.nd) (fun x => mem_sortV.trans (hm x)) fun x hx => h.b x (mem_sortV.1 hx)
theorem nd_len (hn : l.Nodup) (hb : ∀ x,x ∈ l → 0 ≤ x ∧ x < (n : Int)) : l.length ≤ n := nodup_len n l hn hb
end
def keptV (al onto : List Int) : List Int := al.filter fun x => decide (x ∈ onto)
def erasV (al onto : List Int) : List Int := al.filter fun x => !decide (x ∈ onto)
def hitV (ed : List Ed) (est : List Int) (e : Int) : List Int := est.flatMap fun s => ((outOf ed s.toNat).filter fun x => decide (x.ev = e)).map (·.dst)
noncomputable def nextP (n : Nat) (ed : List Ed) (er est : List Int) (e : Int) : List Int := rchV n ed er (hitV ed est e)
noncomputable def startP (n : Nat) (ed : List Ed) (er : List Int) : List Int := rchV n ed er [0]
theorem hitV_in {ed : List Ed} {est : List Int} {e x : Int} {n : Nat} (hd : ∀ y,y ∈ ed → 0 ≤ y.dst ∧ y.dst < (n : Int)) (h : x ∈ hitV ed est e) : 0 ≤ x ∧ x < (n : Int) := by
 unfold hitV at h
 obtain ⟨s,_,h2⟩ := List.mem_flatMap.1 h;obtain ⟨y,h3,rfl⟩ := List.mem_map.1 h2;exact hd y (mem_outOf.1 (List.mem_filter.1 h3).1).1
theorem keptV_up {a : Au} (h : a.Right) (onto : List Int) : Rises (fun p q : Int => p < q) (keptV a.al onto) := pw_rises ((rises_pw h.al.incr).filter _)
noncomputable def prS (I : List Int → Prop) (a : Au) (onto : List Int) : Sy (List Int) where
 all := keptV a.al onto
 eff := fun e v => if nextP a.n.toNat a.ed (erasV a.al onto) v e = [] then none else some (nextP a.n.toNat a.ed (erasV a.al onto) v e)
 start := startP a.n.toNat a.ed (erasV a.al onto)
 Is := I
theorem prS_ok {I : List Int → Prop} {a : Au} (h : a.Right) {onto : List Int} (hs : I (startP a.n.toNat a.ed (erasV a.al onto))) (hg : ∀ v e,I v → nextP a.n.toNat a.ed (erasV a.al onto) v e ≠ [] → I (nextP a.n.toNat a.ed (erasV a.al onto) v e)) : (prS I a onto).Ok where
 up := keptV_up h onto
 len := by
  have h2 : a.al.length ≤ 32 := rises_len (n := 32) h.al.incr fun x hx => al_rg h hx;exact Nat.le_trans (Nat.le_trans (List.length_filter_le _ _) h2) (by omega)
 ok := setOk_of (keptV_up h onto) fun x hx => al_rg h (List.mem_filter.1 hx).1
 st := hs
 go := fun v e t hv ht => by
  simp only [prS] at ht;split at ht
  · cases ht
  · rename_i hn
    cases ht;exact hg v e hv hn
def mkdP (mr est : List Int) : Bool := est.any fun x => decide (x ∈ mr)
end
open Go.RowKit Go.Shelf
def laysWr_ren : Go.Shelf.Ren := ⟨fun | 168 => 89 | 240 => 112 | 242 => 113 | 276 => 120 | 278 => 121 | n => n,fun | 70 => 154 | 21 => 21 | 3 => 3 | 75 => 159 | 0 => 0 | 72 => 157 | 37 => 155 | 4 => 4 | 164 => 187 | 51 => 189 | 5 => 5 | 46 => 136 | 80 => 162 | 9 => 9 | n => n,fun | n => n⟩
theorem laysWr : Go.Proofs.Lays.n168 Tryz.prog laysWr_ren where
 mixed := by kernel_rfl
 f168 := Tryz.func89.trans (congrArg some (by kernel_rfl))
 f240 := Tryz.func112.trans (congrArg some (by kernel_rfl))
 f242 := Tryz.func113.trans (congrArg some (by kernel_rfl))
 f276 := Tryz.func120.trans (congrArg some (by kernel_rfl))
 f278 := Tryz.func121.trans (congrArg some (by kernel_rfl))
 t0 := Tryz.underlying0
 a0 := Tryz.isAgg0
 z0 := Tryz.sizeOf0
 v0 := Tryz.zeroValue0
 t3 := Tryz.underlying3
 a3 := Tryz.isAgg3
 z3 := Tryz.sizeOf3
 v3 := Tryz.zeroValue3
 t4 := Tryz.underlying4
 a4 := Tryz.isAgg4
 z4 := Tryz.sizeOf4
 v4 := Tryz.zeroValue4
 t5 := Tryz.underlying5
 a5 := Tryz.isAgg5
 z5 := Tryz.sizeOf5
 v5 := Tryz.zeroValue5
 t9 := Tryz.underlying9
 a9 := Tryz.isAgg9
 z9 := Tryz.sizeOf9
 v9 := Tryz.zeroValue9
 t20 := Tryz.underlying20
 a20 := Tryz.isAgg20
 z20 := Tryz.sizeOf20
 v20 := Tryz.zeroValue20
 t21 := Tryz.underlying21
 a21 := Tryz.isAgg21
 z21 := Tryz.sizeOf21
 v21 := Tryz.zeroValue21
 t37 := Tryz.underlying155
 a37 := Tryz.isAgg155
 z37 := Tryz.sizeOf155
 v37 := Tryz.zeroValue155
 t46 := Tryz.underlying136
 a46 := Tryz.isAgg136
 z46 := Tryz.sizeOf136
 v46 := Tryz.zeroValue136
 t51 := Tryz.underlying189
 a51 := Tryz.isAgg189
 z51 := Tryz.sizeOf189
 v51 := Tryz.zeroValue189
 t70 := Tryz.underlying154
 a70 := Tryz.isAgg154
 z70 := Tryz.sizeOf154
 v70 := Tryz.zeroValue154
 t72 := Tryz.underlying157
 a72 := Tryz.isAgg157
 z72 := Tryz.sizeOf157
 v72 := Tryz.zeroValue157
 t75 := Tryz.underlying159
 a75 := Tryz.isAgg159
 z75 := Tryz.sizeOf159
 v75 := Tryz.zeroValue159
 t164 := Tryz.underlying187
 a164 := Tryz.isAgg187
 z164 := Tryz.sizeOf187
 v164 := Tryz.zeroValue187
theorem xtraWr : Builder.Extra Tryz.prog laysWr_ren where
 sizeBuilder := by kernel_rfl
 liesBuilder := by kernel_rfl
 t5 := Tryz.underlying5
 a5 := Tryz.isAgg5
 z5 := Tryz.sizeOf5
 v5 := Tryz.zeroValue5
 infoByte := by kernel_rfl
 cellsByte := by kernel_rfl
 sizeByte := by kernel_rfl
 neB5 := by decide
def laysBs_ren : Go.Shelf.Ren := ⟨fun | 169 => 90 | n => n,fun | 70 => 154 | 9 => 9 | 0 => 0 | 72 => 157 | 37 => 155 | 127 => 182 | 3 => 3 | 5 => 5 | n => n,fun | n => n⟩
theorem laysBs : Go.Proofs.Lays.n169 Tryz.prog laysBs_ren where
 mixed := by kernel_rfl
 f169 := Tryz.func90.trans (congrArg some (by kernel_rfl))
 t0 := Tryz.underlying0
 a0 := Tryz.isAgg0
 z0 := Tryz.sizeOf0
 v0 := Tryz.zeroValue0
 t3 := Tryz.underlying3
 a3 := Tryz.isAgg3
 z3 := Tryz.sizeOf3
 v3 := Tryz.zeroValue3
 t9 := Tryz.underlying9
 a9 := Tryz.isAgg9
 z9 := Tryz.sizeOf9
 v9 := Tryz.zeroValue9
 t37 := Tryz.underlying155
 a37 := Tryz.isAgg155
 z37 := Tryz.sizeOf155
 v37 := Tryz.zeroValue155
 t70 := Tryz.underlying154
 a70 := Tryz.isAgg154
 z70 := Tryz.sizeOf154
 v70 := Tryz.zeroValue154
 t72 := Tryz.underlying157
 a72 := Tryz.isAgg157
 z72 := Tryz.sizeOf157
 v72 := Tryz.zeroValue157
 t127 := Tryz.underlying182
 a127 := Tryz.isAgg182
 z127 := Tryz.sizeOf182
 v127 := Tryz.zeroValue182
theorem xtraBs : Builder.Extra Tryz.prog laysBs_ren where
 sizeBuilder := by kernel_rfl
 liesBuilder := by kernel_rfl
 t5 := Tryz.underlying5
 a5 := Tryz.isAgg5
 z5 := Tryz.sizeOf5
 v5 := Tryz.zeroValue5
 infoByte := by kernel_rfl
 cellsByte := by kernel_rfl
 sizeByte := by kernel_rfl
 neB5 := by decide

abbrev IsBl (B b : Nat) (bs : List Value) (w : World) : Prop := Lib.IsBuilderF 157 5 B b bs w
def GivesWr (B b : Nat) (bs : List Value) (r : Int) (w : World) (e : Ending) (w' : World) : Prop := e = .returned (.tuple #[.int .i64 1,.nilIface]) ∧ IsBl B b (bs ++ [.int .u8 r]) w' ∧ Below B w w'
theorem writeRune_c (B b : Nat) (bs : List Value) (r : Int) (h0 : 0 ≤ r) (h1 : r ≤ 127) (w : World) (h : IsBl B b bs w) (hl : bs.length ≤ 1000000) (hB : B ≤ w.heap.size) :
 Calls Tryz.prog 89 #[.pointer (some ⟨b,0,none⟩),.int .i32 r] w (GivesWr B b bs r w) := by
 have hr : Lib.runeCells r = [.int .u8 r] := by simp [Lib.runeCells,Lib.encodeRuneZ_one h0 h1]
 refine Calls.mono (Any.Builder_WriteRune_k laysWr xtraWr B b bs r (by omega) (by omega) w h (by omega) hB) ?_;rintro e w' ⟨rfl,h2,h3,_⟩;rw [hr] at h2;exact ⟨by rw [hr]; rfl,.inr h2,h3⟩
def GivesBs (bs : List UInt8) (B : Nat) (w : World) (e : Ending) (w' : World) : Prop := e = .returned (.string ⟨bs.toArray⟩) ∧ Below B w w'
theorem bString_c (B b : Nat) (bs : List UInt8) (w : World) (h : IsBl B b (Lib.byteCells bs) w) (hB : B ≤ w.heap.size) :
 Calls Tryz.prog 90 #[.pointer (some ⟨b,0,none⟩)] w (GivesBs bs B w) := by
 refine Calls.mono (Any.Builder_String_any_k laysBs xtraBs B b bs w h hB) ?_;intro e w' h;exact ⟨h.1,h.2.2.1⟩
def keyL (l : List Int) : List UInt8 := l.map fun x => UInt8.ofNat (x + 1).toNat
def keyB (l : List Int) : ByteArray := ⟨(keyL l).toArray⟩
theorem keyL_inj {l m : List Int} (hl : ∀ x,x ∈ l → 0 ≤ x ∧ x < 127) (hm : ∀ x,x ∈ m → 0 ≤ x ∧ x < 127) (h : keyL l = keyL m) : l = m := by
 unfold keyL at h
 induction l generalizing m with
 | nil => cases m with
   | nil => rfl
   | cons y m => simp at h
 | cons x l ih => cases m with
   | nil => simp at h
   | cons y m =>
     simp only [List.map_cons,List.cons.injEq] at h;have h1 := hl x (by simp);have h2 := hm y (by simp);have h3 := congrArg UInt8.toNat h.1;simp only [UInt8.toNat_ofNat'] at h3;rw [Nat.mod_eq_of_lt (by omega),Nat.mod_eq_of_lt (by omega)] at h3;rw [show x = y by omega,ih (fun z hz => hl z (by simp [hz])) (fun z hz => hm z (by simp [hz])) h.2]
theorem keyB_inj {l m : List Int} (hl : ∀ x,x ∈ l → 0 ≤ x ∧ x < 127) (hm : ∀ x,x ∈ m → 0 ≤ x ∧ x < 127) (h : keyB l = keyB m) : l = m := by
 unfold keyB at h
 injection h with h
 exact keyL_inj hl hm (by simpa using congrArg Array.toList h)
theorem keyL_cells {l : List Int} {x : Int} (h : 0 ≤ x ∧ x < 127) : Lib.byteCells (keyL l) ++ [.int .u8 (x + 1)] = Lib.byteCells (keyL (l ++ [x])) := by
 unfold Lib.byteCells keyL
 simp only [List.map_append,List.map_cons,List.map_nil,List.map_map];congr 2
 have : (UInt8.ofNat (x + 1).toNat).toNat = (x + 1).toNat := by rw [UInt8.toNat_ofNat']; exact Nat.mod_eq_of_lt (by omega)
 rw [this];congr 1
 omega
def GivesKy (l : List Int) (w : World) (e : Ending) (w' : World) : Prop := e = .returned (keyS (keyB l)) ∧ Below w.heap.size w w'
set_option maxHeartbeats 1000000 in
theorem key_c (A : Option Addr) (c : Nat) (l : List Int) (w : World) (h : IntsAt w A l) (hl : l.length ≤ 1000) (hr : ∀ x,x ∈ l → 0 ≤ x ∧ x < 127) :
 Calls Tryz.prog 56 #[.slice A l.length c] w (GivesKy l w) := by
 have HA := Lib.hid h;have HR := Lib.hid hr;clear h hr;go_enter Tryz.func56,Tryz.ntmps56
 obtain ⟨b,hb⟩ : ∃ g,g = w.heap.size := ⟨_,rfl⟩;go_upto_region 2 with fail
 rw [← hb];refine wp_world (fun W => IsBl w.heap.size b (Lib.byteCells (keyL (l.take 0))) W ∧ Below w.heap.size w W ∧ w.heap.size ≤ W.heap.size) ⟨?_,Below.new w _,by simp⟩ fun W hW => ?_
 · refine .inl ⟨by omega,.slice none 0 0,?_,⟨rfl,.inl ⟨rfl,rfl⟩⟩,by simp [Value.ownBlock]⟩;rw [hb];exact heap_alloc_new w _
 obtain ⟨hI,hB,hS⟩ := hW;have HI := Lib.hid hI;have HB := Lib.hid hB;clear hI hB hb;go_wp2_with fail
 go_loopw [8] (fun i wr => ∃ k : Nat,k ≤ l.length ∧ i = .int .i64 ↑k ∧ Hid (IsBl w.heap.size b (Lib.byteCells (keyL (l.take k))) wr) ∧ Hid (Below w.heap.size w wr) ∧ w.heap.size ≤ wr.heap.size) (fun i _ => l.length - (intOf i).toNat)
 case atStart => exact ⟨0,by omega,rfl,HI.out,HB.out,hS⟩
 case round =>
  clear HI HB hS;obtain ⟨k,hk,rfl,HI,HB,hS⟩ := hrel;by_cases hlt : k < l.length
  · obtain ⟨b0,off,x,rfl,hb0,hx,hcx⟩ := IntsAt.at (HA.out.below IntE.stays HB.out) hlt;have hxr := HR.out x (List.mem_of_getElem? hx);have HX := Lib.hid hx;have w1 : IntKind.i64.wrap (x + 1) = x + 1 := IntWalk.i64_in _ (by omega);have w2 : IntKind.i32.wrap (x + 1) = x + 1 := by unfold IntKind.wrap; simp [IntKind.bits,IntKind.signed]; omega
    have hlen : (Lib.byteCells (keyL (l.take k))).length ≤ 1000000 := by simp [Lib.byteCells,keyL]; omega
    clear hx;go_wp2_with fail
    refine (writeRune_c w.heap.size b _ (x + 1) (by omega) (by omega) wr HI.out hlen hS).mono ?_;rintro e v2 ⟨rfl,h2,h3⟩;have HI2 : Hid (IsBl w.heap.size b (Lib.byteCells (keyL (l.take (k + 1)))) v2) := by
     rw [keyL_cells hxr,← take_snoc HX.out] at h2;exact h2
    have HB2 : Hid (Below w.heap.size w v2) := HB.out.trans h3;have hS2 : w.heap.size ≤ v2.heap.size := Nat.le_trans hS h3.size;clear h2 h3 HI HB hS hcx;go_wp2_with fail
    go_roundw
    case rel => exact ⟨k + 1,by omega,by go_num,HI2.out,HB2.out,hS2⟩
    case measure => simp [intOf]; omega
  · obtain rfl : k = l.length := by omega
    have HI2 : Hid (IsBl w.heap.size b (Lib.byteCells (keyL l)) wr) := by have := HI.out; rw [List.take_length] at this; exact this
    go_wp2_with fail
    refine (bString_c w.heap.size b _ wr HI2.out hS).mono ?_;rintro e v2 ⟨rfl,h3⟩;have HB2 : Hid (Below w.heap.size w v2) := HB.out.trans h3;clear h3;go_wp2_with fail
    go_ret
    exact ⟨rfl,HB2.out⟩
def eRws (vs : List Value) (l : List Ed) : Ent where
 foot := vs.flatMap fun v => v.ownBlock.toList
 ok w := (∀ (i : Nat) v,vs[i]? = some v → Own Ed.cells 3 76 0 (outOf l i) v w) ∧ ∀ (i j : Nat) vi vj (g : Nat),i ≠ j → vs[i]? = some vi → vs[j]? = some vj → vi.ownBlock = some g → vj.ownBlock ≠ some g
 lt w h k hk := by
  obtain ⟨v,hv,hk⟩ := List.mem_flatMap.1 hk;obtain ⟨i,hi,rfl⟩ := List.mem_iff_getElem.1 hv;exact (Own.lt (h.1 i _ (List.getElem?_eq_getElem hi)) k (by simpa using hk)).2
 turn w w' h hg := by
  refine ⟨fun i v hv => ?_,h.2⟩;exact (eOwn Ed.cells 3 76 (outOf l i) v).turn w w' (h.1 i v hv) fun g hgv => hg g (List.mem_flatMap.2 ⟨v,List.mem_of_getElem? hv,hgv⟩)
theorem eRws.nil (N : Nat) (w : World) : (eRws (List.replicate N (.slice none 0 0)) []).ok w := by
 refine ⟨fun i v hv => ?_,fun i j vi vj g _ hi hj hg => ?_⟩
 · obtain rfl := List.eq_of_mem_replicate (List.mem_of_getElem? hv);exact Own.nil w
 · obtain rfl := List.eq_of_mem_replicate (List.mem_of_getElem? hi);simp [Value.ownBlock] at hg
theorem Sep.rowsNil {w0 w : World} {n : Nat} {es : List Ent} (S : Sep n w0 es w) (N : Nat) : Sep n w0 (eRws (List.replicate N (.slice none 0 0)) [] :: es) w := by
 refine S.new1 (Below.refl _ _) _ (eRws.nil N w) fun g hg => ?_;obtain ⟨v,hv,hk⟩ := List.mem_flatMap.1 hg;obtain rfl := List.eq_of_mem_replicate hv;simp [Value.ownBlock] at hk
theorem Off.more {f f' : List Nat} {w w' : World} (h : Off f w w') (hf : ∀ g,g ∈ f → g ∈ f') : Off f' w w' := ⟨h.os,h.tape,h.output,h.size,fun k hk hn => h.block k hk fun g => hn (hf k g)⟩
theorem Sep.rowPush {w0 w w1 : World} {n : Nat} {es : List Ent} (S : Sep n w0 es w) (i : Nat) {vs : List Value} {l : List Ed} (hei : es[i]? = some (eRws vs l)) {s : Nat} {v v' : Value} (hv : vs[s]? = some v) {x : Ed} (hx : x.src = (s : Int)) {m : Nat}
 (h' : w1.ownsRow 0 76 3 v' m ((outOf l s).flatMap Ed.cells ++ Ed.cells x)) (hg : w.grownBy w1 v.ownBlock) (hb : v'.ownBlock = v.ownBlock ∨ v'.ownBlock = some w.heap.size) : Sep n w0 (es.set i (eRws (vs.set s v') (l ++ [x]))) w1 := by
 obtain ⟨h3,h4⟩ := S.get i hei;have hs : s < vs.length := (List.getElem?_eq_some_iff.1 hv).1;have hne : ∀ j,j ≠ s → outOf (l ++ [x]) j = outOf l j := fun j hj => by
  rw [outOf_snoc,if_neg];omega
 have heq : outOf (l ++ [x]) s = outOf l s ++ [x] := by rw [outOf_snoc,if_pos hx]
 refine S.chg i hei _ ((Off.grown hg).more fun g hgv => List.mem_flatMap.2 ⟨v,List.mem_of_getElem? hv,hgv⟩) ⟨fun j u hu => ?_,fun a b va vb g hab ha hb' hga hgb => ?_⟩ (fun g hgm => ?_)
 · by_cases e : j = s
   · subst e;rw [List.getElem?_set_self hs] at hu;cases hu;rw [heq];have hm : m = (outOf l j ++ [x]).length := by
      have h0 := h'.1;have h1 := flat_len (enc := Ed.cells) (k := 3) (fun _ => rfl) (outOf l j);rw [List.length_append,h1] at h0;have h2 : (Ed.cells x).length = 3 := rfl;rw [List.length_append,List.length_singleton];omega
     unfold Own
     rw [List.flatMap_append,← hm];simpa using h'
   · rw [List.getElem?_set_ne (fun g => e g.symm)] at hu;rw [hne j e];refine World.ownsRow.kept (h3 j u hu) hg ?_;cases hb2 : u.ownBlock with
     | none => exact .inl rfl
     | some g => exact .inr (fun g2 => h4 j s u v g e hu hv hb2 g2.symm)
 · have key : ∀ (j : Nat) (vj : Value),j ≠ s → vs[j]? = some vj → ∀ g,vj.ownBlock = some g → v'.ownBlock ≠ some g := fun j vj hj hvj g hg' hv' => by
    rcases hb with e | e
    · exact h4 j s vj v g hj hvj hv hg' (by rw [← e,hv'])
    · rw [e] at hv'; cases hv';have := (Own.lt (h3 j vj hvj) _ hg').2; omega
   by_cases ea : a = s
   · subst ea;rw [List.getElem?_set_self hs] at ha;cases ha;rw [List.getElem?_set_ne hab] at hb';exact key b vb (fun h => hab h.symm) hb' g hgb hga
   · rw [List.getElem?_set_ne (fun h => ea h.symm)] at ha;by_cases eb : b = s
     · subst eb;rw [List.getElem?_set_self hs] at hb';cases hb';exact key a va ea ha g hga hgb
     · rw [List.getElem?_set_ne (fun h => eb h.symm)] at hb';exact h4 a b va vb g hab ha hb' hga hgb
 · obtain ⟨u,hu,hk⟩ := List.mem_flatMap.1 hgm;rcases List.mem_or_eq_of_mem_set hu with h | rfl
   · exact .inl (List.mem_flatMap.2 ⟨u,h,hk⟩)
   · have hk2 : u.ownBlock = some g := by simpa using hk
     rcases hb with e | e
     · exact .inl (List.mem_flatMap.2 ⟨v,List.mem_of_getElem? hv,by rw [← e]; exact hk⟩)
     · rw [e] at hk2; cases hk2;exact .inr (Nat.le_refl _)
theorem eRws.rows {w : World} {bo n : Nat} {vs : List Value} {l : List Ed} (h1 : BlkAt w bo 32 vs) (h : (eRws vs l).ok w) (hn : vs.length = n) (hl : l.length ≤ 140737488355328) : RowsAt EdE 3 w (some ⟨bo,0,none⟩) (outs l n) := by
 intro hne;have h3 := h.1;refine ⟨bo,0,rfl,h1.lt,fun i x hx => ?_⟩;have hi : i < n := by have := (List.getElem?_eq_some_iff.1 hx).1; simpa [outs] using this
 have hx' : x = outOf l i := by simp [outs,hi] at hx; exact hx.symm
 subst hx';have hv : vs[i]? = some vs[i] := List.getElem?_eq_getElem (by omega);obtain ⟨A,c,he,hs⟩ := SlAt.of_own (k := 3) (enc := Ed.cells) (fun _ => rfl) (h3 i _ hv);refine ⟨[vs[i]],rfl,⟨A,c,by rw [he],Nat.le_trans (outOf_len l i) hl,hs⟩,fun j u hj => ?_⟩;cases j with
 | zero => simp only [List.getElem?_cons_zero,Option.some.injEq] at hj; rw [← hj,Nat.mul_one,Nat.add_zero,Nat.zero_add,h1.cell,hv]
 | succ j => simp at hj
theorem one_cell' {w : World} {g : Nat} {T : TypeId} {cs : List Value} (h : (eBlk g T cs).ok w) (j : Nat) : w.cell? ((⟨g,0,none⟩ : Addr).add j) = cs[j]? := by
 have := BlkAt.cell h j;unfold Addr.add
 split
 · rename_i h0; subst h0; exact this
 · simpa using this
structure ObP where
 bo : Nat
 AK : Option Addr
 cK : Nat
 AE : Option Addr
 cE : Nat
 AM : Option Addr
 cM : Nat
abbrev ObP.val (q : ObP) (a : Au) (onto : List Int) : Value := .agg #[.slice (some ⟨q.bo,0,none⟩) a.n.toNat a.n.toNat,.slice q.AK (keptV a.al onto).length q.cK,.slice q.AE (erasV a.al onto).length q.cE,.slice q.AM a.mr.length q.cM]
structure ObAt (w : World) (a : Au) (onto : List Int) (q : ObP) : Prop where
 r : RowsAt EdE 3 w (some ⟨q.bo,0,none⟩) (outs a.ed a.n.toNat)
 k : IntsAt w q.AK (keptV a.al onto)
 e : IntsAt w q.AE (erasV a.al onto)
 m : IntsAt w q.AM a.mr
theorem ObAt.below {w w' : World} {a : Au} {onto : List Int} {q : ObP} (h : ObAt w a onto q) (hb : Below w.heap.size w w') : ObAt w' a onto q :=
 ⟨h.r.below (RowE.stays EdE.stays) hb,h.k.below IntE.stays hb,h.e.below IntE.stays hb,h.m.below IntE.stays hb⟩
def eOb (a : Au) (onto : List Int) (q : ObP) (vs : List Value) : Ent := ((eBlk q.bo 32 vs).and (eRws vs a.ed)).and (eInts (erasV a.al onto) (.slice q.AE (erasV a.al onto).length q.cE))
theorem ObAt.of {w : World} {a : Au} {onto : List Int} {q : ObP} {vs : List Value} (h : (eOb a onto q vs).ok w) (hK : IntsAt w q.AK (keptV a.al onto)) (hM : IntsAt w q.AM a.mr) (hn : vs.length = a.n.toNat) (hl : a.ed.length ≤ 140737488355328) : ObAt w a onto q :=
 ⟨eRws.rows h.1.1 h.1.2 hn hl,hK,OwnI.ints h.2,hM⟩
def GivesOb (a : Au) (p : AuP) (onto : List Int) (w : World) (e : Ending) (w' : World) : Prop := ∃ (q : ObP) (vs : List Value),e = .returned (q.val a onto) ∧ q.AM = p.A2 ∧ q.cM = p.c2 ∧ vs.length = a.n.toNat ∧ (SepW w [eInts (keptV a.al onto) (.slice q.AK (keptV a.al onto).length q.cK),eOb a onto q vs] w')
theorem keptV_yes {l onto : List Int} {k : Nat} {x : Int} (h : l[k]? = some x) (hx : x ∈ onto) : keptV (l.take (k + 1)) onto = keptV (l.take k) onto ++ [x] ∧ erasV (l.take (k + 1)) onto = erasV (l.take k) onto := by
 unfold keptV erasV
 rw [take_snoc h];simp [List.filter_append,hx]
theorem keptV_no {l onto : List Int} {k : Nat} {x : Int} (h : l[k]? = some x) (hx : ¬ x ∈ onto) : keptV (l.take (k + 1)) onto = keptV (l.take k) onto ∧ erasV (l.take (k + 1)) onto = erasV (l.take k) onto ++ [x] := by
 unfold keptV erasV
 rw [take_snoc h];simp [List.filter_append,hx]
set_option maxHeartbeats 8000000 in
theorem observe_c (a : Au) (p : AuP) (AO : Option Addr) (cO : Nat) (onto : List Int) (w : World) (hr : a.Right) (hA : Au.At w a p) (hO : IntsAt w AO onto) (hol : onto.length ≤ 140737488355328) (hel : a.ed.length ≤ 1000000) :
 Calls Tryz.prog 54 #[a.val p,.slice AO onto.length cO] w (GivesOb a p onto w) := by
 have HA := Lib.hid hA;have HO := Lib.hid hO;have n0 := hr.n0;have n1 := hr.n1;have hal : a.al.length ≤ 32 := rises_len (n := 32) hr.al.incr fun x hx => al_rg hr hx;have hml := hA.lmk;have HSR : Hid (∀ x,x ∈ a.ed → 0 ≤ x.src ∧ x.src < a.n) := fun x hx => by
  obtain ⟨k,hk,hkx⟩ := List.mem_iff_getElem.1 hx;have := hr.ed k hk x (by rw [← hkx]; exact List.getElem?_eq_getElem hk);exact ⟨this.1,this.2.1⟩
 obtain ⟨al,n,mr,ed⟩ := a;obtain ⟨A1,c1,A2,c2,A3,c3⟩ := p;dsimp only at n0 n1 hal hml hel HSR ⊢;obtain ⟨N,rfl⟩ := Int.eq_ofNat_of_zero_le n0;clear hr hA hO n0;have hmk := make_run (P := Tryz.prog) 116 32 (.slice none 0 0) 24 Tryz.underlying116 rowInfo rfl N (by omega) (by omega);go_enter Tryz.func54,Tryz.ntmps54
 obtain ⟨tb,htb⟩ : ∃ g,g = w.heap.size := ⟨_,rfl⟩;obtain ⟨rb,hrb⟩ : ∃ g,g = w.heap.size + 1 := ⟨_,rfl⟩;go_upto_region 1 with fail
 rw [← hrb];rw [← htb];refine wp_world (fun W => Sep w.heap.size w [eBlk rb 118 [.slice none 0 0,.slice none 0 0,.slice none 0 0,.slice none 0 0],eBlk tb 34 [.slice A1 al.length c1,.int .i64 ↑N,.slice A2 mr.length c2,.slice A3 ed.length c3]] W) (((Sep.here w).alloc' _ [_,_,_,_] rfl htb).alloc' _ [_,_,_,_] rfl (by simp; omega)) fun W S => ?_;have S0 := Lib.hid S;clear S htb hrb;go_cut [5] (fun v5 wx => ∃ bo ob : Nat,v5 = .pointer (some ⟨ob,0,none⟩) ∧ (SepW w [eBlk ob 118 [.slice (some ⟨bo,0,none⟩) N N,.slice none 0 0,.slice none 0 0,.slice A2 mr.length c2],eBlk bo 32 (List.replicate N (.slice none 0 0)),eRws (List.replicate N (.slice none 0 0)) [],eBlk rb 118 [.slice none 0 0,.slice none 0 0,.slice none 0 0,.slice none 0 0],eBlk tb 34 [.slice A1 al.length c1,.int .i64 ↑N,.slice A2 mr.length c2,.slice A3 ed.length c3]] wx))
 case first =>
  have l1 := (S0.out.get 1 rfl).lt;have t1 := BlkAt.cell (S0.out.get 1 rfl) 1; have t2 := BlkAt.cell (S0.out.get 1 rfl) 2; simp only [List.getElem?_cons_succ,List.getElem?_cons_zero] at t1 t2;go_region
  all_goals
   (try rw [show Array.replicate N (Value.slice none 0 0) = (List.replicate N (Value.slice none 0 0)).toArray from by simp]);go_wp2_with fail
   go_meet
   first
   | exact ⟨W.heap.size,W.heap.size + 1,rfl,((((S0.out.alloc' 32 (List.replicate N (.slice none 0 0)) rfl rfl).alloc' 118 [.slice (some ⟨W.heap.size,0,none⟩) N N,.slice none 0 0,.slice none 0 0,.slice A2 mr.length c2] (g := W.heap.size + 1) rfl (by simp)).rowsNil N).pick [1,2,0,3,4] (by decide)).drew⟩
   | exact ⟨W.heap.size + 1,W.heap.size,rfl,((((S0.out.alloc' 118 [.slice (some ⟨W.heap.size + 1,0,none⟩) N N,.slice none 0 0,.slice none 0 0,.slice A2 mr.length c2] rfl rfl).alloc' 32 (List.replicate N (.slice none 0 0)) (g := W.heap.size + 1) rfl (by simp)).rowsNil N).pick [2,1,0,3,4] (by decide)).drew⟩
 case rest =>
  obtain ⟨bo,ob,rfl,S⟩ := hcut;clear S0 hmk;have t3 := BlkAt.cell (S.out.get 4 rfl) 3; simp only [List.getElem?_cons_succ,List.getElem?_cons_zero] at t3;go_wp2_with fail
  clear t3;go_loopw [19] (fun i wr => ∃ (k : Nat) (vs : List Value),k ≤ ed.length ∧ i = .int .i64 ↑k ∧ Hid (vs.length = N) ∧ (SepW w [eBlk ob 118 [.slice (some ⟨bo,0,none⟩) N N,.slice none 0 0,.slice none 0 0,.slice A2 mr.length c2],eBlk bo 32 vs,eRws vs (ed.take k),eBlk rb 118 [.slice none 0 0,.slice none 0 0,.slice none 0 0,.slice none 0 0],eBlk tb 34 [.slice A1 al.length c1,.int .i64 ↑N,.slice A2 mr.length c2,.slice A3 ed.length c3]] wr)) (fun i _ => ed.length - (intOf i).toNat)
  case atStart => exact ⟨0,_,by omega,rfl,by simp [Hid],S.out⟩
  case round =>
   clear S;obtain ⟨k,vs,hk,rfl,HVL,S⟩ := hrel;by_cases hlt : k < ed.length
   · obtain ⟨b,off,x,hA3,hb,hx,e0,e1,e2⟩ := EdsAt.at (HA.out.below S.out.below).ed hlt;have hs := HSR.out x (List.mem_of_getElem? hx);obtain ⟨src,ev,dst⟩ := x;dsimp only at hs;obtain ⟨s,rfl⟩ := Int.eq_ofNat_of_zero_le hs.1;have hsn : s < N := by have := hs.2; omega
     have HX := Lib.hid hx;clear hs hx;dsimp only at hA3;subst hA3;dsimp only at e0 e1 e2;have hsl : s < vs.length := by rw [HVL.out]; exact hsn
     obtain ⟨v,hv⟩ : ∃ v,v = vs[s] := ⟨_,rfl⟩;have HVS : Hid (vs[s]? = some v) := by rw [Hid,hv]; exact List.getElem?_eq_getElem hsl
     clear hv;have hlen := outOf_len (ed.take k) s;have hlen2 : (ed.take k).length ≤ k := List.length_take_le _ _;obtain ⟨xb,hxb⟩ : ∃ g,g = wr.heap.size := ⟨_,rfl⟩;go_upto_region 5 with fail
     rw [← hxb];refine wp_world (fun V => Sep w.heap.size w [eBlk xb 76 [.int .i64 ↑s,.int .i64 ev,.int .i64 dst],eBlk ob 118 [.slice (some ⟨bo,0,none⟩) N N,.slice none 0 0,.slice none 0 0,.slice A2 mr.length c2],eBlk bo 32 vs,eRws vs (ed.take k),eBlk rb 118 [.slice none 0 0,.slice none 0 0,.slice none 0 0,.slice none 0 0],eBlk tb 34 [.slice A1 al.length c1,.int .i64 ↑N,.slice A2 mr.length c2,.slice (some ⟨b,off,none⟩) ed.length c3]] V) (S.out.alloc' _ [_,_,_] rfl hxb) fun V S' => ?_;have S2 := Lib.hid S';clear S S' hxb e0 e1 e2;have S1 := Lib.hid S2.out.drew;refine wp_region_held_drew (S := (fun V => Sep w.heap.size w [eBlk xb 76 [.int .i64 ↑s,.int .i64 ev,.int .i64 dst],eBlk ob 118 [.slice (some ⟨bo,0,none⟩) N N,.slice none 0 0,.slice none 0 0,.slice A2 mr.length c2]] V)) (by kernel_rfl) ?_ (fun hH => ?_)
     · exact S1.out.pick [0,1] (by decide)
     generalize hwz : V.drew = w1 at *;clear hwz;refine tkP 0 rfl (v := ?_) hH ?_;(try simp only [sx]);refine tkH 1 rfl (v := ?_) (by kernel_rfl) ?_ hH ?_;rotate_left
     · intro V hs_;have o0 := qkC hs_ 1 rfl 0 rfl;clear hs_;first | (go_simp; done) | (go_simp; with_reducible rfl)
     (try simp only [sx]);refine tkP 2 rfl (v := ?_) hH ?_;(try simp only [sx]);refine tkH 3 rfl (v := ?_) (by kernel_rfl) ?_ hH ?_;rotate_left
     · intro V hs_;have x0 := qkC hs_ 0 rfl 0 rfl;clear hs_;first | (go_simp; done) | (go_simp; with_reducible rfl)
     (try simp only [sx]);refine tkP 4 rfl (v := ?_) hH ?_;(try simp only [sx]);refine tkH 5 rfl (v := ?_) (by kernel_rfl) ?_ hH ?_;rotate_left
     · intro V hs_;have o0 := qkC hs_ 1 rfl 0 rfl;clear hs_;first | (go_simp; done) | (go_simp; with_reducible rfl)
     (try simp only [sx]);refine tkP 6 rfl (v := ?_) hH ?_;(try simp only [sx]);refine tkH 7 rfl (v := ?_) (by kernel_rfl) ?_ hH ?_;rotate_left
     · intro V hs_;have x0 := qkC hs_ 0 rfl 0 rfl;clear hs_;first | (go_simp; done) | (go_simp; with_reducible rfl)
     (try simp only [sx]);refine tkP 8 rfl (v := ?_) hH ?_;(try simp only [sx]);refine tkH 10 rfl (v := ?_) (by kernel_rfl) ?_ hH ?_;rotate_left
     · intro V hs_;have x0 := qkC hs_ 0 rfl 0 rfl;have x1 := qkC hs_ 0 rfl 1 rfl;have x2 := qkC hs_ 0 rfl 2 rfl;clear hs_;first | (go_simp; done) | (go_simp; with_reducible rfl)
     (try simp only [sx]);refine wpAnyH_ready (rs := [9,11]) (by kernel_rfl) (by simp) ?_;refine AllReadyH.cons rfl (fun K hK => ?_) (AllReadyH.cons rfl (fun K hK => ?_) AllReadyH.nil)
     · skip;have sl := (BlkAt.cell (S1.out.get 2 rfl) s).trans HVS.out;go_simp;refine hK.out _ _ (S1.out.pick [0,1] (by decide)) fun hH => ?_;clear hK K;(try simp only [sx]);refine rdH 11 rfl fun K hK => ?_;go_simp;obtain ⟨nnw,hnnw⟩ : ∃ n,n = w1.heap.size := ⟨_,rfl⟩;obtain ⟨w2,hw2⟩ : ∃ v,v = w1.alloc (.cells #[.int .i64 ↑s,.int .i64 ev,.int .i64 dst] 76) := ⟨_,rfl⟩;rw [← hw2,← hnnw];have S2 := qkA S1.out hw2 hnnw;skip;clear hw2 hnnw;refine hK.out _ _ (S2.out.pick [1,2] (by decide)) fun hH => ?_;clear hK K;(try simp only [sx]);refine rdH 12 rfl fun K hK => ?_;refine step_append_at rfl (.tmp 32) (.tmp 34) 32 rfl 0 76 _ 3 24 Tryz.underlying32 edInfo rfl (by decide) v _ _ rfl ((S2.out.get 4 rfl).1 s v HVS.out) ⟨nnw,0,none⟩ 1 1 (Ed.cells ⟨(s : Int),ev,dst⟩) rfl rfl (fun j u hj => (one_cell' (S2.out.get 0 rfl) j).trans hj) (edOne _) (by simp only [maxLen]; omega) (by omega) (Nat.zero_le _) ?_;intro A1' c1' w3 ho hg hb';have S3' := S2.out.rowPush 4 rfl HVS.out (x := ⟨(s : Int),ev,dst⟩) rfl ho hg hb';clear ho hg hb'
       have S3 : (SepW w [eBlk nnw 76 [.int .i64 ↑s,.int .i64 ev,.int .i64 dst],eBlk xb 76 [.int .i64 ↑s,.int .i64 ev,.int .i64 dst],eBlk ob 118 [.slice (some ⟨bo,0,none⟩) N N,.slice none 0 0,.slice none 0 0,.slice A2 mr.length c2],eBlk bo 32 vs,eRws (vs.set s (.slice A1' ((outOf (ed.take k) s).length + 1) c1')) (ed.take k ++ [⟨(s : Int),ev,dst⟩]),eBlk rb 118 [.slice none 0 0,.slice none 0 0,.slice none 0 0,.slice none 0 0],eBlk tb 34 [.slice A1 al.length c1,.int .i64 ↑N,.slice A2 mr.length c2,.slice (some ⟨b,off,none⟩) ed.length c3]] w3) := S3';clear S3';refine hK.out _ _ (S3.out.pick [1,2] (by decide)) fun hH => ?_;clear hK K;(try simp only [sx]);refine tkP 13 rfl (v := ?_) hH ?_;(try simp only [sx]);refine rdH 14 rfl fun K hK => ?_;have sc := (BlkAt.cell (S3.out.get 3 rfl) s).trans HVS.out;have sf := BlkAt.free (S3.out.get 3 rfl) s;go_simp;obtain ⟨w4,hw4⟩ : ∃ v,v = w3.setCell ⟨bo,s,none⟩ (.slice A1' ((outOf (ed.take k) s).length + 1) c1') := ⟨_,rfl⟩;rw [← hw4]
       have S4 : (SepW w [eBlk nnw 76 [.int .i64 ↑s,.int .i64 ev,.int .i64 dst],eBlk xb 76 [.int .i64 ↑s,.int .i64 ev,.int .i64 dst],eBlk ob 118 [.slice (some ⟨bo,0,none⟩) N N,.slice none 0 0,.slice none 0 0,.slice A2 mr.length c2],eBlk bo 32 (vs.set s (.slice A1' ((outOf (ed.take k) s).length + 1) c1')),eRws (vs.set s (.slice A1' ((outOf (ed.take k) s).length + 1) c1')) (ed.take k ++ [⟨(s : Int),ev,dst⟩]),eBlk rb 118 [.slice none 0 0,.slice none 0 0,.slice none 0 0,.slice none 0 0],eBlk tb 34 [.slice A1 al.length c1,.int .i64 ↑N,.slice A2 mr.length c2,.slice (some ⟨b,off,none⟩) ed.length c3]] w4) := by rw [hw4]; exact S3.out.set 3 rfl s (.slice A1' ((outOf (ed.take k) s).length + 1) c1')
       clear hw4 sc sf;refine hK.out _ _ (S4.out.pick [1,2] (by decide)) fun hH => ?_;clear hK K;(try simp only [sx]);refine wpAnyH_done (by kernel_rfl) ?_ _;have HT : Hid (ed.take (k + 1) = ed.take k ++ [⟨(s : Int),ev,dst⟩]) := by rw [Hid,List.take_add_one,HX.out]; rfl
       have S9 := Lib.hid (S4.out.pick [2,3,4,5,6] (by decide));clear S4;go_wp2_with fail
       go_roundw
       case rel => exact ⟨k + 1,vs.set s (.slice A1' ((outOf (ed.take k) s).length + 1) c1'),by omega,by go_num,by rw [Hid,List.length_set]; exact HVL.out,by rw [HT.out]; exact S9.out⟩
       case measure => simp [intOf]; omega
     · skip;go_simp;obtain ⟨nnw,hnnw⟩ : ∃ n,n = w1.heap.size := ⟨_,rfl⟩;obtain ⟨w5,hw5⟩ : ∃ v,v = w1.alloc (.cells #[.int .i64 ↑s,.int .i64 ev,.int .i64 dst] 76) := ⟨_,rfl⟩;rw [← hw5,← hnnw];have S5 := qkA S1.out hw5 hnnw;skip;clear hw5 hnnw;refine hK.out _ _ (S5.out.pick [1,2] (by decide)) fun hH => ?_;clear hK K;(try simp only [sx]);refine rdH 9 rfl fun K hK => ?_;have sl := (BlkAt.cell (S5.out.get 3 rfl) s).trans HVS.out;go_simp;refine hK.out _ _ (S5.out.pick [1,2] (by decide)) fun hH => ?_;clear hK K;(try simp only [sx]);refine rdH 12 rfl fun K hK => ?_;refine step_append_at rfl (.tmp 32) (.tmp 34) 32 rfl 0 76 _ 3 24 Tryz.underlying32 edInfo rfl (by decide) v _ _ rfl ((S5.out.get 4 rfl).1 s v HVS.out) ⟨nnw,0,none⟩ 1 1 (Ed.cells ⟨(s : Int),ev,dst⟩) rfl rfl (fun j u hj => (one_cell' (S5.out.get 0 rfl) j).trans hj) (edOne _) (by simp only [maxLen]; omega) (by omega) (Nat.zero_le _) ?_;intro A1' c1' w6 ho hg hb';have S6' := S5.out.rowPush 4 rfl HVS.out (x := ⟨(s : Int),ev,dst⟩) rfl ho hg hb';clear ho hg hb'
       have S6 : (SepW w [eBlk nnw 76 [.int .i64 ↑s,.int .i64 ev,.int .i64 dst],eBlk xb 76 [.int .i64 ↑s,.int .i64 ev,.int .i64 dst],eBlk ob 118 [.slice (some ⟨bo,0,none⟩) N N,.slice none 0 0,.slice none 0 0,.slice A2 mr.length c2],eBlk bo 32 vs,eRws (vs.set s (.slice A1' ((outOf (ed.take k) s).length + 1) c1')) (ed.take k ++ [⟨(s : Int),ev,dst⟩]),eBlk rb 118 [.slice none 0 0,.slice none 0 0,.slice none 0 0,.slice none 0 0],eBlk tb 34 [.slice A1 al.length c1,.int .i64 ↑N,.slice A2 mr.length c2,.slice (some ⟨b,off,none⟩) ed.length c3]] w6) := S6';clear S6';refine hK.out _ _ (S6.out.pick [1,2] (by decide)) fun hH => ?_;clear hK K;(try simp only [sx]);refine tkP 13 rfl (v := ?_) hH ?_;(try simp only [sx]);refine rdH 14 rfl fun K hK => ?_;have sc := (BlkAt.cell (S6.out.get 3 rfl) s).trans HVS.out;have sf := BlkAt.free (S6.out.get 3 rfl) s;go_simp;obtain ⟨w7,hw7⟩ : ∃ v,v = w6.setCell ⟨bo,s,none⟩ (.slice A1' ((outOf (ed.take k) s).length + 1) c1') := ⟨_,rfl⟩;rw [← hw7]
       have S7 : (SepW w [eBlk nnw 76 [.int .i64 ↑s,.int .i64 ev,.int .i64 dst],eBlk xb 76 [.int .i64 ↑s,.int .i64 ev,.int .i64 dst],eBlk ob 118 [.slice (some ⟨bo,0,none⟩) N N,.slice none 0 0,.slice none 0 0,.slice A2 mr.length c2],eBlk bo 32 (vs.set s (.slice A1' ((outOf (ed.take k) s).length + 1) c1')),eRws (vs.set s (.slice A1' ((outOf (ed.take k) s).length + 1) c1')) (ed.take k ++ [⟨(s : Int),ev,dst⟩]),eBlk rb 118 [.slice none 0 0,.slice none 0 0,.slice none 0 0,.slice none 0 0],eBlk tb 34 [.slice A1 al.length c1,.int .i64 ↑N,.slice A2 mr.length c2,.slice (some ⟨b,off,none⟩) ed.length c3]] w7) := by rw [hw7]; exact S6.out.set 3 rfl s (.slice A1' ((outOf (ed.take k) s).length + 1) c1')
       clear hw7 sc sf;refine hK.out _ _ (S7.out.pick [1,2] (by decide)) fun hH => ?_;clear hK K;(try simp only [sx]);refine wpAnyH_done (by kernel_rfl) ?_ _;have HT : Hid (ed.take (k + 1) = ed.take k ++ [⟨(s : Int),ev,dst⟩]) := by rw [Hid,List.take_add_one,HX.out]; rfl
       have S9 := Lib.hid (S7.out.pick [2,3,4,5,6] (by decide));clear S7;go_wp2_with fail
       go_roundw
       case rel => exact ⟨k + 1,vs.set s (.slice A1' ((outOf (ed.take k) s).length + 1) c1'),by omega,by go_num,by rw [Hid,List.length_set]; exact HVL.out,by rw [HT.out]; exact S9.out⟩
       case measure => simp [intOf]; omega
   · obtain rfl : k = ed.length := by omega
     have S2 : (SepW w [eBlk ob 118 [.slice (some ⟨bo,0,none⟩) N N,.slice none 0 0,.slice none 0 0,.slice A2 mr.length c2],eInts [] (.slice none 0 0),eInts [] (.slice none 0 0),eBlk bo 32 vs,eRws vs ed,eBlk rb 118 [.slice none 0 0,.slice none 0 0,.slice none 0 0,.slice none 0 0],eBlk tb 34 [.slice A1 al.length c1,.int .i64 ↑N,.slice A2 mr.length c2,.slice A3 ed.length c3]] wr) := by
      have h := ((S.out.nilOwn encI 1 3).nilOwn encI 1 3).pick [2,0,1,3,4,5,6] (by decide);rw [List.take_length] at h;exact h
     clear S;have t0 := BlkAt.cell (S2.out.get 6 rfl) 0; simp only [List.getElem?_cons_succ,List.getElem?_cons_zero] at t0;go_wp2_with fail
     clear t0;go_loopw [41] (fun i wr => ∃ (k : Nat) (K E : List Int) (AK : Option Addr) (cK : Nat) (AE : Option Addr) (cE : Nat),k ≤ al.length ∧ i = .int .i64 ↑k ∧ Hid (K = keptV (al.take k) onto) ∧ Hid (E = erasV (al.take k) onto) ∧ (SepW w [eBlk ob 118 [.slice (some ⟨bo,0,none⟩) N N,.slice AK K.length cK,.slice AE E.length cE,.slice A2 mr.length c2],eInts K (.slice AK K.length cK),eInts E (.slice AE E.length cE),eBlk bo 32 vs,eRws vs ed,eBlk rb 118 [.slice none 0 0,.slice none 0 0,.slice none 0 0,.slice none 0 0],eBlk tb 34 [.slice A1 al.length c1,.int .i64 ↑N,.slice A2 mr.length c2,.slice A3 ed.length c3]] wr)) (fun i _ => al.length - (intOf i).toNat)
     case atStart => exact ⟨0,[],[],none,0,none,0,by omega,rfl,rfl,rfl,S2.out⟩
     case round =>
      clear S2;obtain ⟨k,K,E,AK,cK,AE,cE,hk,rfl,HK,HE,S⟩ := hrel;have hKl : K.length ≤ 32 := by rw [HK.out]; exact Nat.le_trans (List.length_filter_le _ _) (by rw [List.length_take]; omega)
      have hEl : E.length ≤ 32 := by rw [HE.out]; exact Nat.le_trans (List.length_filter_le _ _) (by rw [List.length_take]; omega)
      by_cases hlt : k < al.length
      · obtain ⟨b,off,x,hA1,hb,hx,cx⟩ := IntsAt.at (HA.out.below S.out.below).al hlt;dsimp only at hA1;subst hA1;have HX := Lib.hid hx;have t0 := BlkAt.cell (S.out.get 6 rfl) 0; simp only [List.getElem?_cons_succ,List.getElem?_cons_zero] at t0;have CS := Lib.hid (containsV_c AO cO onto x wr (HO.out.below IntE.stays S.out.below) hol);clear hx;go_wp2_with fail
        refine CS.out.mono ?_;intro e w1 hs;clear CS;rcases hs.no1 with ⟨rfl,hn,rfl⟩ | ⟨rfl,hn,rfl⟩
        · have o2 := BlkAt.cell (S.out.get 0 rfl) 2; simp only [List.getElem?_cons_succ,List.getElem?_cons_zero] at o2;go_wp2_with (at_builtin; refine wpList_pushS rfl _ _ 31 rfl (S.out.alloc 3 [.int .i64 x]) 3 rfl Tryz.underlying31 _ 8 intInfo rfl (by decide) rfl x _ rfl rfl (one_cell _ _ [_] _ rfl) (encI_one _) (by omega) (by decide) ?_)
          intro A' c' w6 S9 _;have S10 := Lib.hid S9.drop1;clear S9 S o2;have o2f := BlkAt.free (S10.out.get 0 rfl) 2;have o2 := BlkAt.cell (S10.out.get 0 rfl) 2;(try simp only [List.set_cons_zero,List.set_cons_succ,List.getElem?_cons_succ,List.getElem?_cons_zero] at o2);have S11 : (SepW w [eBlk ob 118 [.slice (some ⟨bo,0,none⟩) N N,.slice AK K.length cK,.slice A' (E ++ [x]).length c',.slice A2 mr.length c2],eInts K (.slice AK K.length cK),eInts (E ++ [x]) (.slice A' (E ++ [x]).length c'),eBlk bo 32 vs,eRws vs ed,eBlk rb 118 [.slice none 0 0,.slice none 0 0,.slice none 0 0,.slice none 0 0],eBlk tb 34 [.slice (some ⟨b,off,none⟩) al.length c1,.int .i64 ↑N,.slice A2 mr.length c2,.slice A3 ed.length c3]] (w6.setCell ⟨ob,2,none⟩ (.slice A' (E.length + 1) c'))) := by
           have h := S10.out.set 0 rfl 2 (.slice A' (E.length + 1) c');rw [show (E ++ [x]).length = E.length + 1 by simp];exact h
          clear S10;go_wp2_with fail
          go_roundw
          case rel => exact ⟨k + 1,K,E ++ [x],AK,cK,A',c',by omega,by go_num,by rw [Hid,(keptV_no HX.out hn.out).1]; exact HK.out,by rw [Hid,(keptV_no HX.out hn.out).2,HE.out],S11.out⟩
          case measure => simp [intOf]; omega
        · have o1 := BlkAt.cell (S.out.get 0 rfl) 1; simp only [List.getElem?_cons_succ,List.getElem?_cons_zero] at o1;go_wp2_with (at_builtin; refine wpList_pushS rfl _ _ 31 rfl (S.out.alloc 3 [.int .i64 x]) 2 rfl Tryz.underlying31 _ 8 intInfo rfl (by decide) rfl x _ rfl rfl (one_cell _ _ [_] _ rfl) (encI_one _) (by omega) (by decide) ?_)
          intro A' c' w6 S9 _;have S10 := Lib.hid S9.drop1;clear S9 S o1;have o1f := BlkAt.free (S10.out.get 0 rfl) 1;have o1 := BlkAt.cell (S10.out.get 0 rfl) 1;(try simp only [List.set_cons_zero,List.set_cons_succ,List.getElem?_cons_succ,List.getElem?_cons_zero] at o1);have S11 : (SepW w [eBlk ob 118 [.slice (some ⟨bo,0,none⟩) N N,.slice A' (K ++ [x]).length c',.slice AE E.length cE,.slice A2 mr.length c2],eInts (K ++ [x]) (.slice A' (K ++ [x]).length c'),eInts E (.slice AE E.length cE),eBlk bo 32 vs,eRws vs ed,eBlk rb 118 [.slice none 0 0,.slice none 0 0,.slice none 0 0,.slice none 0 0],eBlk tb 34 [.slice (some ⟨b,off,none⟩) al.length c1,.int .i64 ↑N,.slice A2 mr.length c2,.slice A3 ed.length c3]] (w6.setCell ⟨ob,1,none⟩ (.slice A' (K.length + 1) c'))) := by
           have h := S10.out.set 0 rfl 1 (.slice A' (K.length + 1) c');rw [show (K ++ [x]).length = K.length + 1 by simp];exact h
          clear S10;go_wp2_with fail
          go_roundw
          case rel => exact ⟨k + 1,K ++ [x],E,A',c',AE,cE,by omega,by go_num,by rw [Hid,(keptV_yes HX.out hn.out).1,HK.out],by rw [Hid,(keptV_yes HX.out hn.out).2]; exact HE.out,S11.out⟩
          case measure => simp [intOf]; omega
      · obtain rfl : k = al.length := by omega
        have HK2 : Hid (K = keptV al onto) := by have := HK.out; rw [List.take_length] at this; exact this
        have HE2 : Hid (E = erasV al onto) := by have := HE.out; rw [List.take_length] at this; exact this
        clear HK HE;have o0 := BlkAt.cell (S.out.get 0 rfl) 0; have o1 := BlkAt.cell (S.out.get 0 rfl) 1; have o2 := BlkAt.cell (S.out.get 0 rfl) 2; have o3 := BlkAt.cell (S.out.get 0 rfl) 3; simp only [List.getElem?_cons_succ,List.getElem?_cons_zero] at o0 o1 o2 o3;have r0 := BlkAt.cell (S.out.get 5 rfl) 0; have r1 := BlkAt.cell (S.out.get 5 rfl) 1; have r2 := BlkAt.cell (S.out.get 5 rfl) 2; have r3 := BlkAt.cell (S.out.get 5 rfl) 3; simp only [List.getElem?_cons_succ,List.getElem?_cons_zero] at r0 r1 r2 r3;have f0 := BlkAt.free (S.out.get 5 rfl) 0;have f1 := BlkAt.free (S.out.get 5 rfl) 1;have f2 := BlkAt.free (S.out.get 5 rfl) 2;have f3 := BlkAt.free (S.out.get 5 rfl) 3;have S4 : (SepW w [eBlk ob 118 [.slice (some ⟨bo,0,none⟩) N N,.slice AK K.length cK,.slice AE E.length cE,.slice A2 mr.length c2],eInts K (.slice AK K.length cK),eInts E (.slice AE E.length cE),eBlk bo 32 vs,eRws vs ed,eBlk rb 118 [.slice (some ⟨bo,0,none⟩) N N,.slice AK K.length cK,.slice AE E.length cE,.slice A2 mr.length c2],eBlk tb 34 [.slice A1 al.length c1,.int .i64 ↑N,.slice A2 mr.length c2,.slice A3 ed.length c3]] ((((wr.setCell ⟨rb,0,none⟩ (.slice (some ⟨bo,0,none⟩) N N)).setCell ⟨rb,1,none⟩ (.slice AK K.length cK)).setCell ⟨rb,2,none⟩ (.slice AE E.length cE)).setCell ⟨rb,3,none⟩ (.slice A2 mr.length c2))) := (((S.out.set 5 rfl 0 _).set 5 rfl 1 _).set 5 rfl 2 _).set 5 rfl 3 _
        have q0 := BlkAt.cell (S4.out.get 5 rfl) 0; have q1 := BlkAt.cell (S4.out.get 5 rfl) 1; have q2 := BlkAt.cell (S4.out.get 5 rfl) 2; have q3 := BlkAt.cell (S4.out.get 5 rfl) 3; simp only [List.getElem?_cons_succ,List.getElem?_cons_zero] at q0 q1 q2 q3;clear S;go_wp2_with fail
        refine bodyPost_ret (v := .agg #[.slice (some ⟨bo,0,none⟩) N N,.slice AK K.length cK,.slice AE E.length cE,.slice A2 mr.length c2]) (by simp [results,Tryz.results54,go_sem, *]) rfl ?_;have S5 := ((S4.out.pick [3,4,2,1] (by decide)).join).join.pick [1,0] (by decide);obtain rfl := HK2.out;obtain rfl := HE2.out;exact ⟨⟨bo,AK,cK,AE,cE,A2,c2⟩,vs,rfl,rfl,rfl,by simpa using HVL.out,S5⟩
end Go.Proofs.YtimdepdbcdbikaaGreat
