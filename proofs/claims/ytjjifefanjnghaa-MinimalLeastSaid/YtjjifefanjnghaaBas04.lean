/-
  Plain: an automaton that is built breadth first out of a system: its states are numbered as they are found, one for each key.
  Plain: what the functions of layer 4 compute, step by step.
  Plain: classes of states that are refined till nothing parts them; what the minimal automaton is.
  Plain: what merge and Restrict build out of an automaton.
  minimal.appendInt, refine.
  The reference of layer 3: has, Step, index, Empty.
  Plain laws: the states that are found, and the canonical automaton.
  The states that are found.
  The canonical automaton.
  overseerref09.All and overseerlaw09.Even.
-/
import Derived.Test.YtjjifefanjnghaaBas02
import Derived.Test.YtjjifefanjnghaaBas01
import Derived.Test.YtjjifefanjnghaaBas03
import Derived.StillTailTactics
import Derived.Deep.RegionLaw
import Derived.Deep.DeepCutAuto
set_option linter.unusedSimpArgs false
set_option linter.unusedVariables false
namespace Go.Proofs.Ytjjifefanjnghaa
open Go.RowKit
set_option maxRecDepth 100000
section

section
variable {σ κ : Type} {key : σ → κ} {out : σ → List (Int × σ)} {s0 : σ}

structure Bld (key : σ → κ) (out : σ → List (Int × σ)) (s0 : σ) (i k : Nat) (fs : List σ) (ed : List Ed) : Prop where
 z : fs[0]? = some s0
 nd : ∀ (j j' : Nat) v v',fs[j]? = some v → fs[j']? = some v' → key v = key v' → j = j'
 so : ∀ x,x ∈ ed → ∃ (j d : Nat) (v t u : σ),x.src = (j : Int) ∧ x.dst = (d : Int) ∧ fs[j]? = some v ∧ (x.ev,t) ∈ out v ∧ fs[d]? = some u ∧ key u = key t
 co : ∀ (j q : Nat) v e t,fs[j]? = some v → (out v)[q]? = some (e,t) → (j < i ∨ j = i ∧ q < k) → ∃ (d : Nat) (u : σ),(⟨(j : Int),e,(d : Int)⟩ : Ed) ∈ ed ∧ fs[d]? = some u ∧ key u = key t
 up : Rises edLt ed
 be : ∀ x,x ∈ ed → x.src < (i : Int) ∨ x.src = (i : Int) ∧ ∃ v,fs[i]? = some v ∧ ∃ (q : Nat) (t : σ),q < k ∧ (out v)[q]? = some (x.ev,t)
 fe : ∀ t : Nat,0 < t → t < fs.length → ∃ p x,FirstE ed t p x

theorem Bld.start : Bld key out s0 0 0 [s0] [] :=
 ⟨rfl,fun j j' v v' h h' _ => by
  have := (List.getElem?_eq_some_iff.1 h).1
  have := (List.getElem?_eq_some_iff.1 h').1
  simp at *; omega,by simp,fun j q v e t _ _ h => by omega,fun i j u v _ hu => by simp at hu,by simp,fun t h1 h2 => by simp at h2; omega⟩
theorem Bld.next {i : Nat} {fs : List σ} {ed : List Ed} {v : σ} (h : Bld key out s0 i (out v).length fs ed) (hv : fs[i]? = some v) : Bld key out s0 (i + 1) 0 fs ed :=
 ⟨h.z,h.nd,h.so,fun j q v' e t hv' hq hc => by
  by_cases g : j < i
  · exact h.co j q v' e t hv' hq (.inl g)
  · obtain rfl : j = i := by omega
    rw [hv] at hv'; cases hv'
    exact h.co j q v e t hv hq (.inr ⟨rfl,(List.getElem?_eq_some_iff.1 hq).1⟩),h.up,fun x hx => by
  rcases h.be x hx with g | ⟨g,_⟩
  · exact .inl (by omega)
  · exact .inl (by omega),h.fe⟩
def Ups (l : List (Int × σ)) : Prop := ∀ (p q : Nat) x y,p < q → l[p]? = some x → l[q]? = some y → x.1 < y.1
theorem FirstE.snoc {ed : List Ed} {k p : Nat} {x : Ed} (h : FirstE ed k p x) (y : Ed) : FirstE (ed ++ [y]) k p x :=
 ⟨get_keep h.at_ y,h.dst,h.src,fun q z hq hz => by
  rw [List.getElem?_append_left (by have := (List.getElem?_eq_some_iff.1 h.at_).1; omega)] at hz
  exact h.le q z hq hz⟩
theorem Bld.less {i k : Nat} {fs : List σ} {ed : List Ed} (h : Bld key out s0 i k fs ed) {v : σ} (hv : fs[i]? = some v) (hu : Ups (out v)) {e : Int} {t : σ} (he : (out v)[k]? = some (e,t)) (d : Int) : ∀ x,x ∈ ed → edLt x ⟨i,e,d⟩ := by
 intro x hx
 rcases h.be x hx with g | ⟨g,v',hv',q,t',hq,hqt⟩
 · exact .inl g
 · rw [hv] at hv'; cases hv'
   exact .inr ⟨g,hu q k _ _ hq hqt he⟩
theorem Bld.old {i k : Nat} {fs : List σ} {ed : List Ed} (h : Bld key out s0 i k fs ed) {v : σ} (hv : fs[i]? = some v) (hu : Ups (out v)) {e : Int} {t u : σ} {d : Nat} (he : (out v)[k]? = some (e,t)) (hd : fs[d]? = some u) (hk : key u = key t) :
 Bld key out s0 i (k + 1) fs (ed ++ [⟨i,e,d⟩]) := by
 refine ⟨h.z,h.nd,fun x hx => ?_,fun j q v' e' t' hv' hq hc => ?_,h.up.push (h.less hv hu he d),fun x hx => ?_,fun m h1 h2 => ?_⟩
 · rcases List.mem_append.1 hx with g | g
   · exact h.so x g
   · simp at g; subst g
     exact ⟨i,d,v,t,u,rfl,rfl,hv,List.mem_of_getElem? he,hd,hk⟩
 · by_cases hold : j < i ∨ j = i ∧ q < k
   · obtain ⟨d',u',h1,h2,h3⟩ := h.co j q v' e' t' hv' hq hold
     exact ⟨d',u',List.mem_append_left _ h1,h2,h3⟩
   · obtain ⟨rfl,rfl⟩ : j = i ∧ q = k := by omega
     rw [hv] at hv'; cases hv'
     rw [he] at hq; cases hq
     exact ⟨d,u,by simp,hd,hk⟩
 · rcases List.mem_append.1 hx with g | g
   · rcases h.be x g with k1 | ⟨k1,v',h2,q,t',h3,h4⟩
     · exact .inl k1
     · exact .inr ⟨k1,v',h2,q,t',by omega,h4⟩
   · simp at g; subst g
     exact .inr ⟨rfl,v,hv,k,t,by omega,he⟩
 · obtain ⟨p,x,hf⟩ := h.fe m h1 h2
   exact ⟨p,x,hf.snoc _⟩
theorem Bld.dlt {i k : Nat} {fs : List σ} {ed : List Ed} (h : Bld key out s0 i k fs ed) : ∀ x,x ∈ ed → 0 ≤ x.src ∧ x.src < fs.length ∧ 0 ≤ x.dst ∧ x.dst < fs.length := by
 intro x hx
 obtain ⟨j,d,v,t,u,h1,h2,h3,_,h5,_⟩ := h.so x hx
 have := (List.getElem?_eq_some_iff.1 h3).1
 have := (List.getElem?_eq_some_iff.1 h5).1
 omega
theorem Bld.new {i k : Nat} {fs : List σ} {ed : List Ed} (h : Bld key out s0 i k fs ed) {v : σ} (hv : fs[i]? = some v) (hu : Ups (out v)) {e : Int} {t : σ} (he : (out v)[k]? = some (e,t)) (hn : ∀ u,u ∈ fs → key u ≠ key t) :
 Bld key out s0 i (k + 1) (fs ++ [t]) (ed ++ [⟨i,e,fs.length⟩]) := by
 have hil := (List.getElem?_eq_some_iff.1 hv).1
 have back : ∀ {j : Nat} {x : σ},(fs ++ [t])[j]? = some x → j ≤ i → fs[j]? = some x := fun {j x} hx hj => by rwa [List.getElem?_append_left (by omega)] at hx
 refine ⟨get_keep h.z _,fun j j' x x' hx hx' hk => ?_,fun x hx => ?_,fun j q v' e' t' hv' hq hc => ?_,h.up.push (h.less hv hu he _),fun x hx => ?_,fun m h1 h2 => ?_⟩
 · rcases getElem?_snoc hx with g | ⟨g,rfl⟩ <;> rcases getElem?_snoc hx' with g' | ⟨g',rfl⟩
   · exact h.nd j j' x x' g g' hk
   · exact absurd hk (hn x (List.mem_of_getElem? g))
   · exact absurd hk.symm (hn x' (List.mem_of_getElem? g'))
   · omega
 · rcases List.mem_append.1 hx with g | g
   · obtain ⟨j,d,a,b,c,h1,h2,h3,h4,h5,h6⟩ := h.so x g
     exact ⟨j,d,a,b,c,h1,h2,get_keep h3 _,h4,get_keep h5 _,h6⟩
   · simp at g; subst g
     exact ⟨i,fs.length,v,t,t,rfl,rfl,get_keep hv _,List.mem_of_getElem? he,by simp,rfl⟩
 · have hv2 := back hv' (by omega)
   by_cases hold : j < i ∨ j = i ∧ q < k
   · obtain ⟨d',u',h1,h2,h3⟩ := h.co j q v' e' t' hv2 hq hold
     exact ⟨d',u',List.mem_append_left _ h1,get_keep h2 _,h3⟩
   · obtain ⟨rfl,rfl⟩ : j = i ∧ q = k := by omega
     rw [hv] at hv2; cases hv2
     rw [he] at hq; cases hq
     exact ⟨fs.length,t,by simp,by simp,rfl⟩
 · rcases List.mem_append.1 hx with g | g
   · rcases h.be x g with k1 | ⟨k1,v',h2,q,t',h3,h4⟩
     · exact .inl k1
     · exact .inr ⟨k1,v',get_keep h2 _,q,t',by omega,h4⟩
   · simp at g; subst g
     exact .inr ⟨rfl,v,get_keep hv _,k,t,by omega,he⟩
 · simp only [List.length_append,List.length_cons,List.length_nil] at h2
   by_cases e' : m < fs.length
   · obtain ⟨p,x,hf⟩ := h.fe m h1 e'
     exact ⟨p,x,hf.snoc _⟩
   · obtain rfl : m = fs.length := by omega
     refine ⟨ed.length,⟨i,e,fs.length⟩,by simp,rfl,by simp only; omega,fun q y hq hy => ?_⟩
     rw [List.getElem?_append_left hq] at hy
     exact (h.dlt y (List.mem_of_getElem? hy)).2.2.2

def stepS (out : σ → List (Int × σ)) (v : σ) (e : Int) : Option σ := ((out v).find? fun x => decide (x.1 = e)).map (·.2)
def runS (out : σ → List (Int × σ)) : σ → List Int → Option σ
 | v,[] => some v
 | v,e :: r => match stepS out v e with
   | some u => runS out u r
   | none => none
theorem stepS_some {v u : σ} {e : Int} (h : stepS out v e = some u) : (e,u) ∈ out v := by
 unfold stepS at h
 obtain ⟨x,hx,rfl⟩ := Option.map_eq_some_iff.1 h
 have h1 := List.mem_of_find?_eq_some hx
 have h2 := List.find?_some hx
 simp at h2
 rw [← h2]; exact h1
theorem stepS_none {v : σ} {e : Int} (h : stepS out v e = none) : ∀ u,¬ (e,u) ∈ out v := by
 unfold stepS at h
 simp only [Option.map_eq_none_iff,List.find?_eq_none,decide_eq_true_eq] at h
 exact fun u hu => h _ hu rfl
theorem Ups.uniq {l : List (Int × σ)} (h : Ups l) {e : Int} {t u : σ} (ht : (e,t) ∈ l) (hu : (e,u) ∈ l) : t = u := by
 obtain ⟨p,hp,hpt⟩ := List.mem_iff_getElem.1 ht
 obtain ⟨q,hq,hqu⟩ := List.mem_iff_getElem.1 hu
 have h1 : l[p]? = some (e,t) := by rw [List.getElem?_eq_getElem hp,hpt]
 have h2 : l[q]? = some (e,u) := by rw [List.getElem?_eq_getElem hq,hqu]
 rcases Nat.lt_trichotomy p q with g | g | g
 · have := h p q _ _ g h1 h2; simp at this
 · subst g; rw [h1] at h2; cases h2; rfl
 · have := h q p _ _ g h2 h1; simp at this
theorem stepS_mem {v u : σ} {e : Int} (hu : Ups (out v)) (h : (e,u) ∈ out v) : stepS out v e = some u := by
 cases hs : stepS out v e with
 | none => exact absurd h (stepS_none hs u)
 | some t => rw [hu.uniq (stepS_some hs) h]
theorem runS_snoc (out : σ → List (Int × σ)) : ∀ (w : List Int) (v : σ) (e : Int),runS out v (w ++ [e]) = (runS out v w).bind fun u => stepS out u e
 | [],v,e => by
   simp only [List.nil_append,runS,Option.bind_some]
   cases stepS out v e <;> rfl
 | x :: r,v,e => by
   simp only [List.cons_append,runS]
   cases stepS out v x with
   | none => rfl
   | some u => exact runS_snoc out r u e

structure Cong (P : σ → Prop) (key : σ → κ) (out : σ → List (Int × σ)) : Prop where
 go : ∀ v,P v → ∀ e t,(e,t) ∈ out v → P t
 eq : ∀ v v',P v → P v' → key v = key v' → ∀ e t,(e,t) ∈ out v → ∃ t',(e,t') ∈ out v' ∧ key t' = key t
 up : ∀ v,P v → Ups (out v)
structure Built (key : σ → κ) (out : σ → List (Int × σ)) (s0 : σ) (a : Au) (fs : List σ) : Prop where
 n : a.n = fs.length
 z : fs[0]? = some s0
 nd : ∀ (j j' : Nat) v v',fs[j]? = some v → fs[j']? = some v' → key v = key v' → j = j'
 rt : a.Right
 num : Num a.ed a.n
 step : ∀ (j : Nat) v,fs[j]? = some v → ∀ e,(nextV a.ed j e = -1 ∧ stepS out v e = none) ∨ ∃ (d : Nat) (u t : σ),nextV a.ed j e = d ∧ fs[d]? = some u ∧ stepS out v e = some t ∧ key u = key t
theorem Bld.built {i k : Nat} {fs : List σ} {ed : List Ed} (h : Bld key out s0 i k fs ed) (hi : fs.length ≤ i) (al mr : List Int) (hal : setOk al 32 al.length) (hn : fs.length ≤ 4096) (hmr : setOk mr fs.length mr.length) (hev : ∀ v,v ∈ fs → ∀ x,x ∈ out v → x.1 ∈ al) (hup : ∀ v,v ∈ fs → Ups (out v)) :
 Built key out s0 ⟨al,fs.length,mr,ed⟩ fs := by
 have hr : (⟨al,fs.length,mr,ed⟩ : Au).Right := by
  refine ⟨hal,Int.natCast_nonneg _,by show ((fs.length : Nat) : Int) ≤ 4096; omega,hmr,fun p hp x hx => ?_⟩
  have hm := List.mem_of_getElem? hx
  have hd := h.dlt x hm
  obtain ⟨j,d,v,t,u,h1,h2,h3,h4,_⟩ := h.so x hm
  refine ⟨hd.1,hd.2.1,hd.2.2.1,hd.2.2.2,hev v (List.mem_of_getElem? h3) _ h4,fun y hy hyx => ?_⟩
  exact h.up (p - 1) p y x (by omega) hyx hx
 refine ⟨rfl,h.z,h.nd,hr,fun t h1 h2 => h.fe t h1 (by simp only at h2; omega),fun j v hv e => ?_⟩
 have hj := (List.getElem?_eq_some_iff.1 hv).1
 have hU := hup v (List.mem_of_getElem? hv)
 rcases hr.next_cases j e with g | ⟨g0,g1,x,hx,x1,x2,x3⟩
 · refine .inl ⟨g,?_⟩
   cases hs : stepS out v e with
   | none => rfl
   | some t =>
     obtain ⟨q,hq,hqt⟩ := List.mem_iff_getElem.1 (stepS_some hs)
     obtain ⟨d,u,h1,h2,h3⟩ := h.co j q v e t hv (by rw [List.getElem?_eq_getElem hq,hqt]) (.inl (by omega))
     obtain ⟨p,hp,hpx⟩ := List.mem_iff_getElem.1 h1
     have := hr.nextE (p := p) (x := ⟨j,e,d⟩) (by rw [List.getElem?_eq_getElem hp,hpx])
     simp only at this g
     omega
 · obtain ⟨j',d,v',t,u,h1,h2,h3,h4,h5,h6⟩ := h.so x hx
   obtain rfl : j' = j := by omega
   rw [hv] at h3; cases h3
   rw [x2] at h4
   exact .inr ⟨d,u,t,by rw [← x3,h2],h5,stepS_mem hU h4,h6⟩
theorem Built.run {a : Au} {fs : List σ} {P : σ → Prop} (h : Built key out s0 a fs) (hc : Cong P key out) (h0 : P s0) (hfs : ∀ v,v ∈ fs → P v) (w : List Int) : (rn a w = -1 ∧ runS out s0 w = none) ∨ ∃ (d : Nat) (u t : σ),rn a w = d ∧ fs[d]? = some u ∧ runS out s0 w = some t ∧ key u = key t ∧ P t := by
 have hz := (List.getElem?_eq_some_iff.1 h.z).1
 have hst : a.st = 0 := by unfold Au.st; rw [if_neg (by rw [h.n]; omega)]
 refine snoc_ind (P := fun w => (rn a w = -1 ∧ runS out s0 w = none) ∨ ∃ (d : Nat) (u t : σ),rn a w = d ∧ fs[d]? = some u ∧ runS out s0 w = some t ∧ key u = key t ∧ P t) ?_ ?_ w
 · exact .inr ⟨0,s0,s0,hst,h.z,rfl,rfl,h0⟩
 · rintro u e (⟨g1,g2⟩ | ⟨d,v,t,g1,g2,g3,g4,g5⟩)
   · refine .inl ⟨?_,by rw [runS_snoc,g2]; rfl⟩
     rw [rn_app,g1,runV_neg _ (by omega)]
   · have pv := hfs v (List.mem_of_getElem? g2)
     rw [rn_snoc a u e (by omega),g1,runS_snoc,g3]
     simp only [Option.bind_some]
     rcases h.step d v g2 e with ⟨k1,k2⟩ | ⟨d',u',t',k1,k2,k3,k4⟩
     · refine .inl ⟨k1,?_⟩
       cases hs : stepS out t e with
       | none => rfl
       | some x =>
         obtain ⟨x',hx',_⟩ := hc.eq t v g5 pv g4.symm e x (stepS_some hs)
         exact absurd hx' (stepS_none k2 x')
     · obtain ⟨x,hx,hxk⟩ := hc.eq v t pv g5 g4 e t' (stepS_some k3)
       exact .inr ⟨d',u',x,k1,k2,stepS_mem (hc.up t g5) hx,k4.trans hxk.symm,hc.go t g5 e x hx⟩
end
end
def firstV (ed : List Ed) (s : Nat) : Nat := (ed.filter fun x => decide (x.src < (s : Int))).length
def predsV (ed : List Ed) (s : Int) : List Int := (ed.filter fun x => decide (x.dst = s)).map (·.src)

theorem getD_lt {α : Type} {l : List α} {i : Nat} (d : α) (h : i < l.length) : l.getD i d = l[i] := by rw [List.getD_eq_getElem?_getD,List.getElem?_eq_getElem h]; rfl
def negs (l : List Int) : Nat := (l.filter fun x => decide (x < 0)).length
def bkIn (d : Int) : List Int → List Int → List Int → List Int × List Int
 | [],out,q => (out,q)
 | p :: ps,out,q => if out.getD p.toNat 0 < 0 then bkIn d ps (out.set p.toNat (d + 1)) (q ++ [p]) else bkIn d ps out q
def bkGo (ed : List Ed) : Nat → List Int → List Int → List Int
 | 0,out,_ => out
 | f + 1,out,[] => out
 | f + 1,out,s :: q => bkGo ed f (bkIn (out.getD s.toNat 0) (predsV ed s) out q).1 (bkIn (out.getD s.toNat 0) (predsV ed s) out q).2
def bkMu (out q : List Int) : Nat := negs out + q.length
def bkStart (n : Nat) (tgs : List Int) : List Int := tgs.foldl (fun out s => out.set s.toNat 0) (List.replicate n (-1))
def backV (ed : List Ed) (n : Nat) (tgs : List Int) : List Int := bkGo ed (bkMu (bkStart n tgs) tgs) (bkStart n tgs) tgs

structure Stp where
 st : Int
 fr : Int
 ev : Int
deriving DecidableEq
def Stp.cells (x : Stp) : List Value := [.int .i64 x.st,.int .i64 x.fr,.int .i64 x.ev]
def ptIn (per : Ed → Bool) (i : Int) : List Ed → List Bool → List Stp → List Bool × List Stp
 | [],seen,st => (seen,st)
 | x :: xs,seen,st => if seen.getD x.dst.toNat true = false ∧ per x = true then ptIn per i xs (seen.set x.dst.toNat true) (st ++ [⟨x.dst,i,x.ev⟩]) else ptIn per i xs seen st
def wayV (st : List Stp) : Nat → Int → List Int → List Int
 | 0,_,acc => acc
 | f + 1,k,acc => match st[k.toNat]? with
   | some x => if 0 ≤ x.fr then wayV st f x.fr (x.ev :: acc) else acc
   | none => acc
def ptGo (want : Int → Bool) (per : Ed → Bool) (ed : List Ed) : Nat → Nat → List Bool → List Stp → Option (List Int)
 | 0,_,_,_ => none
 | f + 1,i,seen,st => match st[i]? with
   | none => none
   | some s => if want s.st = true then some (wayV st (i + 1) i []) else ptGo want per ed f (i + 1) (ptIn per i (ed.filter fun x => decide (x.src = s.st)) seen st).1 (ptIn per i (ed.filter fun x => decide (x.src = s.st)) seen st).2
def ptMu (seen : List Bool) (st : List Stp) (i : Nat) : Nat := (seen.filter fun b => !b).length + (st.length - i)
def pathV (want : Int → Bool) (per : Ed → Bool) (ed : List Ed) (n : Nat) (from_ : Int) : Option (List Int) := ptGo want per ed (n + 1) 0 ((List.replicate n false).set from_.toNat true) [⟨from_,-1,-1⟩]
section

section
variable {κ : Type} [DecidableEq κ]
def seenK : List κ → List κ → List κ
 | s,[] => s
 | s,k :: r => if k ∈ s then seenK s r else seenK (s ++ [k]) r
theorem seenK_snoc : ∀ (l s : List κ) (k : κ),seenK s (l ++ [k]) = if k ∈ seenK s l then seenK s l else seenK s l ++ [k]
 | [],s,k => by simp only [List.nil_append]; unfold seenK; split <;> rfl
 | x :: l,s,k => by
   simp only [List.cons_append,seenK]
   split
   · exact seenK_snoc l s k
   · exact seenK_snoc l (s ++ [x]) k
theorem mem_seenK : ∀ (l s : List κ) (x : κ),x ∈ seenK s l ↔ x ∈ s ∨ x ∈ l
 | [],s,x => by simp [seenK]
 | y :: l,s,x => by
   simp only [seenK]
   split
   · rename_i h
     rw [mem_seenK l s x,List.mem_cons]
     constructor
     · rintro (g | g)
       · exact .inl g
       · exact .inr (.inr g)
     · rintro (g | g | g)
       · exact .inl g
       · subst g; exact .inl h
       · exact .inr g
   · rw [mem_seenK l _ x,List.mem_append,List.mem_singleton,List.mem_cons,or_assoc]
def idxK (l : List κ) (k : κ) : Nat := l.findIdx fun y => decide (y = k)
theorem idxK_lt {l : List κ} {k : κ} (h : k ∈ l) : idxK l k < l.length := List.findIdx_lt_length_of_exists ⟨k,h,by simp⟩
theorem idxK_get {l : List κ} {k : κ} (h : k ∈ l) : l[idxK l k]? = some k := by
 have h1 := idxK_lt h
 rw [List.getElem?_eq_getElem h1]
 have := List.findIdx_getElem (xs := l) (p := fun y => decide (y = k)) (w := h1)
 simp at this
 exact congrArg some this
theorem idxK_app {l : List κ} {k : κ} (h : k ∈ l) (r : List κ) : idxK (l ++ r) k = idxK l k := by
 have h1 := idxK_lt h
 unfold idxK at h1 ⊢
 rw [List.findIdx_append,if_pos h1]
theorem idxK_new {l : List κ} {k : κ} (h : ¬ k ∈ l) : idxK (l ++ [k]) k = l.length := by
 unfold idxK
 have : l.findIdx (fun y => decide (y = k)) = l.length := List.findIdx_eq_length_of_false fun x hx => by simp; rintro rfl; exact h hx
 rw [List.findIdx_append,if_neg (by omega)]
 simp
theorem idxK_inj {l : List κ} {x y : κ} (hx : x ∈ l) (hy : y ∈ l) (h : idxK l x = idxK l y) : x = y := by
 have h1 := idxK_get hx
 rw [h,idxK_get hy] at h1
 exact (Option.some.inj h1).symm
def numK (l : List κ) : List Int := l.map fun k => ((idxK (seenK [] l) k : Nat) : Int)
def cntK (l : List κ) : Nat := (seenK [] l).length
theorem numK_len (l : List κ) : (numK l).length = l.length := by simp [numK]
theorem numK_snoc (l : List κ) (k : κ) : numK (l ++ [k]) = numK l ++ [((idxK (seenK [] (l ++ [k])) k : Nat) : Int)] := by
 unfold numK
 rw [List.map_append]
 congr 1
 refine List.map_congr_left fun x hx => ?_
 rw [seenK_snoc]
 split
 · rfl
 · rw [idxK_app ((mem_seenK l [] x).2 (.inr hx))]
theorem idxK_old {l : List κ} {k : κ} (h : k ∈ seenK [] l) : idxK (seenK [] (l ++ [k])) k = idxK (seenK [] l) k := by rw [seenK_snoc,if_pos h]
theorem idxK_fresh {l : List κ} {k : κ} (h : ¬ k ∈ seenK [] l) : idxK (seenK [] (l ++ [k])) k = cntK l := by rw [seenK_snoc,if_neg h,idxK_new h]; rfl
end

structure Canon (c : List Int) (m : Nat) : Prop where
 rg : ∀ (s : Nat) x,c[s]? = some x → 0 ≤ x ∧ x < m
 on : ∀ y : Nat,y < m → ∃ s : Nat,c[s]? = some (y : Int)
 cn : ∀ (s : Nat) x,c[s]? = some x → ∀ y : Nat,(y : Int) < x → ∃ t : Nat,t < s ∧ c[t]? = some (y : Int)
theorem numK_canon {κ : Type} [DecidableEq κ] (l : List κ) : Canon (numK l) (cntK l) := by
 refine snoc_ind (P := fun l => Canon (numK l) (cntK l)) ⟨by simp [numK],by simp [cntK,seenK],by simp [numK]⟩ ?_ l
 intro l k h
 by_cases hk : k ∈ seenK [] l
 · have hc : cntK (l ++ [k]) = cntK l := by unfold cntK; rw [seenK_snoc,if_pos hk]
   rw [hc,numK_snoc,idxK_old hk]
   have hlt : idxK (seenK [] l) k < cntK l := idxK_lt hk
   refine ⟨fun s x hx => ?_,fun y hy => ?_,fun s x hx y hy => ?_⟩
   · rcases getElem?_snoc hx with g | ⟨_,rfl⟩
     · exact h.rg s x g
     · omega
   · obtain ⟨s,hs⟩ := h.on y hy
     exact ⟨s,get_keep hs _⟩
   · rcases getElem?_snoc hx with g | ⟨g,rfl⟩
     · obtain ⟨t,h1,h2⟩ := h.cn s x g y hy
       exact ⟨t,h1,get_keep h2 _⟩
     · obtain ⟨t,ht⟩ := h.on y (by omega)
       exact ⟨t,by rw [g]; exact (List.getElem?_eq_some_iff.1 ht).1,get_keep ht _⟩
 · have hc : cntK (l ++ [k]) = cntK l + 1 := by unfold cntK; rw [seenK_snoc,if_neg hk]; simp
   rw [hc,numK_snoc,idxK_fresh hk]
   refine ⟨fun s x hx => ?_,fun y hy => ?_,fun s x hx y hy => ?_⟩
   · rcases getElem?_snoc hx with g | ⟨_,rfl⟩
     · have := h.rg s x g; omega
     · omega
   · by_cases e : y < cntK l
     · obtain ⟨s,hs⟩ := h.on y e
       exact ⟨s,get_keep hs _⟩
     · obtain rfl : y = cntK l := by omega
       exact ⟨(numK l).length,by simp⟩
   · rcases getElem?_snoc hx with g | ⟨g,rfl⟩
     · obtain ⟨t,h1,h2⟩ := h.cn s x g y hy
       exact ⟨t,h1,get_keep h2 _⟩
     · obtain ⟨t,ht⟩ := h.on y (by omega)
       exact ⟨t,by rw [g]; exact (List.getElem?_eq_some_iff.1 ht).1,get_keep ht _⟩
theorem numK_ker {κ : Type} [DecidableEq κ] {l : List κ} {i j : Nat} {x y : κ} (hx : l[i]? = some x) (hy : l[j]? = some y) : (numK l)[i]? = (numK l)[j]? ↔ x = y := by
 unfold numK
 rw [List.getElem?_map,List.getElem?_map,hx,hy]
 simp only [Option.map_some,Option.some.injEq]
 constructor
 · intro h
   exact idxK_inj ((mem_seenK l [] x).2 (.inr (List.mem_of_getElem? hx))) ((mem_seenK l [] y).2 (.inr (List.mem_of_getElem? hy))) (by omega)
 · rintro rfl; rfl

theorem sub_len : ∀ (l l' : List Nat),l.Nodup → (∀ x,x ∈ l → x ∈ l') → l.length ≤ l'.length
 | [],_,_,_ => by simp
 | a :: l,l',hn,h => by
   rw [List.nodup_cons] at hn
   have ha := h a (by simp)
   have := sub_len l (l'.erase a) hn.2 fun x hx => (List.mem_erase_of_ne (by rintro rfl; exact hn.1 hx)).2 (h x (by simp [hx]))
   rw [List.length_erase_of_mem ha] at this
   have := List.length_pos_of_mem ha
   simp only [List.length_cons]
   omega
theorem pigeon (f : Nat → Nat) (m m' : Nat) (h : ∀ x,x < m → ∃ y,y < m' ∧ f y = x) : m ≤ m' ∧ (m = m' → ∀ y y',y < m' → y' < m' → f y = f y' → y = y') := by
 constructor
 · have := sub_len (List.range m) ((List.range m').map f) List.nodup_range fun x hx => by
    obtain ⟨y,h1,h2⟩ := h x (by simpa using hx)
    exact List.mem_map.2 ⟨y,by simpa using h1,h2⟩
   simpa using this
 · rintro rfl y y' hy hy' he
   by_cases e : y = y'
   · exact e
   · have := sub_len (List.range m) (((List.range m).erase y').map f) List.nodup_range fun x hx => by
      obtain ⟨z,h1,h2⟩ := h x (by simpa using hx)
      by_cases ez : z = y'
      · subst ez
        exact List.mem_map.2 ⟨y,(List.mem_erase_of_ne e).2 (by simpa using hy),by rw [he,h2]⟩
      · exact List.mem_map.2 ⟨z,(List.mem_erase_of_ne ez).2 (by simpa using h1),h2⟩
     rw [List.length_map,List.length_erase_of_mem (by simpa using hy')] at this
     simp at this
     omega

def Eqv (a : Au) (i j : Int) : Prop := ∀ w,(0 ≤ runV a.ed i w ↔ 0 ≤ runV a.ed j w) ∧ (runV a.ed i w ∈ a.mr ↔ runV a.ed j w ∈ a.mr)
theorem Eqv.next {a : Au} {i j : Int} (h : Eqv a i j) (hi : 0 ≤ i) (hj : 0 ≤ j) (e : Int) : Eqv a (nextV a.ed i e) (nextV a.ed j e) := fun w => by
 have := h (e :: w)
 simpa only [runV,hi,hj,if_true] using this
def clsV (c : List Int) (s : Int) : Int := c.getD s.toNat 0
def sigV (a : Au) (c : List Int) (s : Nat) : Int × List (Int × Int) := (c.getD s 0,(outOf a.ed s).map fun x => (x.ev,clsV c x.dst))
structure Moore (a : Au) (c : List Int) (m : Nat) : Prop where
 len : c.length = a.n.toNat
 can : Canon c m
 mkd : ∀ i j : Nat,i < c.length → c[i]? = c[j]? → ((i : Int) ∈ a.mr ↔ (j : Int) ∈ a.mr)
 eq : ∀ i j : Nat,i < c.length → j < c.length → Eqv a i j → c[i]? = c[j]?
section
variable {a : Au} {c c' : List Int} {m m' : Nat}
theorem getD_some {l : List Int} {i : Nat} {x : Int} (h : l[i]? = some x) (d : Int) : l.getD i d = x := by rw [List.getD_eq_getElem?_getD,h]; rfl
theorem outOf_rises (hr : a.Right) (s : Nat) : Rises (fun x y : Ed => x.ev < y.ev) (outOf a.ed s) := by
 have h1 : (a.ed).Pairwise edLt := List.pairwise_iff_getElem.2 fun i j hi hj hij => hr.lex i j _ _ hij (List.getElem?_eq_getElem hi) (List.getElem?_eq_getElem hj)
 have h2 : (outOf a.ed s).Pairwise edLt := h1.filter _
 intro i j x y hij hx hy
 obtain ⟨hi,hix⟩ := List.getElem?_eq_some_iff.1 hx
 obtain ⟨hj,hjy⟩ := List.getElem?_eq_some_iff.1 hy
 have h3 := List.pairwise_iff_getElem.1 h2 i j hi hj hij
 rw [hix,hjy] at h3
 have e1 := List.mem_of_getElem? hx
 have e2 := List.mem_of_getElem? hy
 simp only [outOf,List.mem_filter,decide_eq_true_eq] at e1 e2
 rcases h3 with g | g
 · omega
 · exact g.2
theorem mem_outOf {l : List Ed} {s : Nat} {x : Ed} : x ∈ outOf l s ↔ x ∈ l ∧ x.src = (s : Int) := by simp [outOf]
theorem edge_next (hr : a.Right) {x : Ed} (hx : x ∈ a.ed) : nextV a.ed x.src x.ev = x.dst ∧ 0 ≤ x.src ∧ x.src < a.n ∧ 0 ≤ x.dst ∧ x.dst < a.n := by
 obtain ⟨p,hp,hpx⟩ := List.mem_iff_getElem.1 hx
 have h := List.getElem?_eq_getElem hp
 rw [hpx] at h
 have := hr.edge h
 exact ⟨hr.nextE h,this.1,this.2.1,this.2.2.1,this.2.2.2.1⟩
theorem sig_sub (hr : a.Right) (h : Moore a c m) {i j : Nat} (hi : i < c.length) (hj : j < c.length) (he : Eqv a i j) : ∀ p : Int × Int,p ∈ (outOf a.ed i).map (fun x => (x.ev,clsV c x.dst)) → p ∈ (outOf a.ed j).map (fun x => (x.ev,clsV c x.dst)) := by
 intro p hp
 obtain ⟨x,hx,rfl⟩ := List.mem_map.1 hp
 obtain ⟨hx1,hx2⟩ := mem_outOf.1 hx
 obtain ⟨k1,k2,k3,k4,k5⟩ := edge_next hr hx1
 have h0 := he.next (by omega) (by omega) x.ev
 rw [← hx2,k1] at h0
 rcases hr.next_cases j x.ev with g | ⟨g0,g1,y,hy,y1,y2,y3⟩
 · have := (h0 []).1.1 k4
   simp only [runV] at this
   omega
 · refine List.mem_map.2 ⟨y,mem_outOf.2 ⟨hy,y1⟩,?_⟩
   rw [← y3] at h0
   have hn := h.len
   have := h.eq x.dst.toNat y.dst.toNat (by omega) (by omega) (by
    rw [Int.toNat_of_nonneg k4,Int.toNat_of_nonneg (by omega)]; exact h0)
   rw [y2]
   unfold clsV
   rw [List.getD_eq_getElem?_getD,List.getD_eq_getElem?_getD,this]
theorem Eqv.symm {a : Au} {i j : Int} (h : Eqv a i j) : Eqv a j i := fun w => ⟨(h w).1.symm,(h w).2.symm⟩
theorem sig_rises (hr : a.Right) (c : List Int) (s : Nat) : Rises (fun x y : Int × Int => x.1 < y.1) ((outOf a.ed s).map fun x => (x.ev,clsV c x.dst)) := by
 intro i j x y hij hx hy
 rw [List.getElem?_map,Option.map_eq_some_iff] at hx hy
 obtain ⟨u,hu,rfl⟩ := hx
 obtain ⟨v,hv,rfl⟩ := hy
 exact outOf_rises hr s i j u v hij hu hv
theorem sig_eqv (hr : a.Right) (h : Moore a c m) {i j : Nat} (hi : i < c.length) (hj : j < c.length) (he : Eqv a i j) : sigV a c i = sigV a c j := by
 unfold sigV
 have h1 := h.eq i j hi hj he
 rw [List.getD_eq_getElem?_getD,h1,← List.getD_eq_getElem?_getD]
 congr 1
 refine Rises.ext (R := fun x y : Int × Int => x.1 < y.1) (fun x => by omega) (fun x y => by omega) (sig_rises hr c i) (sig_rises hr c j) fun p => ⟨sig_sub hr h hi hj he p,sig_sub hr h hj hi he.symm p⟩
theorem Moore.first (h : c.length = a.n.toNat) (hc : Canon c m) (hk : ∀ i j : Nat,i < c.length → j < c.length → (c[i]? = c[j]? ↔ ((i : Int) ∈ a.mr ↔ (j : Int) ∈ a.mr))) : Moore a c m := by
 refine ⟨h,hc,fun i j hi hij => ?_,fun i j hi hj he => (hk i j hi hj).2 ((he []).2)⟩
 have hj : j < c.length := by
  rw [List.getElem?_eq_getElem hi] at hij
  exact (List.getElem?_eq_some_iff.1 hij.symm).1
 exact (hk i j hi hj).1 hij
theorem Moore.step (hr : a.Right) (h : Moore a c m) (hl : c'.length = a.n.toNat) (hc : Canon c' m') (hk : ∀ i j : Nat,i < c'.length → j < c'.length → (c'[i]? = c'[j]? ↔ sigV a c i = sigV a c j)) : Moore a c' m' := by
 have hlc : c'.length = c.length := by rw [hl,h.len]
 refine ⟨hl,hc,fun i j hi hij => ?_,fun i j hi hj he => (hk i j hi hj).2 (sig_eqv hr h (by omega) (by omega) he)⟩
 have hj : j < c'.length := by
  rw [List.getElem?_eq_getElem hi] at hij
  exact (List.getElem?_eq_some_iff.1 hij.symm).1
 have h2 := congrArg Prod.fst ((hk i j hi hj).1 hij)
 refine h.mkd i j (by omega) ?_
 simp only [sigV] at h2
 rw [getD_lt _ (by omega),getD_lt _ (by omega)] at h2
 rw [List.getElem?_eq_getElem (by omega),List.getElem?_eq_getElem (by omega),h2]
theorem Moore.count (h : Moore a c m) (hl : c'.length = a.n.toNat) (hc : Canon c' m') (hk : ∀ i j : Nat,i < c'.length → j < c'.length → (c'[i]? = c'[j]? ↔ sigV a c i = sigV a c j)) :
 m ≤ m' ∧ (m = m' → ∀ i j : Nat,i < c.length → j < c.length → c[i]? = c[j]? → c'[i]? = c'[j]?) := by
 have hlc : c'.length = c.length := by rw [hl,h.len]
 have ref : ∀ i j : Nat,i < c'.length → j < c'.length → c'[i]? = c'[j]? → c[i]? = c[j]? := fun i j hi hj he => by
  have h2 := congrArg Prod.fst ((hk i j hi hj).1 he)
  simp only [sigV] at h2
  rw [getD_lt _ (by omega),getD_lt _ (by omega)] at h2
  rw [List.getElem?_eq_getElem (by omega),List.getElem?_eq_getElem (by omega),h2]
 obtain ⟨f,hf⟩ : ∃ f : Nat → Nat,∀ (s : Nat) (y : Nat),c'[s]? = some (y : Int) → c[s]? = some ((f y : Nat) : Int) := by
  refine ⟨fun y => (c.getD (c'.findIdx fun z => decide (z = (y : Int))) 0).toNat,fun s y hs => ?_⟩
  have hm := List.mem_of_getElem? hs
  have h1 : idxK c' (y : Int) < c'.length := idxK_lt hm
  have h2 : c'[idxK c' (y : Int)]? = some (y : Int) := idxK_get hm
  have hsl := (List.getElem?_eq_some_iff.1 hs).1
  have h3 := ref s (idxK c' (y : Int)) hsl h1 (by rw [hs,h2])
  have h4 : c[s]? = some c[s] := List.getElem?_eq_getElem (by omega)
  have h5 := (h.can.rg s _ h4).1
  rw [h3] at h4
  show c[s]? = some (((c.getD (idxK c' (y : Int)) 0).toNat : Nat) : Int)
  rw [h3,getD_some h4,Int.toNat_of_nonneg h5,h4]
 have hp := pigeon f m m' (fun x hx => by
  obtain ⟨s,hs⟩ := h.can.on x hx
  have hsl := (List.getElem?_eq_some_iff.1 hs).1
  obtain ⟨y,hy⟩ : ∃ y,c'[s]? = some y := ⟨_,List.getElem?_eq_getElem (by omega)⟩
  have hr := hc.rg s y hy
  refine ⟨y.toNat,by omega,?_⟩
  have := hf s y.toNat (by rw [hy,Int.toNat_of_nonneg hr.1])
  rw [hs] at this
  have := Option.some.inj this
  omega)
 refine ⟨hp.1,fun e i j hi hj hij => ?_⟩
 obtain ⟨y,hy⟩ : ∃ y,c'[i]? = some y := ⟨_,List.getElem?_eq_getElem (by omega)⟩
 obtain ⟨z,hz⟩ : ∃ z,c'[j]? = some z := ⟨_,List.getElem?_eq_getElem (by omega)⟩
 have ry := hc.rg i y hy
 have rz := hc.rg j z hz
 have e1 := hf i y.toNat (by rw [hy,Int.toNat_of_nonneg ry.1])
 have e2 := hf j z.toNat (by rw [hz,Int.toNat_of_nonneg rz.1])
 rw [hij,e2] at e1
 have e3 : ((f z.toNat : Nat) : Int) = (f y.toNat : Nat) := Option.some.inj e1
 have := hp.2 e y.toNat z.toNat (by omega) (by omega) (by omega)
 rw [hy,hz]
 congr 1
 omega
theorem Moore.fin (hr : a.Right) (h : Moore a c m) (hl : c'.length = a.n.toNat) (hc : Canon c' m) (hk : ∀ i j : Nat,i < c'.length → j < c'.length → (c'[i]? = c'[j]? ↔ sigV a c i = sigV a c j)) :
 ∀ i j : Nat,i < c'.length → j < c'.length → (c'[i]? = c'[j]? ↔ Eqv a i j) := by
 have M' := h.step hr hl hc hk
 have back := (h.count hl hc hk).2 rfl
 have hlc : c'.length = c.length := by rw [hl,h.len]
 intro i j hi hj
 refine ⟨fun hij w => ?_,fun he => M'.eq i j hi hj he⟩
 have key : ∀ (w : List Int) (i j : Nat),i < c'.length → j < c'.length → c'[i]? = c'[j]? → (0 ≤ runV a.ed i w ↔ 0 ≤ runV a.ed j w) ∧ (runV a.ed i w ∈ a.mr ↔ runV a.ed j w ∈ a.mr) := by
  intro w
  induction w with
  | nil => intro i j hi hj hij; exact ⟨by simp only [runV]; omega,M'.mkd i j hi hij⟩
  | cons e w ih =>
    intro i j hi hj hij
    have i0 : (0 : Int) ≤ (i : Int) := by omega
    have j0 : (0 : Int) ≤ (j : Int) := by omega
    simp only [runV,i0,j0,if_true]
    have hs := congrArg Prod.snd ((hk i j hi hj).1 hij)
    simp only [sigV] at hs
    have one : ∀ (i j : Nat),(outOf a.ed i).map (fun x => (x.ev,clsV c x.dst)) = (outOf a.ed j).map (fun x => (x.ev,clsV c x.dst)) → ∀ x,x ∈ a.ed → x.src = (i : Int) → x.ev = e → ∃ y,y ∈ a.ed ∧ y.src = (j : Int) ∧ y.ev = e ∧ clsV c y.dst = clsV c x.dst := fun i j hs x hx h1 h2 => by
     have : (x.ev,clsV c x.dst) ∈ (outOf a.ed j).map (fun x => (x.ev,clsV c x.dst)) := by rw [← hs]; exact List.mem_map.2 ⟨x,mem_outOf.2 ⟨hx,h1⟩,rfl⟩
     obtain ⟨y,hy,hyx⟩ := List.mem_map.1 this
     obtain ⟨y1,y2⟩ := mem_outOf.1 hy
     rw [Prod.mk.injEq] at hyx
     exact ⟨y,y1,y2,by rw [hyx.1,h2],hyx.2⟩
    have neg : ∀ x : Int,x = -1 → ∀ w,¬ 0 ≤ runV a.ed x w ∧ ¬ runV a.ed x w ∈ a.mr := fun x hx w => by
     rw [runV_neg _ (by omega)]
     exact ⟨by omega,fun hm => by have := (hr.mem hm).1; omega⟩
    rcases hr.next_cases i e with g | ⟨g0,g1,x,hx,x1,x2,x3⟩ <;> rcases hr.next_cases j e with g' | ⟨g0',g1',y,hy,y1,y2,y3⟩
    · exact ⟨⟨fun q => absurd q (neg _ g w).1,fun q => absurd q (neg _ g' w).1⟩,⟨fun q => absurd q (neg _ g w).2,fun q => absurd q (neg _ g' w).2⟩⟩
    · obtain ⟨x,hx,h1,h2,_⟩ := one j i hs.symm y hy y1 y2
      have := edge_next hr hx
      rw [h1,h2] at this; omega
    · obtain ⟨y,hy,h1,h2,_⟩ := one i j hs x hx x1 x2
      have := edge_next hr hy
      rw [h1,h2] at this; omega
    · obtain ⟨z,hz,z1,z2,z3⟩ := one i j hs x hx x1 x2
      obtain rfl : z = y := hr.uniq hz hy (by omega) (by omega)
      have hn := h.len
      have b1 := edge_next hr hx
      have b2 := edge_next hr hz
      rw [← x3,← y3]
      have p1 : x.dst.toNat < c.length := by omega
      have p2 : z.dst.toNat < c.length := by omega
      have := back x.dst.toNat z.dst.toNat p1 p2 (by
       unfold clsV at z3
       rw [getD_lt _ p1,getD_lt _ p2] at z3
       rw [List.getElem?_eq_getElem p1,List.getElem?_eq_getElem p2,z3])
      have q := ih x.dst.toNat z.dst.toNat (by omega) (by omega) this
      rw [Int.toNat_of_nonneg (by omega),Int.toNat_of_nonneg (by omega)] at q
      exact q
 exact key w i j hi hj hij
end

structure Mini (a m : Au) : Prop where
 al : m.al = a.al
 rt : m.Right
 num : Num m.ed m.n
 gen : ∀ w,0 ≤ rn m w ↔ 0 ≤ rn a w
 mkd : ∀ w,rn m w ∈ m.mr ↔ rn a w ∈ a.mr
 ds : ∀ i j : Int,0 ≤ i → i < m.n → 0 ≤ j → j < m.n → Eqv m i j → i = j
structure Trimd (a t : Au) : Prop where
 al : t.al = a.al
 rt : t.Right
 num : Num t.ed t.n
 co : ∀ i : Int,0 ≤ i → i < t.n → ∃ w,runV t.ed i w ∈ t.mr
 lang : ∀ w,rn t w ∈ t.mr ↔ rn a w ∈ a.mr
end
section

section
variable {a : Au}
def outK (a : Au) (keep : Int → Bool) (v : Int) : List (Int × Int) := ((outOf a.ed v.toNat).filter fun x => keep x.dst).map fun x => (x.ev,x.dst)
theorem mem_outK (hr : a.Right) {keep : Int → Bool} {v e t : Int} (hv : 0 ≤ v) : (e,t) ∈ outK a keep v ↔ nextV a.ed v e = t ∧ 0 ≤ t ∧ keep t = true := by
 constructor
 · intro h
   obtain ⟨x,hx,he⟩ := List.mem_map.1 h
   rw [List.mem_filter,mem_outOf] at hx
   obtain ⟨⟨h1,h2⟩,h3⟩ := hx
   rw [Prod.mk.injEq] at he
   obtain ⟨rfl,rfl⟩ := he
   have := edge_next hr h1
   rw [h2,Int.toNat_of_nonneg hv] at this
   exact ⟨this.1,this.2.2.2.1,h3⟩
 · rintro ⟨h1,h2,h3⟩
   rcases hr.next_cases v e with g | ⟨_,_,x,hx,x1,x2,x3⟩
   · omega
   · refine List.mem_map.2 ⟨x,?_,by rw [x2,x3,h1]⟩
     rw [List.mem_filter,mem_outOf]
     exact ⟨⟨hx,by omega⟩,by rw [x3,h1]; exact h3⟩
theorem outK_ups (hr : a.Right) (keep : Int → Bool) (v : Int) : Ups (outK a keep v) := by
 have h1 : (outOf a.ed v.toNat).Pairwise (fun x y => x.ev < y.ev) := List.pairwise_iff_getElem.2 fun i j hi hj hij => outOf_rises hr v.toNat i j _ _ hij (List.getElem?_eq_getElem hi) (List.getElem?_eq_getElem hj)
 have h2 := h1.filter (fun x => keep x.dst)
 intro p q x y hpq hx hy
 unfold outK at hx hy
 rw [List.getElem?_map,Option.map_eq_some_iff] at hx hy
 obtain ⟨u,hu,rfl⟩ := hx
 obtain ⟨z,hz,rfl⟩ := hy
 obtain ⟨hi,e1⟩ := List.getElem?_eq_some_iff.1 hu
 obtain ⟨hj,e2⟩ := List.getElem?_eq_some_iff.1 hz
 have := List.pairwise_iff_getElem.1 h2 p q hi hj hpq
 rw [e1,e2] at this
 exact this
theorem stepS_outK (hr : a.Right) {keep : Int → Bool} {v e : Int} (hv : 0 ≤ v) : stepS (outK a keep) v e = if 0 ≤ nextV a.ed v e ∧ keep (nextV a.ed v e) = true then some (nextV a.ed v e) else none := by
 split
 · rename_i h
   exact stepS_mem (outK_ups hr keep v) ((mem_outK hr hv).2 ⟨rfl,h⟩)
 · rename_i h
   cases hs : stepS (outK a keep) v e with
   | none => rfl
   | some t =>
     obtain ⟨h1,h2,h3⟩ := (mem_outK hr hv).1 (stepS_some hs)
     subst h1
     exact absurd ⟨h2,h3⟩ h
def runK (a : Au) (keep : Int → Bool) : Int → List Int → Option Int
 | v,[] => some v
 | v,e :: r => if 0 ≤ nextV a.ed v e ∧ keep (nextV a.ed v e) = true then runK a keep (nextV a.ed v e) r else none
theorem runS_outK (hr : a.Right) (keep : Int → Bool) : ∀ (w : List Int) (v : Int),0 ≤ v → runS (outK a keep) v w = runK a keep v w
 | [],v,_ => rfl
 | e :: r,v,hv => by
   simp only [runS,runK,stepS_outK hr hv]
   by_cases h : 0 ≤ nextV a.ed v e ∧ keep (nextV a.ed v e) = true
   · rw [if_pos h,if_pos h]
     exact runS_outK hr keep r _ h.1
   · rw [if_neg h,if_neg h]
theorem runK_all (hr : a.Right) : ∀ (w : List Int) (v : Int),0 ≤ v → runK a (fun _ => true) v w = if 0 ≤ runV a.ed v w then some (runV a.ed v w) else none
 | [],v,hv => by simp [runK,runV,hv]
 | e :: r,v,hv => by
   simp only [runK,runV,hv,if_true,and_true]
   split
   · rename_i h
     exact runK_all hr r _ h
   · rename_i h
     rw [runV_neg _ (by omega),if_neg h]
theorem Built.mini (hr : a.Right) (hn : 0 < a.n) {c : List Int} (hl : c.length = a.n.toNat) (hc : ∀ i j : Nat,i < c.length → j < c.length → (c[i]? = c[j]? ↔ Eqv a i j)) {m : Au} {fs : List Int}
 (B : Built (clsV c) (outK a fun _ => true) 0 m fs) (hfs : ∀ v,v ∈ fs → 0 ≤ v ∧ v < a.n) (hal : m.al = a.al) (hm : ∀ d : Nat,(d : Int) ∈ m.mr ↔ ∃ v,fs[d]? = some v ∧ v ∈ a.mr) : Mini a m := by
 have hcl : ∀ v v' : Int,0 ≤ v ∧ v < a.n → 0 ≤ v' ∧ v' < a.n → (clsV c v = clsV c v' ↔ Eqv a v v') := fun v v' hv hv' => by
  have e1 : v.toNat < c.length := by omega
  have e2 : v'.toNat < c.length := by omega
  have := hc v.toNat v'.toNat e1 e2
  rw [Int.toNat_of_nonneg hv.1,Int.toNat_of_nonneg hv'.1] at this
  rw [← this]
  unfold clsV
  rw [getD_lt _ e1,getD_lt _ e2,List.getElem?_eq_getElem e1,List.getElem?_eq_getElem e2,Option.some.injEq]
 have CG : Cong (fun v : Int => 0 ≤ v ∧ v < a.n) (clsV c) (outK a fun _ => true) := by
  refine ⟨fun v hv e t h => ?_,fun v v' hv hv' hk e t h => ?_,fun v _ => outK_ups hr _ v⟩
  · obtain ⟨h1,h2,_⟩ := (mem_outK hr hv.1).1 h
    rcases hr.next_cases v e with g | g
    · omega
    · omega
  · obtain ⟨h1,h2,_⟩ := (mem_outK hr hv.1).1 h
    have he := ((hcl v v' hv hv').1 hk).next hv.1 hv'.1 e
    rw [h1] at he
    have h3 : 0 ≤ nextV a.ed v' e := by have := (he []).1.1 h2; simpa only [runV] using this
    have h4 : nextV a.ed v' e < a.n := by
     rcases hr.next_cases v' e with g | g
     · omega
     · omega
    have h5 : t < a.n := by
     rcases hr.next_cases v e with g | g
     · omega
     · omega
    exact ⟨_,(mem_outK hr hv'.1).2 ⟨rfl,h3,rfl⟩,(hcl _ _ ⟨h3,h4⟩ ⟨h2,h5⟩).2 he.symm⟩
 have hst : a.st = 0 := if_neg (by omega)
 have hrun := B.run CG ⟨Int.le_refl _,hn⟩ hfs
 have hR : ∀ w,runS (outK a fun _ => true) 0 w = if 0 ≤ rn a w then some (rn a w) else none := fun w => by
  rw [runS_outK hr _ w 0 (Int.le_refl _),runK_all hr w 0 (Int.le_refl _)]
  unfold rn
  rw [hst]
 have both : ∀ w,(rn m w = -1 ∧ ¬ 0 ≤ rn a w) ∨ ∃ (d : Nat) (u : Int),rn m w = d ∧ fs[d]? = some u ∧ 0 ≤ rn a w ∧ Eqv a u (rn a w) := fun w => by
  have hw := hR w
  rcases hrun w with ⟨g1,g2⟩ | ⟨d,u,t,g1,g2,g3,g4,g5⟩
  · rw [g2] at hw
    refine .inl ⟨g1,fun h => ?_⟩
    rw [if_pos h] at hw; cases hw
  · rw [g3] at hw
    split at hw
    · rename_i h
      obtain rfl := Option.some.inj hw
      exact .inr ⟨d,u,g1,g2,h,(hcl u _ (hfs u (List.mem_of_getElem? g2)) g5).1 g4⟩
    · cases hw
 have mk : ∀ w,rn m w ∈ m.mr ↔ rn a w ∈ a.mr := fun w => by
  rcases both w with ⟨g1,g2⟩ | ⟨d,u,g1,g2,g3,g4⟩
  · constructor
    · intro h; have := (B.rt.mem h).1; omega
    · intro h; exact absurd (hr.mem h).1 g2
  · rw [g1,hm]
    have := (g4 []).2
    simp only [runV] at this
    constructor
    · rintro ⟨v,h1,h2⟩
      rw [g2] at h1; cases h1
      exact this.1 h2
    · intro h; exact ⟨u,g2,this.2 h⟩
 have gen : ∀ w,0 ≤ rn m w ↔ 0 ≤ rn a w := fun w => by
  rcases both w with ⟨g1,g2⟩ | ⟨d,u,g1,g2,g3,g4⟩
  · exact ⟨fun h => by omega,fun h => absurd h g2⟩
  · exact ⟨fun _ => g3,fun _ => by omega⟩
 refine ⟨hal,B.rt,B.num,gen,mk,fun i j i0 i1 j0 j1 he => ?_⟩
 obtain ⟨ws,hwl,_,hw⟩ := B.num.ws B.rt
 obtain ⟨p,rfl⟩ := Int.eq_ofNat_of_zero_le i0
 obtain ⟨q,rfl⟩ := Int.eq_ofNat_of_zero_le j0
 have hp : p < ws.length := by omega
 have hq : q < ws.length := by omega
 have r1 := (hw p _ (List.getElem?_eq_getElem hp)).is
 have r2 := (hw q _ (List.getElem?_eq_getElem hq)).is
 rcases both ws[p] with ⟨g1,_⟩ | ⟨d,u,g1,g2,g3,g4⟩
 · omega
 rcases both ws[q] with ⟨k1,_⟩ | ⟨d',u',k1,k2,k3,k4⟩
 · omega
 obtain rfl : d = p := by omega
 obtain rfl : d' = q := by omega
 have hE : Eqv a (rn a ws[d]) (rn a ws[d']) := fun w => by
  rw [← rn_app,← rn_app,← gen,← gen,← mk,← mk,rn_app,rn_app,r1,r2]
  exact he w
 have hU : Eqv a u u' := fun w => ⟨((g4 w).1.trans (hE w).1).trans (k4 w).1.symm,((g4 w).2.trans (hE w).2).trans (k4 w).2.symm⟩
 have := B.nd d d' u u' g2 k2 ((hcl u u' (hfs u (List.mem_of_getElem? g2)) (hfs u' (List.mem_of_getElem? k2))).2 hU)
 omega
end
end
def encB (x : Int) : List Value := [.int .u8 x]
abbrev eBytes (l : List Int) (v : Value) : Ent := eOwn encB 1 5 l v
theorem byteInfo : (Try.prog.info? 5).map (fun i => (i.zero,i.size,i.bytes)) = some (some (.int .u8 0),1,1) := by kernel_rfl
theorem encB_one (y : Int) : ∀ u ∈ encB y,u.oneCell' = true := fun u hu => by simp [encB] at hu; subst hu; rfl
def two (x : Int) : List Int := [x / 256,x % 256]
def GivesP (n0 : Nat) (w0 : World) (es : List Ent) (i : Nat) (l : List Int) (e : Ending) (w' : World) : Prop := ∃ A c,e = .returned (.slice A l.length c) ∧ Hid (Sep n0 w0 (es.set i (eBytes l (.slice A l.length c))) w')
set_option maxHeartbeats 1000000 in
theorem appendInt_c (n0 : Nat) (w0 : World) (es : List Ent) (i : Nat) (l : List Int) (v : Value) (x : Int) (w : World) (S : Sep n0 w0 es w) (hi : es[i]? = some (eBytes l v)) (h0 : 0 ≤ x) (h1 : x < 65536) (hl : l.length ≤ 1000000) :
 Calls Try.prog 62 #[v,.int .i64 x] w (GivesP n0 w0 es i (l ++ two x)) := by
 have HS := Lib.hid S
 clear S
 go_enter Try.func62,Try.ntmps62
 obtain ⟨AV,cV,hv⟩ := Own.form (HS.out.get i hi)
 go_wp2_with (at_builtin; refine wpList_pushNS rfl _ _ 94 rfl (HS.out.alloc 5 [.int .u8 (x / 256),.int .u8 (x % 256)]) (i + 1) hi Try.underlying94 _ 1 byteInfo rfl (by decide) rfl (two x) _ 2 rfl (fun _ => rfl) (one_cell _ _ [_,_] _ rfl) encB_one ?_ (by decide) ?_)
 · simp only [two,List.length_cons,List.length_nil]; omega
 · intro A' c' w2 S2 _
   have S3 := Lib.hid S2.drop1
   clear S2
   go_wp2_with fail
   go_ret
   exact ⟨A',c',by rw [List.length_append]; rfl,by rw [List.length_append]; exact S3.out⟩

def GivesF (n : Nat) (l : List ByteArray) (w : World) (e : Ending) (w' : World) : Prop :=
 ∃ g,e = .returned (.tuple #[.slice (some ⟨g,0,none⟩) n n,.int .i64 (cntK l)]) ∧ Hid (Sep w.heap.size w [eBlk g 3 ((numK l).map (Value.int .i64))] w')
def idxF {κ : Type} [DecidableEq κ] (D : List κ) (y : κ) : Option Int := if y ∈ D then some ((idxK D y : Nat) : Int) else none
theorem idxF_snoc {κ : Type} [DecidableEq κ] {l : List κ} {k : κ} (h : ¬ k ∈ seenK [] l) (y : κ) : idxF (seenK [] (l ++ [k])) y = if y = k then some (cntK l : Int) else idxF (seenK [] l) y := by
 unfold idxF
 by_cases e : y = k
 · subst e
   rw [if_pos rfl,if_pos ((mem_seenK _ _ _).2 (.inr (by simp))),idxK_fresh h]
 · rw [if_neg e]
   rw [seenK_snoc,if_neg h]
   by_cases m : y ∈ seenK [] l
   · rw [if_pos m,if_pos (List.mem_append_left _ m),idxK_app m]
   · rw [if_neg m,if_neg (by simp [m,e])]
theorem idxF_snoc_old {κ : Type} [DecidableEq κ] {l : List κ} {k : κ} (h : k ∈ seenK [] l) : seenK [] (l ++ [k]) = seenK [] l := by rw [seenK_snoc,if_pos h]
theorem cnt_snoc {κ : Type} [DecidableEq κ] (l : List κ) (k : κ) : cntK (l ++ [k]) = if k ∈ seenK [] l then cntK l else cntK l + 1 := by
 unfold cntK; rw [seenK_snoc]; split <;> simp
def nums (n : Nat) (l : List ByteArray) : List Value := (numK l).map (Value.int .i64) ++ List.replicate (n - l.length) (.int .i64 0)
theorem nums_set {n : Nat} {l : List ByteArray} {k : ByteArray} (h : l.length < n) : (nums n l).set l.length (.int .i64 ((idxK (seenK [] (l ++ [k])) k : Nat) : Int)) = nums n (l ++ [k]) := by
 unfold nums
 rw [numK_snoc,List.map_append,List.set_append_right _ _ (by simp [numK_len]),List.length_map,numK_len,Nat.sub_self,List.length_append,List.length_singleton]
 obtain ⟨d,hd⟩ : ∃ d,n - l.length = d + 1 := ⟨n - l.length - 1,by omega⟩
 rw [hd,List.replicate_succ,List.set_cons_zero,show n - (l.length + 1) = d by omega]
 simp
theorem nums_len {n : Nat} {l : List ByteArray} (h : l.length ≤ n) : (nums n l).length = n := by simp [nums,numK_len]; omega
set_option maxHeartbeats 2000000 in
theorem refine_c (n : Nat) (g : Nat) (lb : Array Value) (eg : ∀ args w,(callFunc g args).run Try.prog w = .ok (.enter g args) w) (key : Nat → ByteArray) (w : World) (hn : n ≤ 4096)
 (hk : ∀ (V : World) (s : Nat),s < n → Below w.heap.size w V → Calls Try.prog g (#[.int .i64 (s : Int)] ++ lb) V (Ret (.string (key s)) V)) :
 Calls Try.prog 59 #[.int .i64 (n : Int),.func (.func g) #[] lb] w (GivesF n ((List.range n).map key) w) := by
 have HK := Lib.hid hk
 clear hk
 have hmk := make_run (P := Try.prog) 22 3 (.int .i64 0) 8 Try.underlying22 intInfo rfl n (by omega) (by omega)
 have hmm := fun w => makeMap_n 115 _ _ Try.underlying115 (n : Int) w
 obtain ⟨L,hL⟩ : ∃ L,L = (List.range n).map key := ⟨_,rfl⟩
 have HL : Hid (L.length = n ∧ ∀ s,s < n → L[s]? = some (key s)) := by subst hL; exact ⟨by simp,fun s hs => by simp [hs]⟩
 rw [← hL]
 clear hL
 go_enter Try.func59,Try.ntmps59
 go_wp2_with fail
 refine wp_world (fun W => Sep w.heap.size w [eBlk (w.heap.size + 1) 3 (nums n (L.take 0)),eMapC keyS veI w.heap.size (idxF (seenK [] (L.take 0))) (cntK (L.take 0))] W) ?_ fun W S0 => ?_
 · exact ((Sep.here w).allocMapC keyS veI rfl).alloc' _ _ (by simp [nums,numK]) (by simp)
 clear hmk hmm
 go_loopw [17] (fun i wr => ∃ k : Nat,i = .int .i64 k ∧ k ≤ n ∧ Hid (Sep w.heap.size w [eBlk (w.heap.size + 1) 3 (nums n (L.take k)),eMapC keyS veI w.heap.size (idxF (seenK [] (L.take k))) (cntK (L.take k))] wr)) (fun i _ => n - (intOf i).toNat)
 case atStart => exact ⟨0,rfl,Nat.zero_le _,S0⟩
 case round =>
  clear S0
  obtain ⟨k,rfl,hk,S⟩ := hrel
  by_cases hlt : k < n
  · have HC := Lib.hid (HK.out wr k hlt S.out.below)
    obtain ⟨y,hy⟩ : ∃ y,y = key k := ⟨_,rfl⟩
    rw [← hy] at HC
    have HT : Hid (L.take (k + 1) = L.take k ++ [y] ∧ (L.take k).length = k) := ⟨by rw [List.take_add_one,HL.out.2 k hlt,hy]; rfl,by rw [List.length_take,HL.out.1]; omega⟩
    clear hy
    go_wp2_with fail
    refine HC.out.mono ?_
    rintro e w2 ⟨rfl,hb⟩
    have S2 := Lib.hid (S.out.next hb)
    clear hb S HC
    have hlk := (MapG.look okS Try.underlying115 zeroI (MapC.g (S2.out.get 1 rfl)) y).1
    by_cases hm : y ∈ seenK [] (L.take k)
    · obtain ⟨j,hj⟩ : ∃ j,j = idxK (seenK [] (L.take k)) y := ⟨_,rfl⟩
      have e1 : idxF (seenK [] (L.take k)) y = some (j : Int) := by rw [idxF,if_pos hm,hj]
      rw [e1] at hlk
      simp only [Option.getD_some,Option.isSome_some,keyS,veI] at hlk
      have S3 : Hid (Sep w.heap.size w [eBlk (w.heap.size + 1) 3 (nums n (L.take (k + 1))),eMapC keyS veI w.heap.size (idxF (seenK [] (L.take (k + 1)))) (cntK (L.take (k + 1)))] (w2.setCell ⟨w.heap.size + 1,k,none⟩ (.int .i64 (j : Int)))) := by
       have h := S2.out.set 0 rfl k (.int .i64 (j : Int))
       have q := nums_set (n := n) (l := L.take k) (k := y) (by rw [HT.out.2]; exact hlt)
       rw [idxK_old hm,← hj,HT.out.2] at q
       rw [q,← HT.out.1] at h
       rw [HT.out.1,idxF_snoc_old hm,cnt_snoc,if_pos hm,← HT.out.1]
       exact h
      have c1 := BlkAt.cell (S2.out.get 0 rfl) k
      rw [List.getElem?_eq_getElem (show k < (nums n (L.take k)).length by rw [nums_len (by rw [HT.out.2]; exact hk)]; exact hlt)] at c1
      have f1 := BlkAt.free (S2.out.get 0 rfl) k
      clear S2 hj hm e1
      go_wp2_with fail
      go_roundw
      case rel => exact ⟨k + 1,by go_num,by omega,S3.out⟩
      case measure => simp [intOf]; omega
    · have e1 : idxF (seenK [] (L.take k)) y = none := by rw [idxF,if_neg hm]
      rw [e1] at hlk
      simp only [Option.getD_none,Option.isSome_none,keyS,veI] at hlk
      have hln := MapC.len Try.underlying115 (S2.out.get 1 rfl) 3
      have E1 := Lib.hid e1
      have HM := Lib.hid hm
      clear e1 hm
      go_wp2_with (at_mapUpdate; refine wpList_mapUpdateC rfl (.tmp 33) (.tmp 34) (.tmp 35) 115 9 3 rfl S2.out 1 rfl okS Try.underlying115 y ((cntK (L.take k) : Nat) : Int) E1.out rfl rfl rfl ?_)
      intro w3 S3 _
      have S4 : Hid (Sep w.heap.size w [eBlk (w.heap.size + 1) 3 (nums n (L.take k)),eMapC keyS veI w.heap.size (idxF (seenK [] (L.take (k + 1)))) (cntK (L.take (k + 1)))] w3) := by
       rw [HT.out.1,cnt_snoc,if_neg HM.out]
       have e : idxF (seenK [] (L.take k ++ [y])) = fun u => if u = y then some ((cntK (L.take k) : Nat) : Int) else idxF (seenK [] (L.take k)) u := funext fun u => idxF_snoc HM.out u
       rw [e]
       exact S3
      have S5 : Hid (Sep w.heap.size w [eBlk (w.heap.size + 1) 3 (nums n (L.take (k + 1))),eMapC keyS veI w.heap.size (idxF (seenK [] (L.take (k + 1)))) (cntK (L.take (k + 1)))] (w3.setCell ⟨w.heap.size + 1,k,none⟩ (.int .i64 ((cntK (L.take k) : Nat) : Int)))) := by
       have h := S4.out.set 0 rfl k (.int .i64 ((cntK (L.take k) : Nat) : Int))
       have q := nums_set (n := n) (l := L.take k) (k := y) (by rw [HT.out.2]; exact hlt)
       rw [idxK_fresh HM.out,HT.out.2,← HT.out.1] at q
       rw [q] at h
       exact h
      have c1 := BlkAt.cell (S4.out.get 0 rfl) k
      rw [List.getElem?_eq_getElem (show k < (nums n (L.take k)).length by rw [nums_len (by rw [HT.out.2]; exact hk)]; exact hlt)] at c1
      have f1 := BlkAt.free (S4.out.get 0 rfl) k
      clear S2 S3 S4 hlk hln E1 HM
      go_wp2_with fail
      go_roundw
      case rel => exact ⟨k + 1,by go_num,by omega,S5.out⟩
      case measure => simp [intOf]; omega
  · obtain rfl : k = n := by omega
    have hln := MapC.len Try.underlying115 (S.out.get 1 rfl) 3
    have hT : L.take k = L := List.take_of_length_le (by rw [HL.out.1]; exact Nat.le_refl _)
    rw [hT] at S hln
    clear hT
    go_wp2_with fail
    go_ret2
    refine ⟨_,rfl,?_⟩
    have h := S.out.first
    have e : nums k L = (numK L).map (Value.int .i64) := by simp [nums,HL.out.1]
    rw [e] at h
    exact h

def addV (out : List Int) (t : Int) : List Int := if 0 ≤ t ∧ ¬ t ∈ out then out ++ [t] else out
def scanV (ed : List Ed) (s : Int) (al : List Int) (out : List Int) : List Int := al.foldl (fun out e => addV out (nextV ed s e)) out
def foundL (au : Au) : Nat → Nat → List Int → List Int
 | 0,_,out => out
 | f + 1,i,out => match out[i]? with
   | some s => foundL au f (i + 1) (scanV au.ed s au.al out)
   | none => out
def foundV (au : Au) : List Int := if 0 < au.n then foundL au (au.n.toNat + 1) 0 [0] else []
structure Sts (n : Int) (l : List Int) : Prop where
 nd : l.Nodup
 rg : ∀ x,x ∈ l → 0 ≤ x ∧ x < n
theorem nodup_len : ∀ (n : Nat) (l : List Int),l.Nodup → (∀ x,x ∈ l → 0 ≤ x ∧ x < (n : Int)) → l.length ≤ n
 | 0,l,_,h => by
   cases l with
   | nil => simp
   | cons a l => have := h a (by simp); omega
 | n + 1,l,hd,h => by
   by_cases hm : (n : Int) ∈ l
   · have h1 := nodup_len n (l.erase (n : Int)) (hd.erase _) (fun x hx => by
      have h2 := (hd.mem_erase_iff).1 hx
      have := h x h2.2
      have := h2.1
      omega)
     have := List.length_erase_of_mem hm
     omega
   · have := nodup_len n l hd (fun x hx => by
      have := h x hx
      by_cases e : x = n
      · subst e; exact absurd hx hm
      · omega)
     omega
theorem Sts.len {n : Int} {l : List Int} (h : Sts n l) (hn : 0 ≤ n) : l.length ≤ n.toNat := nodup_len n.toNat l h.nd fun x hx => by have := h.rg x hx; omega
theorem Sts.add {n : Int} {l : List Int} (h : Sts n l) {t : Int} (ht : t < n) : Sts n (addV l t) := by
 unfold addV
 split
 · rename_i h1
   refine ⟨?_,fun x hx => ?_⟩
   · rw [List.nodup_append]
     refine ⟨h.nd,by simp,fun a ha b hb => ?_⟩
     simp at hb; subst hb
     intro e; subst e; exact h1.2 ha
   · simp only [List.mem_append,List.mem_singleton] at hx
     rcases hx with hx | rfl
     · exact h.rg x hx
     · exact ⟨h1.1,ht⟩
 · exact h
def Leads (au : Au) : Prop := ∀ x,x ∈ au.ed → 0 ≤ x.dst ∧ x.dst < au.n
theorem nextV_mem {l : List Ed} {s e : Int} : nextV l s e = -1 ∨ ∃ x,x ∈ l ∧ x.src = s ∧ x.ev = e ∧ x.dst = nextV l s e := by
 unfold nextV
 cases hf : l.find? (fun x => decide (x.src = s) && decide (x.ev = e)) with
 | none => exact .inl rfl
 | some x =>
   have h2 := List.find?_some hf
   simp at h2
   exact .inr ⟨x,List.mem_of_find?_eq_some hf,h2.1,h2.2,rfl⟩
theorem Leads.next {au : Au} (h : Leads au) (s e : Int) (hn : 0 ≤ au.n) : nextV au.ed s e < au.n ∧ -1 ≤ nextV au.ed s e := by
 rcases nextV_mem (l := au.ed) (s := s) (e := e) with h1 | ⟨x,hx,_,_,h1⟩
 · omega
 · have := h x hx; omega
theorem addV_pre (l : List Int) (t : Int) : l <+: addV l t := by
 unfold addV; split
 · exact List.prefix_append ..
 · exact List.prefix_refl _
theorem scanV_pre (ed : List Ed) (s : Int) : ∀ (al l : List Int),l <+: scanV ed s al l
 | [],l => List.prefix_refl l
 | e :: r,l => (addV_pre l (nextV ed s e)).trans (scanV_pre ed s r (addV l (nextV ed s e)))
theorem scanV_has (ed : List Ed) (s : Int) : ∀ (al l : List Int) (e : Int),e ∈ al → 0 ≤ nextV ed s e → nextV ed s e ∈ scanV ed s al l
 | a :: r,l,e,he,h0 => by
   rcases List.mem_cons.1 he with rfl | he
   · refine (scanV_pre ed s r (addV l (nextV ed s e))).subset ?_
     unfold addV; split
     · simp
     · rename_i h; exact Classical.not_not.1 (fun hm => h ⟨h0,hm⟩)
   · exact scanV_has ed s r _ e he h0
def Closed (au : Au) (i : Nat) (l : List Int) : Prop := ∀ j s e,j < i → l[j]? = some s → e ∈ au.al → 0 ≤ nextV au.ed s e → nextV au.ed s e ∈ l
theorem Closed.round {au : Au} {i : Nat} {l : List Int} {s : Int} (h : Closed au i l) (hs : l[i]? = some s) : Closed au (i + 1) (scanV au.ed s au.al l) := by
 intro j x e hj hx he h0
 have hp := scanV_pre au.ed s au.al l
 have hi := (List.getElem?_eq_some_iff.1 hs).1
 have hjl : l[j]? = some x := by
  have hjl : j < l.length := by omega
  have h1 := List.IsPrefix.getElem hp hjl
  rw [List.getElem?_eq_getElem (Nat.lt_of_lt_of_le hjl hp.length_le)] at hx
  rw [List.getElem?_eq_getElem hjl,h1]; exact hx
 by_cases e1 : j = i
 · subst e1; rw [hs] at hjl; cases hjl; exact scanV_has au.ed s au.al l e he h0
 · exact hp.subset (h j x e (by omega) hjl he h0)
structure FoundOk (au : Au) (l : List Int) : Prop where
 st : Sts au.n l
 cl : Closed au l.length l
 z : 0 < au.n → l[0]? = some 0
 e : au.n ≤ 0 → l = []
def rowV (ed : List Ed) (fd : List Int) (i : Nat) (al : List Int) : List Ed := al.filterMap fun e => if 0 ≤ nextV ed (fd.getD i 0) e then some ⟨(i : Int),e,idxV fd (nextV ed (fd.getD i 0) e)⟩ else none
def rowsV (ed : List Ed) (fd : List Int) (al : List Int) (k : Nat) : List Ed := (List.range k).flatMap fun i => rowV ed fd i al
def marksV (mr fd : List Int) (k : Nat) : List Int := ((List.range k).filter fun i => decide (fd.getD i 0 ∈ mr)).map fun (i : Nat) => (i : Int)
def canonV (au : Au) : Au := ⟨au.al,(foundV au).length,marksV au.mr (foundV au) (foundV au).length,rowsV au.ed (foundV au) au.al (foundV au).length⟩
theorem incr.setOk {l : List Int} {n : Int} (h : Go.Proofs.Ytjjifefanjnghaa.incr l) (hr : ∀ x,x ∈ l → 0 ≤ x ∧ x < n) : setOk l n l.length := fun i x hi hx => by
 have := hr x (List.mem_of_getElem? hx)
 exact ⟨this.1,this.2,fun y h0 hy => h (i - 1) i y x (by omega) hy hx⟩
def lexLt (x y : Ed) : Prop := x.src < y.src ∨ x.src = y.src ∧ x.ev < y.ev
structure Raw (au : Au) : Prop where
 al : setOk au.al 32 au.al.length
 n0 : 0 ≤ au.n
 n1 : au.n ≤ 4096
 ld : Leads au
theorem IntsAt.found {w : World} {A : Option Addr} {l : List Int} (h : IntsAt w A l) {k : Nat} {x : Int} (hx : l[k]? = some x) : ∃ b off,A = some ⟨b,off,none⟩ ∧ b < w.heap.size ∧ w.cell? ⟨b,off + k,none⟩ = some (.int .i64 x) := by
 obtain ⟨b,off,y,hA,hb,hy,hc⟩ := IntsAt.at h (List.getElem?_eq_some_iff.1 hx).1
 rw [hx] at hy; cases hy
 exact ⟨b,off,hA,hb,hc⟩
section

structure OutSt (b : Nat) (nn : Int) (v1 v2 v3 : Value) (ms : List Int) (es : List Ed) (w : World) : Prop where
 blk : BlkAt w b 25 [v1,.int .i64 nn,v2,v3]
 o2 : OwnI (b + 1) ms v2 w
 o3 : Own Ed.cells 3 70 (b + 1) es v3 w
 d : ∀ g,v2.ownBlock = some g → v3.ownBlock ≠ some g
section
variable {b : Nat} {nn : Int} {v1 v2 v3 : Value} {ms : List Int} {es : List Ed} {w w1 : World}
theorem OutSt.below (h : OutSt b nn v1 v2 v3 ms es w) (hb : Below w.heap.size w w1) : OutSt b nn v1 v2 v3 ms es w1 :=
 ⟨h.blk.below hb h.blk.lt,h.o2.below hb (Nat.le_refl _),h.o3.below hb (Nat.le_refl _),h.d⟩
theorem OutSt.z (h : OutSt b nn v1 v2 v3 ms es w) (o : Obj) : b + 1 ≤ (w.alloc o).heap.size := by have := h.blk.lt; simp only [World.size_alloc]; omega
theorem OutSt.edge (h : OutSt b nn v1 v2 v3 ms es w) {v3' : Value} {es' : List Ed} (ho : Own Ed.cells 3 70 (b + 1) es' v3' w1) (hg : w.grownBy w1 v3.ownBlock) (hat : v3'.ownBlock = v3.ownBlock ∨ v3'.ownBlock = some w.heap.size) :
 OutSt b nn v1 v2 v3' ms es' (w1.setCell ⟨b,3,none⟩ v3') := by
 have hd : ∀ g,v2.ownBlock = some g → v3'.ownBlock ≠ some g := fun g hg' h3 => by
  rcases hat with e | e
  · exact h.d g hg' (e ▸ h3)
  · rw [e] at h3; cases h3; exact Nat.lt_irrefl _ (h.o2.lt _ hg').2
 refine ⟨?_,ownsRow_setCell_below (h.o2.kept hg ?_) (Nat.lt_succ_self _) _,ownsRow_setCell_below ho (Nat.lt_succ_self _) _,hd⟩
 · exact (h.blk.grown hg (fun e => by have := (h.o3.lt _ e.symm).1; omega)).set_ 3 v3'
 · cases h2 : v2.ownBlock with
   | none => exact .inl rfl
   | some g => exact .inr (fun e => h.d g h2 e.symm)
end
end
theorem SlAt.blk {α : Type} {enc : α → List Value} {k : Nat} (hk : ∀ x,(enc x).length = k) {w : World} {g : Nat} {T : TypeId} (l : List α) (h : BlkAt w g T (l.flatMap enc)) : SlAt (fun _ x vs => vs = enc x) k w (some ⟨g,0,none⟩) l :=
 fun _ => ⟨g,0,rfl,h.lt,fun i x hx => ⟨enc x,hk x,rfl,fun j u hj => by
  have hj' : j < k := by rw [← hk x]; exact (List.getElem?_eq_some_iff.1 hj).1
  rw [Nat.zero_add,h.cell,flat_get hk l i j x hx hj',hj]⟩⟩
theorem IntsAt.blk {w : World} {g : Nat} {T : TypeId} (l : List Int) (h : BlkAt w g T (l.map (Value.int .i64))) : IntsAt w (some ⟨g,0,none⟩) l :=
 SlAt.blk (enc := fun x => [.int .i64 x]) (fun _ => rfl) l (by rw [show l.flatMap (fun x => [Value.int .i64 x]) = l.map (Value.int .i64) from flat_encI l]; exact h)
def allV (l : List Int) : Au := ⟨l,1,[0],l.map fun x => ⟨0,x,0⟩⟩
theorem Own.cap {α : Type} {enc : α → List Value} {k T B : Nat} {l : List α} {A : Option Addr} {c : Nat} {w : World} (h : Own enc k T B l (.slice A l.length c) w) : l.length ≤ c := by
 rcases h.2 with ⟨h1,h2⟩ | ⟨g,cap,cur,h1,_,_,h2,_⟩
 · omega
 · cases h1; exact h2
structure Caps (a : Au) (p : AuP) : Prop where
 c1 : a.al.length ≤ p.c1
 c2 : a.mr.length ≤ p.c2
 c3 : a.ed.length ≤ p.c3
def GivesR (a : Au) (w : World) (e : Ending) (w' : World) : Prop := ∃ p,e = .returned (a.val p) ∧ Hid (Au.At w' a p) ∧ Hid (Caps a p) ∧ Below w.heap.size w w'
structure AllSt (b : Nat) (v1 v2 v3 : Value) (es : List Ed) (w : World) : Prop where
 blk : BlkAt w b 25 [v1,.int .i64 1,v2,v3]
 o3 : Own Ed.cells 3 70 (b + 1) es v3 w
theorem AllSt.below {b : Nat} {v1 v2 v3 : Value} {es : List Ed} {w w1 : World} (h : AllSt b v1 v2 v3 es w) (hb : Below w.heap.size w w1) : AllSt b v1 v2 v3 es w1 := ⟨h.blk.below hb h.blk.lt,h.o3.below hb (Nat.le_refl _)⟩
def evenV : Au := ⟨[0],2,[0],[⟨0,0,1⟩,⟨1,0,0⟩]⟩
end Go.Proofs.Ytjjifefanjnghaa
