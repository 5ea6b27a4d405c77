/-
  Plain: states that are numbered as their edges find them have least words that rise.
  Plain: an automaton that is built breadth first out of a system: its states are numbered as they are found, one for each key.
  Plain: what the functions of layer 4 compute, step by step.
  Plain: classes of states that are refined till nothing parts them; what the minimal automaton is.
  Plain: what merge and Restrict build out of an automaton.
  The machine of an automaton: open, step, in.
  Words for memory: a map of the call's own whose number of entries is known; strings as keys.
-/
import Derived.Test.YtkifgffhoenaoaaDoorBas02
import Derived.Test.YtkifgffhoenaoaaDoorBas01
import Derived.StillTailTactics
import Derived.BigRegion
set_option linter.unusedSimpArgs false
set_option linter.unusedVariables false
namespace Go.Proofs.YtkifgffhoenaoaaDoor
open Go.RowKit
set_option maxRecDepth 100000
section

theorem snoc_ind {α : Type} {P : List α → Prop} (h0 : P []) (h1 : ∀ u e,P u → P (u ++ [e])) (w : List α) : P w := by
 rw [← List.reverse_reverse w]
 generalize w.reverse = v
 induction v with
 | nil => exact h0
 | cons x v ih => rw [List.reverse_cons]; exact h1 _ _ ih

structure FirstE (ed : List Ed) (k : Nat) (p : Nat) (x : Ed) : Prop where
 at_ : ed[p]? = some x
 dst : x.dst = k
 src : x.src < k
 le : ∀ q y,q < p → ed[q]? = some y → y.dst < k
def Num (ed : List Ed) (n : Int) : Prop := ∀ k : Nat,0 < k → (k : Int) < n → ∃ p x,FirstE ed k p x

theorem FirstE.lt {ed : List Ed} {k k' p p' : Nat} {x x' : Ed} (h : FirstE ed k p x) (h' : FirstE ed k' p' x') (hk : k < k') : p < p' := by
 rcases Nat.lt_trichotomy p p' with g | g | g
 · exact g
 · subst g
   have := h.at_; rw [h'.at_] at this; cases this
   have := h.dst; have := h'.dst; omega
 · have := h.le p' x' g h'.at_
   have := h'.dst
   omega

structure WsUp (a : Au) (m : Nat) (ws : List (List Int)) : Prop where
 len : ws.length = m
 asc : Asc ws
 run : ∀ (i : Nat) (w : List Int),ws[i]? = some w → rn a w = (i : Int)
 z : 0 < m → ws[0]? = some []
 fe : ∀ (k : Nat) (w : List Int),0 < k → ws[k]? = some w → ∃ p x u,FirstE a.ed k p x ∧ ws[x.src.toNat]? = some u ∧ w = u ++ [x.ev]

section
variable {a : Au}
theorem Au.Right.edge (h : a.Right) {p : Nat} {x : Ed} (hx : a.ed[p]? = some x) : 0 ≤ x.src ∧ x.src < a.n ∧ 0 ≤ x.dst ∧ x.dst < a.n ∧ x.ev ∈ a.al := by
 have := h.ed p (List.getElem?_eq_some_iff.1 hx).1 x hx
 exact ⟨this.1,this.2.1,this.2.2.1,this.2.2.2.1,this.2.2.2.2.1⟩
theorem Au.Right.nextE (h : a.Right) {p : Nat} {x : Ed} (hx : a.ed[p]? = some x) : nextV a.ed x.src x.ev = x.dst := by
 have hm := List.mem_of_getElem? hx
 unfold nextV
 cases hf : a.ed.find? (fun y => decide (y.src = x.src) && decide (y.ev = x.ev)) with
 | none =>
   rw [List.find?_eq_none] at hf
   have := hf x hm
   simp at this
 | some y =>
   have h1 := List.mem_of_find?_eq_some hf
   have h2 := List.find?_some hf
   simp only [Bool.and_eq_true,decide_eq_true_eq] at h2
   rw [h.uniq h1 hm h2.1 h2.2]
   rfl
theorem getElem?_snoc {α : Type} {l : List α} {w : α} {i : Nat} {v : α} (h : (l ++ [w])[i]? = some v) : l[i]? = some v ∨ i = l.length ∧ v = w := by
 by_cases e : i < l.length
 · rw [List.getElem?_append_left e] at h; exact .inl h
 · have hi := (List.getElem?_eq_some_iff.1 h).1
   simp at hi
   obtain rfl : i = l.length := by omega
   simp at h
   exact .inr ⟨rfl,h.symm⟩
theorem get_keep {α : Type} {l : List α} {i : Nat} {v : α} (h : l[i]? = some v) (w : α) : (l ++ [w])[i]? = some v := by
 rw [List.getElem?_append_left (List.getElem?_eq_some_iff.1 h).1]; exact h

theorem WsUp.step (hr : a.Right) (hn : a.n ≠ 0) {m : Nat} {ws : List (List Int)} (h : WsUp a m ws) (hm : (m : Int) < a.n) (nu : Num a.ed a.n) : ∃ ws',WsUp a (m + 1) ws' := by
 by_cases h0 : m = 0
 · subst h0
   have hst : a.st = 0 := if_neg hn
   refine ⟨[[]],rfl,fun i j u v hij hu hv => ?_,fun i w hi => ?_,fun _ => rfl,fun k w hk hw => ?_⟩
   · have := (List.getElem?_eq_some_iff.1 hv).1; simp at this; omega
   · have := (List.getElem?_eq_some_iff.1 hi).1
     obtain rfl : i = 0 := by simp at this; omega
     simp at hi; subst hi
     exact hst
   · have := (List.getElem?_eq_some_iff.1 hw).1; simp at this; omega
 · obtain ⟨p,x,fe⟩ := nu m (by omega) hm
   have he := hr.edge fe.at_
   have hsl : x.src.toNat < ws.length := by have := fe.src; rw [h.len]; omega
   obtain ⟨u,hu⟩ : ∃ u,ws[x.src.toNat]? = some u := ⟨_,List.getElem?_eq_getElem hsl⟩
   have hru := h.run _ _ hu
   have hnew : rn a (u ++ [x.ev]) = (m : Int) := by
    rw [rn_snoc a u _ (by omega),hru,← fe.dst,← hr.nextE fe.at_]
    congr 1
    omega
   have hlast : ∀ v,ws[m - 1]? = some v → slt v (u ++ [x.ev]) := by
    intro v hv
    by_cases h1 : m - 1 = 0
    · rw [h1,h.z (by omega)] at hv; cases hv
      exact .inl (by simp)
    · obtain ⟨p',x',u',fe',hu',rfl⟩ := h.fe (m - 1) v (by omega) hv
      have hp : p' < p := fe'.lt fe (by omega)
      have hs' := (hr.edge fe'.at_).1
      rcases hr.lex p' p x' x hp fe'.at_ fe.at_ with g | ⟨g,g'⟩
      · exact (h.asc _ _ u' u (by omega) hu' hu).snoc _ _
      · have : x'.src.toNat = x.src.toNat := by omega
        rw [this,hu] at hu'; cases hu'
        exact slt_snoc_lt _ g'
   refine ⟨ws ++ [u ++ [x.ev]],by simp [h.len],h.asc.push fun v hv => ?_,fun i w hi => ?_,fun _ => get_keep (h.z (by omega)) _,fun k w hk hw => ?_⟩
   · obtain ⟨i,hi,rfl⟩ := List.mem_iff_getElem.1 hv
     have hml : m - 1 < ws.length := by rw [h.len]; omega
     have g := hlast _ (List.getElem?_eq_getElem hml)
     by_cases e : i = m - 1
     · subst e; exact g
     · exact (h.asc i (m - 1) _ _ (by have := h.len; omega) (List.getElem?_eq_getElem hi) (List.getElem?_eq_getElem hml)).trans g
   · rcases getElem?_snoc hi with g | ⟨g,rfl⟩
     · exact h.run i w g
     · rw [g,h.len]; exact hnew
   · rcases getElem?_snoc hw with g | ⟨g,rfl⟩
     · obtain ⟨p',x',u',k1,k2,k3⟩ := h.fe k w hk g
       exact ⟨p',x',u',k1,get_keep k2 _,k3⟩
     · rw [g,h.len]
       exact ⟨p,x,u,fe,get_keep hu _,rfl⟩
theorem WsUp.all (hr : a.Right) (hn : a.n ≠ 0) (nu : Num a.ed a.n) : ∀ (m : Nat),(m : Int) ≤ a.n → ∃ ws,WsUp a m ws
 | 0,_ => ⟨[],rfl,fun i j u v _ hu => by simp at hu,fun i w h => by simp at h,fun h => absurd h (by omega),fun k w _ h => by simp at h⟩
 | m + 1,h => by
   obtain ⟨ws,k⟩ := WsUp.all hr hn nu m (by omega)
   exact k.step hr hn (by omega) nu
theorem WsUp.least (hr : a.Right) (hn : a.n ≠ 0) {ws : List (List Int)} (h : WsUp a a.n.toNat ws) (w : List Int) : ∀ (i : Nat) (v : List Int),rn a w = (i : Int) → ws[i]? = some v → sle v w := by
 have hn0 := hr.n0
 refine snoc_ind (P := fun w => ∀ (i : Nat) (v : List Int),rn a w = (i : Int) → ws[i]? = some v → sle v w) ?_ ?_ w
 · intro i v hi hv
   have : a.st = 0 := if_neg hn
   rw [rn_nil,this] at hi
   obtain rfl : i = 0 := by omega
   rw [h.z (by omega)] at hv; cases hv
   exact sle.refl _
 · intro u e ih i v hi hv
   have hu0 : 0 ≤ rn a u := rn_pre (v := [e]) (by omega)
   rcases hr.rn_cases u with g | ⟨g0,g1⟩
   · omega
   obtain ⟨j,hj⟩ := Int.eq_ofNat_of_zero_le g0
   obtain ⟨uj,huj⟩ : ∃ uj,ws[j]? = some uj := ⟨_,List.getElem?_eq_getElem (by rw [h.len]; omega)⟩
   have hle := ih j uj hj huj
   by_cases hi0 : i = 0
   · subst hi0
     rw [h.z (by omega)] at hv; cases hv
     exact sle_nil _
   · rw [rn_snoc a u e hu0] at hi
     rcases hr.next_cases (rn a u) e with k | ⟨_,_,y,hy,y1,y2,y3⟩
     · omega
     obtain ⟨q,hq,hqy⟩ := List.mem_iff_getElem.1 hy
     have hqy' : a.ed[q]? = some y := by rw [List.getElem?_eq_getElem hq,hqy]
     obtain ⟨p,x,ux,fe,hux,rfl⟩ := h.fe i v (by omega) hv
     have hpq : p ≤ q := by
      rcases Nat.lt_or_ge q p with k | k
      · have := fe.le q y k hqy'; omega
      · exact k
     have hxs := (hr.edge fe.at_).1
     have hcase : x.src < y.src ∨ x.src = y.src ∧ x.ev ≤ y.ev := by
      rcases Nat.lt_or_eq_of_le hpq with k | k
      · rcases hr.lex p q x y k fe.at_ hqy' with k' | k'
        · exact .inl k'
        · exact .inr ⟨k'.1,by omega⟩
      · subst k
        have := fe.at_; rw [hqy'] at this; cases this
        exact .inr ⟨rfl,Int.le_refl _⟩
     rcases hcase with k | ⟨k,k'⟩
     · exact .inl (((h.asc _ _ ux uj (by omega) hux huj).trans_le hle).snoc _ _)
     · have : x.src.toNat = j := by omega
       rw [this,huj] at hux; cases hux
       exact sle_snoc2 hle fun _ => by omega
theorem Num.ws (hr : a.Right) (nu : Num a.ed a.n) : ∃ ws : List (List Int),ws.length = a.n.toNat ∧ Asc ws ∧ ∀ (i : Nat) (w : List Int),ws[i]? = some w → LeastW (fun v => rn a v = (i : Int)) w := by
 by_cases hn : a.n = 0
 · exact ⟨[],by simp [hn],fun i j u v _ hu => by simp at hu,fun i w h => by simp at h⟩
 · obtain ⟨ws,h⟩ := WsUp.all hr hn nu a.n.toNat (by have := hr.n0; omega)
   exact ⟨ws,h.len,h.asc,fun i w hi => ⟨h.run i w hi,fun v hv => h.least hr hn v i w hv hi⟩⟩
end
end
section

section
variable {σ κ : Type} {key : σ → κ} {out : σ → List (Int × σ)} {s0 : σ}

structure Bld (key : σ → κ) (out : σ → List (Int × σ)) (s0 : σ) (i k : Nat) (fs : List σ) (ed : List Ed) : Prop where
 z : fs[0]? = some s0
 nd : ∀ (j j' : Nat) v v',fs[j]? = some v → fs[j']? = some v' → key v = key v' → j = j'
 so : ∀ x,x ∈ ed → ∃ (j d : Nat) (v t u : σ),x.src = (j : Int) ∧ x.dst = (d : Int) ∧ fs[j]? = some v ∧ (x.ev,t) ∈ out v ∧ fs[d]? = some u ∧ key u = key t
 co : ∀ (j q : Nat) v e t,fs[j]? = some v → (out v)[q]? = some (e,t) → (j < i ∨ j = i ∧ q < k) → ∃ (d : Nat) (u : σ),(⟨(j : Int),e,(d : Int)⟩ : Ed) ∈ ed ∧ fs[d]? = some u ∧ key u = key t
 up : Rises edLt ed
 be : ∀ x,x ∈ ed → x.src < (i : Int) ∨ x.src = (i : Int) ∧ ∃ v,fs[i]? = some v ∧ ∃ (q : Nat) (t : σ),q < k ∧ (out v)[q]? = some (x.ev,t)
 fe : ∀ t : Nat,0 < t → t < fs.length → ∃ p x,FirstE ed t p x

theorem Bld.start : Bld key out s0 0 0 [s0] [] :=
 ⟨rfl,fun j j' v v' h h' _ => by
  have := (List.getElem?_eq_some_iff.1 h).1
  have := (List.getElem?_eq_some_iff.1 h').1
  simp at *; omega,by simp,fun j q v e t _ _ h => by omega,fun i j u v _ hu => by simp at hu,by simp,fun t h1 h2 => by simp at h2; omega⟩
theorem Bld.next {i : Nat} {fs : List σ} {ed : List Ed} {v : σ} (h : Bld key out s0 i (out v).length fs ed) (hv : fs[i]? = some v) : Bld key out s0 (i + 1) 0 fs ed :=
 ⟨h.z,h.nd,h.so,fun j q v' e t hv' hq hc => by
  by_cases g : j < i
  · exact h.co j q v' e t hv' hq (.inl g)
  · obtain rfl : j = i := by omega
    rw [hv] at hv'; cases hv'
    exact h.co j q v e t hv hq (.inr ⟨rfl,(List.getElem?_eq_some_iff.1 hq).1⟩),h.up,fun x hx => by
  rcases h.be x hx with g | ⟨g,_⟩
  · exact .inl (by omega)
  · exact .inl (by omega),h.fe⟩
def Ups (l : List (Int × σ)) : Prop := ∀ (p q : Nat) x y,p < q → l[p]? = some x → l[q]? = some y → x.1 < y.1
theorem FirstE.snoc {ed : List Ed} {k p : Nat} {x : Ed} (h : FirstE ed k p x) (y : Ed) : FirstE (ed ++ [y]) k p x :=
 ⟨get_keep h.at_ y,h.dst,h.src,fun q z hq hz => by
  rw [List.getElem?_append_left (by have := (List.getElem?_eq_some_iff.1 h.at_).1; omega)] at hz
  exact h.le q z hq hz⟩
theorem Bld.less {i k : Nat} {fs : List σ} {ed : List Ed} (h : Bld key out s0 i k fs ed) {v : σ} (hv : fs[i]? = some v) (hu : Ups (out v)) {e : Int} {t : σ} (he : (out v)[k]? = some (e,t)) (d : Int) : ∀ x,x ∈ ed → edLt x ⟨i,e,d⟩ := by
 intro x hx
 rcases h.be x hx with g | ⟨g,v',hv',q,t',hq,hqt⟩
 · exact .inl g
 · rw [hv] at hv'; cases hv'
   exact .inr ⟨g,hu q k _ _ hq hqt he⟩
theorem Bld.old {i k : Nat} {fs : List σ} {ed : List Ed} (h : Bld key out s0 i k fs ed) {v : σ} (hv : fs[i]? = some v) (hu : Ups (out v)) {e : Int} {t u : σ} {d : Nat} (he : (out v)[k]? = some (e,t)) (hd : fs[d]? = some u) (hk : key u = key t) :
 Bld key out s0 i (k + 1) fs (ed ++ [⟨i,e,d⟩]) := by
 refine ⟨h.z,h.nd,fun x hx => ?_,fun j q v' e' t' hv' hq hc => ?_,h.up.push (h.less hv hu he d),fun x hx => ?_,fun m h1 h2 => ?_⟩
 · rcases List.mem_append.1 hx with g | g
   · exact h.so x g
   · simp at g; subst g
     exact ⟨i,d,v,t,u,rfl,rfl,hv,List.mem_of_getElem? he,hd,hk⟩
 · by_cases hold : j < i ∨ j = i ∧ q < k
   · obtain ⟨d',u',h1,h2,h3⟩ := h.co j q v' e' t' hv' hq hold
     exact ⟨d',u',List.mem_append_left _ h1,h2,h3⟩
   · obtain ⟨rfl,rfl⟩ : j = i ∧ q = k := by omega
     rw [hv] at hv'; cases hv'
     rw [he] at hq; cases hq
     exact ⟨d,u,by simp,hd,hk⟩
 · rcases List.mem_append.1 hx with g | g
   · rcases h.be x g with k1 | ⟨k1,v',h2,q,t',h3,h4⟩
     · exact .inl k1
     · exact .inr ⟨k1,v',h2,q,t',by omega,h4⟩
   · simp at g; subst g
     exact .inr ⟨rfl,v,hv,k,t,by omega,he⟩
 · obtain ⟨p,x,hf⟩ := h.fe m h1 h2
   exact ⟨p,x,hf.snoc _⟩
theorem Bld.dlt {i k : Nat} {fs : List σ} {ed : List Ed} (h : Bld key out s0 i k fs ed) : ∀ x,x ∈ ed → 0 ≤ x.src ∧ x.src < fs.length ∧ 0 ≤ x.dst ∧ x.dst < fs.length := by
 intro x hx
 obtain ⟨j,d,v,t,u,h1,h2,h3,_,h5,_⟩ := h.so x hx
 have := (List.getElem?_eq_some_iff.1 h3).1
 have := (List.getElem?_eq_some_iff.1 h5).1
 omega
theorem Bld.new {i k : Nat} {fs : List σ} {ed : List Ed} (h : Bld key out s0 i k fs ed) {v : σ} (hv : fs[i]? = some v) (hu : Ups (out v)) {e : Int} {t : σ} (he : (out v)[k]? = some (e,t)) (hn : ∀ u,u ∈ fs → key u ≠ key t) :
 Bld key out s0 i (k + 1) (fs ++ [t]) (ed ++ [⟨i,e,fs.length⟩]) := by
 have hil := (List.getElem?_eq_some_iff.1 hv).1
 have back : ∀ {j : Nat} {x : σ},(fs ++ [t])[j]? = some x → j ≤ i → fs[j]? = some x := fun {j x} hx hj => by rwa [List.getElem?_append_left (by omega)] at hx
 refine ⟨get_keep h.z _,fun j j' x x' hx hx' hk => ?_,fun x hx => ?_,fun j q v' e' t' hv' hq hc => ?_,h.up.push (h.less hv hu he _),fun x hx => ?_,fun m h1 h2 => ?_⟩
 · rcases getElem?_snoc hx with g | ⟨g,rfl⟩ <;> rcases getElem?_snoc hx' with g' | ⟨g',rfl⟩
   · exact h.nd j j' x x' g g' hk
   · exact absurd hk (hn x (List.mem_of_getElem? g))
   · exact absurd hk.symm (hn x' (List.mem_of_getElem? g'))
   · omega
 · rcases List.mem_append.1 hx with g | g
   · obtain ⟨j,d,a,b,c,h1,h2,h3,h4,h5,h6⟩ := h.so x g
     exact ⟨j,d,a,b,c,h1,h2,get_keep h3 _,h4,get_keep h5 _,h6⟩
   · simp at g; subst g
     exact ⟨i,fs.length,v,t,t,rfl,rfl,get_keep hv _,List.mem_of_getElem? he,by simp,rfl⟩
 · have hv2 := back hv' (by omega)
   by_cases hold : j < i ∨ j = i ∧ q < k
   · obtain ⟨d',u',h1,h2,h3⟩ := h.co j q v' e' t' hv2 hq hold
     exact ⟨d',u',List.mem_append_left _ h1,get_keep h2 _,h3⟩
   · obtain ⟨rfl,rfl⟩ : j = i ∧ q = k := by omega
     rw [hv] at hv2; cases hv2
     rw [he] at hq; cases hq
     exact ⟨fs.length,t,by simp,by simp,rfl⟩
 · rcases List.mem_append.1 hx with g | g
   · rcases h.be x g with k1 | ⟨k1,v',h2,q,t',h3,h4⟩
     · exact .inl k1
     · exact .inr ⟨k1,v',get_keep h2 _,q,t',by omega,h4⟩
   · simp at g; subst g
     exact .inr ⟨rfl,v,get_keep hv _,k,t,by omega,he⟩
 · simp only [List.length_append,List.length_cons,List.length_nil] at h2
   by_cases e' : m < fs.length
   · obtain ⟨p,x,hf⟩ := h.fe m h1 e'
     exact ⟨p,x,hf.snoc _⟩
   · obtain rfl : m = fs.length := by omega
     refine ⟨ed.length,⟨i,e,fs.length⟩,by simp,rfl,by simp only; omega,fun q y hq hy => ?_⟩
     rw [List.getElem?_append_left hq] at hy
     exact (h.dlt y (List.mem_of_getElem? hy)).2.2.2

def stepS (out : σ → List (Int × σ)) (v : σ) (e : Int) : Option σ := ((out v).find? fun x => decide (x.1 = e)).map (·.2)
def runS (out : σ → List (Int × σ)) : σ → List Int → Option σ
 | v,[] => some v
 | v,e :: r => match stepS out v e with
   | some u => runS out u r
   | none => none
theorem stepS_some {v u : σ} {e : Int} (h : stepS out v e = some u) : (e,u) ∈ out v := by
 unfold stepS at h
 obtain ⟨x,hx,rfl⟩ := Option.map_eq_some_iff.1 h
 have h1 := List.mem_of_find?_eq_some hx
 have h2 := List.find?_some hx
 simp at h2
 rw [← h2]; exact h1
theorem stepS_none {v : σ} {e : Int} (h : stepS out v e = none) : ∀ u,¬ (e,u) ∈ out v := by
 unfold stepS at h
 simp only [Option.map_eq_none_iff,List.find?_eq_none,decide_eq_true_eq] at h
 exact fun u hu => h _ hu rfl
theorem Ups.uniq {l : List (Int × σ)} (h : Ups l) {e : Int} {t u : σ} (ht : (e,t) ∈ l) (hu : (e,u) ∈ l) : t = u := by
 obtain ⟨p,hp,hpt⟩ := List.mem_iff_getElem.1 ht
 obtain ⟨q,hq,hqu⟩ := List.mem_iff_getElem.1 hu
 have h1 : l[p]? = some (e,t) := by rw [List.getElem?_eq_getElem hp,hpt]
 have h2 : l[q]? = some (e,u) := by rw [List.getElem?_eq_getElem hq,hqu]
 rcases Nat.lt_trichotomy p q with g | g | g
 · have := h p q _ _ g h1 h2; simp at this
 · subst g; rw [h1] at h2; cases h2; rfl
 · have := h q p _ _ g h2 h1; simp at this
theorem stepS_mem {v u : σ} {e : Int} (hu : Ups (out v)) (h : (e,u) ∈ out v) : stepS out v e = some u := by
 cases hs : stepS out v e with
 | none => exact absurd h (stepS_none hs u)
 | some t => rw [hu.uniq (stepS_some hs) h]
theorem runS_snoc (out : σ → List (Int × σ)) : ∀ (w : List Int) (v : σ) (e : Int),runS out v (w ++ [e]) = (runS out v w).bind fun u => stepS out u e
 | [],v,e => by
   simp only [List.nil_append,runS,Option.bind_some]
   cases stepS out v e <;> rfl
 | x :: r,v,e => by
   simp only [List.cons_append,runS]
   cases stepS out v x with
   | none => rfl
   | some u => exact runS_snoc out r u e

structure Cong (P : σ → Prop) (key : σ → κ) (out : σ → List (Int × σ)) : Prop where
 go : ∀ v,P v → ∀ e t,(e,t) ∈ out v → P t
 eq : ∀ v v',P v → P v' → key v = key v' → ∀ e t,(e,t) ∈ out v → ∃ t',(e,t') ∈ out v' ∧ key t' = key t
 up : ∀ v,P v → Ups (out v)
structure Built (key : σ → κ) (out : σ → List (Int × σ)) (s0 : σ) (a : Au) (fs : List σ) : Prop where
 n : a.n = fs.length
 z : fs[0]? = some s0
 nd : ∀ (j j' : Nat) v v',fs[j]? = some v → fs[j']? = some v' → key v = key v' → j = j'
 rt : a.Right
 num : Num a.ed a.n
 step : ∀ (j : Nat) v,fs[j]? = some v → ∀ e,(nextV a.ed j e = -1 ∧ stepS out v e = none) ∨ ∃ (d : Nat) (u t : σ),nextV a.ed j e = d ∧ fs[d]? = some u ∧ stepS out v e = some t ∧ key u = key t
theorem Bld.built {i k : Nat} {fs : List σ} {ed : List Ed} (h : Bld key out s0 i k fs ed) (hi : fs.length ≤ i) (al mr : List Int) (hal : setOk al 32 al.length) (hn : fs.length ≤ 4096) (hmr : setOk mr fs.length mr.length) (hev : ∀ v,v ∈ fs → ∀ x,x ∈ out v → x.1 ∈ al) (hup : ∀ v,v ∈ fs → Ups (out v)) :
 Built key out s0 ⟨al,fs.length,mr,ed⟩ fs := by
 have hr : (⟨al,fs.length,mr,ed⟩ : Au).Right := by
  refine ⟨hal,Int.natCast_nonneg _,by show ((fs.length : Nat) : Int) ≤ 4096; omega,hmr,fun p hp x hx => ?_⟩
  have hm := List.mem_of_getElem? hx
  have hd := h.dlt x hm
  obtain ⟨j,d,v,t,u,h1,h2,h3,h4,_⟩ := h.so x hm
  refine ⟨hd.1,hd.2.1,hd.2.2.1,hd.2.2.2,hev v (List.mem_of_getElem? h3) _ h4,fun y hy hyx => ?_⟩
  exact h.up (p - 1) p y x (by omega) hyx hx
 refine ⟨rfl,h.z,h.nd,hr,fun t h1 h2 => h.fe t h1 (by simp only at h2; omega),fun j v hv e => ?_⟩
 have hj := (List.getElem?_eq_some_iff.1 hv).1
 have hU := hup v (List.mem_of_getElem? hv)
 rcases hr.next_cases j e with g | ⟨g0,g1,x,hx,x1,x2,x3⟩
 · refine .inl ⟨g,?_⟩
   cases hs : stepS out v e with
   | none => rfl
   | some t =>
     obtain ⟨q,hq,hqt⟩ := List.mem_iff_getElem.1 (stepS_some hs)
     obtain ⟨d,u,h1,h2,h3⟩ := h.co j q v e t hv (by rw [List.getElem?_eq_getElem hq,hqt]) (.inl (by omega))
     obtain ⟨p,hp,hpx⟩ := List.mem_iff_getElem.1 h1
     have := hr.nextE (p := p) (x := ⟨j,e,d⟩) (by rw [List.getElem?_eq_getElem hp,hpx])
     simp only at this g
     omega
 · obtain ⟨j',d,v',t,u,h1,h2,h3,h4,h5,h6⟩ := h.so x hx
   obtain rfl : j' = j := by omega
   rw [hv] at h3; cases h3
   rw [x2] at h4
   exact .inr ⟨d,u,t,by rw [← x3,h2],h5,stepS_mem hU h4,h6⟩
theorem Built.run {a : Au} {fs : List σ} {P : σ → Prop} (h : Built key out s0 a fs) (hc : Cong P key out) (h0 : P s0) (hfs : ∀ v,v ∈ fs → P v) (w : List Int) : (rn a w = -1 ∧ runS out s0 w = none) ∨ ∃ (d : Nat) (u t : σ),rn a w = d ∧ fs[d]? = some u ∧ runS out s0 w = some t ∧ key u = key t ∧ P t := by
 have hz := (List.getElem?_eq_some_iff.1 h.z).1
 have hst : a.st = 0 := by unfold Au.st; rw [if_neg (by rw [h.n]; omega)]
 refine snoc_ind (P := fun w => (rn a w = -1 ∧ runS out s0 w = none) ∨ ∃ (d : Nat) (u t : σ),rn a w = d ∧ fs[d]? = some u ∧ runS out s0 w = some t ∧ key u = key t ∧ P t) ?_ ?_ w
 · exact .inr ⟨0,s0,s0,hst,h.z,rfl,rfl,h0⟩
 · rintro u e (⟨g1,g2⟩ | ⟨d,v,t,g1,g2,g3,g4,g5⟩)
   · refine .inl ⟨?_,by rw [runS_snoc,g2]; rfl⟩
     rw [rn_app,g1,runV_neg _ (by omega)]
   · have pv := hfs v (List.mem_of_getElem? g2)
     rw [rn_snoc a u e (by omega),g1,runS_snoc,g3]
     simp only [Option.bind_some]
     rcases h.step d v g2 e with ⟨k1,k2⟩ | ⟨d',u',t',k1,k2,k3,k4⟩
     · refine .inl ⟨k1,?_⟩
       cases hs : stepS out t e with
       | none => rfl
       | some x =>
         obtain ⟨x',hx',_⟩ := hc.eq t v g5 pv g4.symm e x (stepS_some hs)
         exact absurd hx' (stepS_none k2 x')
     · obtain ⟨x,hx,hxk⟩ := hc.eq v t pv g5 g4 e t' (stepS_some k3)
       exact .inr ⟨d',u',x,k1,k2,stepS_mem (hc.up t g5) hx,k4.trans hxk.symm,hc.go t g5 e x hx⟩
end
end
def firstV (ed : List Ed) (s : Nat) : Nat := (ed.filter fun x => decide (x.src < (s : Int))).length
def predsV (ed : List Ed) (s : Int) : List Int := (ed.filter fun x => decide (x.dst = s)).map (·.src)

theorem getD_lt {α : Type} {l : List α} {i : Nat} (d : α) (h : i < l.length) : l.getD i d = l[i] := by rw [List.getD_eq_getElem?_getD,List.getElem?_eq_getElem h]; rfl
def negs (l : List Int) : Nat := (l.filter fun x => decide (x < 0)).length
def bkIn (d : Int) : List Int → List Int → List Int → List Int × List Int
 | [],out,q => (out,q)
 | p :: ps,out,q => if out.getD p.toNat 0 < 0 then bkIn d ps (out.set p.toNat (d + 1)) (q ++ [p]) else bkIn d ps out q
def bkGo (ed : List Ed) : Nat → List Int → List Int → List Int
 | 0,out,_ => out
 | f + 1,out,[] => out
 | f + 1,out,s :: q => bkGo ed f (bkIn (out.getD s.toNat 0) (predsV ed s) out q).1 (bkIn (out.getD s.toNat 0) (predsV ed s) out q).2
def bkMu (out q : List Int) : Nat := negs out + q.length
def bkStart (n : Nat) (to : List Int) : List Int := to.foldl (fun out s => out.set s.toNat 0) (List.replicate n (-1))
def backV (ed : List Ed) (n : Nat) (to : List Int) : List Int := bkGo ed (bkMu (bkStart n to) to) (bkStart n to) to

structure Stp where
 st : Int
 fr : Int
 ev : Int
deriving DecidableEq
def Stp.cells (x : Stp) : List Value := [.int .i64 x.st,.int .i64 x.fr,.int .i64 x.ev]
def ptIn (per : Ed → Bool) (i : Int) : List Ed → List Bool → List Stp → List Bool × List Stp
 | [],seen,st => (seen,st)
 | x :: xs,seen,st => if seen.getD x.dst.toNat true = false ∧ per x = true then ptIn per i xs (seen.set x.dst.toNat true) (st ++ [⟨x.dst,i,x.ev⟩]) else ptIn per i xs seen st
def wayV (st : List Stp) : Nat → Int → List Int → List Int
 | 0,_,acc => acc
 | f + 1,k,acc => match st[k.toNat]? with
   | some x => if 0 ≤ x.fr then wayV st f x.fr (x.ev :: acc) else acc
   | none => acc
def ptGo (want : Int → Bool) (per : Ed → Bool) (ed : List Ed) : Nat → Nat → List Bool → List Stp → Option (List Int)
 | 0,_,_,_ => none
 | f + 1,i,seen,st => match st[i]? with
   | none => none
   | some s => if want s.st = true then some (wayV st (i + 1) i []) else ptGo want per ed f (i + 1) (ptIn per i (ed.filter fun x => decide (x.src = s.st)) seen st).1 (ptIn per i (ed.filter fun x => decide (x.src = s.st)) seen st).2
def ptMu (seen : List Bool) (st : List Stp) (i : Nat) : Nat := (seen.filter fun b => !b).length + (st.length - i)
def pathV (want : Int → Bool) (per : Ed → Bool) (ed : List Ed) (n : Nat) (from_ : Int) : Option (List Int) := ptGo want per ed (n + 1) 0 ((List.replicate n false).set from_.toNat true) [⟨from_,-1,-1⟩]
section

section
variable {κ : Type} [DecidableEq κ]
def seenK : List κ → List κ → List κ
 | s,[] => s
 | s,k :: r => if k ∈ s then seenK s r else seenK (s ++ [k]) r
theorem seenK_snoc : ∀ (l s : List κ) (k : κ),seenK s (l ++ [k]) = if k ∈ seenK s l then seenK s l else seenK s l ++ [k]
 | [],s,k => by simp only [List.nil_append]; unfold seenK; split <;> rfl
 | x :: l,s,k => by
   simp only [List.cons_append,seenK]
   split
   · exact seenK_snoc l s k
   · exact seenK_snoc l (s ++ [x]) k
theorem mem_seenK : ∀ (l s : List κ) (x : κ),x ∈ seenK s l ↔ x ∈ s ∨ x ∈ l
 | [],s,x => by simp [seenK]
 | y :: l,s,x => by
   simp only [seenK]
   split
   · rename_i h
     rw [mem_seenK l s x,List.mem_cons]
     constructor
     · rintro (g | g)
       · exact .inl g
       · exact .inr (.inr g)
     · rintro (g | g | g)
       · exact .inl g
       · subst g; exact .inl h
       · exact .inr g
   · rw [mem_seenK l _ x,List.mem_append,List.mem_singleton,List.mem_cons,or_assoc]
def idxK (l : List κ) (k : κ) : Nat := l.findIdx fun y => decide (y = k)
theorem idxK_lt {l : List κ} {k : κ} (h : k ∈ l) : idxK l k < l.length := List.findIdx_lt_length_of_exists ⟨k,h,by simp⟩
theorem idxK_get {l : List κ} {k : κ} (h : k ∈ l) : l[idxK l k]? = some k := by
 have h1 := idxK_lt h
 rw [List.getElem?_eq_getElem h1]
 have := List.findIdx_getElem (xs := l) (p := fun y => decide (y = k)) (w := h1)
 simp at this
 exact congrArg some this
theorem idxK_app {l : List κ} {k : κ} (h : k ∈ l) (r : List κ) : idxK (l ++ r) k = idxK l k := by
 have h1 := idxK_lt h
 unfold idxK at h1 ⊢
 rw [List.findIdx_append,if_pos h1]
theorem idxK_new {l : List κ} {k : κ} (h : ¬ k ∈ l) : idxK (l ++ [k]) k = l.length := by
 unfold idxK
 have : l.findIdx (fun y => decide (y = k)) = l.length := List.findIdx_eq_length_of_false fun x hx => by simp; rintro rfl; exact h hx
 rw [List.findIdx_append,if_neg (by omega)]
 simp
theorem idxK_inj {l : List κ} {x y : κ} (hx : x ∈ l) (hy : y ∈ l) (h : idxK l x = idxK l y) : x = y := by
 have h1 := idxK_get hx
 rw [h,idxK_get hy] at h1
 exact (Option.some.inj h1).symm
def numK (l : List κ) : List Int := l.map fun k => ((idxK (seenK [] l) k : Nat) : Int)
def cntK (l : List κ) : Nat := (seenK [] l).length
theorem numK_len (l : List κ) : (numK l).length = l.length := by simp [numK]
theorem numK_snoc (l : List κ) (k : κ) : numK (l ++ [k]) = numK l ++ [((idxK (seenK [] (l ++ [k])) k : Nat) : Int)] := by
 unfold numK
 rw [List.map_append]
 congr 1
 refine List.map_congr_left fun x hx => ?_
 rw [seenK_snoc]
 split
 · rfl
 · rw [idxK_app ((mem_seenK l [] x).2 (.inr hx))]
theorem idxK_old {l : List κ} {k : κ} (h : k ∈ seenK [] l) : idxK (seenK [] (l ++ [k])) k = idxK (seenK [] l) k := by rw [seenK_snoc,if_pos h]
theorem idxK_fresh {l : List κ} {k : κ} (h : ¬ k ∈ seenK [] l) : idxK (seenK [] (l ++ [k])) k = cntK l := by rw [seenK_snoc,if_neg h,idxK_new h]; rfl
end

structure Canon (c : List Int) (m : Nat) : Prop where
 rg : ∀ (s : Nat) x,c[s]? = some x → 0 ≤ x ∧ x < m
 on : ∀ y : Nat,y < m → ∃ s : Nat,c[s]? = some (y : Int)
 cn : ∀ (s : Nat) x,c[s]? = some x → ∀ y : Nat,(y : Int) < x → ∃ t : Nat,t < s ∧ c[t]? = some (y : Int)
theorem numK_canon {κ : Type} [DecidableEq κ] (l : List κ) : Canon (numK l) (cntK l) := by
 refine snoc_ind (P := fun l => Canon (numK l) (cntK l)) ⟨by simp [numK],by simp [cntK,seenK],by simp [numK]⟩ ?_ l
 intro l k h
 by_cases hk : k ∈ seenK [] l
 · have hc : cntK (l ++ [k]) = cntK l := by unfold cntK; rw [seenK_snoc,if_pos hk]
   rw [hc,numK_snoc,idxK_old hk]
   have hlt : idxK (seenK [] l) k < cntK l := idxK_lt hk
   refine ⟨fun s x hx => ?_,fun y hy => ?_,fun s x hx y hy => ?_⟩
   · rcases getElem?_snoc hx with g | ⟨_,rfl⟩
     · exact h.rg s x g
     · omega
   · obtain ⟨s,hs⟩ := h.on y hy
     exact ⟨s,get_keep hs _⟩
   · rcases getElem?_snoc hx with g | ⟨g,rfl⟩
     · obtain ⟨t,h1,h2⟩ := h.cn s x g y hy
       exact ⟨t,h1,get_keep h2 _⟩
     · obtain ⟨t,ht⟩ := h.on y (by omega)
       exact ⟨t,by rw [g]; exact (List.getElem?_eq_some_iff.1 ht).1,get_keep ht _⟩
 · have hc : cntK (l ++ [k]) = cntK l + 1 := by unfold cntK; rw [seenK_snoc,if_neg hk]; simp
   rw [hc,numK_snoc,idxK_fresh hk]
   refine ⟨fun s x hx => ?_,fun y hy => ?_,fun s x hx y hy => ?_⟩
   · rcases getElem?_snoc hx with g | ⟨_,rfl⟩
     · have := h.rg s x g; omega
     · omega
   · by_cases e : y < cntK l
     · obtain ⟨s,hs⟩ := h.on y e
       exact ⟨s,get_keep hs _⟩
     · obtain rfl : y = cntK l := by omega
       exact ⟨(numK l).length,by simp⟩
   · rcases getElem?_snoc hx with g | ⟨g,rfl⟩
     · obtain ⟨t,h1,h2⟩ := h.cn s x g y hy
       exact ⟨t,h1,get_keep h2 _⟩
     · obtain ⟨t,ht⟩ := h.on y (by omega)
       exact ⟨t,by rw [g]; exact (List.getElem?_eq_some_iff.1 ht).1,get_keep ht _⟩
theorem numK_ker {κ : Type} [DecidableEq κ] {l : List κ} {i j : Nat} {x y : κ} (hx : l[i]? = some x) (hy : l[j]? = some y) : (numK l)[i]? = (numK l)[j]? ↔ x = y := by
 unfold numK
 rw [List.getElem?_map,List.getElem?_map,hx,hy]
 simp only [Option.map_some,Option.some.injEq]
 constructor
 · intro h
   exact idxK_inj ((mem_seenK l [] x).2 (.inr (List.mem_of_getElem? hx))) ((mem_seenK l [] y).2 (.inr (List.mem_of_getElem? hy))) (by omega)
 · rintro rfl; rfl

theorem sub_len : ∀ (l l' : List Nat),l.Nodup → (∀ x,x ∈ l → x ∈ l') → l.length ≤ l'.length
 | [],_,_,_ => by simp
 | a :: l,l',hn,h => by
   rw [List.nodup_cons] at hn
   have ha := h a (by simp)
   have := sub_len l (l'.erase a) hn.2 fun x hx => (List.mem_erase_of_ne (by rintro rfl; exact hn.1 hx)).2 (h x (by simp [hx]))
   rw [List.length_erase_of_mem ha] at this
   have := List.length_pos_of_mem ha
   simp only [List.length_cons]
   omega
theorem pigeon (f : Nat → Nat) (m m' : Nat) (h : ∀ x,x < m → ∃ y,y < m' ∧ f y = x) : m ≤ m' ∧ (m = m' → ∀ y y',y < m' → y' < m' → f y = f y' → y = y') := by
 constructor
 · have := sub_len (List.range m) ((List.range m').map f) List.nodup_range fun x hx => by
    obtain ⟨y,h1,h2⟩ := h x (by simpa using hx)
    exact List.mem_map.2 ⟨y,by simpa using h1,h2⟩
   simpa using this
 · rintro rfl y y' hy hy' he
   by_cases e : y = y'
   · exact e
   · have := sub_len (List.range m) (((List.range m).erase y').map f) List.nodup_range fun x hx => by
      obtain ⟨z,h1,h2⟩ := h x (by simpa using hx)
      by_cases ez : z = y'
      · subst ez
        exact List.mem_map.2 ⟨y,(List.mem_erase_of_ne e).2 (by simpa using hy),by rw [he,h2]⟩
      · exact List.mem_map.2 ⟨z,(List.mem_erase_of_ne ez).2 (by simpa using h1),h2⟩
     rw [List.length_map,List.length_erase_of_mem (by simpa using hy')] at this
     simp at this
     omega

def Eqv (a : Au) (i j : Int) : Prop := ∀ w,(0 ≤ runV a.ed i w ↔ 0 ≤ runV a.ed j w) ∧ (runV a.ed i w ∈ a.mr ↔ runV a.ed j w ∈ a.mr)
theorem Eqv.next {a : Au} {i j : Int} (h : Eqv a i j) (hi : 0 ≤ i) (hj : 0 ≤ j) (e : Int) : Eqv a (nextV a.ed i e) (nextV a.ed j e) := fun w => by
 have := h (e :: w)
 simpa only [runV,hi,hj,if_true] using this
def clsV (c : List Int) (s : Int) : Int := c.getD s.toNat 0
def sigV (a : Au) (c : List Int) (s : Nat) : Int × List (Int × Int) := (c.getD s 0,(outOf a.ed s).map fun x => (x.ev,clsV c x.dst))
structure Moore (a : Au) (c : List Int) (m : Nat) : Prop where
 len : c.length = a.n.toNat
 can : Canon c m
 mkd : ∀ i j : Nat,i < c.length → c[i]? = c[j]? → ((i : Int) ∈ a.mr ↔ (j : Int) ∈ a.mr)
 eq : ∀ i j : Nat,i < c.length → j < c.length → Eqv a i j → c[i]? = c[j]?
section
variable {a : Au} {c c' : List Int} {m m' : Nat}
theorem getD_some {l : List Int} {i : Nat} {x : Int} (h : l[i]? = some x) (d : Int) : l.getD i d = x := by rw [List.getD_eq_getElem?_getD,h]; rfl
theorem outOf_rises (hr : a.Right) (s : Nat) : Rises (fun x y : Ed => x.ev < y.ev) (outOf a.ed s) := by
 have h1 : (a.ed).Pairwise edLt := List.pairwise_iff_getElem.2 fun i j hi hj hij => hr.lex i j _ _ hij (List.getElem?_eq_getElem hi) (List.getElem?_eq_getElem hj)
 have h2 : (outOf a.ed s).Pairwise edLt := h1.filter _
 intro i j x y hij hx hy
 obtain ⟨hi,hix⟩ := List.getElem?_eq_some_iff.1 hx
 obtain ⟨hj,hjy⟩ := List.getElem?_eq_some_iff.1 hy
 have h3 := List.pairwise_iff_getElem.1 h2 i j hi hj hij
 rw [hix,hjy] at h3
 have e1 := List.mem_of_getElem? hx
 have e2 := List.mem_of_getElem? hy
 simp only [outOf,List.mem_filter,decide_eq_true_eq] at e1 e2
 rcases h3 with g | g
 · omega
 · exact g.2
theorem mem_outOf {l : List Ed} {s : Nat} {x : Ed} : x ∈ outOf l s ↔ x ∈ l ∧ x.src = (s : Int) := by simp [outOf]
theorem edge_next (hr : a.Right) {x : Ed} (hx : x ∈ a.ed) : nextV a.ed x.src x.ev = x.dst ∧ 0 ≤ x.src ∧ x.src < a.n ∧ 0 ≤ x.dst ∧ x.dst < a.n := by
 obtain ⟨p,hp,hpx⟩ := List.mem_iff_getElem.1 hx
 have h := List.getElem?_eq_getElem hp
 rw [hpx] at h
 have := hr.edge h
 exact ⟨hr.nextE h,this.1,this.2.1,this.2.2.1,this.2.2.2.1⟩
theorem sig_sub (hr : a.Right) (h : Moore a c m) {i j : Nat} (hi : i < c.length) (hj : j < c.length) (he : Eqv a i j) : ∀ p : Int × Int,p ∈ (outOf a.ed i).map (fun x => (x.ev,clsV c x.dst)) → p ∈ (outOf a.ed j).map (fun x => (x.ev,clsV c x.dst)) := by
 intro p hp
 obtain ⟨x,hx,rfl⟩ := List.mem_map.1 hp
 obtain ⟨hx1,hx2⟩ := mem_outOf.1 hx
 obtain ⟨k1,k2,k3,k4,k5⟩ := edge_next hr hx1
 have h0 := he.next (by omega) (by omega) x.ev
 rw [← hx2,k1] at h0
 rcases hr.next_cases j x.ev with g | ⟨g0,g1,y,hy,y1,y2,y3⟩
 · have := (h0 []).1.1 k4
   simp only [runV] at this
   omega
 · refine List.mem_map.2 ⟨y,mem_outOf.2 ⟨hy,y1⟩,?_⟩
   rw [← y3] at h0
   have hn := h.len
   have := h.eq x.dst.toNat y.dst.toNat (by omega) (by omega) (by
    rw [Int.toNat_of_nonneg k4,Int.toNat_of_nonneg (by omega)]; exact h0)
   rw [y2]
   unfold clsV
   rw [List.getD_eq_getElem?_getD,List.getD_eq_getElem?_getD,this]
theorem Eqv.symm {a : Au} {i j : Int} (h : Eqv a i j) : Eqv a j i := fun w => ⟨(h w).1.symm,(h w).2.symm⟩
theorem sig_rises (hr : a.Right) (c : List Int) (s : Nat) : Rises (fun x y : Int × Int => x.1 < y.1) ((outOf a.ed s).map fun x => (x.ev,clsV c x.dst)) := by
 intro i j x y hij hx hy
 rw [List.getElem?_map,Option.map_eq_some_iff] at hx hy
 obtain ⟨u,hu,rfl⟩ := hx
 obtain ⟨v,hv,rfl⟩ := hy
 exact outOf_rises hr s i j u v hij hu hv
theorem sig_eqv (hr : a.Right) (h : Moore a c m) {i j : Nat} (hi : i < c.length) (hj : j < c.length) (he : Eqv a i j) : sigV a c i = sigV a c j := by
 unfold sigV
 have h1 := h.eq i j hi hj he
 rw [List.getD_eq_getElem?_getD,h1,← List.getD_eq_getElem?_getD]
 congr 1
 refine Rises.ext (R := fun x y : Int × Int => x.1 < y.1) (fun x => by omega) (fun x y => by omega) (sig_rises hr c i) (sig_rises hr c j) fun p => ⟨sig_sub hr h hi hj he p,sig_sub hr h hj hi he.symm p⟩
theorem Moore.first (h : c.length = a.n.toNat) (hc : Canon c m) (hk : ∀ i j : Nat,i < c.length → j < c.length → (c[i]? = c[j]? ↔ ((i : Int) ∈ a.mr ↔ (j : Int) ∈ a.mr))) : Moore a c m := by
 refine ⟨h,hc,fun i j hi hij => ?_,fun i j hi hj he => (hk i j hi hj).2 ((he []).2)⟩
 have hj : j < c.length := by
  rw [List.getElem?_eq_getElem hi] at hij
  exact (List.getElem?_eq_some_iff.1 hij.symm).1
 exact (hk i j hi hj).1 hij
theorem Moore.step (hr : a.Right) (h : Moore a c m) (hl : c'.length = a.n.toNat) (hc : Canon c' m') (hk : ∀ i j : Nat,i < c'.length → j < c'.length → (c'[i]? = c'[j]? ↔ sigV a c i = sigV a c j)) : Moore a c' m' := by
 have hlc : c'.length = c.length := by rw [hl,h.len]
 refine ⟨hl,hc,fun i j hi hij => ?_,fun i j hi hj he => (hk i j hi hj).2 (sig_eqv hr h (by omega) (by omega) he)⟩
 have hj : j < c'.length := by
  rw [List.getElem?_eq_getElem hi] at hij
  exact (List.getElem?_eq_some_iff.1 hij.symm).1
 have h2 := congrArg Prod.fst ((hk i j hi hj).1 hij)
 refine h.mkd i j (by omega) ?_
 simp only [sigV] at h2
 rw [getD_lt _ (by omega),getD_lt _ (by omega)] at h2
 rw [List.getElem?_eq_getElem (by omega),List.getElem?_eq_getElem (by omega),h2]
theorem Moore.count (h : Moore a c m) (hl : c'.length = a.n.toNat) (hc : Canon c' m') (hk : ∀ i j : Nat,i < c'.length → j < c'.length → (c'[i]? = c'[j]? ↔ sigV a c i = sigV a c j)) :
 m ≤ m' ∧ (m = m' → ∀ i j : Nat,i < c.length → j < c.length → c[i]? = c[j]? → c'[i]? = c'[j]?) := by
 have hlc : c'.length = c.length := by rw [hl,h.len]
 have ref : ∀ i j : Nat,i < c'.length → j < c'.length → c'[i]? = c'[j]? → c[i]? = c[j]? := fun i j hi hj he => by
  have h2 := congrArg Prod.fst ((hk i j hi hj).1 he)
  simp only [sigV] at h2
  rw [getD_lt _ (by omega),getD_lt _ (by omega)] at h2
  rw [List.getElem?_eq_getElem (by omega),List.getElem?_eq_getElem (by omega),h2]
 obtain ⟨f,hf⟩ : ∃ f : Nat → Nat,∀ (s : Nat) (y : Nat),c'[s]? = some (y : Int) → c[s]? = some ((f y : Nat) : Int) := by
  refine ⟨fun y => (c.getD (c'.findIdx fun z => decide (z = (y : Int))) 0).toNat,fun s y hs => ?_⟩
  have hm := List.mem_of_getElem? hs
  have h1 : idxK c' (y : Int) < c'.length := idxK_lt hm
  have h2 : c'[idxK c' (y : Int)]? = some (y : Int) := idxK_get hm
  have hsl := (List.getElem?_eq_some_iff.1 hs).1
  have h3 := ref s (idxK c' (y : Int)) hsl h1 (by rw [hs,h2])
  have h4 : c[s]? = some c[s] := List.getElem?_eq_getElem (by omega)
  have h5 := (h.can.rg s _ h4).1
  rw [h3] at h4
  show c[s]? = some (((c.getD (idxK c' (y : Int)) 0).toNat : Nat) : Int)
  rw [h3,getD_some h4,Int.toNat_of_nonneg h5,h4]
 have hp := pigeon f m m' (fun x hx => by
  obtain ⟨s,hs⟩ := h.can.on x hx
  have hsl := (List.getElem?_eq_some_iff.1 hs).1
  obtain ⟨y,hy⟩ : ∃ y,c'[s]? = some y := ⟨_,List.getElem?_eq_getElem (by omega)⟩
  have hr := hc.rg s y hy
  refine ⟨y.toNat,by omega,?_⟩
  have := hf s y.toNat (by rw [hy,Int.toNat_of_nonneg hr.1])
  rw [hs] at this
  have := Option.some.inj this
  omega)
 refine ⟨hp.1,fun e i j hi hj hij => ?_⟩
 obtain ⟨y,hy⟩ : ∃ y,c'[i]? = some y := ⟨_,List.getElem?_eq_getElem (by omega)⟩
 obtain ⟨z,hz⟩ : ∃ z,c'[j]? = some z := ⟨_,List.getElem?_eq_getElem (by omega)⟩
 have ry := hc.rg i y hy
 have rz := hc.rg j z hz
 have e1 := hf i y.toNat (by rw [hy,Int.toNat_of_nonneg ry.1])
 have e2 := hf j z.toNat (by rw [hz,Int.toNat_of_nonneg rz.1])
 rw [hij,e2] at e1
 have e3 : ((f z.toNat : Nat) : Int) = (f y.toNat : Nat) := Option.some.inj e1
 have := hp.2 e y.toNat z.toNat (by omega) (by omega) (by omega)
 rw [hy,hz]
 congr 1
 omega
theorem Moore.fin (hr : a.Right) (h : Moore a c m) (hl : c'.length = a.n.toNat) (hc : Canon c' m) (hk : ∀ i j : Nat,i < c'.length → j < c'.length → (c'[i]? = c'[j]? ↔ sigV a c i = sigV a c j)) :
 ∀ i j : Nat,i < c'.length → j < c'.length → (c'[i]? = c'[j]? ↔ Eqv a i j) := by
 have M' := h.step hr hl hc hk
 have back := (h.count hl hc hk).2 rfl
 have hlc : c'.length = c.length := by rw [hl,h.len]
 intro i j hi hj
 refine ⟨fun hij w => ?_,fun he => M'.eq i j hi hj he⟩
 have key : ∀ (w : List Int) (i j : Nat),i < c'.length → j < c'.length → c'[i]? = c'[j]? → (0 ≤ runV a.ed i w ↔ 0 ≤ runV a.ed j w) ∧ (runV a.ed i w ∈ a.mr ↔ runV a.ed j w ∈ a.mr) := by
  intro w
  induction w with
  | nil => intro i j hi hj hij; exact ⟨by simp only [runV]; omega,M'.mkd i j hi hij⟩
  | cons e w ih =>
    intro i j hi hj hij
    have i0 : (0 : Int) ≤ (i : Int) := by omega
    have j0 : (0 : Int) ≤ (j : Int) := by omega
    simp only [runV,i0,j0,if_true]
    have hs := congrArg Prod.snd ((hk i j hi hj).1 hij)
    simp only [sigV] at hs
    have one : ∀ (i j : Nat),(outOf a.ed i).map (fun x => (x.ev,clsV c x.dst)) = (outOf a.ed j).map (fun x => (x.ev,clsV c x.dst)) → ∀ x,x ∈ a.ed → x.src = (i : Int) → x.ev = e → ∃ y,y ∈ a.ed ∧ y.src = (j : Int) ∧ y.ev = e ∧ clsV c y.dst = clsV c x.dst := fun i j hs x hx h1 h2 => by
     have : (x.ev,clsV c x.dst) ∈ (outOf a.ed j).map (fun x => (x.ev,clsV c x.dst)) := by rw [← hs]; exact List.mem_map.2 ⟨x,mem_outOf.2 ⟨hx,h1⟩,rfl⟩
     obtain ⟨y,hy,hyx⟩ := List.mem_map.1 this
     obtain ⟨y1,y2⟩ := mem_outOf.1 hy
     rw [Prod.mk.injEq] at hyx
     exact ⟨y,y1,y2,by rw [hyx.1,h2],hyx.2⟩
    have neg : ∀ x : Int,x = -1 → ∀ w,¬ 0 ≤ runV a.ed x w ∧ ¬ runV a.ed x w ∈ a.mr := fun x hx w => by
     rw [runV_neg _ (by omega)]
     exact ⟨by omega,fun hm => by have := (hr.mem hm).1; omega⟩
    rcases hr.next_cases i e with g | ⟨g0,g1,x,hx,x1,x2,x3⟩ <;> rcases hr.next_cases j e with g' | ⟨g0',g1',y,hy,y1,y2,y3⟩
    · exact ⟨⟨fun q => absurd q (neg _ g w).1,fun q => absurd q (neg _ g' w).1⟩,⟨fun q => absurd q (neg _ g w).2,fun q => absurd q (neg _ g' w).2⟩⟩
    · obtain ⟨x,hx,h1,h2,_⟩ := one j i hs.symm y hy y1 y2
      have := edge_next hr hx
      rw [h1,h2] at this; omega
    · obtain ⟨y,hy,h1,h2,_⟩ := one i j hs x hx x1 x2
      have := edge_next hr hy
      rw [h1,h2] at this; omega
    · obtain ⟨z,hz,z1,z2,z3⟩ := one i j hs x hx x1 x2
      obtain rfl : z = y := hr.uniq hz hy (by omega) (by omega)
      have hn := h.len
      have b1 := edge_next hr hx
      have b2 := edge_next hr hz
      rw [← x3,← y3]
      have p1 : x.dst.toNat < c.length := by omega
      have p2 : z.dst.toNat < c.length := by omega
      have := back x.dst.toNat z.dst.toNat p1 p2 (by
       unfold clsV at z3
       rw [getD_lt _ p1,getD_lt _ p2] at z3
       rw [List.getElem?_eq_getElem p1,List.getElem?_eq_getElem p2,z3])
      have q := ih x.dst.toNat z.dst.toNat (by omega) (by omega) this
      rw [Int.toNat_of_nonneg (by omega),Int.toNat_of_nonneg (by omega)] at q
      exact q
 exact key w i j hi hj hij
end

structure Mini (a m : Au) : Prop where
 al : m.al = a.al
 rt : m.Right
 num : Num m.ed m.n
 gen : ∀ w,0 ≤ rn m w ↔ 0 ≤ rn a w
 mkd : ∀ w,rn m w ∈ m.mr ↔ rn a w ∈ a.mr
 ds : ∀ i j : Int,0 ≤ i → i < m.n → 0 ≤ j → j < m.n → Eqv m i j → i = j
structure Trimd (a t : Au) : Prop where
 al : t.al = a.al
 rt : t.Right
 num : Num t.ed t.n
 co : ∀ i : Int,0 ≤ i → i < t.n → ∃ w,runV t.ed i w ∈ t.mr
 lang : ∀ w,rn t w ∈ t.mr ↔ rn a w ∈ a.mr
theorem Mini.isMin {a t m : Au} (ht : Trimd a t) (hm : Mini t m) : IsMin m (fun w => rn a w ∈ a.mr) := by
 have hws := hm.num.ws hm.rt
 have co : ∀ i : Int,0 ≤ i → i < m.n → ∃ w,runV m.ed i w ∈ m.mr := fun i h0 h1 => by
  obtain ⟨ws,hl,_,hw⟩ := hws
  obtain ⟨k,rfl⟩ := Int.eq_ofNat_of_zero_le h0
  have hk : k < ws.length := by omega
  have g := (hw k _ (List.getElem?_eq_getElem hk)).is
  have g0 := (hm.gen ws[k]).1 (by rw [g]; omega)
  rcases ht.rt.rn_cases ws[k] with q | q
  · omega
  · obtain ⟨v,hv⟩ := ht.co _ q.1 q.2
    rw [← rn_app] at hv
    refine ⟨v,?_⟩
    have := (hm.mkd _).2 hv
    rw [rn_app,g] at this
    exact this
 refine ⟨hm.rt,hws,co,fun i j i0 i1 j0 j1 h => hm.ds i j i0 i1 j0 j1 fun w => ⟨?_,h w⟩,fun w => (hm.mkd w).trans (ht.lang w)⟩
 have one : ∀ i j : Int,0 ≤ i → i < m.n → (∀ w,runV m.ed i w ∈ m.mr ↔ runV m.ed j w ∈ m.mr) → 0 ≤ runV m.ed i w → 0 ≤ runV m.ed j w := fun i j i0 i1 h hp => by
  obtain ⟨v,hv⟩ := co _ hp (hm.rt.run_lt w i i0 i1 hp)
  rw [← runV_app] at hv
  have := (h _).1 hv
  rw [runV_app] at this
  rcases Int.lt_or_le (runV m.ed j w) 0 with k | k
  · rw [runV_neg _ k] at this
    have := (hm.rt.mem this).1; omega
  · exact k
 exact ⟨one i j i0 i1 h,one j i j0 j1 fun w => (h w).symm⟩
end
section

section
variable {a : Au}
def outK (a : Au) (keep : Int → Bool) (v : Int) : List (Int × Int) := ((outOf a.ed v.toNat).filter fun x => keep x.dst).map fun x => (x.ev,x.dst)
theorem mem_outK (hr : a.Right) {keep : Int → Bool} {v e t : Int} (hv : 0 ≤ v) : (e,t) ∈ outK a keep v ↔ nextV a.ed v e = t ∧ 0 ≤ t ∧ keep t = true := by
 constructor
 · intro h
   obtain ⟨x,hx,he⟩ := List.mem_map.1 h
   rw [List.mem_filter,mem_outOf] at hx
   obtain ⟨⟨h1,h2⟩,h3⟩ := hx
   rw [Prod.mk.injEq] at he
   obtain ⟨rfl,rfl⟩ := he
   have := edge_next hr h1
   rw [h2,Int.toNat_of_nonneg hv] at this
   exact ⟨this.1,this.2.2.2.1,h3⟩
 · rintro ⟨h1,h2,h3⟩
   rcases hr.next_cases v e with g | ⟨_,_,x,hx,x1,x2,x3⟩
   · omega
   · refine List.mem_map.2 ⟨x,?_,by rw [x2,x3,h1]⟩
     rw [List.mem_filter,mem_outOf]
     exact ⟨⟨hx,by omega⟩,by rw [x3,h1]; exact h3⟩
theorem outK_ups (hr : a.Right) (keep : Int → Bool) (v : Int) : Ups (outK a keep v) := by
 have h1 : (outOf a.ed v.toNat).Pairwise (fun x y => x.ev < y.ev) := List.pairwise_iff_getElem.2 fun i j hi hj hij => outOf_rises hr v.toNat i j _ _ hij (List.getElem?_eq_getElem hi) (List.getElem?_eq_getElem hj)
 have h2 := h1.filter (fun x => keep x.dst)
 intro p q x y hpq hx hy
 unfold outK at hx hy
 rw [List.getElem?_map,Option.map_eq_some_iff] at hx hy
 obtain ⟨u,hu,rfl⟩ := hx
 obtain ⟨z,hz,rfl⟩ := hy
 obtain ⟨hi,e1⟩ := List.getElem?_eq_some_iff.1 hu
 obtain ⟨hj,e2⟩ := List.getElem?_eq_some_iff.1 hz
 have := List.pairwise_iff_getElem.1 h2 p q hi hj hpq
 rw [e1,e2] at this
 exact this
theorem stepS_outK (hr : a.Right) {keep : Int → Bool} {v e : Int} (hv : 0 ≤ v) : stepS (outK a keep) v e = if 0 ≤ nextV a.ed v e ∧ keep (nextV a.ed v e) = true then some (nextV a.ed v e) else none := by
 split
 · rename_i h
   exact stepS_mem (outK_ups hr keep v) ((mem_outK hr hv).2 ⟨rfl,h⟩)
 · rename_i h
   cases hs : stepS (outK a keep) v e with
   | none => rfl
   | some t =>
     obtain ⟨h1,h2,h3⟩ := (mem_outK hr hv).1 (stepS_some hs)
     subst h1
     exact absurd ⟨h2,h3⟩ h
def runK (a : Au) (keep : Int → Bool) : Int → List Int → Option Int
 | v,[] => some v
 | v,e :: r => if 0 ≤ nextV a.ed v e ∧ keep (nextV a.ed v e) = true then runK a keep (nextV a.ed v e) r else none
theorem runS_outK (hr : a.Right) (keep : Int → Bool) : ∀ (w : List Int) (v : Int),0 ≤ v → runS (outK a keep) v w = runK a keep v w
 | [],v,_ => rfl
 | e :: r,v,hv => by
   simp only [runS,runK,stepS_outK hr hv]
   by_cases h : 0 ≤ nextV a.ed v e ∧ keep (nextV a.ed v e) = true
   · rw [if_pos h,if_pos h]
     exact runS_outK hr keep r _ h.1
   · rw [if_neg h,if_neg h]
theorem runK_some (keep : Int → Bool) : ∀ (w : List Int) (v t : Int),0 ≤ v → runK a keep v w = some t → runV a.ed v w = t ∧ 0 ≤ t
 | [],v,t,hv,h => by simp [runK] at h; subst h; exact ⟨rfl,hv⟩
 | e :: r,v,t,hv,h => by
   simp only [runK] at h
   split at h
   · rename_i g
     simp only [runV,hv,if_true]
     exact runK_some keep r _ t g.1 h
   · cases h
theorem runK_all (hr : a.Right) : ∀ (w : List Int) (v : Int),0 ≤ v → runK a (fun _ => true) v w = if 0 ≤ runV a.ed v w then some (runV a.ed v w) else none
 | [],v,hv => by simp [runK,runV,hv]
 | e :: r,v,hv => by
   simp only [runK,runV,hv,if_true,and_true]
   split
   · rename_i h
     exact runK_all hr r _ h
   · rename_i h
     rw [runV_neg _ (by omega),if_neg h]
theorem Built.mini (hr : a.Right) (hn : 0 < a.n) {c : List Int} (hl : c.length = a.n.toNat) (hc : ∀ i j : Nat,i < c.length → j < c.length → (c[i]? = c[j]? ↔ Eqv a i j)) {m : Au} {fs : List Int}
 (B : Built (clsV c) (outK a fun _ => true) 0 m fs) (hfs : ∀ v,v ∈ fs → 0 ≤ v ∧ v < a.n) (hal : m.al = a.al) (hm : ∀ d : Nat,(d : Int) ∈ m.mr ↔ ∃ v,fs[d]? = some v ∧ v ∈ a.mr) : Mini a m := by
 have hcl : ∀ v v' : Int,0 ≤ v ∧ v < a.n → 0 ≤ v' ∧ v' < a.n → (clsV c v = clsV c v' ↔ Eqv a v v') := fun v v' hv hv' => by
  have e1 : v.toNat < c.length := by omega
  have e2 : v'.toNat < c.length := by omega
  have := hc v.toNat v'.toNat e1 e2
  rw [Int.toNat_of_nonneg hv.1,Int.toNat_of_nonneg hv'.1] at this
  rw [← this]
  unfold clsV
  rw [getD_lt _ e1,getD_lt _ e2,List.getElem?_eq_getElem e1,List.getElem?_eq_getElem e2,Option.some.injEq]
 have CG : Cong (fun v : Int => 0 ≤ v ∧ v < a.n) (clsV c) (outK a fun _ => true) := by
  refine ⟨fun v hv e t h => ?_,fun v v' hv hv' hk e t h => ?_,fun v _ => outK_ups hr _ v⟩
  · obtain ⟨h1,h2,_⟩ := (mem_outK hr hv.1).1 h
    rcases hr.next_cases v e with g | g
    · omega
    · omega
  · obtain ⟨h1,h2,_⟩ := (mem_outK hr hv.1).1 h
    have he := ((hcl v v' hv hv').1 hk).next hv.1 hv'.1 e
    rw [h1] at he
    have h3 : 0 ≤ nextV a.ed v' e := by have := (he []).1.1 h2; simpa only [runV] using this
    have h4 : nextV a.ed v' e < a.n := by
     rcases hr.next_cases v' e with g | g
     · omega
     · omega
    have h5 : t < a.n := by
     rcases hr.next_cases v e with g | g
     · omega
     · omega
    exact ⟨_,(mem_outK hr hv'.1).2 ⟨rfl,h3,rfl⟩,(hcl _ _ ⟨h3,h4⟩ ⟨h2,h5⟩).2 he.symm⟩
 have hst : a.st = 0 := if_neg (by omega)
 have hrun := B.run CG ⟨Int.le_refl _,hn⟩ hfs
 have hR : ∀ w,runS (outK a fun _ => true) 0 w = if 0 ≤ rn a w then some (rn a w) else none := fun w => by
  rw [runS_outK hr _ w 0 (Int.le_refl _),runK_all hr w 0 (Int.le_refl _)]
  unfold rn
  rw [hst]
 have both : ∀ w,(rn m w = -1 ∧ ¬ 0 ≤ rn a w) ∨ ∃ (d : Nat) (u : Int),rn m w = d ∧ fs[d]? = some u ∧ 0 ≤ rn a w ∧ Eqv a u (rn a w) := fun w => by
  have hw := hR w
  rcases hrun w with ⟨g1,g2⟩ | ⟨d,u,t,g1,g2,g3,g4,g5⟩
  · rw [g2] at hw
    refine .inl ⟨g1,fun h => ?_⟩
    rw [if_pos h] at hw; cases hw
  · rw [g3] at hw
    split at hw
    · rename_i h
      obtain rfl := Option.some.inj hw
      exact .inr ⟨d,u,g1,g2,h,(hcl u _ (hfs u (List.mem_of_getElem? g2)) g5).1 g4⟩
    · cases hw
 have mk : ∀ w,rn m w ∈ m.mr ↔ rn a w ∈ a.mr := fun w => by
  rcases both w with ⟨g1,g2⟩ | ⟨d,u,g1,g2,g3,g4⟩
  · constructor
    · intro h; have := (B.rt.mem h).1; omega
    · intro h; exact absurd (hr.mem h).1 g2
  · rw [g1,hm]
    have := (g4 []).2
    simp only [runV] at this
    constructor
    · rintro ⟨v,h1,h2⟩
      rw [g2] at h1; cases h1
      exact this.1 h2
    · intro h; exact ⟨u,g2,this.2 h⟩
 have gen : ∀ w,0 ≤ rn m w ↔ 0 ≤ rn a w := fun w => by
  rcases both w with ⟨g1,g2⟩ | ⟨d,u,g1,g2,g3,g4⟩
  · exact ⟨fun h => by omega,fun h => absurd h g2⟩
  · exact ⟨fun _ => g3,fun _ => by omega⟩
 refine ⟨hal,B.rt,B.num,gen,mk,fun i j i0 i1 j0 j1 he => ?_⟩
 obtain ⟨ws,hwl,_,hw⟩ := B.num.ws B.rt
 obtain ⟨p,rfl⟩ := Int.eq_ofNat_of_zero_le i0
 obtain ⟨q,rfl⟩ := Int.eq_ofNat_of_zero_le j0
 have hp : p < ws.length := by omega
 have hq : q < ws.length := by omega
 have r1 := (hw p _ (List.getElem?_eq_getElem hp)).is
 have r2 := (hw q _ (List.getElem?_eq_getElem hq)).is
 rcases both ws[p] with ⟨g1,_⟩ | ⟨d,u,g1,g2,g3,g4⟩
 · omega
 rcases both ws[q] with ⟨k1,_⟩ | ⟨d',u',k1,k2,k3,k4⟩
 · omega
 obtain rfl : d = p := by omega
 obtain rfl : d' = q := by omega
 have hE : Eqv a (rn a ws[d]) (rn a ws[d']) := fun w => by
  rw [← rn_app,← rn_app,← gen,← gen,← mk,← mk,rn_app,rn_app,r1,r2]
  exact he w
 have hU : Eqv a u u' := fun w => ⟨((g4 w).1.trans (hE w).1).trans (k4 w).1.symm,((g4 w).2.trans (hE w).2).trans (k4 w).2.symm⟩
 have := B.nd d d' u u' g2 k2 ((hcl u u' (hfs u (List.mem_of_getElem? g2)) (hfs u' (List.mem_of_getElem? k2))).2 hU)
 omega
theorem Built.trim (hr : a.Right) {keep : Int → Bool} (hk : ∀ v : Int,0 ≤ v → v < a.n → (keep v = true ↔ ∃ w,runV a.ed v w ∈ a.mr)) (h0 : 0 < a.n) (hk0 : keep 0 = true) {t : Au} {fs : List Int}
 (B : Built id (outK a keep) 0 t fs) (hfs : ∀ v,v ∈ fs → 0 ≤ v ∧ v < a.n ∧ keep v = true) (hal : t.al = a.al) (hm : ∀ d : Nat,(d : Int) ∈ t.mr ↔ ∃ v,fs[d]? = some v ∧ v ∈ a.mr) : Trimd a t := by
 have CG : Cong (fun v : Int => 0 ≤ v ∧ v < a.n) id (outK a keep) := by
  refine ⟨fun v hv e t h => ?_,fun v v' hv hv' hk' e t h => ⟨t,by rw [← (show v = v' from hk')]; exact h,rfl⟩,fun v _ => outK_ups hr _ v⟩
  obtain ⟨h1,h2,_⟩ := (mem_outK hr hv.1).1 h
  rcases hr.next_cases v e with g | g
  · omega
  · omega
 have hst : a.st = 0 := if_neg (by omega)
 have hrun := B.run CG ⟨Int.le_refl _,h0⟩ (fun v hv => ⟨(hfs v hv).1,(hfs v hv).2.1⟩)
 have keepR : ∀ v w,0 ≤ v → runV a.ed v w ∈ a.mr → v < a.n → keep v = true := fun v w hv hw hn => (hk v hv hn).2 ⟨w,hw⟩
 have within : ∀ (w : List Int) (v : Int),0 ≤ v → v < a.n → runV a.ed v w ∈ a.mr → runK a keep v w = some (runV a.ed v w) := by
  intro w
  induction w with
  | nil => intro v _ _ _; rfl
  | cons e r ih =>
    intro v hv hn h
    simp only [runV,hv,if_true] at h ⊢
    rcases hr.next_cases v e with g | g
    · rw [g,runV_neg _ (by omega)] at h
      have := (hr.mem h).1; omega
    · simp only [runK]
      rw [if_pos ⟨g.1,(hk _ g.1 g.2.1).2 ⟨r,h⟩⟩]
      exact ih _ g.1 g.2.1 h
 have hR : ∀ w,runS (outK a keep) 0 w = runK a keep 0 w := fun w => runS_outK hr _ w 0 (Int.le_refl _)
 have lang : ∀ w,rn t w ∈ t.mr ↔ rn a w ∈ a.mr := fun w => by
  have ea : rn a w = runV a.ed 0 w := by unfold rn; rw [hst]
  rcases hrun w with ⟨g1,g2⟩ | ⟨d,u,x,g1,g2,g3,g4,g5⟩
  · constructor
    · intro h; have := (B.rt.mem h).1; omega
    · intro h
      rw [ea] at h
      have := within w 0 (Int.le_refl _) h0 h
      rw [← hR,g2] at this; cases this
  · rw [hR] at g3
    have := runK_some keep w 0 x (Int.le_refl _) g3
    obtain rfl : u = x := g4
    rw [g1,hm,ea,this.1]
    exact ⟨fun ⟨v,h1,h2⟩ => by rw [g2] at h1; cases h1; exact h2,fun h => ⟨u,g2,h⟩⟩
 refine ⟨hal,B.rt,B.num,fun i i0 i1 => ?_,lang⟩
 obtain ⟨ws,hwl,_,hw⟩ := B.num.ws B.rt
 obtain ⟨p,rfl⟩ := Int.eq_ofNat_of_zero_le i0
 have hp : p < ws.length := by omega
 have r1 := (hw p _ (List.getElem?_eq_getElem hp)).is
 rcases hrun ws[p] with ⟨g1,_⟩ | ⟨d,u,x,g1,g2,g3,g4,g5⟩
 · omega
 obtain rfl : d = p := by omega
 obtain rfl : u = x := g4
 obtain ⟨f0,f1,f2⟩ := hfs u (List.mem_of_getElem? g2)
 obtain ⟨v,hv⟩ := (hk u f0 f1).1 f2
 refine ⟨v,?_⟩
 rw [← r1,← rn_app,lang]
 rw [hR] at g3
 have := runK_some keep _ 0 u (Int.le_refl _) g3
 rw [rn_app]
 have e2 : rn a ws[d] = u := by unfold rn; rw [hst]; exact this.1
 rw [e2]; exact hv
theorem Trimd.empty (hr : a.Right) (h : a.n = 0 ∨ 0 < a.n ∧ ∀ w,¬ runV a.ed 0 w ∈ a.mr) : Trimd a ⟨a.al,0,[],[]⟩ := by
 have hrt : (⟨a.al,0,[],[]⟩ : Au).Right := ⟨hr.al,Int.le_refl _,by show (0 : Int) ≤ 4096; decide,fun i x hi => by simp at hi,fun i hi => by simp at hi⟩
 refine ⟨rfl,hrt,fun k h1 h2 => by simp only at h2; omega,fun i h1 h2 => by simp only at h2; omega,fun w => ⟨fun hm => by simp at hm,fun hm => ?_⟩⟩
 rcases h with h | ⟨h,h'⟩
 · have := hr.mem hm; omega
 · exact absurd (by have hst : a.st = 0 := if_neg (by omega); unfold rn at hm; rw [hst] at hm; exact hm) (h' w)
end
end
def keyI (x : Int) : Value := .int .i64 x
def veI (x : Int) : Value := .int .i64 x
def veB (b : Bool) : Value := .bool b
theorem int_eq (p q : Int) (n : Nat) (w : World) : (Op.equalIn (n + 1) 3 (.int .i64 p) (.int .i64 q)).run Tryd.prog w = .ok (p == q) w := by
 simp [Op.equalIn,run_underlying Tryd.underlying3]
theorem range2 : List.range' 0 2 = [0,1] := rfl
theorem okI : KeyG Tryd.prog 3 (.int .i64) keyI := ⟨Tryd.underlying3,fun x y w => by
 simp only [Op.equal,Op.maxDepth,keyI]
 rw [int_eq]
 first | rfl | (congr 1; rw [Bool.eq_iff_iff]; simp),fun em x w => by cases em <;> kernel_rfl,fun x w => by simp [Instr.keyThatStays,keyI,Instr.sameBits],.inr fun x y => by
 simp [Instr.sameNow,keyI]
 rw [Bool.eq_iff_iff]; simp,fun x y h => by simpa [keyI] using h⟩
theorem key2_eq (x y : Int × Int) (w : World) : (Op.equal 74 (key2 x) (key2 y)).run Tryd.prog w = .ok (decide (x = y)) w := by
 obtain ⟨a,b⟩ := x
 obtain ⟨c,d⟩ := y
 simp only [Op.equal,Op.maxDepth,key2]
 rw [Op.equalIn]
 by_cases h1 : a = c <;> by_cases h2 : b = d <;> simp [run_underlying Tryd.underlying74,Result.andThen,go_sem,range2,Tryd.isAgg3,int_eq,h1,h2]
theorem ok2 : KeyG Tryd.prog 74 (.array 2 3) key2 := ⟨Tryd.underlying74,key2_eq,fun em x w => by
 obtain ⟨a,b⟩ := x
 cases em <;> kernel_rfl,fun x w => by
 obtain ⟨a,b⟩ := x
 simp [Instr.keyThatStays,key2,Instr.sameBits],.inl fun _ _ => rfl,fun x y h => by
 obtain ⟨a,b⟩ := x
 obtain ⟨c,d⟩ := y
 simpa [key2] using h⟩
theorem keyP_eq (x y : Int × Int) (w : World) : (Op.equal 75 (key2 x) (key2 y)).run Tryd.prog w = .ok (decide (x = y)) w := by
 obtain ⟨a,b⟩ := x
 obtain ⟨c,d⟩ := y
 simp only [Op.equal,Op.maxDepth,key2]
 rw [Op.equalIn]
 by_cases h1 : a = c <;> by_cases h2 : b = d <;> simp [run_underlying Tryd.underlying75,Result.andThen,go_sem,range2,Tryd.isAgg3,int_eq,h1,h2]
theorem okP : KeyG Tryd.prog 75 (.array 2 3) key2 := ⟨Tryd.underlying75,keyP_eq,fun em x w => by
 obtain ⟨a,b⟩ := x
 cases em <;> kernel_rfl,fun x w => by
 obtain ⟨a,b⟩ := x
 simp [Instr.keyThatStays,key2,Instr.sameBits],.inl fun _ _ => rfl,fun x y h => by
 obtain ⟨a,b⟩ := x
 obtain ⟨c,d⟩ := y
 simpa [key2] using h⟩
theorem zeroI (w : World) : (zeroValue 3).run Tryd.prog w = .ok (veI 0) w := by kernel_rfl
theorem zeroB (w : World) : (zeroValue 4).run Tryd.prog w = .ok (veB false) w := by kernel_rfl

def setF (l : List Int) (x : Int) : Option Bool := if x ∈ l then some true else none
theorem setF_snoc (l : List Int) (x y : Int) : setF (l ++ [x]) y = if y = x then some true else setF l y := by
 by_cases h : y = x
 · simp [setF,h]
 · simp [setF,h]
theorem setF_getD (l : List Int) (x : Int) : (setF l x).getD false = decide (x ∈ l) := by
 by_cases h : x ∈ l <;> simp [setF,h]
structure Mach (w : World) (b : Nat) (a : Au) : Prop where
 ex : ∃ m1 m2,BlkAt w b 104 [.map (some m1),.map (some m2),.int .i64 a.st] ∧ MapG key2 veI w m1 (stepOf a.ed) ∧ MapG keyI veB w m2 (setF a.mr)
structure Mach3 (w : World) (b m1 m2 : Nat) (a : Au) : Prop where
 blk : BlkAt w b 104 [.map (some m1),.map (some m2),.int .i64 a.st]
 f1 : MapG key2 veI w m1 (stepOf a.ed)
 f2 : MapG keyI veB w m2 (setF a.mr)
theorem Mach3.mach {w : World} {b m1 m2 : Nat} {a : Au} (h : Mach3 w b m1 m2 a) : Mach w b a := ⟨m1,m2,h.blk,h.f1,h.f2⟩
theorem Mach3.below {w w' : World} {b m1 m2 : Nat} {a : Au} (h : Mach3 w b m1 m2 a) (hb : Below w.heap.size w w') : Mach3 w' b m1 m2 a :=
 ⟨h.blk.below hb h.blk.lt,h.f1.below hb h.f1.lt,h.f2.below hb h.f2.lt⟩
theorem Mach3.alloc {w : World} {b m1 m2 : Nat} {a : Au} (h : Mach3 w b m1 m2 a) (o : Obj) : Mach3 (w.alloc o) b m1 m2 a := h.below (Below.new w o)
theorem Mach3.drew {w : World} {b m1 m2 : Nat} {a : Au} (h : Mach3 w b m1 m2 a) : Mach3 w.drew b m1 m2 a := ⟨h.blk,h.f1,h.f2⟩
theorem Mach3.lts {w : World} {b m1 m2 : Nat} {a : Au} (h : Mach3 w b m1 m2 a) : b < w.heap.size ∧ m1 < w.heap.size ∧ m2 < w.heap.size := ⟨h.blk.lt,h.f1.lt,h.f2.lt⟩
theorem MapG.setC {κ β : Type} [DecidableEq κ] {key : κ → Value} {ve : β → Value} {w : World} {b n i : Nat} {f : κ → Option β} (h : MapG key ve w b f) (hn : n ≠ b) (u : Value) : MapG key ve (w.setCell ⟨n,i,none⟩ u) b f := by
 obtain ⟨l,c,h1,h2⟩ := h
 exact ⟨l,c,(heap_setCell_other w ⟨n,i,none⟩ b u (fun e => hn e.symm)).trans h1,h2⟩
theorem Mach3.far {w : World} {b m1 m2 n i : Nat} {a : Au} (h : Mach3 w b m1 m2 a) (h0 : n ≠ b) (h1 : n ≠ m1) (h2 : n ≠ m2) (u : Value) : Mach3 (w.setCell ⟨n,i,none⟩ u) b m1 m2 a :=
 ⟨h.blk.far (fun e => h0 e.symm) u,h.f1.setC h1 u,h.f2.setC h2 u⟩
theorem Mach.below {w w' : World} {b : Nat} {a : Au} (h : Mach w b a) (hb : Below w.heap.size w w') : Mach w' b a := by
 obtain ⟨m1,m2,h1,h2,h3⟩ := h.ex
 exact ⟨m1,m2,h1.below hb h1.lt,h2.below hb h2.lt,h3.below hb h3.lt⟩
theorem Mach.lt {w : World} {b : Nat} {a : Au} (h : Mach w b a) : b < w.heap.size := by
 obtain ⟨m1,m2,h1,_⟩ := h.ex
 exact h1.lt
theorem Mach.first {w : World} {b : Nat} {a : Au} (h : Mach w b a) : w.cell? ⟨b,2,none⟩ = some (.int .i64 a.st) := by
 obtain ⟨m1,m2,h1,_⟩ := h.ex
 exact h1.cell 2

set_option maxHeartbeats 1000000 in
theorem mstep_c (b : Nat) (a : Au) (s e : Int) (w : World) (h : Mach w b a) :
 Calls Tryd.prog 68 #[.pointer (some ⟨b,0,none⟩),.int .i64 s,.int .i64 e] w fun r w' => r = .returned (.int .i64 (toV (stepOf a.ed) s e)) ∧ w = w' := by
 obtain ⟨m1,m2,h1,h2,_⟩ := h.ex
 have c0 : w.cell? ⟨b,0,none⟩ = some (.map (some m1)) := h1.cell 0
 have hl : (Instr.lookup 101 (.map (some m1)) (.agg #[.int .i64 s,.int .i64 e]) true).run Tryd.prog w = .ok (.tuple #[.int .i64 ((stepOf a.ed (s,e)).getD 0),.bool (stepOf a.ed (s,e)).isSome]) w := (MapG.look ok2 Tryd.underlying101 zeroI h2 (s,e)).1
 clear h h1 h2
 unfold toV
 cases hf : stepOf a.ed (s,e) with
 | none =>
   rw [hf] at hl
   clear hf
   go_enter Tryd.func68,Tryd.ntmps68
   go_wp2
   go_ret
   exact ⟨rfl,rfl⟩
 | some t =>
   rw [hf] at hl
   clear hf
   go_enter Tryd.func68,Tryd.ntmps68
   go_wp2
   go_ret
   exact ⟨rfl,rfl⟩

def inV (a : Au) (s kind : Int) : Bool := decide (0 ≤ s) && (decide (kind = 1) || decide (s ∈ a.mr))
set_option maxHeartbeats 1000000 in
theorem min_c (b : Nat) (a : Au) (s kind : Int) (w : World) (h : Mach w b a) :
 Calls Tryd.prog 42 #[.pointer (some ⟨b,0,none⟩),.int .i64 s,.int .i64 kind] w fun r w' => r = .returned (.bool (inV a s kind)) ∧ w = w' := by
 obtain ⟨m1,m2,h1,_,h3⟩ := h.ex
 have c1 : w.cell? ⟨b,1,none⟩ = some (.map (some m2)) := h1.cell 1
 have hl : (Instr.lookup 102 (.map (some m2)) (.int .i64 s) false).run Tryd.prog w = .ok (.bool (decide (s ∈ a.mr))) w := by
  have := (MapG.look okI Tryd.underlying102 zeroB h3 s).2
  rw [setF_getD] at this
  exact this
 clear h h1 h3
 unfold inV
 generalize decide (s ∈ a.mr) = d at *
 by_cases hs : 0 ≤ s
 · have hs' : decide (0 ≤ s) = true := by simpa using hs
   by_cases hk : kind = 1
   · subst hk
     go_enter Tryd.func42,Tryd.ntmps42
     go_wp2
     go_ret
     exact ⟨by simp [hs],rfl⟩
   · have hk' : (kind == 1) = false := by simpa using hk
     go_enter Tryd.func42,Tryd.ntmps42
     go_wp2
     go_ret
     exact ⟨by simp [hs,hk],rfl⟩
 · have hs' : decide (0 ≤ s) = false := by simpa using hs
   go_enter Tryd.func42,Tryd.ntmps42
   go_wp2
   go_ret
   exact ⟨by simp [hs],rfl⟩
section

section
variable {κ β : Type} [DecidableEq κ]
def MapC (key : κ → Value) (ve : β → Value) (w : World) (b : Nat) (f : κ → Option β) (c : Nat) : Prop :=
 ∃ (l : List (κ × β × Nat)) (clock : Nat),w.heap[b]? = some (.map (l.map (entryG key ve)).toArray clock) ∧ (∀ x,f x = valG l x) ∧ l.length = c
variable {key : κ → Value} {ve : β → Value} {w : World} {b c : Nat} {f : κ → Option β}
theorem MapC.g (h : MapC key ve w b f c) : MapG key ve w b f := by
 obtain ⟨l,k,h1,h2,_⟩ := h
 exact ⟨l,k,h1,h2⟩
theorem MapC.made (key : κ → Value) (ve : β → Value) (w : World) : MapC key ve (w.alloc (.map #[] 0)) w.heap.size (fun _ => none) 0 := ⟨[],0,(MapKept.heap_alloc w _).1,fun _ => rfl,rfl⟩
theorem MapC.congr {g : κ → Option β} (h : MapC key ve w b f c) (hg : ∀ x,g x = f x) : MapC key ve w b g c := by
 obtain ⟨l,k,h1,h2,h3⟩ := h
 exact ⟨l,k,h1,fun x => (hg x).trans (h2 x),h3⟩
def eMapC (key : κ → Value) (ve : β → Value) (b : Nat) (f : κ → Option β) (c : Nat) : Ent where
 foot := [b]
 ok w := MapC key ve w b f c
 lt w h k hk := by simp at hk; subst hk; exact h.g.lt
 turn w w' h hg := by
  obtain ⟨l,c,h1,h2⟩ := h
  exact ⟨l,c,(hg b (by simp)).trans h1,h2⟩
theorem MapC.len {P : Program} {M T E : TypeId} (hM : P.underlying M = some (.map T E)) (h : MapC key ve w b f c) (ty : TypeId) : (Builtin.len_ #[M] ty #[.map (some b)]).run P w = .ok (.int .i64 c) w := by
 obtain ⟨l,k,h1,_,h3⟩ := h
 have := run_len_map (P := P) (w := w) M ty b _ k (by simp [Program.mapKeyOf,Program.mapElemOf,hM]) h1
 rw [this]
 simp [goInt,h3]
theorem MapC.store {P : Program} {M T E : TypeId} {D : TypeDesc} (K : KeyG P T D key) (hM : P.underlying M = some (.map T E)) (h : MapC key ve w b f c) (x : κ) (v : β) :
 ∃ w',(Instr.mapUpdate M (.map (some b)) (key x) (ve v)).run P w = .ok () w' ∧ MapC key ve w' b (fun y => if y = x then some v else f y) (if (f x).isSome then c else c + 1) ∧ w.grownBy w' (some b) := by
 obtain ⟨l,clk,hb,hf,hlen⟩ := h
 have hk := findKeyG_run (ve := ve) K x w l
 cases hj : l.findIdx? (fun e => decide (e.1 = x)) with
 | none =>
   rw [hj] at hk
   simp only [Option.bind_none] at hk
   have hfx : f x = none := (hf x).trans (valG_none hj)
   refine ⟨ChangeMaps.setBlock w b (.map ((l ++ [(x,v,clk)]).map (entryG key ve)).toArray (clk + 1)),?_,⟨l ++ [(x,v,clk)],clk + 1,ChangeMaps.heap_setBlock_same hb _,fun y => by rw [findG_push hj]; simp only [hf],by rw [hfx]; simp [hlen]⟩,
    ⟨rfl,rfl,rfl,by simp [ChangeMaps.setBlock],fun i _ hi => ChangeMaps.heap_setBlock_other hb _ (fun e => hi (by rw [e]))⟩⟩
   simp [Instr.mapUpdate,run_underlying hM,MapKept.run_getObj_map hb,K.chk,hk,MapKept.run_setObj_map _ hb,Result.andThen,ChangeMaps.setBlock,entryG]
 | some j =>
   obtain ⟨e,he,h1,h2,h3⟩ := valG_some hj
   have hfx : f x = some e.2.1 := (hf x).trans h2
   rw [hj] at hk
   simp only [Option.bind_some,he,Option.map_some] at hk
   refine ⟨ChangeMaps.setBlock w b (.map ((l.set j (e.1,v,e.2.2)).map (entryG key ve)).toArray clk),?_,⟨l.set j (e.1,v,e.2.2),clk,ChangeMaps.heap_setBlock_same hb _,fun y => by rw [findG_modify hj he]; simp only [hf],by rw [hfx]; simp [hlen]⟩,
    ⟨rfl,rfl,rfl,by simp [ChangeMaps.setBlock],fun i _ hi => ChangeMaps.heap_setBlock_other hb _ (fun e => hi (by rw [e]))⟩⟩
   have hm : (l.map (entryG key ve)).modify j (fun e' => { key := key x,val := ve v,born := e'.born }) = (l.set j (x,v,e.2.2)).map (entryG key ve) := by
    apply List.ext_getElem?
    intro i
    rw [List.getElem?_modify]
    simp only [List.getElem?_map,List.getElem?_set]
    by_cases hij : j = i
    · subst hij
      rw [he]
      simp [h3,entryG]
    · simp [hij]
   simp [Instr.mapUpdate,run_underlying hM,MapKept.run_getObj_map hb,K.chk,hk,he,entryG,h1,K.stay,MapKept.run_setObj_map _ hb,Result.andThen,ChangeMaps.setBlock]
   exact congrArg (fun q => w.heap.setIfInBounds b (Obj.map (List.toArray q) clk)) (by rw [hm,List.map_set]; rfl)
variable {n : Nat} {w0 w' : World} {es : List Ent}
theorem Sep.allocMapC (S : Sep n w0 es w) (key : κ → Value) (ve : β → Value) {g : Nat} (hg : g = w.heap.size) : Sep n w0 (eMapC key ve g (fun _ => none) 0 :: es) (w.alloc (.map #[] 0)) := by
 subst hg
 exact S.new1 (Below.new w _) (eMapC key ve w.heap.size (fun _ => none) 0) (MapC.made key ve w) (by simp [eMapC])
theorem Sep.storeC {P : Program} {M T E : TypeId} {D : TypeDesc} (S : Sep n w0 es w) (i : Nat) (hei : es[i]? = some (eMapC key ve b f c)) (K : KeyG P T D key) (hM : P.underlying M = some (.map T E)) (x : κ) (v : β) :
 ∃ w',(Instr.mapUpdate M (.map (some b)) (key x) (ve v)).run P w = .ok () w' ∧ Sep n w0 (es.set i (eMapC key ve b (fun y => if y = x then some v else f y) (if (f x).isSome then c else c + 1))) w' ∧ Off [b] w w' := by
 obtain ⟨w',h1,h2,h3⟩ := MapC.store K hM (S.get i hei) x v
 exact ⟨w',h1,S.chg i hei _ (Off.grown h3) h2 (fun g hg => .inl hg),Off.grown h3⟩
theorem wpList_mapUpdateC {P : Program} {ops : Array Oper} {rest : List Oper} {o : Oper} {a : Act} {Q : Exit → Act → World → Prop}
 (hg : o.guard = none) (m x v : Operand) (M T E : TypeId) (hop : o.op = Op.mapUpdate M m x v) {D : TypeDesc} (S : Sep n w0 es w) (i : Nat) (hei : es[i]? = some (eMapC key ve b f c)) (K : KeyG P T D key) (hM : P.underlying M = some (.map T E))
 (y : κ) (z : β) (hnew : f y = none) (hm : a.eval m = .map (some b)) (hx : a.eval x = key y) (hv : a.eval v = ve z)
 (hK : ∀ w',Sep n w0 (es.set i (eMapC key ve b (fun u => if u = y then some z else f u) (c + 1))) w' → Off [b] w w' → wpList P ops Q rest (a.put o.dst undef) w') :
 wpList P ops Q (o :: rest) a w := by
 refine wpList_plain hg fun K' hK' => ?_
 obtain ⟨w',hrun,r1,r2⟩ := S.storeC i hei K hM y z
 unfold Oper.wp
 simp [execOp,hop,hm,hx,hv,hrun,Result.andThen]
 exact hK' _ _ (hK w' (by rw [hnew] at r1; exact r1) r2)
end

def keyS (s : ByteArray) : Value := .string s
theorem beqS (x y : ByteArray) : (x == y) = decide (x = y) := by
 by_cases h : x = y
 · rw [decide_eq_true h]; exact (MapKept.bytes_beq x y).2 h
 · rw [decide_eq_false h]
   cases hb : x == y with
   | false => rfl
   | true => exact absurd ((MapKept.bytes_beq x y).1 hb) h
theorem okS : KeyG Tryd.prog 9 .string keyS := ⟨Tryd.underlying9,fun x y w => by
 simp only [Op.equal,Op.maxDepth,keyS]
 rw [Op.equalIn]
 simp only [Sem.run_bind,run_underlying Tryd.underlying9,Result.andThen_ok,Sem.run_pure,beqS],fun em x w => by cases em <;> kernel_rfl,fun x w => by simp [Instr.keyThatStays,keyS,Instr.sameBits,beqS],.inr fun x y => by
 simp [Instr.sameNow,keyS,beqS],fun x y h => by simpa [keyS] using h⟩
theorem makeMap_n (M T E : TypeId) (hM : Tryd.prog.underlying M = some (.map T E)) (n : Int) (w : World) : (Instr.makeMap M (some (.int .i64 n))).run Tryd.prog w = .ok (.map (some w.heap.size)) (w.alloc (.map #[] 0)) := by
 simp [Instr.makeMap,run_underlying hM,Result.andThen,asInt]
 first | rfl | done
end
end Go.Proofs.YtkifgffhoenaoaaDoor
