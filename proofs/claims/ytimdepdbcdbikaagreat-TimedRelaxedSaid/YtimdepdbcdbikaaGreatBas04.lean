/-
  Plain: classes of states that are refined till nothing parts them; what the minimal automaton is.
  Plain: what merge and Restrict build out of an automaton.
  minimal.appendInt, refine.
  The reference of layer 3: has, Step, index, Empty.
  Plain laws: the states that are found, and the canonical automaton.
  The states that are found.
  The canonical automaton.
  overseerref09.All and overseerlaw09.Even.
  minimal.edges: the edges of each state.
  minimal.classes: its two keys.
  minimal.classes: the classes of states that nothing tells apart.
  Plain: marks of what is built; how many states there are.
  minimal.merge: the automaton of the classes.
  minimal.union: the events of two alphabets.
  minimal.step: the state to which the edge by an event leads, or -1.
  slices: Clone and Equal of ints.
  slices.Equal of edges; automaton.Equal.
  Plain: where the edges of a state begin; the states from which others are reached.
  minimal.distinguish of right automata.
-/
import Derived.Test.YtimdepdbcdbikaaGreatBas03
import Derived.Test.YtimdepdbcdbikaaGreatBas01
import Derived.StillTailTactics
import Derived.Deep.RegionLaw
import Derived.Deep.DeepCutAuto
import Derived.Deep.CutBlock
import Derived.Laws.BytesArg
import Derived.BigQuiet
set_option linter.unusedSimpArgs false
set_option linter.unusedVariables false
namespace Go.Proofs.YtimdepdbcdbikaaGreat
open Go.RowKit
set_option maxRecDepth 100000
section

section
variable {κ : Type} [DecidableEq κ]
def seenK : List κ → List κ → List κ
 | s,[] => s
 | s,k :: r => if k ∈ s then seenK s r else seenK (s ++ [k]) r
def idxK (l : List κ) (k : κ) : Nat := l.findIdx fun y => decide (y = k)
theorem idxK_lt {l : List κ} {k : κ} (h : k ∈ l) : idxK l k < l.length := List.findIdx_lt_length_of_exists ⟨k,h,by simp⟩
theorem idxK_get {l : List κ} {k : κ} (h : k ∈ l) : l[idxK l k]? = some k := by
 have h1 := idxK_lt h
 rw [List.getElem?_eq_getElem h1]
 have := List.findIdx_getElem (xs := l) (p := fun y => decide (y = k)) (w := h1)
 simp at this
 exact congrArg some this
theorem idxK_app {l : List κ} {k : κ} (h : k ∈ l) (r : List κ) : idxK (l ++ r) k = idxK l k := by
 have h1 := idxK_lt h
 unfold idxK at h1 ⊢
 rw [List.findIdx_append,if_pos h1]
theorem idxK_new {l : List κ} {k : κ} (h : ¬ k ∈ l) : idxK (l ++ [k]) k = l.length := by
 unfold idxK
 have : l.findIdx (fun y => decide (y = k)) = l.length := List.findIdx_eq_length_of_false fun x hx => by simp; rintro rfl; exact h hx
 rw [List.findIdx_append,if_neg (by omega)]
 simp
def numK (l : List κ) : List Int := l.map fun k => ((idxK (seenK [] l) k : Nat) : Int)
def cntK (l : List κ) : Nat := (seenK [] l).length
end

structure Canon (c : List Int) (m : Nat) : Prop where
 rg : ∀ (s : Nat) x,c[s]? = some x → 0 ≤ x ∧ x < m
 on : ∀ y : Nat,y < m → ∃ s : Nat,c[s]? = some (y : Int)
 cn : ∀ (s : Nat) x,c[s]? = some x → ∀ y : Nat,(y : Int) < x → ∃ t : Nat,t < s ∧ c[t]? = some (y : Int)
theorem sub_len : ∀ (l l' : List Nat),l.Nodup → (∀ x,x ∈ l → x ∈ l') → l.length ≤ l'.length
 | [],_,_,_ => by simp
 | a :: l,l',hn,h => by
   rw [List.nodup_cons] at hn
   have ha := h a (by simp)
   have := sub_len l (l'.erase a) hn.2 fun x hx => (List.mem_erase_of_ne (by rintro rfl; exact hn.1 hx)).2 (h x (by simp [hx]))
   rw [List.length_erase_of_mem ha] at this
   have := List.length_pos_of_mem ha
   simp only [List.length_cons]
   omega
theorem pigeon (f : Nat → Nat) (m m' : Nat) (h : ∀ x,x < m → ∃ y,y < m' ∧ f y = x) : m ≤ m' ∧ (m = m' → ∀ y y',y < m' → y' < m' → f y = f y' → y = y') := by
 constructor
 · have := sub_len (List.range m) ((List.range m').map f) List.nodup_range fun x hx => by
    obtain ⟨y,h1,h2⟩ := h x (by simpa using hx)
    exact List.mem_map.2 ⟨y,by simpa using h1,h2⟩
   simpa using this
 · rintro rfl y y' hy hy' he
   by_cases e : y = y'
   · exact e
   · have := sub_len (List.range m) (((List.range m).erase y').map f) List.nodup_range fun x hx => by
      obtain ⟨z,h1,h2⟩ := h x (by simpa using hx)
      by_cases ez : z = y'
      · subst ez
        exact List.mem_map.2 ⟨y,(List.mem_erase_of_ne e).2 (by simpa using hy),by rw [he,h2]⟩
      · exact List.mem_map.2 ⟨z,(List.mem_erase_of_ne ez).2 (by simpa using h1),h2⟩
     rw [List.length_map,List.length_erase_of_mem (by simpa using hy')] at this
     simp at this
     omega

def Eqv (a : Au) (i j : Int) : Prop := ∀ w,(0 ≤ runV a.ed i w ↔ 0 ≤ runV a.ed j w) ∧ (runV a.ed i w ∈ a.mr ↔ runV a.ed j w ∈ a.mr)
theorem Eqv.next {a : Au} {i j : Int} (h : Eqv a i j) (hi : 0 ≤ i) (hj : 0 ≤ j) (e : Int) : Eqv a (nextV a.ed i e) (nextV a.ed j e) := fun w => by
 have := h (e :: w)
 simpa only [runV,hi,hj,if_true] using this
def clsV (c : List Int) (s : Int) : Int := c.getD s.toNat 0
def sigV (a : Au) (c : List Int) (s : Nat) : Int × List (Int × Int) := (c.getD s 0,(outOf a.ed s).map fun x => (x.ev,clsV c x.dst))
structure Moore (a : Au) (c : List Int) (m : Nat) : Prop where
 len : c.length = a.n.toNat
 can : Canon c m
 mkd : ∀ i j : Nat,i < c.length → c[i]? = c[j]? → ((i : Int) ∈ a.mr ↔ (j : Int) ∈ a.mr)
 eq : ∀ i j : Nat,i < c.length → j < c.length → Eqv a i j → c[i]? = c[j]?
section
variable {a : Au} {c c' : List Int} {m m' : Nat}
theorem getD_some {l : List Int} {i : Nat} {x : Int} (h : l[i]? = some x) (d : Int) : l.getD i d = x := by rw [List.getD_eq_getElem?_getD,h]; rfl
theorem outOf_rises (hr : a.Right) (s : Nat) : Rises (fun x y : Ed => x.ev < y.ev) (outOf a.ed s) := by
 have h1 : (a.ed).Pairwise edLt := List.pairwise_iff_getElem.2 fun i j hi hj hij => hr.lex i j _ _ hij (List.getElem?_eq_getElem hi) (List.getElem?_eq_getElem hj)
 have h2 : (outOf a.ed s).Pairwise edLt := h1.filter _
 intro i j x y hij hx hy
 obtain ⟨hi,hix⟩ := List.getElem?_eq_some_iff.1 hx
 obtain ⟨hj,hjy⟩ := List.getElem?_eq_some_iff.1 hy
 have h3 := List.pairwise_iff_getElem.1 h2 i j hi hj hij
 rw [hix,hjy] at h3
 have e1 := List.mem_of_getElem? hx
 have e2 := List.mem_of_getElem? hy
 simp only [outOf,List.mem_filter,decide_eq_true_eq] at e1 e2
 rcases h3 with g | g
 · omega
 · exact g.2
theorem mem_outOf {l : List Ed} {s : Nat} {x : Ed} : x ∈ outOf l s ↔ x ∈ l ∧ x.src = (s : Int) := by simp [outOf]
theorem edge_next (hr : a.Right) {x : Ed} (hx : x ∈ a.ed) : nextV a.ed x.src x.ev = x.dst ∧ 0 ≤ x.src ∧ x.src < a.n ∧ 0 ≤ x.dst ∧ x.dst < a.n := by
 obtain ⟨p,hp,hpx⟩ := List.mem_iff_getElem.1 hx
 have h := List.getElem?_eq_getElem hp
 rw [hpx] at h
 have := hr.edge h
 exact ⟨hr.nextE h,this.1,this.2.1,this.2.2.1,this.2.2.2.1⟩
theorem sig_sub (hr : a.Right) (h : Moore a c m) {i j : Nat} (hi : i < c.length) (hj : j < c.length) (he : Eqv a i j) : ∀ p : Int × Int,p ∈ (outOf a.ed i).map (fun x => (x.ev,clsV c x.dst)) → p ∈ (outOf a.ed j).map (fun x => (x.ev,clsV c x.dst)) := by
 intro p hp
 obtain ⟨x,hx,rfl⟩ := List.mem_map.1 hp
 obtain ⟨hx1,hx2⟩ := mem_outOf.1 hx
 obtain ⟨k1,k2,k3,k4,k5⟩ := edge_next hr hx1
 have h0 := he.next (by omega) (by omega) x.ev
 rw [← hx2,k1] at h0
 rcases hr.next_cases j x.ev with g | ⟨g0,g1,y,hy,y1,y2,y3⟩
 · have := (h0 []).1.1 k4
   simp only [runV] at this
   omega
 · refine List.mem_map.2 ⟨y,mem_outOf.2 ⟨hy,y1⟩,?_⟩
   rw [← y3] at h0
   have hn := h.len
   have := h.eq x.dst.toNat y.dst.toNat (by omega) (by omega) (by
    rw [Int.toNat_of_nonneg k4,Int.toNat_of_nonneg (by omega)]; exact h0)
   rw [y2]
   unfold clsV
   rw [List.getD_eq_getElem?_getD,List.getD_eq_getElem?_getD,this]
theorem Eqv.symm {a : Au} {i j : Int} (h : Eqv a i j) : Eqv a j i := fun w => ⟨(h w).1.symm,(h w).2.symm⟩
theorem sig_rises (hr : a.Right) (c : List Int) (s : Nat) : Rises (fun x y : Int × Int => x.1 < y.1) ((outOf a.ed s).map fun x => (x.ev,clsV c x.dst)) := by
 intro i j x y hij hx hy
 rw [List.getElem?_map,Option.map_eq_some_iff] at hx hy
 obtain ⟨u,hu,rfl⟩ := hx
 obtain ⟨v,hv,rfl⟩ := hy
 exact outOf_rises hr s i j u v hij hu hv
theorem sig_eqv (hr : a.Right) (h : Moore a c m) {i j : Nat} (hi : i < c.length) (hj : j < c.length) (he : Eqv a i j) : sigV a c i = sigV a c j := by
 unfold sigV
 have h1 := h.eq i j hi hj he
 rw [List.getD_eq_getElem?_getD,h1,← List.getD_eq_getElem?_getD]
 congr 1
 refine Rises.ext (R := fun x y : Int × Int => x.1 < y.1) (fun x => by omega) (fun x y => by omega) (sig_rises hr c i) (sig_rises hr c j) fun p => ⟨sig_sub hr h hi hj he p,sig_sub hr h hj hi he.symm p⟩
theorem Moore.first (h : c.length = a.n.toNat) (hc : Canon c m) (hk : ∀ i j : Nat,i < c.length → j < c.length → (c[i]? = c[j]? ↔ ((i : Int) ∈ a.mr ↔ (j : Int) ∈ a.mr))) : Moore a c m := by
 refine ⟨h,hc,fun i j hi hij => ?_,fun i j hi hj he => (hk i j hi hj).2 ((he []).2)⟩
 have hj : j < c.length := by
  rw [List.getElem?_eq_getElem hi] at hij
  exact (List.getElem?_eq_some_iff.1 hij.symm).1
 exact (hk i j hi hj).1 hij
theorem Moore.step (hr : a.Right) (h : Moore a c m) (hl : c'.length = a.n.toNat) (hc : Canon c' m') (hk : ∀ i j : Nat,i < c'.length → j < c'.length → (c'[i]? = c'[j]? ↔ sigV a c i = sigV a c j)) : Moore a c' m' := by
 have hlc : c'.length = c.length := by rw [hl,h.len]
 refine ⟨hl,hc,fun i j hi hij => ?_,fun i j hi hj he => (hk i j hi hj).2 (sig_eqv hr h (by omega) (by omega) he)⟩
 have hj : j < c'.length := by
  rw [List.getElem?_eq_getElem hi] at hij
  exact (List.getElem?_eq_some_iff.1 hij.symm).1
 have h2 := congrArg Prod.fst ((hk i j hi hj).1 hij)
 refine h.mkd i j (by omega) ?_
 simp only [sigV] at h2
 rw [getD_lt _ (by omega),getD_lt _ (by omega)] at h2
 rw [List.getElem?_eq_getElem (by omega),List.getElem?_eq_getElem (by omega),h2]
theorem Moore.count (h : Moore a c m) (hl : c'.length = a.n.toNat) (hc : Canon c' m') (hk : ∀ i j : Nat,i < c'.length → j < c'.length → (c'[i]? = c'[j]? ↔ sigV a c i = sigV a c j)) :
 m ≤ m' ∧ (m = m' → ∀ i j : Nat,i < c.length → j < c.length → c[i]? = c[j]? → c'[i]? = c'[j]?) := by
 have hlc : c'.length = c.length := by rw [hl,h.len]
 have ref : ∀ i j : Nat,i < c'.length → j < c'.length → c'[i]? = c'[j]? → c[i]? = c[j]? := fun i j hi hj he => by
  have h2 := congrArg Prod.fst ((hk i j hi hj).1 he)
  simp only [sigV] at h2
  rw [getD_lt _ (by omega),getD_lt _ (by omega)] at h2
  rw [List.getElem?_eq_getElem (by omega),List.getElem?_eq_getElem (by omega),h2]
 obtain ⟨f,hf⟩ : ∃ f : Nat → Nat,∀ (s : Nat) (y : Nat),c'[s]? = some (y : Int) → c[s]? = some ((f y : Nat) : Int) := by
  refine ⟨fun y => (c.getD (c'.findIdx fun z => decide (z = (y : Int))) 0).toNat,fun s y hs => ?_⟩
  have hm := List.mem_of_getElem? hs
  have h1 : idxK c' (y : Int) < c'.length := idxK_lt hm
  have h2 : c'[idxK c' (y : Int)]? = some (y : Int) := idxK_get hm
  have hsl := (List.getElem?_eq_some_iff.1 hs).1
  have h3 := ref s (idxK c' (y : Int)) hsl h1 (by rw [hs,h2])
  have h4 : c[s]? = some c[s] := List.getElem?_eq_getElem (by omega)
  have h5 := (h.can.rg s _ h4).1
  rw [h3] at h4
  show c[s]? = some (((c.getD (idxK c' (y : Int)) 0).toNat : Nat) : Int)
  rw [h3,getD_some h4,Int.toNat_of_nonneg h5,h4]
 have hp := pigeon f m m' (fun x hx => by
  obtain ⟨s,hs⟩ := h.can.on x hx
  have hsl := (List.getElem?_eq_some_iff.1 hs).1
  obtain ⟨y,hy⟩ : ∃ y,c'[s]? = some y := ⟨_,List.getElem?_eq_getElem (by omega)⟩
  have hr := hc.rg s y hy
  refine ⟨y.toNat,by omega,?_⟩
  have := hf s y.toNat (by rw [hy,Int.toNat_of_nonneg hr.1])
  rw [hs] at this
  have := Option.some.inj this
  omega)
 refine ⟨hp.1,fun e i j hi hj hij => ?_⟩
 obtain ⟨y,hy⟩ : ∃ y,c'[i]? = some y := ⟨_,List.getElem?_eq_getElem (by omega)⟩
 obtain ⟨z,hz⟩ : ∃ z,c'[j]? = some z := ⟨_,List.getElem?_eq_getElem (by omega)⟩
 have ry := hc.rg i y hy
 have rz := hc.rg j z hz
 have e1 := hf i y.toNat (by rw [hy,Int.toNat_of_nonneg ry.1])
 have e2 := hf j z.toNat (by rw [hz,Int.toNat_of_nonneg rz.1])
 rw [hij,e2] at e1
 have e3 : ((f z.toNat : Nat) : Int) = (f y.toNat : Nat) := Option.some.inj e1
 have := hp.2 e y.toNat z.toNat (by omega) (by omega) (by omega)
 rw [hy,hz]
 congr 1
 omega
theorem Moore.fin (hr : a.Right) (h : Moore a c m) (hl : c'.length = a.n.toNat) (hc : Canon c' m) (hk : ∀ i j : Nat,i < c'.length → j < c'.length → (c'[i]? = c'[j]? ↔ sigV a c i = sigV a c j)) :
 ∀ i j : Nat,i < c'.length → j < c'.length → (c'[i]? = c'[j]? ↔ Eqv a i j) := by
 have M' := h.step hr hl hc hk
 have back := (h.count hl hc hk).2 rfl
 have hlc : c'.length = c.length := by rw [hl,h.len]
 intro i j hi hj
 refine ⟨fun hij w => ?_,fun he => M'.eq i j hi hj he⟩
 have key : ∀ (w : List Int) (i j : Nat),i < c'.length → j < c'.length → c'[i]? = c'[j]? → (0 ≤ runV a.ed i w ↔ 0 ≤ runV a.ed j w) ∧ (runV a.ed i w ∈ a.mr ↔ runV a.ed j w ∈ a.mr) := by
  intro w
  induction w with
  | nil => intro i j hi hj hij; exact ⟨by simp only [runV]; omega,M'.mkd i j hi hij⟩
  | cons e w ih =>
    intro i j hi hj hij
    have i0 : (0 : Int) ≤ (i : Int) := by omega
    have j0 : (0 : Int) ≤ (j : Int) := by omega
    simp only [runV,i0,j0,if_true]
    have hs := congrArg Prod.snd ((hk i j hi hj).1 hij)
    simp only [sigV] at hs
    have one : ∀ (i j : Nat),(outOf a.ed i).map (fun x => (x.ev,clsV c x.dst)) = (outOf a.ed j).map (fun x => (x.ev,clsV c x.dst)) → ∀ x,x ∈ a.ed → x.src = (i : Int) → x.ev = e → ∃ y,y ∈ a.ed ∧ y.src = (j : Int) ∧ y.ev = e ∧ clsV c y.dst = clsV c x.dst := fun i j hs x hx h1 h2 => by
     have : (x.ev,clsV c x.dst) ∈ (outOf a.ed j).map (fun x => (x.ev,clsV c x.dst)) := by rw [← hs]; exact List.mem_map.2 ⟨x,mem_outOf.2 ⟨hx,h1⟩,rfl⟩
     obtain ⟨y,hy,hyx⟩ := List.mem_map.1 this
     obtain ⟨y1,y2⟩ := mem_outOf.1 hy
     rw [Prod.mk.injEq] at hyx
     exact ⟨y,y1,y2,by rw [hyx.1,h2],hyx.2⟩
    have neg : ∀ x : Int,x = -1 → ∀ w,¬ 0 ≤ runV a.ed x w ∧ ¬ runV a.ed x w ∈ a.mr := fun x hx w => by
     rw [runV_neg _ (by omega)]
     exact ⟨by omega,fun hm => by have := (hr.mem hm).1; omega⟩
    rcases hr.next_cases i e with g | ⟨g0,g1,x,hx,x1,x2,x3⟩ <;> rcases hr.next_cases j e with g' | ⟨g0',g1',y,hy,y1,y2,y3⟩
    · exact ⟨⟨fun q => absurd q (neg _ g w).1,fun q => absurd q (neg _ g' w).1⟩,⟨fun q => absurd q (neg _ g w).2,fun q => absurd q (neg _ g' w).2⟩⟩
    · obtain ⟨x,hx,h1,h2,_⟩ := one j i hs.symm y hy y1 y2
      have := edge_next hr hx
      rw [h1,h2] at this; omega
    · obtain ⟨y,hy,h1,h2,_⟩ := one i j hs x hx x1 x2
      have := edge_next hr hy
      rw [h1,h2] at this; omega
    · obtain ⟨z,hz,z1,z2,z3⟩ := one i j hs x hx x1 x2
      obtain rfl : z = y := hr.uniq hz hy (by omega) (by omega)
      have hn := h.len
      have b1 := edge_next hr hx
      have b2 := edge_next hr hz
      rw [← x3,← y3]
      have p1 : x.dst.toNat < c.length := by omega
      have p2 : z.dst.toNat < c.length := by omega
      have := back x.dst.toNat z.dst.toNat p1 p2 (by
       unfold clsV at z3
       rw [getD_lt _ p1,getD_lt _ p2] at z3
       rw [List.getElem?_eq_getElem p1,List.getElem?_eq_getElem p2,z3])
      have q := ih x.dst.toNat z.dst.toNat (by omega) (by omega) this
      rw [Int.toNat_of_nonneg (by omega),Int.toNat_of_nonneg (by omega)] at q
      exact q
 exact key w i j hi hj hij
end

structure Mini (a m : Au) : Prop where
 al : m.al = a.al
 rt : m.Right
 num : Num m.ed m.n
 gen : ∀ w,0 ≤ rn m w ↔ 0 ≤ rn a w
 mkd : ∀ w,rn m w ∈ m.mr ↔ rn a w ∈ a.mr
 ds : ∀ i j : Int,0 ≤ i → i < m.n → 0 ≤ j → j < m.n → Eqv m i j → i = j
structure Trimd (a t : Au) : Prop where
 al : t.al = a.al
 rt : t.Right
 num : Num t.ed t.n
 co : ∀ i : Int,0 ≤ i → i < t.n → ∃ w,runV t.ed i w ∈ t.mr
 lang : ∀ w,rn t w ∈ t.mr ↔ rn a w ∈ a.mr
end
section

section
variable {a : Au}
def outK (a : Au) (keep : Int → Bool) (v : Int) : List (Int × Int) := ((outOf a.ed v.toNat).filter fun x => keep x.dst).map fun x => (x.ev,x.dst)
def runK (a : Au) (keep : Int → Bool) : Int → List Int → Option Int
 | v,[] => some v
 | v,e :: r => if 0 ≤ nextV a.ed v e ∧ keep (nextV a.ed v e) = true then runK a keep (nextV a.ed v e) r else none
end
end
def encB (x : Int) : List Value := [.int .u8 x]
abbrev eBytes (l : List Int) (v : Value) : Ent := eOwn encB 1 5 l v
def two (x : Int) : List Int := [x / 256,x % 256]
def GivesP (n0 : Nat) (w0 : World) (es : List Ent) (i : Nat) (l : List Int) (e : Ending) (w' : World) : Prop := ∃ A c,e = .returned (.slice A l.length c) ∧ Hid (Sep n0 w0 (es.set i (eBytes l (.slice A l.length c))) w')
def GivesF (n : Nat) (l : List ByteArray) (w : World) (e : Ending) (w' : World) : Prop :=
 ∃ g,e = .returned (.tuple #[.slice (some ⟨g,0,none⟩) n n,.int .i64 (cntK l)]) ∧ Hid (Sep w.heap.size w [eBlk g 3 ((numK l).map (Value.int .i64))] w')
def idxF {κ : Type} [DecidableEq κ] (D : List κ) (y : κ) : Option Int := if y ∈ D then some ((idxK D y : Nat) : Int) else none
def nums (n : Nat) (l : List ByteArray) : List Value := (numK l).map (Value.int .i64) ++ List.replicate (n - l.length) (.int .i64 0)

def addV (out : List Int) (t : Int) : List Int := if 0 ≤ t ∧ ¬ t ∈ out then out ++ [t] else out
def scanV (ed : List Ed) (s : Int) (al : List Int) (out : List Int) : List Int := al.foldl (fun out e => addV out (nextV ed s e)) out
def foundL (au : Au) : Nat → Nat → List Int → List Int
 | 0,_,out => out
 | f + 1,i,out => match out[i]? with
   | some s => foundL au f (i + 1) (scanV au.ed s au.al out)
   | none => out
def foundV (au : Au) : List Int := if 0 < au.n then foundL au (au.n.toNat + 1) 0 [0] else []
structure Sts (n : Int) (l : List Int) : Prop where
 nd : l.Nodup
 rg : ∀ x,x ∈ l → 0 ≤ x ∧ x < n
theorem nodup_len : ∀ (n : Nat) (l : List Int),l.Nodup → (∀ x,x ∈ l → 0 ≤ x ∧ x < (n : Int)) → l.length ≤ n
 | 0,l,_,h => by
   cases l with
   | nil => simp
   | cons a l => have := h a (by simp); omega
 | n + 1,l,hd,h => by
   by_cases hm : (n : Int) ∈ l
   · have h1 := nodup_len n (l.erase (n : Int)) (hd.erase _) (fun x hx => by
      have h2 := (hd.mem_erase_iff).1 hx
      have := h x h2.2
      have := h2.1
      omega)
     have := List.length_erase_of_mem hm
     omega
   · have := nodup_len n l hd (fun x hx => by
      have := h x hx
      by_cases e : x = n
      · subst e; exact absurd hx hm
      · omega)
     omega
theorem Sts.len {n : Int} {l : List Int} (h : Sts n l) (hn : 0 ≤ n) : l.length ≤ n.toNat := nodup_len n.toNat l h.nd fun x hx => by have := h.rg x hx; omega
theorem Sts.add {n : Int} {l : List Int} (h : Sts n l) {t : Int} (ht : t < n) : Sts n (addV l t) := by
 unfold addV
 split
 · rename_i h1
   refine ⟨?_,fun x hx => ?_⟩
   · rw [List.nodup_append]
     refine ⟨h.nd,by simp,fun a ha b hb => ?_⟩
     simp at hb; subst hb
     intro e; subst e; exact h1.2 ha
   · simp only [List.mem_append,List.mem_singleton] at hx
     rcases hx with hx | rfl
     · exact h.rg x hx
     · exact ⟨h1.1,ht⟩
 · exact h
def Leads (au : Au) : Prop := ∀ x,x ∈ au.ed → 0 ≤ x.dst ∧ x.dst < au.n
theorem nextV_mem {l : List Ed} {s e : Int} : nextV l s e = -1 ∨ ∃ x,x ∈ l ∧ x.src = s ∧ x.ev = e ∧ x.dst = nextV l s e := by
 unfold nextV
 cases hf : l.find? (fun x => decide (x.src = s) && decide (x.ev = e)) with
 | none => exact .inl rfl
 | some x =>
   have h2 := List.find?_some hf
   simp at h2
   exact .inr ⟨x,List.mem_of_find?_eq_some hf,h2.1,h2.2,rfl⟩
theorem Leads.next {au : Au} (h : Leads au) (s e : Int) (hn : 0 ≤ au.n) : nextV au.ed s e < au.n ∧ -1 ≤ nextV au.ed s e := by
 rcases nextV_mem (l := au.ed) (s := s) (e := e) with h1 | ⟨x,hx,_,_,h1⟩
 · omega
 · have := h x hx; omega
theorem addV_pre (l : List Int) (t : Int) : l <+: addV l t := by
 unfold addV; split
 · exact List.prefix_append ..
 · exact List.prefix_refl _
theorem scanV_pre (ed : List Ed) (s : Int) : ∀ (al l : List Int),l <+: scanV ed s al l
 | [],l => List.prefix_refl l
 | e :: r,l => (addV_pre l (nextV ed s e)).trans (scanV_pre ed s r (addV l (nextV ed s e)))
theorem scanV_has (ed : List Ed) (s : Int) : ∀ (al l : List Int) (e : Int),e ∈ al → 0 ≤ nextV ed s e → nextV ed s e ∈ scanV ed s al l
 | a :: r,l,e,he,h0 => by
   rcases List.mem_cons.1 he with rfl | he
   · refine (scanV_pre ed s r (addV l (nextV ed s e))).subset ?_
     unfold addV; split
     · simp
     · rename_i h; exact Classical.not_not.1 (fun hm => h ⟨h0,hm⟩)
   · exact scanV_has ed s r _ e he h0
def Closed (au : Au) (i : Nat) (l : List Int) : Prop := ∀ j s e,j < i → l[j]? = some s → e ∈ au.al → 0 ≤ nextV au.ed s e → nextV au.ed s e ∈ l
theorem Closed.round {au : Au} {i : Nat} {l : List Int} {s : Int} (h : Closed au i l) (hs : l[i]? = some s) : Closed au (i + 1) (scanV au.ed s au.al l) := by
 intro j x e hj hx he h0
 have hp := scanV_pre au.ed s au.al l
 have hi := (List.getElem?_eq_some_iff.1 hs).1
 have hjl : l[j]? = some x := by
  have hjl : j < l.length := by omega
  have h1 := List.IsPrefix.getElem hp hjl
  rw [List.getElem?_eq_getElem (Nat.lt_of_lt_of_le hjl hp.length_le)] at hx
  rw [List.getElem?_eq_getElem hjl,h1]; exact hx
 by_cases e1 : j = i
 · subst e1; rw [hs] at hjl; cases hjl; exact scanV_has au.ed s au.al l e he h0
 · exact hp.subset (h j x e (by omega) hjl he h0)
structure FoundOk (au : Au) (l : List Int) : Prop where
 st : Sts au.n l
 cl : Closed au l.length l
 z : 0 < au.n → l[0]? = some 0
 e : au.n ≤ 0 → l = []
def rowV (ed : List Ed) (fd : List Int) (i : Nat) (al : List Int) : List Ed := al.filterMap fun e => if 0 ≤ nextV ed (fd.getD i 0) e then some ⟨(i : Int),e,idxV fd (nextV ed (fd.getD i 0) e)⟩ else none
def rowsV (ed : List Ed) (fd : List Int) (al : List Int) (k : Nat) : List Ed := (List.range k).flatMap fun i => rowV ed fd i al
def marksV (mr fd : List Int) (k : Nat) : List Int := ((List.range k).filter fun i => decide (fd.getD i 0 ∈ mr)).map fun (i : Nat) => (i : Int)
def canonV (au : Au) : Au := ⟨au.al,(foundV au).length,marksV au.mr (foundV au) (foundV au).length,rowsV au.ed (foundV au) au.al (foundV au).length⟩
theorem incr.setOk {l : List Int} {n : Int} (h : Go.Proofs.YtimdepdbcdbikaaGreat.incr l) (hr : ∀ x,x ∈ l → 0 ≤ x ∧ x < n) : setOk l n l.length := fun i x hi hx => by
 have := hr x (List.mem_of_getElem? hx)
 exact ⟨this.1,this.2,fun y h0 hy => h (i - 1) i y x (by omega) hy hx⟩
def lexLt (x y : Ed) : Prop := x.src < y.src ∨ x.src = y.src ∧ x.ev < y.ev
theorem incr.pw {l : List Int} (h : Go.Proofs.YtimdepdbcdbikaaGreat.incr l) : l.Pairwise (· < ·) := by
 rw [List.pairwise_iff_getElem]
 intro i j hi hj hij
 exact h i j _ _ hij (List.getElem?_eq_getElem hi) (List.getElem?_eq_getElem hj)
structure Raw (au : Au) : Prop where
 al : setOk au.al 32 au.al.length
 n0 : 0 ≤ au.n
 n1 : au.n ≤ 4096
 ld : Leads au
theorem IntsAt.found {w : World} {A : Option Addr} {l : List Int} (h : IntsAt w A l) {k : Nat} {x : Int} (hx : l[k]? = some x) : ∃ b off,A = some ⟨b,off,none⟩ ∧ b < w.heap.size ∧ w.cell? ⟨b,off + k,none⟩ = some (.int .i64 x) := by
 obtain ⟨b,off,y,hA,hb,hy,hc⟩ := IntsAt.at h (List.getElem?_eq_some_iff.1 hx).1
 rw [hx] at hy; cases hy
 exact ⟨b,off,hA,hb,hc⟩
section

structure OutSt (b : Nat) (nn : Int) (v1 v2 v3 : Value) (ms : List Int) (es : List Ed) (w : World) : Prop where
 blk : BlkAt w b 34 [v1,.int .i64 nn,v2,v3]
 o2 : OwnI (b + 1) ms v2 w
 o3 : Own Ed.cells 3 76 (b + 1) es v3 w
 d : ∀ g,v2.ownBlock = some g → v3.ownBlock ≠ some g
section
variable {b : Nat} {nn : Int} {v1 v2 v3 : Value} {ms : List Int} {es : List Ed} {w w1 : World}
theorem OutSt.below (h : OutSt b nn v1 v2 v3 ms es w) (hb : Below w.heap.size w w1) : OutSt b nn v1 v2 v3 ms es w1 :=
 ⟨h.blk.below hb h.blk.lt,h.o2.below hb (Nat.le_refl _),h.o3.below hb (Nat.le_refl _),h.d⟩
theorem OutSt.z (h : OutSt b nn v1 v2 v3 ms es w) (o : Obj) : b + 1 ≤ (w.alloc o).heap.size := by have := h.blk.lt; simp only [World.size_alloc]; omega
theorem OutSt.edge (h : OutSt b nn v1 v2 v3 ms es w) {v3' : Value} {es' : List Ed} (ho : Own Ed.cells 3 76 (b + 1) es' v3' w1) (hg : w.grownBy w1 v3.ownBlock) (hat : v3'.ownBlock = v3.ownBlock ∨ v3'.ownBlock = some w.heap.size) :
 OutSt b nn v1 v2 v3' ms es' (w1.setCell ⟨b,3,none⟩ v3') := by
 have hd : ∀ g,v2.ownBlock = some g → v3'.ownBlock ≠ some g := fun g hg' h3 => by
  rcases hat with e | e
  · exact h.d g hg' (e ▸ h3)
  · rw [e] at h3; cases h3; exact Nat.lt_irrefl _ (h.o2.lt _ hg').2
 refine ⟨?_,ownsRow_setCell_below (h.o2.kept hg ?_) (Nat.lt_succ_self _) _,ownsRow_setCell_below ho (Nat.lt_succ_self _) _,hd⟩
 · exact (h.blk.grown hg (fun e => by have := (h.o3.lt _ e.symm).1; omega)).set_ 3 v3'
 · cases h2 : v2.ownBlock with
   | none => exact .inl rfl
   | some g => exact .inr (fun e => h.d g h2 e.symm)
end
end
theorem SlAt.blk {α : Type} {enc : α → List Value} {k : Nat} (hk : ∀ x,(enc x).length = k) {w : World} {g : Nat} {T : TypeId} (l : List α) (h : BlkAt w g T (l.flatMap enc)) : SlAt (fun _ x vs => vs = enc x) k w (some ⟨g,0,none⟩) l :=
 fun _ => ⟨g,0,rfl,h.lt,fun i x hx => ⟨enc x,hk x,rfl,fun j u hj => by
  have hj' : j < k := by rw [← hk x]; exact (List.getElem?_eq_some_iff.1 hj).1
  rw [Nat.zero_add,h.cell,flat_get hk l i j x hx hj',hj]⟩⟩
theorem IntsAt.blk {w : World} {g : Nat} {T : TypeId} (l : List Int) (h : BlkAt w g T (l.map (Value.int .i64))) : IntsAt w (some ⟨g,0,none⟩) l :=
 SlAt.blk (enc := fun x => [.int .i64 x]) (fun _ => rfl) l (by rw [show l.flatMap (fun x => [Value.int .i64 x]) = l.map (Value.int .i64) from flat_encI l]; exact h)
def allV (l : List Int) : Au := ⟨l,1,[0],l.map fun x => ⟨0,x,0⟩⟩
theorem Own.cap {α : Type} {enc : α → List Value} {k T B : Nat} {l : List α} {A : Option Addr} {c : Nat} {w : World} (h : Own enc k T B l (.slice A l.length c) w) : l.length ≤ c := by
 rcases h.2 with ⟨h1,h2⟩ | ⟨g,cap,cur,h1,_,_,h2,_⟩
 · omega
 · cases h1; exact h2
structure Caps (a : Au) (p : AuP) : Prop where
 c1 : a.al.length ≤ p.c1
 c2 : a.mr.length ≤ p.c2
 c3 : a.ed.length ≤ p.c3
def GivesR (a : Au) (w : World) (e : Ending) (w' : World) : Prop := ∃ p,e = .returned (a.val p) ∧ Hid (Au.At w' a p) ∧ Hid (Caps a p) ∧ Below w.heap.size w w'
structure AllSt (b : Nat) (v1 v2 v3 : Value) (es : List Ed) (w : World) : Prop where
 blk : BlkAt w b 34 [v1,.int .i64 1,v2,v3]
 o3 : Own Ed.cells 3 76 (b + 1) es v3 w
theorem AllSt.below {b : Nat} {v1 v2 v3 : Value} {es : List Ed} {w w1 : World} (h : AllSt b v1 v2 v3 es w) (hb : Below w.heap.size w w1) : AllSt b v1 v2 v3 es w1 := ⟨h.blk.below hb h.blk.lt,h.o3.below hb (Nat.le_refl _)⟩
def evenV : Au := ⟨[0],2,[0],[⟨0,0,1⟩,⟨1,0,0⟩]⟩
theorem SlAt.sub {α : Type} {E : Reading α} {k : Nat} {w : World} {b off : Nat} {l : List α} (h : SlAt E k w (some ⟨b,off,none⟩) l) (i j : Nat) : SlAt E k w (some ⟨b,off + i * k,none⟩) ((l.take j).drop i) := by
 intro hne
 have hne' : l ≠ [] := by rintro rfl; simp at hne
 obtain ⟨b',o',e,hb,hr⟩ := h hne'
 cases e
 refine ⟨b,off + i * k,rfl,hb,fun t x hx => ?_⟩
 rw [List.getElem?_drop] at hx
 have hx' : l[i + t]? = some x := by
  rw [List.getElem?_take] at hx
  split at hx
  · exact hx
  · cases hx
 obtain ⟨vs,h1,h2,h3⟩ := hr (i + t) x hx'
 refine ⟨vs,h1,h2,fun q v hq => ?_⟩
 have := h3 q v hq
 rw [show off + i * k + t * k + q = off + (i + t) * k + q by rw [Nat.add_mul]; omega]
 exact this
structure EdgRow (w : World) (l : List Ed) (n : Nat) (vs : List Value) : Prop where
 len : vs.length = n
 row : ∀ s,s < n → ∃ A c,vs[s]? = some (.slice A (outOf l s).length c) ∧ EdsAt w A (outOf l s) ∧ (outOf l s).length ≤ c
theorem EdgRow.nil (w : World) (n : Nat) : EdgRow w [] n (List.replicate n (.slice none 0 0)) :=
 ⟨by simp,fun s hs => ⟨none,0,by rw [List.getElem?_replicate,if_pos hs]; rfl,SlAt.nil,by simp [outOf]⟩⟩
def Brk (ed : List Ed) (k : Nat) : Prop := ∀ (i j : Nat) x y,i < k → k ≤ j → ed[i]? = some x → ed[j]? = some y → x.src < y.src
theorem outOf_take {ed : List Ed} {k t s : Nat} (hk : k ≤ t) (hb : Brk ed k) (hk2 : ∃ x,ed[k]? = some x ∧ x.src = (s : Int)) (hs : ∀ i x,k ≤ i → i < t → ed[i]? = some x → x.src = (s : Int)) (u : Nat) :
 outOf (ed.take t) u = if u = s then (ed.take t).drop k else outOf (ed.take k) u := by
 have e1 : ed.take t = ed.take k ++ (ed.take t).drop k := by
  conv => lhs; rw [← List.take_append_drop k (ed.take t)]
  rw [List.take_take,Nat.min_eq_left hk]
 have m1 : ∀ x,x ∈ (ed.take t).drop k → x.src = (s : Int) := fun x hx => by
  obtain ⟨i,hi,rfl⟩ := List.mem_iff_getElem.1 hx
  have hi' : (ed.take t)[k + i]? = some ((ed.take t).drop k)[i] := by
   rw [← List.getElem?_drop]; exact List.getElem?_eq_getElem hi
  rw [List.getElem?_take] at hi'
  split at hi'
  · rename_i h; exact hs (k + i) _ (by omega) h hi'
  · cases hi'
 have m2 : ∀ x,x ∈ ed.take k → x.src < (s : Int) := fun x hx => by
  obtain ⟨i,hi,rfl⟩ := List.mem_iff_getElem.1 hx
  have hil : i < k := by rw [List.length_take] at hi; omega
  obtain ⟨y,hy,hys⟩ := hk2
  have hi' : ed[i]? = some (ed.take k)[i] := by
   have := List.getElem?_eq_getElem hi
   rw [List.getElem?_take,if_pos hil] at this
   exact this
  have := hb i k _ y hil (Nat.le_refl _) hi' hy
  omega
 rw [e1]
 unfold outOf
 rw [List.filter_append]
 by_cases hu : u = s
 · subst hu
   rw [if_pos rfl,List.filter_eq_nil_iff.2 (fun x hx => by have := m2 x hx; simp; omega),List.nil_append,List.filter_eq_self.2 (fun x hx => by simpa using m1 x hx)]
   rw [← e1]
 · have m3 : ((ed.take t).drop k).filter (fun x => decide (x.src = (u : Int))) = [] := List.filter_eq_nil_iff.2 (fun x hx => by have := m1 x hx; simp; omega)
   rw [if_neg hu,m3,List.append_nil]
theorem Brk.next {ed : List Ed} (hl : ∀ (i j : Nat) x y,i < j → ed[i]? = some x → ed[j]? = some y → x.src ≤ y.src) {k t : Nat} {s : Int} (hb : Brk ed k) (hk2 : ∃ x,ed[k]? = some x ∧ x.src = s) (hkt : k < t) (hs : ∀ i x,k ≤ i → i < t → ed[i]? = some x → x.src = s)
 (he : t = ed.length ∨ ∃ y,ed[t]? = some y ∧ y.src ≠ s) : Brk ed t := by
 intro i j x y hi hj hx hy
 have hjl := (List.getElem?_eq_some_iff.1 hy).1
 rcases he with rfl | ⟨z,hz,hzs⟩
 · omega
 · obtain ⟨q,hq,hqs⟩ := hk2
   have h1 : x.src ≤ s := by
    by_cases h : i < k
    · have := hb i k x q h (Nat.le_refl _) hx hq; omega
    · exact Int.le_of_eq (hs i x (by omega) hi hx)
   have h2 : s < z.src := by
    have := hl k t q z hkt hq hz; omega
   have h3 : z.src ≤ y.src := by
    by_cases h : t = j
    · subst h; rw [hz] at hy; cases hy; exact Int.le_refl _
    · exact hl t j z y (by omega) hz hy
   omega
theorem EdgRow.set {w : World} {ed : List Ed} {n : Nat} {vs : List Value} {k t s : Nat} (h : EdgRow w (ed.take k) n vs) (hkt : k < t) (htl : t ≤ ed.length) (hb : Brk ed k) (hk2 : ∃ x,ed[k]? = some x ∧ x.src = (s : Int)) (hs : ∀ i x,k ≤ i → i < t → ed[i]? = some x → x.src = (s : Int))
 {b off c : Nat} (hE : EdsAt w (some ⟨b,off,none⟩) ed) (hc : ed.length ≤ c) : EdgRow w (ed.take t) n (vs.set s (.slice (some ⟨b,off + k * 3,none⟩) (t - k) (c - k))) := by
 refine ⟨by simp [h.len],fun u hu => ?_⟩
 rw [outOf_take (by omega) hb hk2 hs u]
 by_cases e : u = s
 · subst e
   rw [if_pos rfl,List.getElem?_set_self (by rw [h.len]; exact hu)]
   have hl : ((ed.take t).drop k).length = t - k := by rw [List.length_drop,List.length_take]; omega
   exact ⟨_,_,by rw [hl],hE.sub k t,by rw [hl]; omega⟩
 · rw [if_neg e,List.getElem?_set_ne (fun g => e g.symm)]
   exact h.row u hu
def GivesE (a : Au) (p : AuP) (n : Nat) (w : World) (e : Ending) (w' : World) : Prop := ∃ g vs,e = .returned (.slice (some ⟨g,0,none⟩) n n) ∧ Hid (Sep w.heap.size w [eBlk g 32 vs] w') ∧ Hid (∀ V,EdsAt V p.A3 a.ed → EdgRow V a.ed n vs)
def sigB (q : Int × List (Int × Int)) : List Int := two q.1 ++ q.2.flatMap fun x => two x.1 ++ two x.2
def keyOne (mr : List Int) (s : Nat) : ByteArray := if (s : Int) ∈ mr then ⟨#[109]⟩ else ⟨#[]⟩
def keyTwo (a : Au) (c : List Int) (s : Nat) : ByteArray := strOfNums (sigB (sigV a c s))

theorem rises_len {n : Nat} {l : List Int} (h : Rises (fun x y : Int => x < y) l) (hr : ∀ x,x ∈ l → 0 ≤ x ∧ x < n) : l.length ≤ n := by
 have key : ∀ (i : Nat) x,l[i]? = some x → (i : Int) ≤ x := by
  intro i
  induction i with
  | zero => intro x hx; exact (hr x (List.mem_of_getElem? hx)).1
  | succ i ih =>
    intro x hx
    have hi := (List.getElem?_eq_some_iff.1 hx).1
    have h1 := ih _ (List.getElem?_eq_getElem (show i < l.length by omega))
    have h2 := h i (i + 1) _ x (by omega) (List.getElem?_eq_getElem (show i < l.length by omega)) hx
    omega
 rcases Nat.eq_zero_or_pos l.length with e | e
 · omega
 · have h1 := key (l.length - 1) _ (List.getElem?_eq_getElem (by omega))
   have h2 := hr _ (List.getElem_mem (show l.length - 1 < l.length by omega))
   omega
theorem Au.Right.ev {a : Au} (hr : a.Right) {x : Ed} (hx : x ∈ a.ed) : 0 ≤ x.ev ∧ x.ev < 32 := by
 obtain ⟨p,hp,hpx⟩ := List.mem_iff_getElem.1 hx
 have := (hr.edge (p := p) (by rw [List.getElem?_eq_getElem hp,hpx])).2.2.2.2
 obtain ⟨i,hi,hix⟩ := List.mem_iff_getElem.1 this
 have := hr.al i _ hi (List.getElem?_eq_getElem hi)
 rw [hix] at this
 exact ⟨this.1,this.2.1⟩
def sgL (c : List Int) (l : List Ed) : List Int := l.flatMap fun x => two x.ev ++ two (clsV c x.dst)
theorem EdgRow.below {w w' : World} {l : List Ed} {n : Nat} {vs : List Value} (h : EdgRow w l n vs) (hb : Below w.heap.size w w') : EdgRow w' l n vs :=
 ⟨h.len,fun s hs => let ⟨A,c,h1,h2,h3⟩ := h.row s hs; ⟨A,c,h1,h2.below EdE.stays hb,h3⟩⟩
theorem Canon.le {c : List Int} {m : Nat} (h : Canon c m) : m ≤ c.length := (pigeon (fun y => (c.getD y 0).toNat) m c.length fun x hx => by
 obtain ⟨s,hs⟩ := h.on x hx
 exact ⟨s,(List.getElem?_eq_some_iff.1 hs).1,by rw [getD_some hs]; simp⟩).1
def GivesC (a : Au) (w : World) (e : Ending) (w' : World) : Prop := ∃ g c m,e = .returned (.slice (some ⟨g,0,none⟩) a.n.toNat a.n.toNat) ∧ Hid (Sep w.heap.size w [eBlk g 3 (c.map (Value.int .i64))] w') ∧ Hid (c.length = a.n.toNat ∧ Canon c m ∧ ∀ i j : Nat,i < c.length → j < c.length → (c[i]? = c[j]? ↔ Eqv a i j))
section

section
variable {σ κ : Type} {key : σ → κ} {out : σ → List (Int × σ)} {s0 : σ}
structure Mks (P : σ → Prop) (fs : List σ) (i : Nat) (M : List Int) : Prop where
 up : Rises (fun x y : Int => x < y) M
 mem : ∀ x,x ∈ M ↔ ∃ (d : Nat) (v : σ),x = d ∧ d < i ∧ fs[d]? = some v ∧ P v
variable {P : σ → Prop} {fs : List σ} {i : Nat} {M : List Int}
theorem Mks.start (P : σ → Prop) (fs : List σ) : Mks P fs 0 [] := ⟨fun i j u v _ hu => by simp at hu,fun x => by simp⟩
theorem Mks.lt (h : Mks P fs i M) {x : Int} (hx : x ∈ M) : 0 ≤ x ∧ x < i := by
 obtain ⟨d,v,h1,h2,_⟩ := (h.mem x).1 hx
 omega
theorem Mks.yes (h : Mks P fs i M) {v : σ} (hv : fs[i]? = some v) (hp : P v) : Mks P fs (i + 1) (M ++ [(i : Int)]) := by
 refine ⟨h.up.push fun u hu => (h.lt hu).2,fun x => ?_⟩
 rw [List.mem_append,List.mem_singleton,h.mem]
 constructor
 · rintro (⟨d,u,h1,h2,h3,h4⟩ | rfl)
   · exact ⟨d,u,h1,by omega,h3,h4⟩
   · exact ⟨i,v,rfl,by omega,hv,hp⟩
 · rintro ⟨d,u,h1,h2,h3,h4⟩
   by_cases e : d = i
   · exact .inr (by rw [h1,e])
   · exact .inl ⟨d,u,h1,by omega,h3,h4⟩
theorem Mks.no (h : Mks P fs i M) {v : σ} (hv : fs[i]? = some v) (hp : ¬ P v) : Mks P fs (i + 1) M := by
 refine ⟨h.up,fun x => ?_⟩
 rw [h.mem]
 constructor
 · rintro ⟨d,u,h1,h2,h3,h4⟩
   exact ⟨d,u,h1,by omega,h3,h4⟩
 · rintro ⟨d,u,h1,h2,h3,h4⟩
   by_cases e : d = i
   · subst e; rw [hv] at h3; cases h3; exact absurd h4 hp
   · exact ⟨d,u,h1,by omega,h3,h4⟩
theorem Mks.set (h : Mks P fs i M) : setOk M i M.length := by
 intro j x hj hx
 have := h.lt (List.mem_of_getElem? hx)
 exact ⟨this.1,this.2,fun y h0 hy => h.up (j - 1) j y x (by omega) hy hx⟩
theorem Mks.fin (h : Mks P fs fs.length M) (d : Nat) : (d : Int) ∈ M ↔ ∃ v,fs[d]? = some v ∧ P v := by
 rw [h.mem]
 constructor
 · rintro ⟨d',v,h1,h2,h3,h4⟩
   obtain rfl : d = d' := by omega
   exact ⟨v,h3,h4⟩
 · rintro ⟨v,h3,h4⟩
   exact ⟨d,v,rfl,(List.getElem?_eq_some_iff.1 h3).1,h3,h4⟩
theorem Bld.len {i k : Nat} {fs : List Int} {ed : List Ed} {κ : Type} {key : Int → κ} {out : Int → List (Int × Int)} {s0 : Int} {n : Nat} (h : Bld key out s0 i k fs ed) (hr : ∀ v,v ∈ fs → 0 ≤ v ∧ v < (n : Int)) : fs.length ≤ n := by
 have := sub_len (fs.map Int.toNat) (List.range n) (by
  rw [List.nodup_iff_pairwise_ne,List.pairwise_map,List.pairwise_iff_getElem]
  intro a b ha hb hab he
  have h1 := hr _ (List.getElem_mem ha)
  have h2 := hr _ (List.getElem_mem hb)
  have := h.nd a b _ _ (List.getElem?_eq_getElem ha) (List.getElem?_eq_getElem hb) (by rw [show fs[a] = fs[b] by omega])
  omega) (fun x hx => by
  obtain ⟨v,hv,rfl⟩ := List.mem_map.1 hx
  have := hr v hv
  simp; omega)
 simpa using this
end
end
theorem edOne (x : Ed) : ∀ u ∈ Ed.cells x,u.oneCell' = true := fun u hu => by simp [Ed.cells] at hu; rcases hu with rfl | rfl | rfl <;> rfl
set_option maxRecDepth 100000 in
set_option maxHeartbeats 400000 in
theorem cloneO_c (A : Option Addr) (c : Nat) (l : List Int) (w : World) (h : IntsAt w A l) (n1 : l.length ≤ 1048576) :
 Calls Tryz.prog 28 #[.slice A l.length c] w (GivesI l w) := by
 have q : ∀ (w : World),(binOp .eql 31 (.slice A l.length c) (.slice none 0 0)).run Tryz.prog w = .ok (.bool A.isNone) w := fun w => Lib.run_eql_slice_nil w _ _ A l.length c 0 0 Tryz.underlying31
 have hn : A = none → l = [] := fun e => by
  subst e
  cases l with
  | nil => rfl
  | cons x l => obtain ⟨b,off,h1,_⟩ := h (by simp); cases h1
 cases A with
 | none =>
   obtain rfl := hn rfl
   simp only [Option.isNone_none,List.length_nil] at q ⊢
   clear h hn
   go_enter Tryz.func28,Tryz.ntmps28
   go_wp2
   go_ret
   exact ⟨_,rfl,Own.nil w,Below.refl _ _⟩
 | some a =>
   simp only [Option.isNone_some] at q
   have H := Lib.hid h
   clear h hn
   go_enter Tryz.func28,Tryz.ntmps28
   have hown : (w.alloc (.cells #[] 3)).ownsRow w.heap.size 3 1 (.slice (some ⟨w.heap.size,0,none⟩) 0 0) 0 [] := ⟨rfl,.inr ⟨w.heap.size,0,#[],rfl,Nat.le_refl _,heap_alloc_new w _,Nat.le_refl _,by simp,rfl,rfl⟩⟩
   obtain ⟨i0,hi0,hz0,hz1,hz2⟩ := info_parts (P := Tryz.prog) (e := 3) (z := .int .i64 0) (size := 1) (bytes := 8) (by kernel_rfl)
   go_wp2_with (at_builtin; refine wpList_append_own_at _ rfl _ _ 31 rfl w.heap.size 3 i0 (.int .i64 0) 1 8 Tryz.underlying31 hi0 hz0 hz1 hz2 rfl (by decide) _ _ _ rfl hown a l.length c (l.map (Value.int .i64)) rfl (by simp) (IntsAt.cells (H.out.below IntE.stays (Below.new _ _))) (by simp [Value.oneCell']) (by simp only [maxLen]; omega) (by omega) (by simp) ?_; intro v1 w1 ho1 hg1 _ hv1)
   obtain ⟨A1,c1,rfl⟩ := own_form ho1
   simp only [Nat.zero_add,List.nil_append] at ho1 ⊢
   go_wp2
   refine bodyPost_ret (v := .slice A1 l.length c1) (by simp [results,Tryz.results28,go_sem]) rfl ?_
   exact ⟨_,rfl,by unfold Hid OwnI Own; rw [flat_encI]; exact ho1,(Below.new w _).grown hg1 (by simp) (fun j hj => by cases hj; simp)⟩
theorem Sep.newI {n : Nat} {w0 w w' : World} {es : List Ent} (S : Sep n w0 es w) {l : List Int} {v : Value} (ho : OwnI w.heap.size l v w') (hb : Below w.heap.size w w') : Sep n w0 (eInts l v :: es) w' :=
 S.new1 hb (eInts l v) (Own.base ho (Nat.zero_le _)) (fun g hg => (Own.lt ho g (by simpa [eOwn] using hg)).1)
theorem Sep.eds {n : Nat} {w0 w : World} {es : List Ent} (S : Sep n w0 es w) (i : Nat) {l : List Ed} {A : Option Addr} {c : Nat} (hi : es[i]? = some (eEds l (.slice A l.length c))) : EdsAt w A l := Own.reads (enc := Ed.cells) (k := 3) (T := 76) (B := 0) (fun _ => rfl) (S.get i hi)
def eAu (m : Au) (p : AuP) : List Ent := [eInts m.al (.slice p.A1 m.al.length p.c1),eInts m.mr (.slice p.A2 m.mr.length p.c2),eEds m.ed (.slice p.A3 m.ed.length p.c3)]
theorem qkN {n : Nat} {w0 w w' : World} {es es' es'' : List Ent} (S : Sep n w0 es w) (N : Sep w.heap.size w es' w') (he : es' ++ es = es'' := by (simp only [eAu, List.cons_append, List.nil_append]; rfl)) : Hid (Sep n w0 es'' w') := by
  subst he; exact S.news N
def Lens (m : Au) : Prop := m.al.length ≤ 140737488355328 ∧ m.mr.length ≤ 140737488355328 ∧ m.ed.length ≤ 140737488355328
theorem Sep.au {n : Nat} {w0 w : World} {es : List Ent} {m : Au} {p : AuP} (S : Sep n w0 (eAu m p ++ es) w) (hl : Lens m) : Au.At w m p := ⟨S.ints 0 rfl,S.ints 1 rfl,S.eds 2 rfl,hl.1,hl.2.1,hl.2.2⟩
theorem Sep.auCaps {n : Nat} {w0 w : World} {es : List Ent} {m : Au} {p : AuP} (S : Sep n w0 (eAu m p ++ es) w) : Caps m p := ⟨Own.cap (S.get 0 rfl),Own.cap (S.get 1 rfl),Own.cap (S.get 2 rfl)⟩
def GivesBu (a : Au) (c : List Int) (w : World) (e : Ending) (w' : World) : Prop := ∃ m p',e = .returned (m.val p') ∧ Hid (Sep w.heap.size w (eAu m p') w') ∧ Hid (Lens m) ∧ Hid (m.al = a.al ∧ ((a.n = 0 ∧ m = ⟨a.al,0,[],[]⟩) ∨ ∃ fs,Built (clsV c) (outK a fun _ => true) 0 m fs ∧ (∀ v,v ∈ fs → 0 ≤ v ∧ v < a.n) ∧ ∀ d : Nat,(d : Int) ∈ m.mr ↔ ∃ v,fs[d]? = some v ∧ v ∈ a.mr))
theorem app_none (t ty e : TypeId) (i : TypeInfo) (z : Value) (P : Program) (ht : P.underlying t = some (.slice e)) (hi : P.info? e = some i) (hz : i.zero = some z) (A : Option Addr) (n c c' : Nat) (w : World) (h : A = none → n = 0) (hle : n ≤ c) :
 (Builtin.append_ #[t,t] ty #[.slice A n c,.slice none 0 c']).run P w = .ok (.slice A n c) w := by
 cases A with
 | none => obtain rfl := h rfl; simp [Builtin.append_,run_underlying ht,sizeOf,typeInfo,zeroValue,hi,hz,Builtin.lenOf,run_firstCells_none]
 | some a => simp [Builtin.append_,run_underlying ht,sizeOf,typeInfo,zeroValue,hi,hz,Builtin.lenOf,run_firstCells_none,hle,storeCells]
theorem OwnI.nil0 {B : Nat} {l : List Int} {c : Nat} {w : World} (h : OwnI B l (.slice none l.length c) w) : l = [] := by
 rcases h.2 with ⟨_,h2⟩ | ⟨g,cap,cur,h1,_⟩
 · exact List.eq_nil_of_length_eq_zero h2
 · cases h1
theorem IntsAt.nil0 {w : World} {l : List Int} (h : IntsAt w none l) : l = [] := by
 cases l with
 | nil => rfl
 | cons x l => obtain ⟨b,off,h1,_⟩ := h (by simp); cases h1
theorem wpList_appendIn {P : Program} {n : Nat} {w0 w : World} {es : List Ent} {ops : Array Oper} {rest : List Oper} {o : Oper} {a : Act} {Q : Exit → Act → World → Prop} (hgd : o.guard = none) (s x : Operand) (t : TypeId)
 (ho : o.op = .call { callee := .builtin .append,args := #[s,x],argTypes := #[t,t] }) (S : Sep n w0 es w) (i : Nat) {l : List Int} {v : Value} (hei : es[i]? = some (eInts l v))
 (ht : P.underlying t = some (.slice 3)) (hi : (P.info? 3).map (fun i => (i.zero,i.size,i.bytes)) = some (some (.int .i64 0),1,8))
 (hs : a.eval s = v) (A : Option Addr) (c : Nat) (b : List Int) (hx : a.eval x = .slice A b.length c) (hB : IntsAt w A b) (hl : l.length + b.length ≤ 1048577)
 (h : ∀ A' c' w',Sep n w0 (es.set i (eInts (l ++ b) (.slice A' (l.length + b.length) c'))) w' → Off v.ownBlock.toList w w' → wpList P ops Q rest (a.put o.dst (.slice A' (l.length + b.length) c')) w') :
 wpList P ops Q (o :: rest) a w := by
 obtain ⟨i0,hi0,hz,hsize,hb⟩ := info_parts hi
 have own := S.get i hei
 cases A with
 | none =>
   obtain rfl := hB.nil0
   obtain ⟨A',c',rfl⟩ := Own.form own
   refine wpList_plain hgd fun K hK => ?_
   have hr := app_none t o.type 3 i0 (.int .i64 0) P ht hi0 hz A' l.length c' c w (fun e => by subst e; rw [OwnI.nil0 own]; rfl) (Own.cap own)
   unfold Oper.wp execOp
   simp only [ho,resolve,invoke,builtin,Sem.run_bind,Sem.run_pure,Result.andThen_ok,List.map_toArray,List.map_cons,List.map_nil,hs,hx,List.length_nil,hr]
   exact hK _ _ (h A' c' w (S.as i hei _ (fun g => by rw [List.append_nil]; exact g) (fun _ g => g)) ⟨rfl,rfl,rfl,Nat.le_refl _,fun _ _ _ => rfl⟩)
 | some ad =>
   refine wpList_append_own_at w hgd s x t ho 0 3 i0 (.int .i64 0) 1 8 ht hi0 hz hsize hb rfl (by decide) v l.length (l.flatMap encI) hs own ad b.length c (b.flatMap encI) hx (by rw [flat_encI]; simp) (fun j u hj => ?_) (fun u hu => ?_) (by simp only [maxLen]; omega) (by omega) (Nat.zero_le _) fun v' w' ho' hg _ hat => ?_
   · rw [flat_encI] at hj; exact IntsAt.cells hB j u hj
   · rw [flat_encI] at hu; obtain ⟨y,_,rfl⟩ := List.mem_map.1 hu; rfl
   · obtain ⟨A',c',rfl⟩ := own_form ho'
     refine h A' c' w' (S.chg i hei _ (Off.grown hg) ?_ (fun g hg => ?_)) (Off.grown hg)
     · show Own encI 1 3 0 (l ++ b) _ w'
       unfold Own; rw [List.flatMap_append,List.length_append]; exact ho'
     · simp only [eOwn,Option.mem_toList] at hg ⊢
       rcases hat with h | h
       · exact .inl (by rw [← h]; exact hg)
       · rw [h] at hg; cases hg; exact .inr (Nat.le_refl _)
theorem Sep.ownAt {n : Nat} {w0 w : World} {es : List Ent} {l : List Int} {v : Value} (S : Sep n w0 es w) (i : Nat) (hi : es[i]? = some (eInts l v)) : OwnI n l v w := by
 have h := S.get i hi
 refine ⟨h.1,?_⟩
 rcases h.2 with h2 | ⟨g,cap,cur,r1,r2,r3⟩
 · exact .inl h2
 · exact .inr ⟨g,cap,cur,r1,S.ge _ (List.mem_of_getElem? hi) g (by simp [eOwn,r1,Value.ownBlock]),r3⟩
def EvUp (l : List Ed) : Prop := l.Pairwise fun x y => x.ev ≤ y.ev
def DistV (F : FuncId) : Prop := ∀ (x : Ed) (s : Int) (w : World),-1000000 ≤ x.ev → x.ev ≤ 1000000 → -1000000 ≤ s → s ≤ 1000000 → Calls Tryz.prog F #[.agg #[.int .i64 x.src,.int .i64 x.ev,.int .i64 x.dst],.int .i64 s] w (Ret (.int .i64 (x.ev - s)) w)
def FindsV (l : List Ed) (s : Int) (w : World) (e : Ending) (w' : World) : Prop := ∃ (p : Nat) (r : Bool),e = .returned (.tuple #[.int .i64 (p : Int),.bool r]) ∧ p ≤ l.length ∧ Hid ((∀ t y,t < p → l[t]? = some y → y.ev < s) ∧ (∀ t y,p ≤ t → l[t]? = some y → s ≤ y.ev)) ∧ Hid ((r = true ∧ ∃ x,l[p]? = some x ∧ x.ev = s) ∨ (r = false ∧ ∀ x,l[p]? = some x → x.ev ≠ s)) ∧ Below w.heap.size w w'
def stepL (l : List Ed) (e : Int) : Int := ((l.find? fun x => decide (x.ev = e)).map (·.dst)).getD (-1)
set_option maxHeartbeats 400000 in
theorem equalI_c (A1 A2 : Option Addr) (c1 c2 : Nat) (l1 l2 : List Int) (w : World) (h1 : IntsAt w A1 l1) (h2 : IntsAt w A2 l2) (n1 : l1.length ≤ 140737488355328) (n2 : l2.length ≤ 140737488355328) :
 Calls Tryz.prog 30 #[.slice A1 l1.length c1,.slice A2 l2.length c2] w (Tells (l1 = l2) w) := by
 have H1 := Lib.hid h1
 have H2 := Lib.hid h2
 clear h1 h2
 by_cases hl : l1.length = l2.length
 · go_enter Tryz.func30,Tryz.ntmps30
   have HL := Lib.hid hl
   rw [← hl]
   clear hl n2
   go_wp2
   go_loopw [13] (fun i wr => ∃ k : Nat,k ≤ l1.length ∧ i = .int .i64 k ∧ Hid (Below w.heap.size w wr) ∧ Hid (l1.take k = l2.take k)) (fun i _ => l1.length - (intOf i).toNat)
   case atStart => exact ⟨0,by omega,rfl,Below.refl _ _,rfl⟩
   case round =>
    obtain ⟨k,hk,rfl,BW,HN⟩ := hrel
    by_cases hlt : k < l1.length
    · obtain ⟨b,off,x,rfl,hb,hx,e0⟩ := IntsAt.at (H1.out.below IntE.stays BW.out) hlt
      obtain ⟨b2,off2,y,rfl,hb2,hy,g0⟩ := IntsAt.at (H2.out.below IntE.stays BW.out) (HL.out ▸ hlt)
      have HX := Lib.hid hx
      have HY := Lib.hid hy
      clear hx hy
      by_cases hxy : x = y
      · subst hxy
        go_wp2_with fail
        go_quiet (fail)
        go_wp2
        go_roundw
        case rel => exact ⟨k + 1,by omega,by go_num,BW.out.draws _,Lib.hid (by rw [List.take_add_one,List.take_add_one,HN.out,HX.out,HY.out])⟩
        case measure => simp [intOf]; omega
      · have hne : (x == y) = false := by simpa using hxy
        go_wp2_with fail
        go_quiet (fail)
        go_wp2
        go_ret
        exact Tells.no (fun h => by subst h; have := HX.out; rw [HY.out] at this; cases this; exact hxy rfl) (BW.out.draws _)
    · obtain rfl : k = l1.length := by omega
      go_wp2
      go_ret
      exact Tells.yes (by have := HN.out; rw [List.take_length,HL.out,List.take_length] at this; exact this) BW.out
 · have hne : ((l1.length : Int) == (l2.length : Int)) = false := by rw [beq_eq_false_iff_ne]; omega
   go_enter Tryz.func30,Tryz.ntmps30
   go_wp2
   go_ret
   exact Tells.no (fun h => hl (by rw [h])) (Below.refl _ _)
set_option maxHeartbeats 400000 in
theorem equalE_c (A1 A2 : Option Addr) (c1 c2 : Nat) (l1 l2 : List Ed) (w : World) (h1 : EdsAt w A1 l1) (h2 : EdsAt w A2 l2) (n1 : l1.length ≤ 140737488355328) (n2 : l2.length ≤ 140737488355328) :
 Calls Tryz.prog 31 #[.slice A1 l1.length c1,.slice A2 l2.length c2] w (Tells (l1 = l2) w) := by
 have H1 := Lib.hid h1
 have H2 := Lib.hid h2
 clear h1 h2
 by_cases hl : l1.length = l2.length
 · go_enter Tryz.func31,Tryz.ntmps31
   have HL := Lib.hid hl
   rw [← hl]
   clear hl n2
   go_wp2
   go_loopw [13] (fun i wr => ∃ k : Nat,k ≤ l1.length ∧ i = .int .i64 k ∧ Hid (Below w.heap.size w wr) ∧ Hid (l1.take k = l2.take k)) (fun i _ => l1.length - (intOf i).toNat)
   case atStart => exact ⟨0,by omega,rfl,Below.refl _ _,rfl⟩
   case round =>
    obtain ⟨k,hk,rfl,BW,HN⟩ := hrel
    by_cases hlt : k < l1.length
    · obtain ⟨b,off,x,rfl,hb,hx,e0,e1,e2⟩ := EdsAt.at (H1.out.below EdE.stays BW.out) hlt
      obtain ⟨b2,off2,y,rfl,hb2,hy,g0,g1,g2⟩ := EdsAt.at (H2.out.below EdE.stays BW.out) (HL.out ▸ hlt)
      have HX := Lib.hid hx
      have HY := Lib.hid hy
      clear hx hy
      by_cases hxy : x = y
      · subst hxy
        go_wp2_with fail
        go_quiet (fail)
        go_wp2
        go_roundw
        case rel => exact ⟨k + 1,by omega,by go_num,BW.out.draws _,Lib.hid (by rw [List.take_add_one,List.take_add_one,HN.out,HX.out,HY.out])⟩
        case measure => simp [intOf]; omega
      · by_cases h1 : x.src = y.src
        · rw [h1] at e0
          by_cases h2 : x.ev = y.ev
          · rw [h2] at e1
            have h3 : ¬ x.dst = y.dst := fun h3 => hxy (by
             obtain ⟨xs,xe,xd⟩ := x
             obtain ⟨ys,ye,yd⟩ := y
             obtain rfl : xs = ys := h1
             obtain rfl : xe = ye := h2
             obtain rfl : xd = yd := h3
             rfl)
            have hne : (x.dst == y.dst) = false := by simpa using h3
            go_wp2_with fail
            go_quiet (fail)
            go_wp2
            go_ret
            exact Tells.no (fun h => by subst h; have := HX.out; rw [HY.out] at this; cases this; exact hxy rfl) (BW.out.draws _)
          · have hne : (x.ev == y.ev) = false := by simpa using h2
            go_wp2_with fail
            go_quiet (fail)
            go_wp2
            go_ret
            exact Tells.no (fun h => by subst h; have := HX.out; rw [HY.out] at this; cases this; exact hxy rfl) (BW.out.draws _)
        · have hne : (x.src == y.src) = false := by simpa using h1
          go_wp2_with fail
          go_quiet (fail)
          go_wp2
          go_ret
          exact Tells.no (fun h => by subst h; have := HX.out; rw [HY.out] at this; cases this; exact hxy rfl) (BW.out.draws _)
    · obtain rfl : k = l1.length := by omega
      go_wp2
      go_ret
      exact Tells.yes (by have := HN.out; rw [List.take_length,HL.out,List.take_length] at this; exact this) BW.out
 · have hne : ((l1.length : Int) == (l2.length : Int)) = false := by rw [beq_eq_false_iff_ne]; omega
   go_enter Tryz.func31,Tryz.ntmps31
   go_wp2
   go_ret
   exact Tells.no (fun h => hl (by rw [h])) (Below.refl _ _)
set_option maxRecDepth 100000 in
set_option maxHeartbeats 4000000 in
theorem autoEq_c (a b : Au) (p q : AuP) (w : World) (h1 : Au.At w a p) (h2 : Au.At w b q) :
 Calls Tryz.prog 8 #[a.val p,b.val q] w (Tells (a = b) w) := by
 have H1 := Lib.hid h1
 have H2 := Lib.hid h2
 obtain ⟨al,n,mr,ed⟩ := a
 obtain ⟨A1,c1,A2,c2,A3,c3⟩ := p
 obtain ⟨bl,k,ms,es⟩ := b
 obtain ⟨B1,d1,B2,d2,B3,d3⟩ := q
 dsimp only [Au.val]
 clear h1 h2
 go_enter Tryz.func8,Tryz.ntmps8
 go_upto_region 1 with fail
 refine wp_world (fun W => Sep w.heap.size w [eBlk (w.heap.size + 1) 34 [.slice B1 bl.length d1,.int .i64 k,.slice B2 ms.length d2,.slice B3 es.length d3],eBlk w.heap.size 34 [.slice A1 al.length c1,.int .i64 n,.slice A2 mr.length c2,.slice A3 ed.length c3]] W) ?_ fun W S => ?_
 · exact ((Sep.here w).alloc' _ [_,_,_,_] rfl rfl).alloc' _ [_,_,_,_] rfl (by simp)
 have S0 := Lib.hid S
 clear S
 have a0 := qkC S0.out 1 rfl 0 rfl
 have a1 := qkC S0.out 1 rfl 1 rfl
 have b0 := qkC S0.out 0 rfl 0 rfl
 have b1 := qkC S0.out 0 rfl 1 rfl
 by_cases hn : n = k
 · subst hn
   go_wp2_with fail
   refine (equalI_c A1 B1 c1 d1 al bl W (H1.out.below S0.out.below).al (H2.out.below S0.out.below).al H1.out.lal H2.out.lal).mono ?_
   intro e w1 hs
   clear a0 a1 b0 b1
   rcases hs.no1 with ⟨rfl,hq,hb⟩ | ⟨rfl,hq,hb⟩
   · go_wp2_with fail
     go_ret
     exact Tells.no (fun h => hq.out (congrArg Au.al h)) ((S0.out.next hb).below)
   obtain rfl := hq.out
   have S1 := Lib.hid (S0.out.next hb)
   clear hs hq hb S0
   have a2 := qkC S1.out 1 rfl 2 rfl
   have b2 := qkC S1.out 0 rfl 2 rfl
   go_wp2_with fail
   refine (equalI_c A2 B2 c2 d2 mr ms w1 (H1.out.below S1.out.below).mr (H2.out.below S1.out.below).mr H1.out.lmk H2.out.lmk).mono ?_
   intro e w2 hs
   clear a2 b2
   rcases hs.no1 with ⟨rfl,hq,hb⟩ | ⟨rfl,hq,hb⟩
   · go_wp2_with fail
     go_ret
     exact Tells.no (fun h => hq.out (congrArg Au.mr h)) ((S1.out.next hb).below)
   obtain rfl := hq.out
   have S2 := Lib.hid (S1.out.next hb)
   clear hs hq hb S1
   have a3 := qkC S2.out 1 rfl 3 rfl
   have b3 := qkC S2.out 0 rfl 3 rfl
   go_wp2_with fail
   refine (equalE_c A3 B3 c3 d3 ed es w2 (H1.out.below S2.out.below).ed (H2.out.below S2.out.below).ed H1.out.led H2.out.led).mono ?_
   intro e w3 hs
   clear a3 b3
   rcases hs.no1 with ⟨rfl,hq,hb⟩ | ⟨rfl,hq,hb⟩
   · go_wp2_with fail
     go_ret
     exact Tells.no (fun h => hq.out (congrArg Au.ed h)) ((S2.out.next hb).below)
   obtain rfl := hq.out
   go_wp2_with fail
   go_ret
   exact Tells.yes (by trivial) ((S2.out.next hb).below)
 · have hne : (n == k) = false := by simpa using hn
   go_wp2_with fail
   go_ret
   exact Tells.no (fun h => hn (congrArg Au.n h)) (S0.out.below)
section

def cntS (l : List Ed) (j : Nat) : Nat := (l.filter fun x => decide (x.src + 1 = (j : Int))).length
def fstV (l : List Ed) (j : Nat) : Nat := (l.filter fun x => decide (x.src < (j : Int))).length
theorem cntS_le (l : List Ed) (j : Nat) : cntS l j ≤ l.length := List.length_filter_le _ _
theorem fstV_le (l : List Ed) (j : Nat) : fstV l j ≤ l.length := List.length_filter_le _ _
theorem cntS_snoc (l : List Ed) (x : Ed) (j : Nat) : cntS (l ++ [x]) j = if x.src + 1 = (j : Int) then cntS l j + 1 else cntS l j := by
 unfold cntS
 rw [List.filter_append,List.length_append]
 by_cases h : x.src + 1 = (j : Int) <;> simp [h]
theorem fstV_succ : ∀ (l : List Ed) (j : Nat),fstV l (j + 1) = fstV l j + cntS l (j + 1)
 | [],j => rfl
 | x :: l,j => by
   have ih := fstV_succ l j
   unfold fstV cntS at *
   simp only [List.filter_cons]
   by_cases h1 : x.src < (j : Int)
   · have h2 : x.src < ((j + 1 : Nat) : Int) := by omega
     have h3 : ¬ x.src + 1 = ((j + 1 : Nat) : Int) := by omega
     simp only [h1,h2,h3,decide_true,decide_false,if_true,List.length_cons]
     simp only [Bool.false_eq_true,if_false]
     omega
   · by_cases h2 : x.src < ((j + 1 : Nat) : Int)
     · have h3 : x.src + 1 = ((j + 1 : Nat) : Int) := by omega
       simp only [h1,h2,h3,decide_true,decide_false,if_true,List.length_cons]
       simp only [Bool.false_eq_true,if_false]
       omega
     · have h3 : ¬ x.src + 1 = ((j + 1 : Nat) : Int) := by omega
       simp only [h1,h2,h3,decide_true,decide_false]
       simp only [Bool.false_eq_true,if_false]
       omega
theorem fstV_zero {l : List Ed} (h : ∀ x,x ∈ l → 0 ≤ x.src) : fstV l 0 = 0 := by
 unfold fstV
 rw [List.filter_eq_nil_iff.2 (fun x hx => by have := h x hx; simp; omega)]; rfl
theorem cntS_zero {l : List Ed} (h : ∀ x,x ∈ l → 0 ≤ x.src) : cntS l 0 = 0 := by
 unfold cntS
 rw [List.filter_eq_nil_iff.2 (fun x hx => by have := h x hx; simp; omega)]; rfl
def SrcUp (l : List Ed) : Prop := l.Pairwise fun x y => x.src ≤ y.src
theorem SrcUp.take_drop : ∀ {l : List Ed},SrcUp l → ∀ s : Int,l.take (l.filter fun x => decide (x.src < s)).length = l.filter (fun x => decide (x.src < s)) ∧ l.drop (l.filter fun x => decide (x.src < s)).length = l.filter (fun x => decide (s ≤ x.src))
 | [],_,s => ⟨rfl,rfl⟩
 | x :: l,h,s => by
   obtain ⟨h1,h2⟩ := List.pairwise_cons.1 h
   by_cases e : x.src < s
   · have ih := SrcUp.take_drop h2 s
     have e' : ¬ s ≤ x.src := by omega
     simp only [List.filter_cons,e,e',decide_true,decide_false,if_true,List.length_cons,List.take_succ_cons,List.drop_succ_cons]
     simp only [Bool.false_eq_true,if_false]
     exact ⟨by rw [ih.1],ih.2⟩
   · have e' : s ≤ x.src := by omega
     have n1 : l.filter (fun x => decide (x.src < s)) = [] := List.filter_eq_nil_iff.2 fun y hy => by have := h1 y hy; simp; omega
     have n2 : l.filter (fun x => decide (s ≤ x.src)) = l := List.filter_eq_self.2 fun y hy => by have := h1 y hy; simp; omega
     simp only [List.filter_cons,e,e',decide_true,decide_false,if_true,n1,n2]
     simp
theorem outOf_range {l : List Ed} (h : SrcUp l) (s : Nat) : outOf l s = (l.take (fstV l (s + 1))).drop (fstV l s) := by
 have h1 := (h.take_drop ((s + 1 : Nat) : Int)).1
 have h2 : SrcUp (l.filter fun x => decide (x.src < ((s + 1 : Nat) : Int))) := h.filter _
 have h3 := (h2.take_drop (s : Int)).2
 have e1 : (l.filter fun x => decide (x.src < ((s + 1 : Nat) : Int))).filter (fun x => decide (x.src < (s : Int))) = l.filter fun x => decide (x.src < (s : Int)) := by
  rw [List.filter_filter]
  refine List.filter_congr fun x _ => ?_
  by_cases g : x.src < (s : Int)
  · have : x.src < ((s + 1 : Nat) : Int) := by omega
    simp only [g,this,decide_true,Bool.and_self]
  · simp only [g,decide_false,Bool.false_and]
 rw [e1] at h3
 unfold fstV
 rw [h1,h3,List.filter_filter]
 unfold outOf
 refine List.filter_congr fun x _ => ?_
 rw [Bool.eq_iff_iff]
 simp
 omega
theorem fstV_mono (l : List Ed) (s : Nat) : fstV l s ≤ fstV l (s + 1) := by rw [fstV_succ]; omega
theorem Au.Right.srcUp {a : Au} (hr : a.Right) : SrcUp a.ed := List.pairwise_iff_getElem.2 fun i j hi hj hij => by
 rcases hr.lex i j _ _ hij (List.getElem?_eq_getElem hi) (List.getElem?_eq_getElem hj) with h | h <;> omega
theorem outOf_size {a : Au} (hr : a.Right) (s : Nat) : (outOf a.ed s).length = fstV a.ed (s + 1) - fstV a.ed s := by
 rw [outOf_range hr.srcUp,List.length_drop,List.length_take]
 have := fstV_le a.ed (s + 1)
 omega
theorem outOf_at {a : Au} (hr : a.Right) (s t : Nat) (h : t < fstV a.ed (s + 1) - fstV a.ed s) : (outOf a.ed s)[t]? = a.ed[fstV a.ed s + t]? := by
 rw [outOf_range hr.srcUp,List.getElem?_drop,List.getElem?_take,if_pos (by omega)]

theorem rises_len' {n : Nat} {l : List Int} (h : Rises (fun x y : Int => x < y) l) (hr : ∀ x,x ∈ l → 0 ≤ x ∧ x < n) : l.length ≤ n := by
 have key : ∀ (i : Nat) x,l[i]? = some x → (i : Int) ≤ x := by
  intro i
  induction i with
  | zero => intro x hx; exact (hr x (List.mem_of_getElem? hx)).1
  | succ i ih =>
    intro x hx
    have hi := (List.getElem?_eq_some_iff.1 hx).1
    have h1 := ih _ (List.getElem?_eq_getElem (show i < l.length by omega))
    have h2 := h i (i + 1) _ x (by omega) (List.getElem?_eq_getElem (show i < l.length by omega)) hx
    omega
 rcases Nat.eq_zero_or_pos l.length with e | e
 · omega
 · have h1 := key (l.length - 1) _ (List.getElem?_eq_getElem (by omega))
   have h2 := hr _ (List.getElem_mem (show l.length - 1 < l.length by omega))
   omega
theorem outOf_32' {a : Au} (hr : a.Right) (s : Nat) : (outOf a.ed s).length ≤ 32 := by
 have := rises_len' (n := 32) (l := (outOf a.ed s).map (·.ev)) (fun i j x y hij hx hy => by
  rw [List.getElem?_map,Option.map_eq_some_iff] at hx hy
  obtain ⟨u,hu,rfl⟩ := hx
  obtain ⟨v,hv,rfl⟩ := hy
  exact outOf_rises hr s i j u v hij hu hv) (fun x hx => by
  obtain ⟨u,hu,rfl⟩ := List.mem_map.1 hx
  obtain ⟨p,hp,hpx⟩ := List.mem_iff_getElem.1 (mem_outOf.1 hu).1
  have h1 := (hr.edge (p := p) (by rw [List.getElem?_eq_getElem hp,hpx])).2.2.2.2
  obtain ⟨i,hi,hix⟩ := List.mem_iff_getElem.1 h1
  have := hr.al i _ hi (List.getElem?_eq_getElem hi)
  rw [hix] at this
  exact ⟨this.1,this.2.1⟩)
 simpa using this
theorem fstV_32 {a : Au} (hr : a.Right) : ∀ j : Nat,fstV a.ed j ≤ 32 * j
 | 0 => by rw [fstV_zero (fun x hx => by
    obtain ⟨p,hp,hpx⟩ := List.mem_iff_getElem.1 hx
    exact (hr.edge (p := p) (by rw [List.getElem?_eq_getElem hp,hpx])).1)]; exact Nat.le_refl _
 | j + 1 => by
   have h1 := fstV_32 hr j
   have h2 := outOf_32' hr j
   rw [outOf_size hr] at h2
   omega
theorem fstV_all {a : Au} (hr : a.Right) : fstV a.ed a.n.toNat = a.ed.length := by
 unfold fstV
 rw [List.filter_eq_self.2 (fun x hx => by
  obtain ⟨p,hp,hpx⟩ := List.mem_iff_getElem.1 hx
  have := (hr.edge (p := p) (by rw [List.getElem?_eq_getElem hp,hpx])).2.1
  simp; omega)]
theorem ed_len {a : Au} (hr : a.Right) : a.ed.length ≤ 131072 := by
 have h1 := fstV_32 hr a.n.toNat
 rw [fstV_all hr] at h1
 have := hr.n1
 omega

def kth (a : Au) (keep : Int → Bool) (v : Int) (t : Nat) : Nat := (((outOf a.ed v.toNat).take t).filter fun x => keep x.dst).length
def predsOf (l : List Ed) (s : Nat) : List Int := (l.filter fun x => decide (x.dst = (s : Int))).map (·.src)
theorem predsOf_snoc (l : List Ed) (x : Ed) (s : Nat) : predsOf (l ++ [x]) s = if x.dst = (s : Int) then predsOf l s ++ [x.src] else predsOf l s := by
 unfold predsOf
 rw [List.filter_append,List.map_append]
 by_cases h : x.dst = (s : Int) <;> simp [h]
theorem mem_predsOf {l : List Ed} {s : Nat} {p : Int} : p ∈ predsOf l s ↔ ∃ x,x ∈ l ∧ x.dst = (s : Int) ∧ x.src = p := by
 unfold predsOf
 simp only [List.mem_map,List.mem_filter,decide_eq_true_eq]
 constructor
 · rintro ⟨x,⟨h1,h2⟩,h3⟩; exact ⟨x,h1,h2,h3⟩
 · rintro ⟨x,h1,h2,h3⟩; exact ⟨x,⟨h1,h2⟩,h3⟩
theorem predsOf_len (l : List Ed) (s : Nat) : (predsOf l s).length ≤ l.length := by
 unfold predsOf; rw [List.length_map]; exact List.length_filter_le _ _
structure Bwd (a : Au) (N : Nat) (tq fs : List Int) (d : Nat → Int) (h k : Nat) : Prop where
 mem : ∀ s : Nat,s < N → (0 ≤ d s ↔ (s : Int) ∈ fs)
 le : ∀ (j : Nat) v,fs[j]? = some v → d v.toNat ≤ j
 nd : fs.Nodup
 rg : ∀ v,v ∈ fs → 0 ≤ v ∧ v < N
 snd : ∀ v,v ∈ fs → ∃ w,runV a.ed v w ∈ tq
 tgt : ∀ v,v ∈ tq → v ∈ fs
 cl : ∀ (j q : Nat) v p,fs[j]? = some v → (predsOf a.ed v.toNat)[q]? = some p → (j < h ∨ j = h ∧ q < k) → p ∈ fs
section
variable {a : Au} {N h k : Nat} {tq fs : List Int} {d : Nat → Int}
theorem Bwd.len (B : Bwd a N tq fs d h k) : fs.length ≤ N := by
 have := sub_len (fs.map Int.toNat) (List.range N) (by
  rw [List.nodup_iff_pairwise_ne,List.pairwise_map]
  have hp := List.nodup_iff_pairwise_ne.1 B.nd
  refine (List.Pairwise.imp_of_mem ?_ hp)
  intro x y hx hy hxy
  have := B.rg x hx; have := B.rg y hy
  omega) (fun x hx => by
  obtain ⟨v,hv,rfl⟩ := List.mem_map.1 hx
  have := B.rg v hv
  simp; omega)
 simpa using this
theorem Bwd.next (B : Bwd a N tq fs d h k) {v : Int} (hv : fs[h]? = some v) (hk : (predsOf a.ed v.toNat).length ≤ k) : Bwd a N tq fs d (h + 1) 0 :=
 ⟨B.mem,B.le,B.nd,B.rg,B.snd,B.tgt,fun j q u p hu hp hc => by
  by_cases g : j < h
  · exact B.cl j q u p hu hp (.inl g)
  · obtain rfl : j = h := by omega
    rw [hv] at hu; cases hu
    have := (List.getElem?_eq_some_iff.1 hp).1
    exact B.cl j q v p hv hp (.inr ⟨rfl,by omega⟩)⟩
theorem Bwd.old (B : Bwd a N tq fs d h k) {v p : Int} (hv : fs[h]? = some v) (hp : (predsOf a.ed v.toNat)[k]? = some p) (hm : p ∈ fs) : Bwd a N tq fs d h (k + 1) :=
 ⟨B.mem,B.le,B.nd,B.rg,B.snd,B.tgt,fun j q u p' hu hp' hc => by
  by_cases g : j < h ∨ j = h ∧ q < k
  · exact B.cl j q u p' hu hp' g
  · obtain ⟨rfl,rfl⟩ : j = h ∧ q = k := by omega
    rw [hv] at hu; cases hu
    rw [hp] at hp'; cases hp'
    exact hm⟩
theorem Bwd.new (hr : a.Right) (hN : a.n = N) (B : Bwd a N tq fs d h k) {v p : Int} (hv : fs[h]? = some v) (hp : (predsOf a.ed v.toNat)[k]? = some p) (hm : ¬ p ∈ fs) :
 Bwd a N tq (fs ++ [p]) (fun s => if s = p.toNat then d v.toNat + 1 else d s) h (k + 1) := by
 have hhl := (List.getElem?_eq_some_iff.1 hv).1
 have hvm := List.mem_of_getElem? hv
 have hvr := B.rg v hvm
 obtain ⟨x,hx,x1,x2⟩ := mem_predsOf.1 (List.mem_of_getElem? hp)
 have hn := edge_next hr hx
 have hp0 : 0 ≤ p ∧ p < N := by rw [← x2]; omega
 have hd0 : 0 ≤ d v.toNat := (B.mem v.toNat (by omega)).2 (by rw [Int.toNat_of_nonneg hvr.1]; exact hvm)
 refine ⟨fun s hs => ?_,fun j u hu => ?_,?_,fun u hu => ?_,fun u hu => ?_,fun u hu => List.mem_append_left _ (B.tgt u hu),fun j q u p' hu hp' hc => ?_⟩
 · rw [List.mem_append,List.mem_singleton]
   by_cases e : s = p.toNat
   · rw [if_pos e]
     exact ⟨fun _ => .inr (by omega),fun _ => by omega⟩
   · rw [if_neg e,B.mem s hs]
     exact ⟨.inl,fun g => g.elim id fun g => by omega⟩
 · rcases getElem?_snoc hu with g | ⟨g,rfl⟩
   · have h1 := B.le j u g
     have h2 := B.rg u (List.mem_of_getElem? g)
     have : u ≠ p := fun e => hm (by rw [← e]; exact List.mem_of_getElem? g)
     rw [if_neg (by omega)]; exact h1
   · rw [if_pos rfl]
     have h1 := B.le h v hv
     omega
 · rw [List.nodup_append]
   exact ⟨B.nd,by simp,fun x hx y hy => by rw [List.mem_singleton.1 hy]; rintro rfl; exact hm hx⟩
 · rcases List.mem_append.1 hu with g | g
   · exact B.rg u g
   · rw [List.mem_singleton.1 g]; exact hp0
 · rcases List.mem_append.1 hu with g | g
   · exact B.snd u g
   · rw [List.mem_singleton.1 g]
     obtain ⟨w,hw⟩ := B.snd v hvm
     refine ⟨x.ev :: w,?_⟩
     simp only [runV,hp0.1,if_true]
     rw [← x2,hn.1,x1,Int.toNat_of_nonneg hvr.1]
     exact hw
 · rcases getElem?_snoc hu with g | ⟨g,rfl⟩
   · by_cases c : j < h ∨ j = h ∧ q < k
     · exact List.mem_append_left _ (B.cl j q u p' g hp' c)
     · obtain ⟨rfl,rfl⟩ : j = h ∧ q = k := by omega
       rw [hv] at g; cases g
       rw [hp] at hp'; cases hp'
       simp
   · omega
theorem Bwd.start (hnd : tq.Nodup) (hrg : ∀ v,v ∈ tq → 0 ≤ v ∧ v < N) : Bwd a N tq tq (fun s => if (s : Int) ∈ tq then 0 else -1) 0 0 :=
 ⟨fun s _ => by by_cases g : (s : Int) ∈ tq <;> simp [g],fun j v hv => by
  have := hrg v (List.mem_of_getElem? hv)
  rw [Int.toNat_of_nonneg this.1,if_pos (List.mem_of_getElem? hv)]; omega,hnd,hrg,fun v hv => ⟨[],hv⟩,fun _ h => h,fun j q v p _ _ h => by omega⟩
theorem Bwd.fin (hr : a.Right) (hN : a.n = N) (hto : ∀ v,v ∈ tq → 0 ≤ v) (B : Bwd a N tq fs d fs.length k) {s : Nat} (hs : s < N) : 0 ≤ d s ↔ ∃ w,runV a.ed s w ∈ tq := by
 rw [B.mem s hs]
 constructor
 · exact B.snd _
 · rintro ⟨w,hw⟩
   have key : ∀ (w : List Int) (v : Int),0 ≤ v → runV a.ed v w ∈ tq → v ∈ fs := by
    intro w
    induction w with
    | nil => intro v _ h; exact B.tgt v h
    | cons e r ih =>
      intro v hv h
      simp only [runV,hv,if_true] at h
      rcases hr.next_cases v e with g | ⟨g0,g1,x,hx,x1,x2,x3⟩
      · rw [g,runV_neg _ (by omega)] at h
        have := hto _ h; omega
      · have hu := ih _ g0 h
        obtain ⟨j,hj,hju⟩ := List.mem_iff_getElem.1 hu
        have hpm : v ∈ predsOf a.ed (nextV a.ed v e).toNat := mem_predsOf.2 ⟨x,hx,by rw [x3,Int.toNat_of_nonneg g0],x1⟩
        obtain ⟨q,hq,hqv⟩ := List.mem_iff_getElem.1 hpm
        exact B.cl j q _ v (by rw [List.getElem?_eq_getElem hj,hju]) (by rw [List.getElem?_eq_getElem hq,hqv]) (.inl hj)
   exact key w s (Int.natCast_nonneg _) hw
end
end
def pdV (a b : Au) (v : Int × Int) : Bool := if v = (-1,-1) then false else decide (v.1 = -1) || decide (v.2 = -1) || (decide (v.1 ∈ a.mr) != decide (v.2 ∈ b.mr))
theorem pdV_dead (a b : Au) : pdV a b (-1,-1) = false := by simp [pdV]
def GivesD (a b : Au) (x y : Int) (w : World) (e : Ending) (w' : World) : Prop := ∃ (A : Option Addr) (c : Nat) (l : List Int) (f : Bool),e = .returned (.tuple #[.slice A l.length c,.bool f]) ∧ Hid (IntsAt w' A l) ∧ Below w.heap.size w w' ∧
 Hid (f = true ∧ LeastW (LeadsTo (stp2 a b) (x,y) (unionS a.al b.al) (fun q => pdV a b q = true)) l ∨ f = false ∧ l = [] ∧ ∀ u,¬ LeadsTo (stp2 a b) (x,y) (unionS a.al b.al) (fun q => pdV a b q = true) u)
theorem Au.Right.evr {a : Au} (hr : a.Right) {x : Int} (hx : x ∈ a.al) : 0 ≤ x ∧ x < 32 := by
 obtain ⟨i,hi,rfl⟩ := List.mem_iff_getElem.1 hx
 have := hr.al i _ hi (List.getElem?_eq_getElem hi)
 exact ⟨this.1,this.2.1⟩
theorem EvUp.out {a : Au} (hr : a.Right) (s : Nat) : EvUp (outOf a.ed s) := by
 have h := outOf_rises hr s
 exact List.pairwise_iff_getElem.2 fun i j hi hj hij => Int.le_of_lt (h i j _ _ hij (List.getElem?_eq_getElem hi) (List.getElem?_eq_getElem hj))
end Go.Proofs.YtimdepdbcdbikaaGreat
