/-
  Plain: classes of states that are refined till nothing parts them; what the minimal automaton is.
  Plain: what merge and Restrict build out of an automaton.
  minimal.appendInt, refine.
  The reference of layer 3: has, Step, index, Empty.
  Plain laws: the states that are found, and the canonical automaton.
  The states that are found.
  The canonical automaton.
  overseerref09.All and overseerlaw09.Even.
  minimal.edges: the edges of each state.
  minimal.classes: its two keys.
-/
import Derived.Test.YtjjifefanjnghaaBas03
import Derived.Test.YtjjifefanjnghaaBas01
import Derived.StillTailTactics
import Derived.Deep.RegionLaw
import Derived.Deep.DeepCutAuto
import Derived.Deep.CutBlock
import Derived.Laws.BytesArg
set_option linter.unusedSimpArgs false
set_option linter.unusedVariables false
namespace Go.Proofs.Ytjjifefanjnghaa
open Go.RowKit
set_option maxRecDepth 100000
section

section
variable {κ : Type} [DecidableEq κ]
def seenK : List κ → List κ → List κ
 | s,[] => s
 | s,k :: r => if k ∈ s then seenK s r else seenK (s ++ [k]) r
theorem seenK_snoc : ∀ (l s : List κ) (k : κ),seenK s (l ++ [k]) = if k ∈ seenK s l then seenK s l else seenK s l ++ [k]
 | [],s,k => by simp only [List.nil_append]; unfold seenK; split <;> rfl
 | x :: l,s,k => by
   simp only [List.cons_append,seenK]
   split
   · exact seenK_snoc l s k
   · exact seenK_snoc l (s ++ [x]) k
theorem mem_seenK : ∀ (l s : List κ) (x : κ),x ∈ seenK s l ↔ x ∈ s ∨ x ∈ l
 | [],s,x => by simp [seenK]
 | y :: l,s,x => by
   simp only [seenK]
   split
   · rename_i h
     rw [mem_seenK l s x,List.mem_cons]
     constructor
     · rintro (g | g)
       · exact .inl g
       · exact .inr (.inr g)
     · rintro (g | g | g)
       · exact .inl g
       · subst g; exact .inl h
       · exact .inr g
   · rw [mem_seenK l _ x,List.mem_append,List.mem_singleton,List.mem_cons,or_assoc]
def idxK (l : List κ) (k : κ) : Nat := l.findIdx fun y => decide (y = k)
theorem idxK_lt {l : List κ} {k : κ} (h : k ∈ l) : idxK l k < l.length := List.findIdx_lt_length_of_exists ⟨k,h,by simp⟩
theorem idxK_get {l : List κ} {k : κ} (h : k ∈ l) : l[idxK l k]? = some k := by
 have h1 := idxK_lt h
 rw [List.getElem?_eq_getElem h1]
 have := List.findIdx_getElem (xs := l) (p := fun y => decide (y = k)) (w := h1)
 simp at this
 exact congrArg some this
theorem idxK_app {l : List κ} {k : κ} (h : k ∈ l) (r : List κ) : idxK (l ++ r) k = idxK l k := by
 have h1 := idxK_lt h
 unfold idxK at h1 ⊢
 rw [List.findIdx_append,if_pos h1]
theorem idxK_new {l : List κ} {k : κ} (h : ¬ k ∈ l) : idxK (l ++ [k]) k = l.length := by
 unfold idxK
 have : l.findIdx (fun y => decide (y = k)) = l.length := List.findIdx_eq_length_of_false fun x hx => by simp; rintro rfl; exact h hx
 rw [List.findIdx_append,if_neg (by omega)]
 simp
theorem idxK_inj {l : List κ} {x y : κ} (hx : x ∈ l) (hy : y ∈ l) (h : idxK l x = idxK l y) : x = y := by
 have h1 := idxK_get hx
 rw [h,idxK_get hy] at h1
 exact (Option.some.inj h1).symm
def numK (l : List κ) : List Int := l.map fun k => ((idxK (seenK [] l) k : Nat) : Int)
def cntK (l : List κ) : Nat := (seenK [] l).length
theorem numK_len (l : List κ) : (numK l).length = l.length := by simp [numK]
theorem numK_snoc (l : List κ) (k : κ) : numK (l ++ [k]) = numK l ++ [((idxK (seenK [] (l ++ [k])) k : Nat) : Int)] := by
 unfold numK
 rw [List.map_append]
 congr 1
 refine List.map_congr_left fun x hx => ?_
 rw [seenK_snoc]
 split
 · rfl
 · rw [idxK_app ((mem_seenK l [] x).2 (.inr hx))]
theorem idxK_old {l : List κ} {k : κ} (h : k ∈ seenK [] l) : idxK (seenK [] (l ++ [k])) k = idxK (seenK [] l) k := by rw [seenK_snoc,if_pos h]
theorem idxK_fresh {l : List κ} {k : κ} (h : ¬ k ∈ seenK [] l) : idxK (seenK [] (l ++ [k])) k = cntK l := by rw [seenK_snoc,if_neg h,idxK_new h]; rfl
end

structure Canon (c : List Int) (m : Nat) : Prop where
 rg : ∀ (s : Nat) x,c[s]? = some x → 0 ≤ x ∧ x < m
 on : ∀ y : Nat,y < m → ∃ s : Nat,c[s]? = some (y : Int)
 cn : ∀ (s : Nat) x,c[s]? = some x → ∀ y : Nat,(y : Int) < x → ∃ t : Nat,t < s ∧ c[t]? = some (y : Int)
theorem numK_canon {κ : Type} [DecidableEq κ] (l : List κ) : Canon (numK l) (cntK l) := by
 refine snoc_ind (P := fun l => Canon (numK l) (cntK l)) ⟨by simp [numK],by simp [cntK,seenK],by simp [numK]⟩ ?_ l
 intro l k h
 by_cases hk : k ∈ seenK [] l
 · have hc : cntK (l ++ [k]) = cntK l := by unfold cntK; rw [seenK_snoc,if_pos hk]
   rw [hc,numK_snoc,idxK_old hk]
   have hlt : idxK (seenK [] l) k < cntK l := idxK_lt hk
   refine ⟨fun s x hx => ?_,fun y hy => ?_,fun s x hx y hy => ?_⟩
   · rcases getElem?_snoc hx with g | ⟨_,rfl⟩
     · exact h.rg s x g
     · omega
   · obtain ⟨s,hs⟩ := h.on y hy
     exact ⟨s,get_keep hs _⟩
   · rcases getElem?_snoc hx with g | ⟨g,rfl⟩
     · obtain ⟨t,h1,h2⟩ := h.cn s x g y hy
       exact ⟨t,h1,get_keep h2 _⟩
     · obtain ⟨t,ht⟩ := h.on y (by omega)
       exact ⟨t,by rw [g]; exact (List.getElem?_eq_some_iff.1 ht).1,get_keep ht _⟩
 · have hc : cntK (l ++ [k]) = cntK l + 1 := by unfold cntK; rw [seenK_snoc,if_neg hk]; simp
   rw [hc,numK_snoc,idxK_fresh hk]
   refine ⟨fun s x hx => ?_,fun y hy => ?_,fun s x hx y hy => ?_⟩
   · rcases getElem?_snoc hx with g | ⟨_,rfl⟩
     · have := h.rg s x g; omega
     · omega
   · by_cases e : y < cntK l
     · obtain ⟨s,hs⟩ := h.on y e
       exact ⟨s,get_keep hs _⟩
     · obtain rfl : y = cntK l := by omega
       exact ⟨(numK l).length,by simp⟩
   · rcases getElem?_snoc hx with g | ⟨g,rfl⟩
     · obtain ⟨t,h1,h2⟩ := h.cn s x g y hy
       exact ⟨t,h1,get_keep h2 _⟩
     · obtain ⟨t,ht⟩ := h.on y (by omega)
       exact ⟨t,by rw [g]; exact (List.getElem?_eq_some_iff.1 ht).1,get_keep ht _⟩
theorem numK_ker {κ : Type} [DecidableEq κ] {l : List κ} {i j : Nat} {x y : κ} (hx : l[i]? = some x) (hy : l[j]? = some y) : (numK l)[i]? = (numK l)[j]? ↔ x = y := by
 unfold numK
 rw [List.getElem?_map,List.getElem?_map,hx,hy]
 simp only [Option.map_some,Option.some.injEq]
 constructor
 · intro h
   exact idxK_inj ((mem_seenK l [] x).2 (.inr (List.mem_of_getElem? hx))) ((mem_seenK l [] y).2 (.inr (List.mem_of_getElem? hy))) (by omega)
 · rintro rfl; rfl

theorem sub_len : ∀ (l l' : List Nat),l.Nodup → (∀ x,x ∈ l → x ∈ l') → l.length ≤ l'.length
 | [],_,_,_ => by simp
 | a :: l,l',hn,h => by
   rw [List.nodup_cons] at hn
   have ha := h a (by simp)
   have := sub_len l (l'.erase a) hn.2 fun x hx => (List.mem_erase_of_ne (by rintro rfl; exact hn.1 hx)).2 (h x (by simp [hx]))
   rw [List.length_erase_of_mem ha] at this
   have := List.length_pos_of_mem ha
   simp only [List.length_cons]
   omega
theorem pigeon (f : Nat → Nat) (m m' : Nat) (h : ∀ x,x < m → ∃ y,y < m' ∧ f y = x) : m ≤ m' ∧ (m = m' → ∀ y y',y < m' → y' < m' → f y = f y' → y = y') := by
 constructor
 · have := sub_len (List.range m) ((List.range m').map f) List.nodup_range fun x hx => by
    obtain ⟨y,h1,h2⟩ := h x (by simpa using hx)
    exact List.mem_map.2 ⟨y,by simpa using h1,h2⟩
   simpa using this
 · rintro rfl y y' hy hy' he
   by_cases e : y = y'
   · exact e
   · have := sub_len (List.range m) (((List.range m).erase y').map f) List.nodup_range fun x hx => by
      obtain ⟨z,h1,h2⟩ := h x (by simpa using hx)
      by_cases ez : z = y'
      · subst ez
        exact List.mem_map.2 ⟨y,(List.mem_erase_of_ne e).2 (by simpa using hy),by rw [he,h2]⟩
      · exact List.mem_map.2 ⟨z,(List.mem_erase_of_ne ez).2 (by simpa using h1),h2⟩
     rw [List.length_map,List.length_erase_of_mem (by simpa using hy')] at this
     simp at this
     omega

def Eqv (a : Au) (i j : Int) : Prop := ∀ w,(0 ≤ runV a.ed i w ↔ 0 ≤ runV a.ed j w) ∧ (runV a.ed i w ∈ a.mr ↔ runV a.ed j w ∈ a.mr)
theorem Eqv.next {a : Au} {i j : Int} (h : Eqv a i j) (hi : 0 ≤ i) (hj : 0 ≤ j) (e : Int) : Eqv a (nextV a.ed i e) (nextV a.ed j e) := fun w => by
 have := h (e :: w)
 simpa only [runV,hi,hj,if_true] using this
def clsV (c : List Int) (s : Int) : Int := c.getD s.toNat 0
def sigV (a : Au) (c : List Int) (s : Nat) : Int × List (Int × Int) := (c.getD s 0,(outOf a.ed s).map fun x => (x.ev,clsV c x.dst))
structure Moore (a : Au) (c : List Int) (m : Nat) : Prop where
 len : c.length = a.n.toNat
 can : Canon c m
 mkd : ∀ i j : Nat,i < c.length → c[i]? = c[j]? → ((i : Int) ∈ a.mr ↔ (j : Int) ∈ a.mr)
 eq : ∀ i j : Nat,i < c.length → j < c.length → Eqv a i j → c[i]? = c[j]?
section
variable {a : Au} {c c' : List Int} {m m' : Nat}
theorem getD_some {l : List Int} {i : Nat} {x : Int} (h : l[i]? = some x) (d : Int) : l.getD i d = x := by rw [List.getD_eq_getElem?_getD,h]; rfl
theorem outOf_rises (hr : a.Right) (s : Nat) : Rises (fun x y : Ed => x.ev < y.ev) (outOf a.ed s) := by
 have h1 : (a.ed).Pairwise edLt := List.pairwise_iff_getElem.2 fun i j hi hj hij => hr.lex i j _ _ hij (List.getElem?_eq_getElem hi) (List.getElem?_eq_getElem hj)
 have h2 : (outOf a.ed s).Pairwise edLt := h1.filter _
 intro i j x y hij hx hy
 obtain ⟨hi,hix⟩ := List.getElem?_eq_some_iff.1 hx
 obtain ⟨hj,hjy⟩ := List.getElem?_eq_some_iff.1 hy
 have h3 := List.pairwise_iff_getElem.1 h2 i j hi hj hij
 rw [hix,hjy] at h3
 have e1 := List.mem_of_getElem? hx
 have e2 := List.mem_of_getElem? hy
 simp only [outOf,List.mem_filter,decide_eq_true_eq] at e1 e2
 rcases h3 with g | g
 · omega
 · exact g.2
theorem mem_outOf {l : List Ed} {s : Nat} {x : Ed} : x ∈ outOf l s ↔ x ∈ l ∧ x.src = (s : Int) := by simp [outOf]
theorem edge_next (hr : a.Right) {x : Ed} (hx : x ∈ a.ed) : nextV a.ed x.src x.ev = x.dst ∧ 0 ≤ x.src ∧ x.src < a.n ∧ 0 ≤ x.dst ∧ x.dst < a.n := by
 obtain ⟨p,hp,hpx⟩ := List.mem_iff_getElem.1 hx
 have h := List.getElem?_eq_getElem hp
 rw [hpx] at h
 have := hr.edge h
 exact ⟨hr.nextE h,this.1,this.2.1,this.2.2.1,this.2.2.2.1⟩
theorem sig_sub (hr : a.Right) (h : Moore a c m) {i j : Nat} (hi : i < c.length) (hj : j < c.length) (he : Eqv a i j) : ∀ p : Int × Int,p ∈ (outOf a.ed i).map (fun x => (x.ev,clsV c x.dst)) → p ∈ (outOf a.ed j).map (fun x => (x.ev,clsV c x.dst)) := by
 intro p hp
 obtain ⟨x,hx,rfl⟩ := List.mem_map.1 hp
 obtain ⟨hx1,hx2⟩ := mem_outOf.1 hx
 obtain ⟨k1,k2,k3,k4,k5⟩ := edge_next hr hx1
 have h0 := he.next (by omega) (by omega) x.ev
 rw [← hx2,k1] at h0
 rcases hr.next_cases j x.ev with g | ⟨g0,g1,y,hy,y1,y2,y3⟩
 · have := (h0 []).1.1 k4
   simp only [runV] at this
   omega
 · refine List.mem_map.2 ⟨y,mem_outOf.2 ⟨hy,y1⟩,?_⟩
   rw [← y3] at h0
   have hn := h.len
   have := h.eq x.dst.toNat y.dst.toNat (by omega) (by omega) (by
    rw [Int.toNat_of_nonneg k4,Int.toNat_of_nonneg (by omega)]; exact h0)
   rw [y2]
   unfold clsV
   rw [List.getD_eq_getElem?_getD,List.getD_eq_getElem?_getD,this]
theorem Eqv.symm {a : Au} {i j : Int} (h : Eqv a i j) : Eqv a j i := fun w => ⟨(h w).1.symm,(h w).2.symm⟩
theorem sig_rises (hr : a.Right) (c : List Int) (s : Nat) : Rises (fun x y : Int × Int => x.1 < y.1) ((outOf a.ed s).map fun x => (x.ev,clsV c x.dst)) := by
 intro i j x y hij hx hy
 rw [List.getElem?_map,Option.map_eq_some_iff] at hx hy
 obtain ⟨u,hu,rfl⟩ := hx
 obtain ⟨v,hv,rfl⟩ := hy
 exact outOf_rises hr s i j u v hij hu hv
theorem sig_eqv (hr : a.Right) (h : Moore a c m) {i j : Nat} (hi : i < c.length) (hj : j < c.length) (he : Eqv a i j) : sigV a c i = sigV a c j := by
 unfold sigV
 have h1 := h.eq i j hi hj he
 rw [List.getD_eq_getElem?_getD,h1,← List.getD_eq_getElem?_getD]
 congr 1
 refine Rises.ext (R := fun x y : Int × Int => x.1 < y.1) (fun x => by omega) (fun x y => by omega) (sig_rises hr c i) (sig_rises hr c j) fun p => ⟨sig_sub hr h hi hj he p,sig_sub hr h hj hi he.symm p⟩
theorem Moore.first (h : c.length = a.n.toNat) (hc : Canon c m) (hk : ∀ i j : Nat,i < c.length → j < c.length → (c[i]? = c[j]? ↔ ((i : Int) ∈ a.mr ↔ (j : Int) ∈ a.mr))) : Moore a c m := by
 refine ⟨h,hc,fun i j hi hij => ?_,fun i j hi hj he => (hk i j hi hj).2 ((he []).2)⟩
 have hj : j < c.length := by
  rw [List.getElem?_eq_getElem hi] at hij
  exact (List.getElem?_eq_some_iff.1 hij.symm).1
 exact (hk i j hi hj).1 hij
theorem Moore.step (hr : a.Right) (h : Moore a c m) (hl : c'.length = a.n.toNat) (hc : Canon c' m') (hk : ∀ i j : Nat,i < c'.length → j < c'.length → (c'[i]? = c'[j]? ↔ sigV a c i = sigV a c j)) : Moore a c' m' := by
 have hlc : c'.length = c.length := by rw [hl,h.len]
 refine ⟨hl,hc,fun i j hi hij => ?_,fun i j hi hj he => (hk i j hi hj).2 (sig_eqv hr h (by omega) (by omega) he)⟩
 have hj : j < c'.length := by
  rw [List.getElem?_eq_getElem hi] at hij
  exact (List.getElem?_eq_some_iff.1 hij.symm).1
 have h2 := congrArg Prod.fst ((hk i j hi hj).1 hij)
 refine h.mkd i j (by omega) ?_
 simp only [sigV] at h2
 rw [getD_lt _ (by omega),getD_lt _ (by omega)] at h2
 rw [List.getElem?_eq_getElem (by omega),List.getElem?_eq_getElem (by omega),h2]
theorem Moore.count (h : Moore a c m) (hl : c'.length = a.n.toNat) (hc : Canon c' m') (hk : ∀ i j : Nat,i < c'.length → j < c'.length → (c'[i]? = c'[j]? ↔ sigV a c i = sigV a c j)) :
 m ≤ m' ∧ (m = m' → ∀ i j : Nat,i < c.length → j < c.length → c[i]? = c[j]? → c'[i]? = c'[j]?) := by
 have hlc : c'.length = c.length := by rw [hl,h.len]
 have ref : ∀ i j : Nat,i < c'.length → j < c'.length → c'[i]? = c'[j]? → c[i]? = c[j]? := fun i j hi hj he => by
  have h2 := congrArg Prod.fst ((hk i j hi hj).1 he)
  simp only [sigV] at h2
  rw [getD_lt _ (by omega),getD_lt _ (by omega)] at h2
  rw [List.getElem?_eq_getElem (by omega),List.getElem?_eq_getElem (by omega),h2]
 obtain ⟨f,hf⟩ : ∃ f : Nat → Nat,∀ (s : Nat) (y : Nat),c'[s]? = some (y : Int) → c[s]? = some ((f y : Nat) : Int) := by
  refine ⟨fun y => (c.getD (c'.findIdx fun z => decide (z = (y : Int))) 0).toNat,fun s y hs => ?_⟩
  have hm := List.mem_of_getElem? hs
  have h1 : idxK c' (y : Int) < c'.length := idxK_lt hm
  have h2 : c'[idxK c' (y : Int)]? = some (y : Int) := idxK_get hm
  have hsl := (List.getElem?_eq_some_iff.1 hs).1
  have h3 := ref s (idxK c' (y : Int)) hsl h1 (by rw [hs,h2])
  have h4 : c[s]? = some c[s] := List.getElem?_eq_getElem (by omega)
  have h5 := (h.can.rg s _ h4).1
  rw [h3] at h4
  show c[s]? = some (((c.getD (idxK c' (y : Int)) 0).toNat : Nat) : Int)
  rw [h3,getD_some h4,Int.toNat_of_nonneg h5,h4]
 have hp := pigeon f m m' (fun x hx => by
  obtain ⟨s,hs⟩ := h.can.on x hx
  have hsl := (List.getElem?_eq_some_iff.1 hs).1
  obtain ⟨y,hy⟩ : ∃ y,c'[s]? = some y := ⟨_,List.getElem?_eq_getElem (by omega)⟩
  have hr := hc.rg s y hy
  refine ⟨y.toNat,by omega,?_⟩
  have := hf s y.toNat (by rw [hy,Int.toNat_of_nonneg hr.1])
  rw [hs] at this
  have := Option.some.inj this
  omega)
 refine ⟨hp.1,fun e i j hi hj hij => ?_⟩
 obtain ⟨y,hy⟩ : ∃ y,c'[i]? = some y := ⟨_,List.getElem?_eq_getElem (by omega)⟩
 obtain ⟨z,hz⟩ : ∃ z,c'[j]? = some z := ⟨_,List.getElem?_eq_getElem (by omega)⟩
 have ry := hc.rg i y hy
 have rz := hc.rg j z hz
 have e1 := hf i y.toNat (by rw [hy,Int.toNat_of_nonneg ry.1])
 have e2 := hf j z.toNat (by rw [hz,Int.toNat_of_nonneg rz.1])
 rw [hij,e2] at e1
 have e3 : ((f z.toNat : Nat) : Int) = (f y.toNat : Nat) := Option.some.inj e1
 have := hp.2 e y.toNat z.toNat (by omega) (by omega) (by omega)
 rw [hy,hz]
 congr 1
 omega
theorem Moore.fin (hr : a.Right) (h : Moore a c m) (hl : c'.length = a.n.toNat) (hc : Canon c' m) (hk : ∀ i j : Nat,i < c'.length → j < c'.length → (c'[i]? = c'[j]? ↔ sigV a c i = sigV a c j)) :
 ∀ i j : Nat,i < c'.length → j < c'.length → (c'[i]? = c'[j]? ↔ Eqv a i j) := by
 have M' := h.step hr hl hc hk
 have back := (h.count hl hc hk).2 rfl
 have hlc : c'.length = c.length := by rw [hl,h.len]
 intro i j hi hj
 refine ⟨fun hij w => ?_,fun he => M'.eq i j hi hj he⟩
 have key : ∀ (w : List Int) (i j : Nat),i < c'.length → j < c'.length → c'[i]? = c'[j]? → (0 ≤ runV a.ed i w ↔ 0 ≤ runV a.ed j w) ∧ (runV a.ed i w ∈ a.mr ↔ runV a.ed j w ∈ a.mr) := by
  intro w
  induction w with
  | nil => intro i j hi hj hij; exact ⟨by simp only [runV]; omega,M'.mkd i j hi hij⟩
  | cons e w ih =>
    intro i j hi hj hij
    have i0 : (0 : Int) ≤ (i : Int) := by omega
    have j0 : (0 : Int) ≤ (j : Int) := by omega
    simp only [runV,i0,j0,if_true]
    have hs := congrArg Prod.snd ((hk i j hi hj).1 hij)
    simp only [sigV] at hs
    have one : ∀ (i j : Nat),(outOf a.ed i).map (fun x => (x.ev,clsV c x.dst)) = (outOf a.ed j).map (fun x => (x.ev,clsV c x.dst)) → ∀ x,x ∈ a.ed → x.src = (i : Int) → x.ev = e → ∃ y,y ∈ a.ed ∧ y.src = (j : Int) ∧ y.ev = e ∧ clsV c y.dst = clsV c x.dst := fun i j hs x hx h1 h2 => by
     have : (x.ev,clsV c x.dst) ∈ (outOf a.ed j).map (fun x => (x.ev,clsV c x.dst)) := by rw [← hs]; exact List.mem_map.2 ⟨x,mem_outOf.2 ⟨hx,h1⟩,rfl⟩
     obtain ⟨y,hy,hyx⟩ := List.mem_map.1 this
     obtain ⟨y1,y2⟩ := mem_outOf.1 hy
     rw [Prod.mk.injEq] at hyx
     exact ⟨y,y1,y2,by rw [hyx.1,h2],hyx.2⟩
    have neg : ∀ x : Int,x = -1 → ∀ w,¬ 0 ≤ runV a.ed x w ∧ ¬ runV a.ed x w ∈ a.mr := fun x hx w => by
     rw [runV_neg _ (by omega)]
     exact ⟨by omega,fun hm => by have := (hr.mem hm).1; omega⟩
    rcases hr.next_cases i e with g | ⟨g0,g1,x,hx,x1,x2,x3⟩ <;> rcases hr.next_cases j e with g' | ⟨g0',g1',y,hy,y1,y2,y3⟩
    · exact ⟨⟨fun q => absurd q (neg _ g w).1,fun q => absurd q (neg _ g' w).1⟩,⟨fun q => absurd q (neg _ g w).2,fun q => absurd q (neg _ g' w).2⟩⟩
    · obtain ⟨x,hx,h1,h2,_⟩ := one j i hs.symm y hy y1 y2
      have := edge_next hr hx
      rw [h1,h2] at this; omega
    · obtain ⟨y,hy,h1,h2,_⟩ := one i j hs x hx x1 x2
      have := edge_next hr hy
      rw [h1,h2] at this; omega
    · obtain ⟨z,hz,z1,z2,z3⟩ := one i j hs x hx x1 x2
      obtain rfl : z = y := hr.uniq hz hy (by omega) (by omega)
      have hn := h.len
      have b1 := edge_next hr hx
      have b2 := edge_next hr hz
      rw [← x3,← y3]
      have p1 : x.dst.toNat < c.length := by omega
      have p2 : z.dst.toNat < c.length := by omega
      have := back x.dst.toNat z.dst.toNat p1 p2 (by
       unfold clsV at z3
       rw [getD_lt _ p1,getD_lt _ p2] at z3
       rw [List.getElem?_eq_getElem p1,List.getElem?_eq_getElem p2,z3])
      have q := ih x.dst.toNat z.dst.toNat (by omega) (by omega) this
      rw [Int.toNat_of_nonneg (by omega),Int.toNat_of_nonneg (by omega)] at q
      exact q
 exact key w i j hi hj hij
end

structure Mini (a m : Au) : Prop where
 al : m.al = a.al
 rt : m.Right
 num : Num m.ed m.n
 gen : ∀ w,0 ≤ rn m w ↔ 0 ≤ rn a w
 mkd : ∀ w,rn m w ∈ m.mr ↔ rn a w ∈ a.mr
 ds : ∀ i j : Int,0 ≤ i → i < m.n → 0 ≤ j → j < m.n → Eqv m i j → i = j
structure Trimd (a t : Au) : Prop where
 al : t.al = a.al
 rt : t.Right
 num : Num t.ed t.n
 co : ∀ i : Int,0 ≤ i → i < t.n → ∃ w,runV t.ed i w ∈ t.mr
 lang : ∀ w,rn t w ∈ t.mr ↔ rn a w ∈ a.mr
end
section

section
variable {a : Au}
def outK (a : Au) (keep : Int → Bool) (v : Int) : List (Int × Int) := ((outOf a.ed v.toNat).filter fun x => keep x.dst).map fun x => (x.ev,x.dst)
theorem mem_outK (hr : a.Right) {keep : Int → Bool} {v e t : Int} (hv : 0 ≤ v) : (e,t) ∈ outK a keep v ↔ nextV a.ed v e = t ∧ 0 ≤ t ∧ keep t = true := by
 constructor
 · intro h
   obtain ⟨x,hx,he⟩ := List.mem_map.1 h
   rw [List.mem_filter,mem_outOf] at hx
   obtain ⟨⟨h1,h2⟩,h3⟩ := hx
   rw [Prod.mk.injEq] at he
   obtain ⟨rfl,rfl⟩ := he
   have := edge_next hr h1
   rw [h2,Int.toNat_of_nonneg hv] at this
   exact ⟨this.1,this.2.2.2.1,h3⟩
 · rintro ⟨h1,h2,h3⟩
   rcases hr.next_cases v e with g | ⟨_,_,x,hx,x1,x2,x3⟩
   · omega
   · refine List.mem_map.2 ⟨x,?_,by rw [x2,x3,h1]⟩
     rw [List.mem_filter,mem_outOf]
     exact ⟨⟨hx,by omega⟩,by rw [x3,h1]; exact h3⟩
theorem outK_ups (hr : a.Right) (keep : Int → Bool) (v : Int) : Ups (outK a keep v) := by
 have h1 : (outOf a.ed v.toNat).Pairwise (fun x y => x.ev < y.ev) := List.pairwise_iff_getElem.2 fun i j hi hj hij => outOf_rises hr v.toNat i j _ _ hij (List.getElem?_eq_getElem hi) (List.getElem?_eq_getElem hj)
 have h2 := h1.filter (fun x => keep x.dst)
 intro p q x y hpq hx hy
 unfold outK at hx hy
 rw [List.getElem?_map,Option.map_eq_some_iff] at hx hy
 obtain ⟨u,hu,rfl⟩ := hx
 obtain ⟨z,hz,rfl⟩ := hy
 obtain ⟨hi,e1⟩ := List.getElem?_eq_some_iff.1 hu
 obtain ⟨hj,e2⟩ := List.getElem?_eq_some_iff.1 hz
 have := List.pairwise_iff_getElem.1 h2 p q hi hj hpq
 rw [e1,e2] at this
 exact this
def runK (a : Au) (keep : Int → Bool) : Int → List Int → Option Int
 | v,[] => some v
 | v,e :: r => if 0 ≤ nextV a.ed v e ∧ keep (nextV a.ed v e) = true then runK a keep (nextV a.ed v e) r else none
end
end
def encB (x : Int) : List Value := [.int .u8 x]
abbrev eBytes (l : List Int) (v : Value) : Ent := eOwn encB 1 5 l v
theorem byteInfo : (Try.prog.info? 5).map (fun i => (i.zero,i.size,i.bytes)) = some (some (.int .u8 0),1,1) := by kernel_rfl
theorem encB_one (y : Int) : ∀ u ∈ encB y,u.oneCell' = true := fun u hu => by simp [encB] at hu; subst hu; rfl
def two (x : Int) : List Int := [x / 256,x % 256]
def GivesP (n0 : Nat) (w0 : World) (es : List Ent) (i : Nat) (l : List Int) (e : Ending) (w' : World) : Prop := ∃ A c,e = .returned (.slice A l.length c) ∧ Hid (Sep n0 w0 (es.set i (eBytes l (.slice A l.length c))) w')
set_option maxHeartbeats 1000000 in
theorem appendInt_c (n0 : Nat) (w0 : World) (es : List Ent) (i : Nat) (l : List Int) (v : Value) (x : Int) (w : World) (S : Sep n0 w0 es w) (hi : es[i]? = some (eBytes l v)) (h0 : 0 ≤ x) (h1 : x < 65536) (hl : l.length ≤ 1000000) :
 Calls Try.prog 62 #[v,.int .i64 x] w (GivesP n0 w0 es i (l ++ two x)) := by
 have HS := Lib.hid S
 clear S
 go_enter Try.func62,Try.ntmps62
 obtain ⟨AV,cV,hv⟩ := Own.form (HS.out.get i hi)
 go_wp2_with (at_builtin; refine wpList_pushNS rfl _ _ 94 rfl (HS.out.alloc 5 [.int .u8 (x / 256),.int .u8 (x % 256)]) (i + 1) hi Try.underlying94 _ 1 byteInfo rfl (by decide) rfl (two x) _ 2 rfl (fun _ => rfl) (one_cell _ _ [_,_] _ rfl) encB_one ?_ (by decide) ?_)
 · simp only [two,List.length_cons,List.length_nil]; omega
 · intro A' c' w2 S2 _
   have S3 := Lib.hid S2.drop1
   clear S2
   go_wp2_with fail
   go_ret
   exact ⟨A',c',by rw [List.length_append]; rfl,by rw [List.length_append]; exact S3.out⟩

def GivesF (n : Nat) (l : List ByteArray) (w : World) (e : Ending) (w' : World) : Prop :=
 ∃ g,e = .returned (.tuple #[.slice (some ⟨g,0,none⟩) n n,.int .i64 (cntK l)]) ∧ Hid (Sep w.heap.size w [eBlk g 3 ((numK l).map (Value.int .i64))] w')
def idxF {κ : Type} [DecidableEq κ] (D : List κ) (y : κ) : Option Int := if y ∈ D then some ((idxK D y : Nat) : Int) else none
theorem idxF_snoc {κ : Type} [DecidableEq κ] {l : List κ} {k : κ} (h : ¬ k ∈ seenK [] l) (y : κ) : idxF (seenK [] (l ++ [k])) y = if y = k then some (cntK l : Int) else idxF (seenK [] l) y := by
 unfold idxF
 by_cases e : y = k
 · subst e
   rw [if_pos rfl,if_pos ((mem_seenK _ _ _).2 (.inr (by simp))),idxK_fresh h]
 · rw [if_neg e]
   rw [seenK_snoc,if_neg h]
   by_cases m : y ∈ seenK [] l
   · rw [if_pos m,if_pos (List.mem_append_left _ m),idxK_app m]
   · rw [if_neg m,if_neg (by simp [m,e])]
theorem idxF_snoc_old {κ : Type} [DecidableEq κ] {l : List κ} {k : κ} (h : k ∈ seenK [] l) : seenK [] (l ++ [k]) = seenK [] l := by rw [seenK_snoc,if_pos h]
theorem cnt_snoc {κ : Type} [DecidableEq κ] (l : List κ) (k : κ) : cntK (l ++ [k]) = if k ∈ seenK [] l then cntK l else cntK l + 1 := by
 unfold cntK; rw [seenK_snoc]; split <;> simp
def nums (n : Nat) (l : List ByteArray) : List Value := (numK l).map (Value.int .i64) ++ List.replicate (n - l.length) (.int .i64 0)
theorem nums_set {n : Nat} {l : List ByteArray} {k : ByteArray} (h : l.length < n) : (nums n l).set l.length (.int .i64 ((idxK (seenK [] (l ++ [k])) k : Nat) : Int)) = nums n (l ++ [k]) := by
 unfold nums
 rw [numK_snoc,List.map_append,List.set_append_right _ _ (by simp [numK_len]),List.length_map,numK_len,Nat.sub_self,List.length_append,List.length_singleton]
 obtain ⟨d,hd⟩ : ∃ d,n - l.length = d + 1 := ⟨n - l.length - 1,by omega⟩
 rw [hd,List.replicate_succ,List.set_cons_zero,show n - (l.length + 1) = d by omega]
 simp
theorem nums_len {n : Nat} {l : List ByteArray} (h : l.length ≤ n) : (nums n l).length = n := by simp [nums,numK_len]; omega
set_option maxHeartbeats 2000000 in
theorem refine_c (n : Nat) (g : Nat) (lb : Array Value) (eg : ∀ args w,(callFunc g args).run Try.prog w = .ok (.enter g args) w) (key : Nat → ByteArray) (w : World) (hn : n ≤ 4096)
 (hk : ∀ (V : World) (s : Nat),s < n → Below w.heap.size w V → Calls Try.prog g (#[.int .i64 (s : Int)] ++ lb) V (Ret (.string (key s)) V)) :
 Calls Try.prog 59 #[.int .i64 (n : Int),.func (.func g) #[] lb] w (GivesF n ((List.range n).map key) w) := by
 have HK := Lib.hid hk
 clear hk
 have hmk := make_run (P := Try.prog) 22 3 (.int .i64 0) 8 Try.underlying22 intInfo rfl n (by omega) (by omega)
 have hmm := fun w => makeMap_n 115 _ _ Try.underlying115 (n : Int) w
 obtain ⟨L,hL⟩ : ∃ L,L = (List.range n).map key := ⟨_,rfl⟩
 have HL : Hid (L.length = n ∧ ∀ s,s < n → L[s]? = some (key s)) := by subst hL; exact ⟨by simp,fun s hs => by simp [hs]⟩
 rw [← hL]
 clear hL
 go_enter Try.func59,Try.ntmps59
 go_wp2_with fail
 refine wp_world (fun W => Sep w.heap.size w [eBlk (w.heap.size + 1) 3 (nums n (L.take 0)),eMapC keyS veI w.heap.size (idxF (seenK [] (L.take 0))) (cntK (L.take 0))] W) ?_ fun W S0 => ?_
 · exact ((Sep.here w).allocMapC keyS veI rfl).alloc' _ _ (by simp [nums,numK]) (by simp)
 clear hmk hmm
 go_loopw [17] (fun i wr => ∃ k : Nat,i = .int .i64 k ∧ k ≤ n ∧ Hid (Sep w.heap.size w [eBlk (w.heap.size + 1) 3 (nums n (L.take k)),eMapC keyS veI w.heap.size (idxF (seenK [] (L.take k))) (cntK (L.take k))] wr)) (fun i _ => n - (intOf i).toNat)
 case atStart => exact ⟨0,rfl,Nat.zero_le _,S0⟩
 case round =>
  clear S0
  obtain ⟨k,rfl,hk,S⟩ := hrel
  by_cases hlt : k < n
  · have HC := Lib.hid (HK.out wr k hlt S.out.below)
    obtain ⟨y,hy⟩ : ∃ y,y = key k := ⟨_,rfl⟩
    rw [← hy] at HC
    have HT : Hid (L.take (k + 1) = L.take k ++ [y] ∧ (L.take k).length = k) := ⟨by rw [List.take_add_one,HL.out.2 k hlt,hy]; rfl,by rw [List.length_take,HL.out.1]; omega⟩
    clear hy
    go_wp2_with fail
    refine HC.out.mono ?_
    rintro e w2 ⟨rfl,hb⟩
    have S2 := Lib.hid (S.out.next hb)
    clear hb S HC
    have hlk := (MapG.look okS Try.underlying115 zeroI (MapC.g (S2.out.get 1 rfl)) y).1
    by_cases hm : y ∈ seenK [] (L.take k)
    · obtain ⟨j,hj⟩ : ∃ j,j = idxK (seenK [] (L.take k)) y := ⟨_,rfl⟩
      have e1 : idxF (seenK [] (L.take k)) y = some (j : Int) := by rw [idxF,if_pos hm,hj]
      rw [e1] at hlk
      simp only [Option.getD_some,Option.isSome_some,keyS,veI] at hlk
      have S3 : Hid (Sep w.heap.size w [eBlk (w.heap.size + 1) 3 (nums n (L.take (k + 1))),eMapC keyS veI w.heap.size (idxF (seenK [] (L.take (k + 1)))) (cntK (L.take (k + 1)))] (w2.setCell ⟨w.heap.size + 1,k,none⟩ (.int .i64 (j : Int)))) := by
       have h := S2.out.set 0 rfl k (.int .i64 (j : Int))
       have q := nums_set (n := n) (l := L.take k) (k := y) (by rw [HT.out.2]; exact hlt)
       rw [idxK_old hm,← hj,HT.out.2] at q
       rw [q,← HT.out.1] at h
       rw [HT.out.1,idxF_snoc_old hm,cnt_snoc,if_pos hm,← HT.out.1]
       exact h
      have c1 := BlkAt.cell (S2.out.get 0 rfl) k
      rw [List.getElem?_eq_getElem (show k < (nums n (L.take k)).length by rw [nums_len (by rw [HT.out.2]; exact hk)]; exact hlt)] at c1
      have f1 := BlkAt.free (S2.out.get 0 rfl) k
      clear S2 hj hm e1
      go_wp2_with fail
      go_roundw
      case rel => exact ⟨k + 1,by go_num,by omega,S3.out⟩
      case measure => simp [intOf]; omega
    · have e1 : idxF (seenK [] (L.take k)) y = none := by rw [idxF,if_neg hm]
      rw [e1] at hlk
      simp only [Option.getD_none,Option.isSome_none,keyS,veI] at hlk
      have hln := MapC.len Try.underlying115 (S2.out.get 1 rfl) 3
      have E1 := Lib.hid e1
      have HM := Lib.hid hm
      clear e1 hm
      go_wp2_with (at_mapUpdate; refine wpList_mapUpdateC rfl (.tmp 33) (.tmp 34) (.tmp 35) 115 9 3 rfl S2.out 1 rfl okS Try.underlying115 y ((cntK (L.take k) : Nat) : Int) E1.out rfl rfl rfl ?_)
      intro w3 S3 _
      have S4 : Hid (Sep w.heap.size w [eBlk (w.heap.size + 1) 3 (nums n (L.take k)),eMapC keyS veI w.heap.size (idxF (seenK [] (L.take (k + 1)))) (cntK (L.take (k + 1)))] w3) := by
       rw [HT.out.1,cnt_snoc,if_neg HM.out]
       have e : idxF (seenK [] (L.take k ++ [y])) = fun u => if u = y then some ((cntK (L.take k) : Nat) : Int) else idxF (seenK [] (L.take k)) u := funext fun u => idxF_snoc HM.out u
       rw [e]
       exact S3
      have S5 : Hid (Sep w.heap.size w [eBlk (w.heap.size + 1) 3 (nums n (L.take (k + 1))),eMapC keyS veI w.heap.size (idxF (seenK [] (L.take (k + 1)))) (cntK (L.take (k + 1)))] (w3.setCell ⟨w.heap.size + 1,k,none⟩ (.int .i64 ((cntK (L.take k) : Nat) : Int)))) := by
       have h := S4.out.set 0 rfl k (.int .i64 ((cntK (L.take k) : Nat) : Int))
       have q := nums_set (n := n) (l := L.take k) (k := y) (by rw [HT.out.2]; exact hlt)
       rw [idxK_fresh HM.out,HT.out.2,← HT.out.1] at q
       rw [q] at h
       exact h
      have c1 := BlkAt.cell (S4.out.get 0 rfl) k
      rw [List.getElem?_eq_getElem (show k < (nums n (L.take k)).length by rw [nums_len (by rw [HT.out.2]; exact hk)]; exact hlt)] at c1
      have f1 := BlkAt.free (S4.out.get 0 rfl) k
      clear S2 S3 S4 hlk hln E1 HM
      go_wp2_with fail
      go_roundw
      case rel => exact ⟨k + 1,by go_num,by omega,S5.out⟩
      case measure => simp [intOf]; omega
  · obtain rfl : k = n := by omega
    have hln := MapC.len Try.underlying115 (S.out.get 1 rfl) 3
    have hT : L.take k = L := List.take_of_length_le (by rw [HL.out.1]; exact Nat.le_refl _)
    rw [hT] at S hln
    clear hT
    go_wp2_with fail
    go_ret2
    refine ⟨_,rfl,?_⟩
    have h := S.out.first
    have e : nums k L = (numK L).map (Value.int .i64) := by simp [nums,HL.out.1]
    rw [e] at h
    exact h

def addV (out : List Int) (t : Int) : List Int := if 0 ≤ t ∧ ¬ t ∈ out then out ++ [t] else out
def scanV (ed : List Ed) (s : Int) (al : List Int) (out : List Int) : List Int := al.foldl (fun out e => addV out (nextV ed s e)) out
def foundL (au : Au) : Nat → Nat → List Int → List Int
 | 0,_,out => out
 | f + 1,i,out => match out[i]? with
   | some s => foundL au f (i + 1) (scanV au.ed s au.al out)
   | none => out
def foundV (au : Au) : List Int := if 0 < au.n then foundL au (au.n.toNat + 1) 0 [0] else []
structure Sts (n : Int) (l : List Int) : Prop where
 nd : l.Nodup
 rg : ∀ x,x ∈ l → 0 ≤ x ∧ x < n
theorem nodup_len : ∀ (n : Nat) (l : List Int),l.Nodup → (∀ x,x ∈ l → 0 ≤ x ∧ x < (n : Int)) → l.length ≤ n
 | 0,l,_,h => by
   cases l with
   | nil => simp
   | cons a l => have := h a (by simp); omega
 | n + 1,l,hd,h => by
   by_cases hm : (n : Int) ∈ l
   · have h1 := nodup_len n (l.erase (n : Int)) (hd.erase _) (fun x hx => by
      have h2 := (hd.mem_erase_iff).1 hx
      have := h x h2.2
      have := h2.1
      omega)
     have := List.length_erase_of_mem hm
     omega
   · have := nodup_len n l hd (fun x hx => by
      have := h x hx
      by_cases e : x = n
      · subst e; exact absurd hx hm
      · omega)
     omega
theorem Sts.len {n : Int} {l : List Int} (h : Sts n l) (hn : 0 ≤ n) : l.length ≤ n.toNat := nodup_len n.toNat l h.nd fun x hx => by have := h.rg x hx; omega
theorem Sts.add {n : Int} {l : List Int} (h : Sts n l) {t : Int} (ht : t < n) : Sts n (addV l t) := by
 unfold addV
 split
 · rename_i h1
   refine ⟨?_,fun x hx => ?_⟩
   · rw [List.nodup_append]
     refine ⟨h.nd,by simp,fun a ha b hb => ?_⟩
     simp at hb; subst hb
     intro e; subst e; exact h1.2 ha
   · simp only [List.mem_append,List.mem_singleton] at hx
     rcases hx with hx | rfl
     · exact h.rg x hx
     · exact ⟨h1.1,ht⟩
 · exact h
def Leads (au : Au) : Prop := ∀ x,x ∈ au.ed → 0 ≤ x.dst ∧ x.dst < au.n
theorem nextV_mem {l : List Ed} {s e : Int} : nextV l s e = -1 ∨ ∃ x,x ∈ l ∧ x.src = s ∧ x.ev = e ∧ x.dst = nextV l s e := by
 unfold nextV
 cases hf : l.find? (fun x => decide (x.src = s) && decide (x.ev = e)) with
 | none => exact .inl rfl
 | some x =>
   have h2 := List.find?_some hf
   simp at h2
   exact .inr ⟨x,List.mem_of_find?_eq_some hf,h2.1,h2.2,rfl⟩
theorem Leads.next {au : Au} (h : Leads au) (s e : Int) (hn : 0 ≤ au.n) : nextV au.ed s e < au.n ∧ -1 ≤ nextV au.ed s e := by
 rcases nextV_mem (l := au.ed) (s := s) (e := e) with h1 | ⟨x,hx,_,_,h1⟩
 · omega
 · have := h x hx; omega
theorem addV_pre (l : List Int) (t : Int) : l <+: addV l t := by
 unfold addV; split
 · exact List.prefix_append ..
 · exact List.prefix_refl _
theorem scanV_pre (ed : List Ed) (s : Int) : ∀ (al l : List Int),l <+: scanV ed s al l
 | [],l => List.prefix_refl l
 | e :: r,l => (addV_pre l (nextV ed s e)).trans (scanV_pre ed s r (addV l (nextV ed s e)))
theorem scanV_has (ed : List Ed) (s : Int) : ∀ (al l : List Int) (e : Int),e ∈ al → 0 ≤ nextV ed s e → nextV ed s e ∈ scanV ed s al l
 | a :: r,l,e,he,h0 => by
   rcases List.mem_cons.1 he with rfl | he
   · refine (scanV_pre ed s r (addV l (nextV ed s e))).subset ?_
     unfold addV; split
     · simp
     · rename_i h; exact Classical.not_not.1 (fun hm => h ⟨h0,hm⟩)
   · exact scanV_has ed s r _ e he h0
def Closed (au : Au) (i : Nat) (l : List Int) : Prop := ∀ j s e,j < i → l[j]? = some s → e ∈ au.al → 0 ≤ nextV au.ed s e → nextV au.ed s e ∈ l
theorem Closed.round {au : Au} {i : Nat} {l : List Int} {s : Int} (h : Closed au i l) (hs : l[i]? = some s) : Closed au (i + 1) (scanV au.ed s au.al l) := by
 intro j x e hj hx he h0
 have hp := scanV_pre au.ed s au.al l
 have hi := (List.getElem?_eq_some_iff.1 hs).1
 have hjl : l[j]? = some x := by
  have hjl : j < l.length := by omega
  have h1 := List.IsPrefix.getElem hp hjl
  rw [List.getElem?_eq_getElem (Nat.lt_of_lt_of_le hjl hp.length_le)] at hx
  rw [List.getElem?_eq_getElem hjl,h1]; exact hx
 by_cases e1 : j = i
 · subst e1; rw [hs] at hjl; cases hjl; exact scanV_has au.ed s au.al l e he h0
 · exact hp.subset (h j x e (by omega) hjl he h0)
structure FoundOk (au : Au) (l : List Int) : Prop where
 st : Sts au.n l
 cl : Closed au l.length l
 z : 0 < au.n → l[0]? = some 0
 e : au.n ≤ 0 → l = []
def rowV (ed : List Ed) (fd : List Int) (i : Nat) (al : List Int) : List Ed := al.filterMap fun e => if 0 ≤ nextV ed (fd.getD i 0) e then some ⟨(i : Int),e,idxV fd (nextV ed (fd.getD i 0) e)⟩ else none
def rowsV (ed : List Ed) (fd : List Int) (al : List Int) (k : Nat) : List Ed := (List.range k).flatMap fun i => rowV ed fd i al
def marksV (mr fd : List Int) (k : Nat) : List Int := ((List.range k).filter fun i => decide (fd.getD i 0 ∈ mr)).map fun (i : Nat) => (i : Int)
def canonV (au : Au) : Au := ⟨au.al,(foundV au).length,marksV au.mr (foundV au) (foundV au).length,rowsV au.ed (foundV au) au.al (foundV au).length⟩
theorem incr.setOk {l : List Int} {n : Int} (h : Go.Proofs.Ytjjifefanjnghaa.incr l) (hr : ∀ x,x ∈ l → 0 ≤ x ∧ x < n) : setOk l n l.length := fun i x hi hx => by
 have := hr x (List.mem_of_getElem? hx)
 exact ⟨this.1,this.2,fun y h0 hy => h (i - 1) i y x (by omega) hy hx⟩
def lexLt (x y : Ed) : Prop := x.src < y.src ∨ x.src = y.src ∧ x.ev < y.ev
structure Raw (au : Au) : Prop where
 al : setOk au.al 32 au.al.length
 n0 : 0 ≤ au.n
 n1 : au.n ≤ 4096
 ld : Leads au

section

structure OutSt (b : Nat) (nn : Int) (v1 v2 v3 : Value) (ms : List Int) (es : List Ed) (w : World) : Prop where
 blk : BlkAt w b 25 [v1,.int .i64 nn,v2,v3]
 o2 : OwnI (b + 1) ms v2 w
 o3 : Own Ed.cells 3 70 (b + 1) es v3 w
 d : ∀ g,v2.ownBlock = some g → v3.ownBlock ≠ some g
section
variable {b : Nat} {nn : Int} {v1 v2 v3 : Value} {ms : List Int} {es : List Ed} {w w1 : World}
theorem OutSt.below (h : OutSt b nn v1 v2 v3 ms es w) (hb : Below w.heap.size w w1) : OutSt b nn v1 v2 v3 ms es w1 :=
 ⟨h.blk.below hb h.blk.lt,h.o2.below hb (Nat.le_refl _),h.o3.below hb (Nat.le_refl _),h.d⟩
theorem OutSt.z (h : OutSt b nn v1 v2 v3 ms es w) (o : Obj) : b + 1 ≤ (w.alloc o).heap.size := by have := h.blk.lt; simp only [World.size_alloc]; omega
theorem OutSt.edge (h : OutSt b nn v1 v2 v3 ms es w) {v3' : Value} {es' : List Ed} (ho : Own Ed.cells 3 70 (b + 1) es' v3' w1) (hg : w.grownBy w1 v3.ownBlock) (hat : v3'.ownBlock = v3.ownBlock ∨ v3'.ownBlock = some w.heap.size) :
 OutSt b nn v1 v2 v3' ms es' (w1.setCell ⟨b,3,none⟩ v3') := by
 have hd : ∀ g,v2.ownBlock = some g → v3'.ownBlock ≠ some g := fun g hg' h3 => by
  rcases hat with e | e
  · exact h.d g hg' (e ▸ h3)
  · rw [e] at h3; cases h3; exact Nat.lt_irrefl _ (h.o2.lt _ hg').2
 refine ⟨?_,ownsRow_setCell_below (h.o2.kept hg ?_) (Nat.lt_succ_self _) _,ownsRow_setCell_below ho (Nat.lt_succ_self _) _,hd⟩
 · exact (h.blk.grown hg (fun e => by have := (h.o3.lt _ e.symm).1; omega)).set_ 3 v3'
 · cases h2 : v2.ownBlock with
   | none => exact .inl rfl
   | some g => exact .inr (fun e => h.d g h2 e.symm)
end
end
theorem SlAt.blk {α : Type} {enc : α → List Value} {k : Nat} (hk : ∀ x,(enc x).length = k) {w : World} {g : Nat} {T : TypeId} (l : List α) (h : BlkAt w g T (l.flatMap enc)) : SlAt (fun _ x vs => vs = enc x) k w (some ⟨g,0,none⟩) l :=
 fun _ => ⟨g,0,rfl,h.lt,fun i x hx => ⟨enc x,hk x,rfl,fun j u hj => by
  have hj' : j < k := by rw [← hk x]; exact (List.getElem?_eq_some_iff.1 hj).1
  rw [Nat.zero_add,h.cell,flat_get hk l i j x hx hj',hj]⟩⟩
theorem IntsAt.blk {w : World} {g : Nat} {T : TypeId} (l : List Int) (h : BlkAt w g T (l.map (Value.int .i64))) : IntsAt w (some ⟨g,0,none⟩) l :=
 SlAt.blk (enc := fun x => [.int .i64 x]) (fun _ => rfl) l (by rw [show l.flatMap (fun x => [Value.int .i64 x]) = l.map (Value.int .i64) from flat_encI l]; exact h)
def allV (l : List Int) : Au := ⟨l,1,[0],l.map fun x => ⟨0,x,0⟩⟩
theorem Own.cap {α : Type} {enc : α → List Value} {k T B : Nat} {l : List α} {A : Option Addr} {c : Nat} {w : World} (h : Own enc k T B l (.slice A l.length c) w) : l.length ≤ c := by
 rcases h.2 with ⟨h1,h2⟩ | ⟨g,cap,cur,h1,_,_,h2,_⟩
 · omega
 · cases h1; exact h2
structure Caps (a : Au) (p : AuP) : Prop where
 c1 : a.al.length ≤ p.c1
 c2 : a.mr.length ≤ p.c2
 c3 : a.ed.length ≤ p.c3
def GivesR (a : Au) (w : World) (e : Ending) (w' : World) : Prop := ∃ p,e = .returned (a.val p) ∧ Hid (Au.At w' a p) ∧ Hid (Caps a p) ∧ Below w.heap.size w w'
structure AllSt (b : Nat) (v1 v2 v3 : Value) (es : List Ed) (w : World) : Prop where
 blk : BlkAt w b 25 [v1,.int .i64 1,v2,v3]
 o3 : Own Ed.cells 3 70 (b + 1) es v3 w
theorem AllSt.below {b : Nat} {v1 v2 v3 : Value} {es : List Ed} {w w1 : World} (h : AllSt b v1 v2 v3 es w) (hb : Below w.heap.size w w1) : AllSt b v1 v2 v3 es w1 := ⟨h.blk.below hb h.blk.lt,h.o3.below hb (Nat.le_refl _)⟩
def evenV : Au := ⟨[0],2,[0],[⟨0,0,1⟩,⟨1,0,0⟩]⟩
theorem SlAt.sub {α : Type} {E : Reading α} {k : Nat} {w : World} {b off : Nat} {l : List α} (h : SlAt E k w (some ⟨b,off,none⟩) l) (i j : Nat) : SlAt E k w (some ⟨b,off + i * k,none⟩) ((l.take j).drop i) := by
 intro hne
 have hne' : l ≠ [] := by rintro rfl; simp at hne
 obtain ⟨b',o',e,hb,hr⟩ := h hne'
 cases e
 refine ⟨b,off + i * k,rfl,hb,fun t x hx => ?_⟩
 rw [List.getElem?_drop] at hx
 have hx' : l[i + t]? = some x := by
  rw [List.getElem?_take] at hx
  split at hx
  · exact hx
  · cases hx
 obtain ⟨vs,h1,h2,h3⟩ := hr (i + t) x hx'
 refine ⟨vs,h1,h2,fun q v hq => ?_⟩
 have := h3 q v hq
 rw [show off + i * k + t * k + q = off + (i + t) * k + q by rw [Nat.add_mul]; omega]
 exact this
structure EdgRow (w : World) (l : List Ed) (n : Nat) (vs : List Value) : Prop where
 len : vs.length = n
 row : ∀ s,s < n → ∃ A c,vs[s]? = some (.slice A (outOf l s).length c) ∧ EdsAt w A (outOf l s) ∧ (outOf l s).length ≤ c
theorem EdgRow.nil (w : World) (n : Nat) : EdgRow w [] n (List.replicate n (.slice none 0 0)) :=
 ⟨by simp,fun s hs => ⟨none,0,by rw [List.getElem?_replicate,if_pos hs]; rfl,SlAt.nil,by simp [outOf]⟩⟩
def Brk (ed : List Ed) (k : Nat) : Prop := ∀ (i j : Nat) x y,i < k → k ≤ j → ed[i]? = some x → ed[j]? = some y → x.src < y.src
theorem outOf_take {ed : List Ed} {k t s : Nat} (hk : k ≤ t) (hb : Brk ed k) (hk2 : ∃ x,ed[k]? = some x ∧ x.src = (s : Int)) (hs : ∀ i x,k ≤ i → i < t → ed[i]? = some x → x.src = (s : Int)) (u : Nat) :
 outOf (ed.take t) u = if u = s then (ed.take t).drop k else outOf (ed.take k) u := by
 have e1 : ed.take t = ed.take k ++ (ed.take t).drop k := by
  conv => lhs; rw [← List.take_append_drop k (ed.take t)]
  rw [List.take_take,Nat.min_eq_left hk]
 have m1 : ∀ x,x ∈ (ed.take t).drop k → x.src = (s : Int) := fun x hx => by
  obtain ⟨i,hi,rfl⟩ := List.mem_iff_getElem.1 hx
  have hi' : (ed.take t)[k + i]? = some ((ed.take t).drop k)[i] := by
   rw [← List.getElem?_drop]; exact List.getElem?_eq_getElem hi
  rw [List.getElem?_take] at hi'
  split at hi'
  · rename_i h; exact hs (k + i) _ (by omega) h hi'
  · cases hi'
 have m2 : ∀ x,x ∈ ed.take k → x.src < (s : Int) := fun x hx => by
  obtain ⟨i,hi,rfl⟩ := List.mem_iff_getElem.1 hx
  have hil : i < k := by rw [List.length_take] at hi; omega
  obtain ⟨y,hy,hys⟩ := hk2
  have hi' : ed[i]? = some (ed.take k)[i] := by
   have := List.getElem?_eq_getElem hi
   rw [List.getElem?_take,if_pos hil] at this
   exact this
  have := hb i k _ y hil (Nat.le_refl _) hi' hy
  omega
 rw [e1]
 unfold outOf
 rw [List.filter_append]
 by_cases hu : u = s
 · subst hu
   rw [if_pos rfl,List.filter_eq_nil_iff.2 (fun x hx => by have := m2 x hx; simp; omega),List.nil_append,List.filter_eq_self.2 (fun x hx => by simpa using m1 x hx)]
   rw [← e1]
 · have m3 : ((ed.take t).drop k).filter (fun x => decide (x.src = (u : Int))) = [] := List.filter_eq_nil_iff.2 (fun x hx => by have := m1 x hx; simp; omega)
   rw [if_neg hu,m3,List.append_nil]
theorem Brk.next {ed : List Ed} (hl : ∀ (i j : Nat) x y,i < j → ed[i]? = some x → ed[j]? = some y → x.src ≤ y.src) {k t : Nat} {s : Int} (hb : Brk ed k) (hk2 : ∃ x,ed[k]? = some x ∧ x.src = s) (hkt : k < t) (hs : ∀ i x,k ≤ i → i < t → ed[i]? = some x → x.src = s)
 (he : t = ed.length ∨ ∃ y,ed[t]? = some y ∧ y.src ≠ s) : Brk ed t := by
 intro i j x y hi hj hx hy
 have hjl := (List.getElem?_eq_some_iff.1 hy).1
 rcases he with rfl | ⟨z,hz,hzs⟩
 · omega
 · obtain ⟨q,hq,hqs⟩ := hk2
   have h1 : x.src ≤ s := by
    by_cases h : i < k
    · have := hb i k x q h (Nat.le_refl _) hx hq; omega
    · exact Int.le_of_eq (hs i x (by omega) hi hx)
   have h2 : s < z.src := by
    have := hl k t q z hkt hq hz; omega
   have h3 : z.src ≤ y.src := by
    by_cases h : t = j
    · subst h; rw [hz] at hy; cases hy; exact Int.le_refl _
    · exact hl t j z y (by omega) hz hy
   omega
theorem EdgRow.set {w : World} {ed : List Ed} {n : Nat} {vs : List Value} {k t s : Nat} (h : EdgRow w (ed.take k) n vs) (hkt : k < t) (htl : t ≤ ed.length) (hb : Brk ed k) (hk2 : ∃ x,ed[k]? = some x ∧ x.src = (s : Int)) (hs : ∀ i x,k ≤ i → i < t → ed[i]? = some x → x.src = (s : Int))
 {b off c : Nat} (hE : EdsAt w (some ⟨b,off,none⟩) ed) (hc : ed.length ≤ c) : EdgRow w (ed.take t) n (vs.set s (.slice (some ⟨b,off + k * 3,none⟩) (t - k) (c - k))) := by
 refine ⟨by simp [h.len],fun u hu => ?_⟩
 rw [outOf_take (by omega) hb hk2 hs u]
 by_cases e : u = s
 · subst e
   rw [if_pos rfl,List.getElem?_set_self (by rw [h.len]; exact hu)]
   have hl : ((ed.take t).drop k).length = t - k := by rw [List.length_drop,List.length_take]; omega
   exact ⟨_,_,by rw [hl],hE.sub k t,by rw [hl]; omega⟩
 · rw [if_neg e,List.getElem?_set_ne (fun g => e g.symm)]
   exact h.row u hu
theorem rowsInfo : (Try.prog.info? 23).map (fun i => (i.zero,i.size,i.bytes)) = some (some (.slice none 0 0),1,24) := by kernel_rfl
def GivesE (a : Au) (p : AuP) (n : Nat) (w : World) (e : Ending) (w' : World) : Prop := ∃ g vs,e = .returned (.slice (some ⟨g,0,none⟩) n n) ∧ Hid (Sep w.heap.size w [eBlk g 23 vs] w') ∧ Hid (∀ V,EdsAt V p.A3 a.ed → EdgRow V a.ed n vs)
set_option maxHeartbeats 2000000 in
theorem edges_c (a : Au) (p : AuP) (w : World) (hr : a.Right) (hc : Caps a p) (hA : Au.At w a p) :
 Calls Try.prog 58 #[a.val p] w (GivesE a p a.n.toNat w) := by
 have HSR : Hid (∀ (i : Nat) x,a.ed[i]? = some x → 0 ≤ x.src ∧ x.src < a.n) := fun i x hx => ⟨(hr.edge hx).1,(hr.edge hx).2.1⟩
 have HLE : Hid (∀ (i j : Nat) x y,i < j → a.ed[i]? = some x → a.ed[j]? = some y → x.src ≤ y.src) := fun i j x y hij hx hy => by rcases hr.lex i j x y hij hx hy with h | h <;> omega
 have h0 := hr.n0
 have hn := hr.n1
 obtain ⟨al,n,mr,ed⟩ := a
 obtain ⟨A1,c1,A2,c2,A3,c3⟩ := p
 obtain ⟨N,rfl⟩ := Int.eq_ofNat_of_zero_le h0
 have HA := Lib.hid hA.ed
 have hel := hA.led
 have hcap := hc.c3
 dsimp only at HSR HLE hel hn h0 HA hcap ⊢
 have hmk := make_run (P := Try.prog) 89 23 (.slice none 0 0) 24 Try.underlying89 rowsInfo rfl N (by omega) (by omega)
 clear hr hA h0 hc
 rw [Int.toNat_natCast]
 go_enter Try.func58,Try.ntmps58
 go_wp2_with fail
 refine wp_world (fun W => Sep w.heap.size w [eBlk (w.heap.size + 1) 23 (List.replicate N (.slice none 0 0)),eBlk w.heap.size 25 [.slice A1 al.length c1,.int .i64 N,.slice A2 mr.length c2,.slice A3 ed.length c3]] W) ?_ fun W S0 => ?_
 · exact ((Sep.here w).alloc' _ [_,_,_,_] rfl rfl).alloc' _ _ rfl (by simp)
 clear hmk
 go_loopw [4] (fun i wr => ∃ (k : Nat) (vs : List Value),i = .int .i64 k ∧ k ≤ ed.length ∧ Hid (Brk ed k) ∧ Hid (∀ V,EdsAt V A3 ed → EdgRow V (ed.take k) N vs) ∧ Hid (Sep w.heap.size w [eBlk (w.heap.size + 1) 23 vs,eBlk w.heap.size 25 [.slice A1 al.length c1,.int .i64 N,.slice A2 mr.length c2,.slice A3 ed.length c3]] wr)) (fun i _ => ed.length - (intOf i).toNat)
 case atStart => exact ⟨0,_,rfl,Nat.zero_le _,fun i j x y hi => by omega,fun V _ => EdgRow.nil V N,S0⟩
 case round =>
  clear S0
  obtain ⟨k,vs,rfl,hk,HB,HV,S⟩ := hrel
  have b3 := ckC S.out 1 rfl 3 rfl
  by_cases hlt : k < ed.length
  · obtain ⟨b,off,x,hAe,hb,hx,k0,_,_⟩ := EdsAt.at (HA.out.below EdE.stays S.out.below) hlt
    subst hAe
    obtain ⟨s,src0⟩ := Int.eq_ofNat_of_zero_le (HSR.out k x hx).1
    have hsN : s < N := by have := (HSR.out k x hx).2; omega
    have HK : Hid (∃ x,ed[k]? = some x ∧ x.src = (s : Int)) := ⟨x,hx,src0⟩
    rw [src0] at k0
    clear hx src0 hb
    go_upto_block 2 with fail
    go_cut [5] (fun v wx => ∃ t : Nat,v = .int .i64 t ∧ k < t ∧ t ≤ ed.length ∧ Hid (∀ i x,k ≤ i → i < t → ed[i]? = some x → x.src = (s : Int)) ∧ Hid (t = ed.length ∨ ∃ y,ed[t]? = some y ∧ y.src ≠ (s : Int)) ∧ Hid (Sep w.heap.size w [eBlk (w.heap.size + 1) 23 vs,eBlk w.heap.size 25 [.slice A1 al.length c1,.int .i64 N,.slice A2 mr.length c2,.slice (some ⟨b,off,none⟩) ed.length c3]] wx))
    case first =>
     go_wp2_with fail
     go_loopw [5] (fun i wx => ∃ t : Nat,i = .int .i64 t ∧ k ≤ t ∧ t ≤ ed.length ∧ Hid (∀ i x,k ≤ i → i < t → ed[i]? = some x → x.src = (s : Int)) ∧ Hid (Sep w.heap.size w [eBlk (w.heap.size + 1) 23 vs,eBlk w.heap.size 25 [.slice A1 al.length c1,.int .i64 N,.slice A2 mr.length c2,.slice (some ⟨b,off,none⟩) ed.length c3]] wx)) (fun i _ => ed.length - (intOf i).toNat)
     case atStart => exact ⟨k,rfl,Nat.le_refl _,hk,fun i x h1 h2 => by omega,S.out⟩
     case round =>
      clear b3 k0
      obtain ⟨t,rfl,hkt,htl,HT,S2⟩ := hrel
      have b3 := ckC S2.out 1 rfl 3 rfl
      obtain ⟨x,hx,k0,_,_⟩ := EdsAt.more (HA.out.below EdE.stays S2.out.below) hlt
      obtain ⟨y,hy,hys⟩ := HK.out
      rw [hx] at hy; cases hy
      rw [hys] at k0
      clear hx hys
      by_cases htt : t < ed.length
      · obtain ⟨y,hy,t0,_,_⟩ := EdsAt.more (HA.out.below EdE.stays S2.out.below) htt
        obtain ⟨u,hu⟩ := Int.eq_ofNat_of_zero_le (HSR.out t y hy).1
        rw [hu] at t0
        by_cases hus : u = s
        · subst hus
          have HT2 : Hid (∀ i x,k ≤ i → i < t + 1 → ed[i]? = some x → x.src = (u : Int)) := fun i z h1 h2 hz => by
           by_cases e : i = t
           · subst e; rw [hy] at hz; cases hz; exact hu
           · exact HT.out i z h1 (by omega) hz
          clear hy hu
          go_wp2_with fail
          go_quiet (fail)
          go_wp2_with fail
          go_roundw
          case rel => exact ⟨t + 1,by go_num,by omega,by omega,HT2.out,S2.out.draws _⟩
          case measure => simp [intOf]; omega
        · have KT : Hid (k < t) := by
           rcases Nat.lt_or_eq_of_le hkt with h | h
           · exact h
           · subst h
             obtain ⟨z,hz,hzs⟩ := HK.out
             rw [hy] at hz; cases hz
             omega
          have HE : Hid (t = ed.length ∨ ∃ y,ed[t]? = some y ∧ y.src ≠ (s : Int)) := .inr ⟨y,hy,by omega⟩
          have hus' : ((u : Int) == (s : Int)) = false := by simp; omega
          clear hy hu
          go_wp2_with fail
          go_quiet (fail)
          go_wp2_with fail
          go_meet
          exact ⟨t,rfl,KT.out,htl,HT.out,HE.out,S2.out.draws _⟩
      · have KT : Hid (k < t) := by simp only [Hid]; omega
        have HE : Hid (t = ed.length ∨ ∃ y,ed[t]? = some y ∧ y.src ≠ (s : Int)) := .inl (by omega)
        have htt' : decide ((t : Int) < (ed.length : Int)) = false := by simp; omega
        go_wp2_with fail
        go_quiet (fail)
        go_wp2_with fail
        go_meet
        exact ⟨t,rfl,KT.out,htl,HT.out,HE.out,S2.out.draws _⟩
    case rest =>
     clear b3 k0 S
     obtain ⟨t,rfl,hkt,htl,HT,HE,S4⟩ := hcut
     have HB2 := Lib.hid (HB.out.next HLE.out HK.out hkt HT.out HE.out)
     have HV2 : Hid (∀ V,EdsAt V (some ⟨b,off,none⟩) ed → EdgRow V (ed.take t) N (vs.set s (.slice (some ⟨b,off + k * 3,none⟩) (t - k) (c3 - k)))) := fun V hV => (HV.out V hV).set hkt htl HB.out HK.out HT.out hV hcap
     obtain ⟨ov,hov⟩ : ∃ ov,vs[s]? = some ov := ⟨_,List.getElem?_eq_getElem (by rw [(HV.out w HA.out).len]; exact hsN)⟩
     have HOV := Lib.hid hov
     have hcc : ¬ c3 = k := by omega
     have hk1 : k ≤ t := by omega
     have hk2 : t ≤ c3 := by omega
     clear hov HB HV HT HE
     go_wp2_with fail
     have S1 := Lib.hid S4.out.drew
     refine wp_region_held_drew (S := (fun V => Sep w.heap.size w [eBlk w.heap.size 25 [.slice A1 al.length c1,.int .i64 N,.slice A2 mr.length c2,.slice (some ⟨b,off,none⟩) ed.length c3]] V)) (by kernel_rfl) ?_ (fun hHeld => ?_)
     · exact S1.out.pick [1] (by decide)
     generalize hwz : wc.drew = w1 at *
     clear hwz
     refine tkP 0 rfl hHeld ?_
     try simp only [sx]
     refine tkP 1 rfl hHeld ?_
     try simp only [sx]
     refine tkH 2 rfl (v := ?_) (by kernel_rfl) ?_ hHeld ?_
     rotate_left
     · intro V hSw
       have b3 := ckC hSw 0 rfl 3 rfl
       clear hSw
       first | (go_simp; done) | (go_simp; with_reducible rfl)
     try simp only [sx]
     refine tkP 3 rfl hHeld ?_
     try simp only [sx]
     refine tkP 4 rfl hHeld ?_
     try simp only [sx]
     refine tkP 5 rfl hHeld ?_
     try simp only [sx]
     refine tkH 6 rfl (v := ?_) (by kernel_rfl) ?_ hHeld ?_
     rotate_left
     · intro V hSw
       obtain ⟨x,hx,k0,_,_⟩ := EdsAt.more (HA.out.below EdE.stays (Sep.below (show Sep w.heap.size w _ V from hSw))) hlt
       obtain ⟨z,hz,hzs⟩ := HK.out
       rw [hx] at hz; cases hz
       rw [hzs] at k0
       clear hSw
       first | (go_simp; done) | (go_simp; with_reducible rfl)
     try simp only [sx]
     refine tkP 7 rfl hHeld ?_
     try simp only [sx]
     refine tkH 8 rfl (v := ?_) (by kernel_rfl) ?_ hHeld ?_
     rotate_left
     · intro V hSw
       have b3 := ckC hSw 0 rfl 3 rfl
       clear hSw
       first | (go_simp; done) | (go_simp; with_reducible rfl)
     try simp only [sx]
     refine tkP 9 rfl hHeld ?_
     try simp only [sx]
     refine tkP 10 rfl hHeld ?_
     try simp only [sx]
     refine tkP 11 rfl hHeld ?_
     try simp only [sx]
     refine tkP 12 rfl hHeld ?_
     try simp only [sx]
     refine rdH 13 rfl fun K hK => ?_
     have sc := BlkAt.cell (S1.out.get 0 rfl) s
     rw [HOV.out] at sc
     have sf := BlkAt.free (S1.out.get 0 rfl) s
     go_simp
     obtain ⟨w2,hw2⟩ : ∃ v,v = w1.setCell ⟨(w.heap.size + 1),s,none⟩ (.slice (some ⟨b,off + k * 3,none⟩) (t - k) (c3 - k)) := ⟨_,rfl⟩
     rw [← hw2]
     have S2 : Hid (Sep w.heap.size w [eBlk (w.heap.size + 1) 23 (vs.set s (.slice (some ⟨b,off + k * 3,none⟩) (t - k) (c3 - k))),eBlk w.heap.size 25 [.slice A1 al.length c1,.int .i64 N,.slice A2 mr.length c2,.slice (some ⟨b,off,none⟩) ed.length c3]] w2) := by rw [hw2]; exact S1.out.set 0 rfl s (.slice (some ⟨b,off + k * 3,none⟩) (t - k) (c3 - k))
     clear hw2 sc sf
     refine hK.out _ _ ?_ (fun hHeld => ?_)
     · exact S2.out.pick [1] (by decide)
     clear hK K
     try simp only [sx]
     refine wpAnyH_done (by kernel_rfl) ?_ _
     go_wp2_with fail
     go_roundw
     case rel => exact ⟨t,_,by go_num,by omega,HB2.out,HV2.out,S2.out⟩
     case measure => simp [intOf]; omega
  · obtain rfl : k = ed.length := by omega
    have HV3 : Hid (∀ V,EdsAt V A3 ed → EdgRow V ed N vs) := by have h := HV.out; rw [List.take_length] at h; exact h
    go_wp2_with fail
    go_ret
    exact ⟨_,vs,rfl,S.out.first,HV3.out⟩
theorem strOfNums_inj {xs ys : List Int} (hx : ∀ x,x ∈ xs → 0 ≤ x ∧ x < 256) (hy : ∀ x,x ∈ ys → 0 ≤ x ∧ x < 256) (h : strOfNums xs = strOfNums ys) : xs = ys := by
 have e : (xs.map fun n => UInt8.ofNat n.toNat).toArray = (ys.map fun n => UInt8.ofNat n.toNat).toArray := congrArg ByteArray.data h
 have e2 := congrArg Array.toList e
 simp only [List.toList_toArray] at e2
 have hl : xs.length = ys.length := by simpa using congrArg List.length e2
 apply List.ext_getElem hl
 intro i h1 h2
 have e3 := congrArg (fun l : List UInt8 => l[i]?) e2
 simp only [List.getElem?_map,List.getElem?_eq_getElem h1,List.getElem?_eq_getElem h2,Option.map_some,Option.some.injEq] at e3
 have b1 := hx _ (List.getElem_mem h1)
 have b2 := hy _ (List.getElem_mem h2)
 have e4 := congrArg UInt8.toNat e3
 rw [UInt8.toNat_ofNat',UInt8.toNat_ofNat',Nat.mod_eq_of_lt (by omega),Nat.mod_eq_of_lt (by omega)] at e4
 omega
def sigB (q : Int × List (Int × Int)) : List Int := two q.1 ++ q.2.flatMap fun x => two x.1 ++ two x.2
theorem two_rg {x : Int} (h0 : 0 ≤ x) (h1 : x < 65536) : ∀ y,y ∈ two x → 0 ≤ y ∧ y < 256 := by
 intro y hy
 simp only [two,List.mem_cons,List.not_mem_nil,or_false] at hy
 rcases hy with rfl | rfl <;> omega
theorem sigB_tail : ∀ {l m : List (Int × Int)},(l.flatMap fun x => two x.1 ++ two x.2) = (m.flatMap fun x => two x.1 ++ two x.2) → l = m
 | [],[],_ => rfl
 | [],y :: m,h => by simp [two] at h
 | x :: l,[],h => by simp [two] at h
 | (a,b) :: l,(c,d) :: m,h => by
   simp only [List.flatMap_cons,two,List.cons_append,List.nil_append,List.cons.injEq] at h
   obtain ⟨h1,h2,h3,h4,h5⟩ := h
   rw [sigB_tail h5,show a = c by omega,show b = d by omega]
theorem sigB_inj {p q : Int × List (Int × Int)} (h : sigB p = sigB q) : p = q := by
 obtain ⟨a,l⟩ := p
 obtain ⟨b,m⟩ := q
 simp only [sigB,two,List.cons_append,List.nil_append,List.cons.injEq] at h
 obtain ⟨h1,h2,h3⟩ := h
 rw [sigB_tail h3,show a = b by omega]
def keyOne (mr : List Int) (s : Nat) : ByteArray := if (s : Int) ∈ mr then ⟨#[109]⟩ else ⟨#[]⟩
def keyTwo (a : Au) (c : List Int) (s : Nat) : ByteArray := strOfNums (sigB (sigV a c s))

theorem key1_c (mr : List Int) (n s : Nat) (bm g : Nat) (T : TypeId) (w : World) (hs : s < n) (h1 : BlkAt w bm T [.slice (some ⟨g,0,none⟩) n n]) (h2 : BlkAt w g 4 (mkB n fun s => decide ((s : Int) ∈ mr))) :
 Calls Try.prog 60 #[.int .i64 (s : Int),.pointer (some ⟨bm,0,none⟩)] w (Ret (.string (keyOne mr s)) w) := by
 have c0 := h1.cell 0
 have c1 := (h2.cell s).trans (mkB_get hs)
 simp only [List.getElem?_cons_zero] at c0
 unfold keyOne
 clear h1 h2
 by_cases hm : (s : Int) ∈ mr
 · rw [decide_eq_true hm] at c1
   rw [if_pos hm]
   clear hm
   go_enter Try.func60,Try.ntmps60
   go_wp2
   go_ret
   exact ⟨rfl,Below.refl _ _⟩
 · rw [decide_eq_false hm] at c1
   rw [if_neg hm]
   clear hm
   go_enter Try.func60,Try.ntmps60
   go_wp2
   go_ret
   exact ⟨rfl,Below.refl _ _⟩
theorem rises_len {n : Nat} {l : List Int} (h : Rises (fun x y : Int => x < y) l) (hr : ∀ x,x ∈ l → 0 ≤ x ∧ x < n) : l.length ≤ n := by
 have key : ∀ (i : Nat) x,l[i]? = some x → (i : Int) ≤ x := by
  intro i
  induction i with
  | zero => intro x hx; exact (hr x (List.mem_of_getElem? hx)).1
  | succ i ih =>
    intro x hx
    have hi := (List.getElem?_eq_some_iff.1 hx).1
    have h1 := ih _ (List.getElem?_eq_getElem (show i < l.length by omega))
    have h2 := h i (i + 1) _ x (by omega) (List.getElem?_eq_getElem (show i < l.length by omega)) hx
    omega
 rcases Nat.eq_zero_or_pos l.length with e | e
 · omega
 · have h1 := key (l.length - 1) _ (List.getElem?_eq_getElem (by omega))
   have h2 := hr _ (List.getElem_mem (show l.length - 1 < l.length by omega))
   omega
theorem Au.Right.ev {a : Au} (hr : a.Right) {x : Ed} (hx : x ∈ a.ed) : 0 ≤ x.ev ∧ x.ev < 32 := by
 obtain ⟨p,hp,hpx⟩ := List.mem_iff_getElem.1 hx
 have := (hr.edge (p := p) (by rw [List.getElem?_eq_getElem hp,hpx])).2.2.2.2
 obtain ⟨i,hi,hix⟩ := List.mem_iff_getElem.1 this
 have := hr.al i _ hi (List.getElem?_eq_getElem hi)
 rw [hix] at this
 exact ⟨this.1,this.2.1⟩
theorem outOf_32 {a : Au} (hr : a.Right) (s : Nat) : (outOf a.ed s).length ≤ 32 := by
 have := rises_len (n := 32) (l := (outOf a.ed s).map (·.ev)) (fun i j x y hij hx hy => by
  rw [List.getElem?_map,Option.map_eq_some_iff] at hx hy
  obtain ⟨u,hu,rfl⟩ := hx
  obtain ⟨v,hv,rfl⟩ := hy
  exact outOf_rises hr s i j u v hij hu hv) (fun x hx => by
  obtain ⟨u,hu,rfl⟩ := List.mem_map.1 hx
  exact hr.ev (mem_outOf.1 hu).1)
 simpa using this
def sgL (c : List Int) (l : List Ed) : List Int := l.flatMap fun x => two x.ev ++ two (clsV c x.dst)
theorem sgL_len (c : List Int) (l : List Ed) : (sgL c l).length = l.length * 4 := by
 induction l with
 | nil => rfl
 | cons a l ih => simp only [sgL,List.flatMap_cons,List.length_append,List.length_cons] at ih ⊢; rw [ih]; simp [two]; omega
theorem sgL_snoc (c : List Int) (l : List Ed) (x : Ed) : sgL c (l ++ [x]) = sgL c l ++ two x.ev ++ two (clsV c x.dst) := by simp [sgL]
theorem sigB_sig (a : Au) (c : List Int) (s : Nat) : sigB (sigV a c s) = two (c.getD s 0) ++ sgL c (outOf a.ed s) := by simp [sigB,sigV,sgL,List.flatMap_map]
set_option maxHeartbeats 4000000 in
theorem key2_c (a : Au) (c : List Int) (n s : Nat) (bC gC bO gO : Nat) (TC TO : TypeId) (vs : List Value) (w : World) (hr : a.Right) (hn : a.n = n) (hs : s < n) (hl : c.length = n) (hc : ∀ x,x ∈ c → 0 ≤ x ∧ x < 4096)
 (h1 : BlkAt w bC TC [.slice (some ⟨gC,0,none⟩) n n]) (h2 : BlkAt w gC 3 (c.map (Value.int .i64))) (h3 : BlkAt w bO TO [.slice (some ⟨gO,0,none⟩) n n]) (h4 : BlkAt w gO 23 vs) (h5 : EdgRow w a.ed n vs) :
 Calls Try.prog 61 #[.int .i64 (s : Int),.pointer (some ⟨bC,0,none⟩),.pointer (some ⟨bO,0,none⟩)] w (Ret (.string (keyTwo a c s)) w) := by
 obtain ⟨A,cA,hv,hE,hcap⟩ := h5.row s hs
 obtain ⟨L,hL⟩ : ∃ L,L = outOf a.ed s := ⟨_,rfl⟩
 rw [← hL] at hv hE hcap
 have hLl : L.length ≤ 32 := by rw [hL]; exact outOf_32 hr s
 have HX : Hid (∀ x,x ∈ L → (0 ≤ x.ev ∧ x.ev < 32) ∧ 0 ≤ x.dst ∧ x.dst < n) := fun x hx => by
  rw [hL] at hx
  have hm := (mem_outOf.1 hx).1
  have := edge_next hr hm
  exact ⟨hr.ev hm,this.2.2.2.1,by omega⟩
 obtain ⟨x,hx⟩ : ∃ x,c[s]? = some x := ⟨_,List.getElem?_eq_getElem (by omega)⟩
 have hxr := hc x (List.mem_of_getElem? hx)
 have HK : Hid (keyTwo a c s = strOfNums (two x ++ sgL c L)) := by
  rw [Hid,keyTwo,sigB_sig,← hL,getD_some hx]
 have HC : Hid (∀ d : Nat,d < n → ∃ y,c[d]? = some y ∧ clsV c d = y ∧ 0 ≤ y ∧ y < 4096) := fun d hd => by
  have hdl : d < c.length := by omega
  refine ⟨c[d],List.getElem?_eq_getElem hdl,?_,hc _ (List.getElem_mem hdl)⟩
  unfold clsV
  rw [Int.toNat_natCast,getD_lt _ hdl]
 have HE := Lib.hid hE
 have H1 := Lib.hid h1
 have H2 := Lib.hid h2
 have a1 := h1.cell 0
 have a2 := h2.cell s
 have a3 := h3.cell 0
 have a4 := h4.cell s
 rw [List.getElem?_map,hx] at a2
 rw [hv] at a4
 simp only [List.getElem?_cons_zero,Option.map_some] at a1 a2 a3
 have H3 := Lib.hid h3
 have H4 := Lib.hid h4
 have HV := Lib.hid hv
 clear h1 h2 h3 h4 h5 hE hv hx hL
 rw [HK.out]
 have hc' := True.intro
 clear hc
 go_enter Try.func61,Try.ntmps61
 go_wp2_with fail
 refine (appendInt_c w.heap.size w _ 0 [] (.slice none 0 0) x w ((Sep.here w).nilOwn encB 1 5) rfl hxr.1 (by omega) (by simp)).mono ?_
 rintro e w2 ⟨A2,c2,rfl,S2⟩
 have S3 : Hid (Sep w.heap.size w [eBytes (two x ++ sgL c (L.take 0)) (.slice A2 (two x ++ sgL c (L.take 0)).length c2)] w2) := by simpa [sgL] using S2
 have O3 := (H3.out.below S3.out.below H3.out.lt).cell 0
 have O4 := (H4.out.below S3.out.below H4.out.lt).cell s
 rw [HV.out] at O4
 simp only [List.getElem?_cons_zero] at O3
 clear S2 a1 a2 a3 a4
 go_wp2_with fail
 go_loopw [5,18] (fun v i wr => ∃ (k : Nat) (A' : Option Addr) (c' : Nat),i = .int .i64 k ∧ k ≤ L.length ∧ v = .slice A' (two x ++ sgL c (L.take k)).length c' ∧ Hid (Sep w.heap.size w [eBytes (two x ++ sgL c (L.take k)) (.slice A' (two x ++ sgL c (L.take k)).length c')] wr)) (fun _ i _ => L.length - (intOf i).toNat)
 case atStart => exact ⟨0,A2,c2,rfl,Nat.zero_le _,rfl,S3.out⟩
 case round =>
  clear S3 O3 O4
  obtain ⟨k,A',c',rfl,hk,rfl,S⟩ := hrel
  obtain ⟨l,hl'⟩ : ∃ l,l = two x ++ sgL c (L.take k) := ⟨_,rfl⟩
  have hll : l.length ≤ 1000 := by rw [hl',List.length_append,sgL_len,List.length_take]; simp [two]; omega
  rw [← hl'] at S ⊢
  have HLL := Lib.hid hl'
  clear hl'
  by_cases hlt : k < L.length
  · obtain ⟨b,off,y,hAe,hb,hy,y0,y1,y2⟩ := EdsAt.at (HE.out.below EdE.stays S.out.below) hlt
    subst hAe
    obtain ⟨hev,hd0,hd1⟩ := HX.out y (List.mem_of_getElem? hy)
    obtain ⟨d,hd⟩ := Int.eq_ofNat_of_zero_le hd0
    have HY : Hid (two x ++ sgL c (L.take (k + 1)) = l ++ two y.ev ++ two (clsV c d)) := by
     rw [Hid,List.take_add_one,hy,Option.toList_some,sgL_snoc,HLL.out,hd]
     simp only [List.append_assoc]
    obtain ⟨ye,hye⟩ : ∃ z,z = y.ev := ⟨_,rfl⟩
    rw [← hye] at y1 hev HY
    rw [hd] at y2 hd1
    obtain ⟨z,hz,hzc,hz0,hz1⟩ := HC.out d (by omega)
    rw [hzc] at HY
    have HZ := Lib.hid hz
    clear hy hd0 hye hzc hd hz
    go_wp2_with fail
    refine (appendInt_c w.heap.size w _ 1 l _ ye _ (S.out.alloc' 70 [.int .i64 y.src,.int .i64 ye,.int .i64 (d : Int)] rfl rfl) rfl hev.1 (by omega) (by omega)).mono ?_
    rintro e w3 ⟨A3,c3,rfl,S4⟩
    obtain ⟨l2,hl2⟩ : ∃ l2,l2 = l ++ two ye := ⟨_,rfl⟩
    rw [← hl2] at S4 ⊢ HY
    have hll2 : l2.length ≤ 1100 := by rw [hl2,List.length_append]; simp [two]; omega
    clear hl2
    have S5 : Hid (Sep w.heap.size w [eBlk wr.heap.size 70 [.int .i64 y.src,.int .i64 ye,.int .i64 (d : Int)],eBytes l2 (.slice A3 l2.length c3)] w3) := S4
    have b2 := BlkAt.cell (S5.out.get 0 rfl) 2
    have a1 := (H1.out.below S5.out.below H1.out.lt).cell 0
    have a2 := (H2.out.below S5.out.below H2.out.lt).cell d
    rw [List.getElem?_map,HZ.out] at a2
    simp only [List.getElem?_cons_zero,List.getElem?_cons_succ,Option.map_some] at a1 a2 b2
    clear S4 S y0 y1 y2
    go_wp2_with fail
    refine (appendInt_c w.heap.size w _ 1 l2 _ z _ S5.out rfl hz0 (by omega) (by omega)).mono ?_
    rintro e w4 ⟨A4,c4,rfl,S6⟩
    have S7 : Hid (Sep w.heap.size w [eBytes (two x ++ sgL c (L.take (k + 1))) (.slice A4 (two x ++ sgL c (L.take (k + 1))).length c4)] w4) := by
     rw [HY.out]; exact S6.drop1
    rw [← HY.out]
    clear S6 S5 b2 a1 a2
    go_wp2_with fail
    go_roundw
    case rel => exact ⟨k + 1,A4,c4,by go_num,by omega,by rw [List.length_append],S7.out⟩
    case measure => simp [intOf]; omega
  · obtain rfl : k = L.length := by omega
    have hR := Own.reads (enc := encB) (k := 1) (T := 5) (B := 0) (fun _ => rfl) (S.out.get 0 rfl)
    obtain ⟨b,off,y,vs',hAe,hb,hy,_,hEE,hcc⟩ := SlAt.at hR (show 0 < l.length by rw [HLL.out]; simp [two])
    subst hAe
    have hcv := run_convert_bytes_arg (P := Try.prog) wr 94 5 Try.underlying94 Try.underlying5 b off l.length c' l rfl (fun i hi => by
     obtain ⟨b',off',y',vs'',hA2,_,hy',_,hE',hc'⟩ := SlAt.at hR hi
     cases hA2
     subst hE'
     have := hc' 0 _ rfl
     rw [Nat.mul_one,Nat.add_zero] at this
     rw [this,List.getD_eq_getElem?_getD,hy']
     rfl) 9 Try.underlying9
    have HB := Lib.hid S.out.below
    have HF : Hid (strOfNums l = strOfNums (two x ++ sgL c L)) := by rw [Hid,HLL.out,List.take_length]
    clear hR hy hEE hcc S
    go_wp2_with fail
    go_ret
    exact ⟨by rw [← HF.out]; rfl,HB.out⟩
end Go.Proofs.Ytjjifefanjnghaa
