/-
  Plain: what tells two states apart, by the states that words lead to; the least such word is shorter than the number of states.
  Plain: the minimal automaton (its states told apart, numbered as they are found) is one alone; two states exchanged.
  Plain: canonical classes are those of one relation alone; the edges of a state, by the alphabet; classes found one after another.
  Plain: states that are reached from some states by permitted edges: a search with a queue.
  reach.graph.forward, reach.reachable, reach.Reachable.
-/
import Derived.Test.YtimdepdbcdbikaaGreatBas11
import Derived.Test.YtimdepdbcdbikaaGreatBas05
set_option linter.unusedSimpArgs false
set_option linter.unusedVariables false
namespace Go.Proofs.YtimdepdbcdbikaaGreat
open Go.RowKit
set_option maxRecDepth 100000
def Agree (a b : Au) (x y : Int) (w : List Int) : Prop := (0 ≤ runV a.ed x w ↔ 0 ≤ runV b.ed y w) ∧ (runV a.ed x w ∈ a.mr ↔ runV b.ed y w ∈ b.mr)
theorem Au.Right.run_out {a : Au} (h : a.Right) (w : List Int) {s : Int} (hs : s = -1 ∨ 0 ≤ s) : runV a.ed s w = -1 ∨ 0 ≤ runV a.ed s w := by
 rcases hs with rfl | hs
 · exact .inl (runV_neg _ (by decide) w)
 · exact h.run_cases w s hs
theorem next_dead {a : Au} (h : a.Right) (e : Int) : toV (stepOf a.ed) (-1) e = -1 := by
 have h2 : stp2 a a (-1,-1) e = (-1,-1) := dead2_step h h (-1,-1) e rfl
 exact (Prod.mk.inj h2).1
theorem fold2 {a b : Au} (ha : a.Right) (hb : b.Right) : ∀ (w : List Int) (x y : Int),x = -1 ∨ 0 ≤ x → y = -1 ∨ 0 ≤ y → w.foldl (stp2 a b) (x,y) = (runV a.ed x w,runV b.ed y w)
 | [],x,y,_,_ => rfl
 | e :: w,x,y,hx,hy => by
   have f : ∀ c : Au,c.Right → ∀ t,t = -1 ∨ 0 ≤ t → runV c.ed (toV (stepOf c.ed) t e) w = runV c.ed t (e :: w) := fun c hc t ht => by
    rcases ht with rfl | ht
    · rw [next_dead hc e,runV_neg _ (by decide),runV_neg _ (by decide)]
    · rw [runV_cons ht,hc.next]
   have g : ∀ c : Au,c.Right → ∀ t,toV (stepOf c.ed) t e = -1 ∨ 0 ≤ toV (stepOf c.ed) t e := fun c hc t => (hc.to_cases t e).imp id And.left
   rw [List.foldl_cons]
   show w.foldl (stp2 a b) (toV (stepOf a.ed) x e,toV (stepOf b.ed) y e) = _
   rw [fold2 ha hb w _ _ (g a ha x) (g b hb y),f a ha x hx,f b hb y hy]
theorem pd_over {a b : Au} (ha : a.Right) (hb : b.Right) : ∀ (w : List Int) (s : Int × Int),pdV a b (w.foldl (stp2 a b) s) = true → ∀ e,e ∈ w → e ∈ unionS a.al b.al
 | [],s,_,e,he => by cases he
 | x :: r,s,h,e,he => by
   rw [List.foldl_cons] at h
   rcases List.mem_cons.1 he with rfl | g
   · by_cases hm : e ∈ unionS a.al b.al
     · exact hm
     · rw [stp2_out ha hb s e hm,fold_dead ha hb,pdV_dead] at h
       cases h
   · exact pd_over ha hb r _ h e g
theorem pdV_agree {a b : Au} (ha : a.Right) (hb : b.Right) {r s : Int} (hr : r = -1 ∨ 0 ≤ r) (hs : s = -1 ∨ 0 ≤ s) : pdV a b (r,s) = true ↔ ¬ ((0 ≤ r ↔ 0 ≤ s) ∧ (r ∈ a.mr ↔ s ∈ b.mr)) := by
 have m : ∀ c : Au,c.Right → ¬ (-1 : Int) ∈ c.mr := fun c hc h => by have := hc.mem h; omega
 have ma := m a ha
 have mb := m b hb
 unfold pdV
 rcases hr with rfl | hr <;> rcases hs with rfl | hs
 · simp [ma,mb]
 · have e : ¬ (((-1 : Int),s) = (-1,-1)) := fun h => by have := (Prod.mk.inj h).2; omega
   rw [if_neg e]
   simp only [decide_true,Bool.true_or,true_iff]
   exact fun h => by have := h.1.2 hs; omega
 · have e : ¬ ((r,(-1 : Int)) = (-1,-1)) := fun h => by have := (Prod.mk.inj h).1; omega
   rw [if_neg e]
   simp only [decide_true,Bool.or_true,Bool.true_or,true_iff]
   exact fun h => by have := h.1.1 hr; omega
 · have e : ¬ ((r,s) = (-1,-1)) := fun h => by have := (Prod.mk.inj h).1; omega
   rw [if_neg e]
   have e1 : decide (r = -1) = false := decide_eq_false (by omega)
   have e2 : decide (s = -1) = false := decide_eq_false (by omega)
   simp only [e1,e2,Bool.false_or]
   by_cases h1 : r ∈ a.mr <;> by_cases h2 : s ∈ b.mr <;> simp [h1,h2,hr,hs]
theorem leads_tell {a b : Au} (ha : a.Right) (hb : b.Right) {x y : Int} (hx : x = -1 ∨ 0 ≤ x) (hy : y = -1 ∨ 0 ≤ y) (w : List Int) : LeadsTo (stp2 a b) (x,y) (unionS a.al b.al) (fun q => pdV a b q = true) w ↔ ¬ Agree a b x y w := by
 have h := pdV_agree ha hb (ha.run_out w hx) (hb.run_out w hy)
 have h2 := fold2 ha hb w x y hx hy
 constructor
 · rintro ⟨_,h1⟩
   have h1 : pdV a b (w.foldl (stp2 a b) (x,y)) = true := h1
   rw [h2] at h1
   exact h.1 h1
 · intro h1
   have h3 : pdV a b (w.foldl (stp2 a b) (x,y)) = true := by rw [h2]; exact h.2 h1
   exact ⟨pd_over ha hb w _ h3,h3⟩
theorem DistW.cases {a b : Au} (ha : a.Right) (hb : b.Right) {x y : Int} (hx : x = -1 ∨ 0 ≤ x) (hy : y = -1 ∨ 0 ≤ y) {f : Bool} {l : List Int} (h : DistW a b x y f l) : f = true ∧ LeastW (fun w => ¬ Agree a b x y w) l ∨ f = false ∧ l = [] ∧ ∀ u,Agree a b x y u := by
 rcases h with ⟨h1,h2⟩ | ⟨h1,h2,h3⟩
 · exact .inl ⟨h1,h2.congr (fun w => leads_tell ha hb hx hy w)⟩
 · exact .inr ⟨h1,h2,fun u => Classical.byContradiction fun g => h3 u ((leads_tell ha hb hx hy u).2 g)⟩
theorem DistW.short {a : Au} (ha : a.Right) {x y : Int} (hx : 0 ≤ x ∧ x < a.n) (hy : 0 ≤ y ∧ y < a.n) {f : Bool} {l : List Int} (h : DistW a a x y f l) : (l.length : Int) < a.n := by
 rcases h.cases ha ha (.inr hx.1) (.inr hy.1) with ⟨_,h⟩ | ⟨_,rfl,_⟩
 · refine Classical.byContradiction fun hl => h.is ?_
   have hE : Eqv a x y := Eqv.of_bound ha hx.1 hx.2 hy.1 hy.2 fun w hw => Classical.byContradiction fun hn => by
    have : l.length ≤ w.length := by
     rcases h.le w hn with (h | h) | h
     · omega
     · omega
     · rw [h]; exact Nat.le_refl _
    omega
   exact hE l
 · simp; omega
section
section
variable {a b : Au}
theorem au_eq (h : a.Right) (k : b.Right) (hal : a.al = b.al) (hn : a.n = b.n) (hrn : ∀ w,rn a w = rn b w) (hget0 : ∀ s : Int,0 ≤ s → s < a.n → ∃ w,rn a w = s) (hmk : ∀ w,rn a w ∈ a.mr ↔ rn b w ∈ b.mr) : a = b := by
 have hget : ∀ s : Int,0 ≤ s → s < a.n → ∃ w,rn a w = s ∧ rn b w = s := fun s h0 h1 => by
  obtain ⟨w,hw⟩ := hget0 s h0 h1
  exact ⟨w,hw,by rw [← hrn]; exact hw⟩
 have hmr : a.mr = b.mr := by
  refine Rises.ext (R := fun x y : Int => x < y) (fun x => by omega) (fun x y => by omega) h.mr.incr k.mr.incr fun x => ⟨fun hx => ?_,fun hx => ?_⟩
  · obtain ⟨w,e1,e2⟩ := hget x (h.mem hx).1 (h.mem hx).2
    rw [← e2]
    exact (hmk w).1 (by rw [e1]; exact hx)
  · obtain ⟨w,e1,e2⟩ := hget x (k.mem hx).1 (by rw [hn]; exact (k.mem hx).2)
    rw [← e1]
    exact (hmk w).2 (by rw [e2]; exact hx)
 have hnx : ∀ s e : Int,0 ≤ s → s < a.n → nextV a.ed s e = nextV b.ed s e := by
  intro s e h0 h1
  obtain ⟨w,e1,e2⟩ := hget s h0 h1
  have := hrn (w ++ [e])
  rw [rn_snoc a w e (by omega),rn_snoc b w e (by omega),e1,e2] at this
  exact this
 have edg : ∀ {c : Au},c.Right → ∀ {x : Ed},x ∈ c.ed → nextV c.ed x.src x.ev = x.dst ∧ 0 ≤ x.src ∧ x.src < c.n ∧ 0 ≤ x.dst := by
  intro c hc x hx
  obtain ⟨j,hj,hjx⟩ := List.mem_iff_getElem.1 hx
  have := hc.ed j hj x (by rw [List.getElem?_eq_getElem hj,hjx])
  refine ⟨?_,this.1,this.2.1,this.2.2.1⟩
  unfold nextV
  cases hf : c.ed.find? (fun y => decide (y.src = x.src) && decide (y.ev = x.ev)) with
  | none =>
    rw [List.find?_eq_none] at hf
    have := hf x hx
    simp at this
  | some y =>
    have h1 := List.mem_of_find?_eq_some hf
    have h2 := List.find?_some hf
    simp only [Bool.and_eq_true,decide_eq_true_eq] at h2
    rw [hc.uniq h1 hx h2.1 h2.2]
    rfl
 have back : ∀ {c d : Au},c.Right → d.Right → (∀ s e : Int,0 ≤ s → s < c.n → nextV c.ed s e = nextV d.ed s e) → ∀ x,x ∈ c.ed → x ∈ d.ed := by
  intro c d hc hd he x hx
  obtain ⟨h1,h2,h3,h4⟩ := edg hc hx
  rw [he _ _ h2 h3] at h1
  rcases hd.next_cases x.src x.ev with g | ⟨_,_,y,hy,y1,y2,y3⟩
  · omega
  · obtain rfl : y = x := by
     obtain ⟨p,q,r⟩ := x
     obtain ⟨p',q',r'⟩ := y
     simp only at y1 y2 y3 h1
     rw [y1,y2,y3,h1]
    exact hy
 have hed : a.ed = b.ed := by
  refine Rises.ext (R := edLt) (fun x h => by unfold edLt at h; omega) (fun x y h h' => by unfold edLt at h h'; omega) h.rises k.rises fun x => ⟨back h k hnx x,back k h (fun s e h0 h1 => (hnx s e h0 (by rw [hn]; exact h1)).symm) x⟩
 obtain ⟨al,n,mr,ed⟩ := a
 obtain ⟨al',n',mr',ed'⟩ := b
 simp only at hal hn hmr hed
 rw [hal,hn,hmr,hed]
def AlikG (G L : List Int → Prop) (u v : List Int) : Prop := ∀ x,(G (u ++ x) ↔ G (v ++ x)) ∧ (L (u ++ x) ↔ L (v ++ x))
def FstG (G L : List Int → Prop) (w : List Int) : Prop := G w ∧ ∀ v,G v → AlikG G L v w → sle w v
structure MinG (m : Au) (G L : List Int → Prop) : Prop where
 rt : m.Right
 num : Num m.ed m.n
 gen : ∀ w,0 ≤ rn m w ↔ G w
 mkd : ∀ w,rn m w ∈ m.mr ↔ L w
 ds : ∀ i j : Int,0 ≤ i → i < m.n → 0 ≤ j → j < m.n → Eqv m i j → i = j
theorem MinG.alik {m : Au} {G L : List Int → Prop} (h : MinG m G L) {u v : List Int} (hu : 0 ≤ rn m u) (hv : 0 ≤ rn m v) : rn m u = rn m v ↔ AlikG G L u v := by
 constructor
 · intro e x
   rw [← h.gen,← h.gen,← h.mkd,← h.mkd,rn_app,rn_app,e]
   exact ⟨Iff.rfl,Iff.rfl⟩
 · intro e
   rcases h.rt.rn_cases u with k | k
   · omega
   rcases h.rt.rn_cases v with k' | k'
   · omega
   refine h.ds _ _ k.1 k.2 k'.1 k'.2 fun w => ?_
   have := e w
   rw [← h.gen,← h.gen,← h.mkd,← h.mkd,rn_app,rn_app] at this
   exact this
theorem MinG.fst {m : Au} {G L : List Int → Prop} (h : MinG m G L) {ws : List (List Int)} (hl : ws.length = m.n.toNat) (hw : ∀ (i : Nat) (w : List Int),ws[i]? = some w → LeastW (fun v => rn m v = (i : Int)) w) (w : List Int) : w ∈ ws ↔ FstG G L w := by
 constructor
 · intro hm
   obtain ⟨i,hi,rfl⟩ := List.mem_iff_getElem.1 hm
   have k := hw i _ (List.getElem?_eq_getElem hi)
   have h0 : 0 ≤ rn m ws[i] := by rw [k.is]; omega
   refine ⟨(h.gen _).1 h0,fun v hv ha => k.le v ?_⟩
   rw [← k.is]
   exact (h.alik ((h.gen v).2 hv) h0).2 ha
 · rintro ⟨hv,hle⟩
   have h0 := (h.gen w).2 hv
   rcases h.rt.rn_cases w with k | k
   · omega
   obtain ⟨i,hi⟩ := Int.eq_ofNat_of_zero_le k.1
   have hil : i < ws.length := by omega
   have g := hw i _ (List.getElem?_eq_getElem hil)
   have h1 : 0 ≤ rn m ws[i] := by rw [g.is]; omega
   have e1 : sle w ws[i] := hle _ ((h.gen _).1 h1) ((h.alik h1 h0).1 (by rw [g.is,hi]))
   have e2 : sle ws[i] w := g.le w hi
   rw [e1.antisymm e2]
   exact List.getElem_mem _
theorem MinG.uniq {G L : List Int → Prop} (h : MinG a G L) (k : MinG b G L) (hal : a.al = b.al) : a = b := by
 obtain ⟨wa,la,asa,ha⟩ := h.num.ws h.rt
 obtain ⟨wb,lb,asb,hb⟩ := k.num.ws k.rt
 obtain rfl : wa = wb := Rises.ext slt.irrefl (fun _ _ h => slt.asymm h) asa asb fun w => (h.fst la ha w).trans (k.fst lb hb w).symm
 have hn : a.n = b.n := by have := h.rt.n0; have := k.rt.n0; omega
 have hrn : ∀ w,rn a w = rn b w := by
  intro w
  rcases h.rt.rn_cases w with g | g
  · rcases k.rt.rn_cases w with g' | g'
    · rw [g,g']
    · have := (h.gen w).2 ((k.gen w).1 g'.1); omega
  · obtain ⟨i,hi⟩ := Int.eq_ofNat_of_zero_le g.1
    have hil : i < wa.length := by omega
    have e1 := ha i _ (List.getElem?_eq_getElem hil)
    have e2 := hb i _ (List.getElem?_eq_getElem hil)
    have h1 : 0 ≤ rn a wa[i] := by rw [e1.is]; omega
    have h2 : 0 ≤ rn b wa[i] := by rw [e2.is]; omega
    have h3 := (k.gen w).2 ((h.gen w).1 g.1)
    have := (k.alik h3 h2).2 ((h.alik g.1 h1).1 (by rw [hi,e1.is]))
    rw [hi,this,e2.is]
 refine au_eq h.rt k.rt hal hn hrn (fun s h0 h1 => ?_) (fun w => (h.mkd w).trans (k.mkd w).symm)
 obtain ⟨i,rfl⟩ := Int.eq_ofNat_of_zero_le h0
 have hil : i < wa.length := by omega
 exact ⟨_,(ha i _ (List.getElem?_eq_getElem hil)).is⟩
theorem Mini.g {m : Au} (h : Mini a m) : MinG m (fun w => 0 ≤ rn a w) (fun w => rn a w ∈ a.mr) := ⟨h.rt,h.num,h.gen,h.mkd,h.ds⟩
theorem MinG.congr {m : Au} {G L G' L' : List Int → Prop} (h : MinG m G L) (e1 : ∀ w,G w ↔ G' w) (e2 : ∀ w,L w ↔ L' w) : MinG m G' L' := ⟨h.rt,h.num,fun w => (h.gen w).trans (e1 w),fun w => (h.mkd w).trans (e2 w),h.ds⟩
end
def swV (p q i : Int) : Int := if i = p then q else if i = q then p else i
def exMi (a : Au) (p q : Int) (i : Nat) (l : List Int) : List Int := (l.filter fun m => decide (m = swV p q i)).map fun _ => (i : Int)
def exM (a : Au) (p q : Int) (k : Nat) : List Int := (List.range k).flatMap fun i => exMi a p q i a.mr
def exEi (p q : Int) (i : Nat) (l : List Ed) : List Ed := (l.filter fun y => decide (y.src = swV p q i)).map fun y => ⟨i,y.ev,swV p q y.dst⟩
def exE (a : Au) (p q : Int) (k : Nat) : List Ed := (List.range k).flatMap fun i => exEi p q i a.ed
def swA (a : Au) (p q : Int) : Au := ⟨a.al,a.n,exM a p q a.n.toNat,exE a p q a.n.toNat⟩
theorem rises_pw {α : Type} {R : α → α → Prop} {l : List α} (h : Rises R l) : l.Pairwise R := List.pairwise_iff_getElem.2 fun i j hi hj hij => h i j _ _ hij (List.getElem?_eq_getElem hi) (List.getElem?_eq_getElem hj)
theorem pw_rises {α : Type} {R : α → α → Prop} {l : List α} (h : l.Pairwise R) : Rises R l := fun i j u v hij hu hv => by
 obtain ⟨h1,rfl⟩ := List.getElem?_eq_some_iff.1 hu
 obtain ⟨h2,rfl⟩ := List.getElem?_eq_some_iff.1 hv
 exact List.pairwise_iff_getElem.1 h i j h1 h2 hij
section
variable {a : Au} {p q : Int}
end
end
section
section
variable {a : Au}
def outA (a : Au) (s : Int) (l : List Int) : List (Int × Int) := l.filterMap fun e => if 0 ≤ nextV a.ed s e then some (e,nextV a.ed s e) else none
structure Clz (a : Au) (c : List Int) (m : Nat) : Prop where
 can : Canon c m
 eq : ∀ i j : Nat,i < c.length → j < c.length → (c[i]? = c[j]? ↔ Eqv a i j)
theorem Eqv.trans {a : Au} {i j k : Int} (h : Eqv a i j) (g : Eqv a j k) : Eqv a i k := fun w => ⟨(h w).1.trans (g w).1,(h w).2.trans (g w).2⟩
theorem Clz.start (a : Au) : Clz a [] 0 := ⟨⟨by simp,by simp,by simp⟩,by simp⟩
theorem Clz.old {c : List Int} {m k : Nat} {x : Int} (h : Clz a c m) (hk : c[k]? = some x) (he : Eqv a k (c.length : Nat)) : Clz a (c ++ [x]) m := by
 have hkl := (List.getElem?_eq_some_iff.1 hk).1
 refine ⟨⟨fun s y hy => ?_,fun y hy => ?_,fun s y hy z hz => ?_⟩,fun i j hi hj => ?_⟩
 · rcases getElem?_snoc hy with hy | ⟨_,rfl⟩
   · exact h.can.rg s y hy
   · exact h.can.rg k _ hk
 · obtain ⟨s,hs⟩ := h.can.on y hy
   exact ⟨s,by rw [List.getElem?_append_left (List.getElem?_eq_some_iff.1 hs).1]; exact hs⟩
 · rcases getElem?_snoc hy with hy | ⟨hs,rfl⟩
   · obtain ⟨t,ht,h2⟩ := h.can.cn s y hy z hz
     exact ⟨t,ht,by rw [List.getElem?_append_left (List.getElem?_eq_some_iff.1 h2).1]; exact h2⟩
   · obtain ⟨t,ht,h2⟩ := h.can.cn k _ hk z hz
     exact ⟨t,by omega,by rw [List.getElem?_append_left (List.getElem?_eq_some_iff.1 h2).1]; exact h2⟩
 · have g : ∀ i : Nat,i < c.length → ((c ++ [x])[i]? = c[i]?) := fun i hi => List.getElem?_append_left hi
   have gl : (c ++ [x])[c.length]? = some x := by simp
   simp only [List.length_append,List.length_singleton] at hi hj
   by_cases h1 : i < c.length
   · by_cases h2 : j < c.length
     · rw [g i h1,g j h2]; exact h.eq i j h1 h2
     · obtain rfl : j = c.length := by omega
       rw [g i h1,gl,← hk,h.eq i k h1 hkl]
       exact ⟨fun q => q.trans he,fun q => q.trans he.symm⟩
   · obtain rfl : i = c.length := by omega
     by_cases h2 : j < c.length
     · rw [g j h2,gl,← hk,h.eq k j hkl h2]
       exact ⟨fun q => he.symm.trans q,fun q => he.trans q⟩
     · obtain rfl : j = c.length := by omega
       exact ⟨fun _ => Eqv.refl _ _,fun _ => rfl⟩
theorem Clz.new {c : List Int} {m : Nat} (h : Clz a c m) (hn : ∀ k : Nat,k < c.length → ¬ Eqv a k (c.length : Nat)) : Clz a (c ++ [(m : Int)]) (m + 1) := by
 refine ⟨⟨fun s y hy => ?_,fun y hy => ?_,fun s y hy z hz => ?_⟩,fun i j hi hj => ?_⟩
 · rcases getElem?_snoc hy with hy | ⟨_,rfl⟩
   · have := h.can.rg s y hy; omega
   · omega
 · by_cases hym : y < m
   · obtain ⟨s,hs⟩ := h.can.on y hym
     exact ⟨s,by rw [List.getElem?_append_left (List.getElem?_eq_some_iff.1 hs).1]; exact hs⟩
   · obtain rfl : y = m := by omega
     exact ⟨c.length,by simp⟩
 · rcases getElem?_snoc hy with hy | ⟨hs,rfl⟩
   · obtain ⟨t,ht,h2⟩ := h.can.cn s y hy z hz
     exact ⟨t,ht,by rw [List.getElem?_append_left (List.getElem?_eq_some_iff.1 h2).1]; exact h2⟩
   · obtain ⟨t,h2⟩ := h.can.on z (by omega)
     have := (List.getElem?_eq_some_iff.1 h2).1
     exact ⟨t,by omega,by rw [List.getElem?_append_left this]; exact h2⟩
 · have g : ∀ i : Nat,i < c.length → ((c ++ [(m : Int)])[i]? = c[i]?) := fun i hi => List.getElem?_append_left hi
   have gl : (c ++ [(m : Int)])[c.length]? = some (m : Int) := by simp
   have ne : ∀ i : Nat,i < c.length → c[i]? ≠ some (m : Int) := fun i hi hh => by have := h.can.rg i _ hh; omega
   simp only [List.length_append,List.length_singleton] at hi hj
   by_cases h1 : i < c.length
   · by_cases h2 : j < c.length
     · rw [g i h1,g j h2]; exact h.eq i j h1 h2
     · obtain rfl : j = c.length := by omega
       rw [g i h1,gl]
       exact ⟨fun q => absurd q (ne i h1),fun q => absurd q (hn i h1)⟩
   · obtain rfl : i = c.length := by omega
     by_cases h2 : j < c.length
     · rw [g j h2,gl]
       exact ⟨fun q => absurd q.symm (ne j h2),fun q => absurd q.symm (hn j h2)⟩
     · obtain rfl : j = c.length := by omega
       exact ⟨fun _ => Eqv.refl _ _,fun _ => rfl⟩
end
end
section
inductive Fwd (a : Au) (pm : Ed → Bool) (F : List Int) : Int → Prop
 | base (x : Int) : x ∈ F → Fwd a pm F x
 | step (x : Ed) : Fwd a pm F x.src → x ∈ a.ed → pm x = true → Fwd a pm F x.dst
def unseen (N : Nat) (see : Int → Bool) : Nat := (List.range N).countP fun t : Nat => !see (t : Int)
theorem unseen_set {N : Nat} {see : Int → Bool} {d : Int} (h0 : 0 ≤ d) (h1 : d < N) (hd : see d = false) : unseen N (fun t => decide (t = d) || see t) + 1 = unseen N see := by
 obtain ⟨k,rfl⟩ := Int.eq_ofNat_of_zero_le h0
 have hk : k < N := by omega
 have key : ∀ n : Nat,unseen n (fun t => decide (t = (k : Int)) || see t) + (if k < n then 1 else 0) = unseen n see := by
  intro n
  induction n with
  | zero => simp [unseen]
  | succ n ih =>
    have e : ∀ f : Int → Bool,unseen (n + 1) f = unseen n f + (if f (n : Int) = false then 1 else 0) := fun f => by
     unfold unseen
     rw [List.range_succ,List.countP_append]
     cases hf : f (n : Int) <;> simp [hf]
    rw [e,e see,← ih]
    by_cases hn : n = k
    · subst hn
      simp [hd]
    · have e1 : decide ((n : Int) = (k : Int)) = false := decide_eq_false (by omega)
      have e2 : (k < n + 1) ↔ (k < n) := by omega
      simp only [e1,Bool.false_or,e2]
      omega
 have := key N
 rw [if_pos hk] at this
 exact this
section
variable {a : Au} {pm : Ed → Bool} {F : List Int} {N : Nat}
structure FInv (a : Au) (pm : Ed → Bool) (F : List Int) (N : Nat) (see : Int → Bool) (q : List Int) : Prop where
 so : ∀ t,see t = true → Fwd a pm F t
 fr : ∀ x,x ∈ F → see x = true
 cl : ∀ t,see t = true → ¬ t ∈ q → ∀ x,x ∈ a.ed → x.src = t → pm x = true → see x.dst = true
 qs : ∀ x,x ∈ q → 0 ≤ x ∧ x < N ∧ see x = true
 ct : q.length + unseen N see ≤ F.length + N
structure FMid (a : Au) (pm : Ed → Bool) (F : List Int) (N : Nat) (s : Int) (L : List Ed) (k : Nat) (see : Int → Bool) (q : List Int) : Prop where
 so : ∀ t,see t = true → Fwd a pm F t
 fr : ∀ x,x ∈ F → see x = true
 cl : ∀ t,see t = true → ¬ t ∈ q → t ≠ s → ∀ x,x ∈ a.ed → x.src = t → pm x = true → see x.dst = true
 qs : ∀ x,x ∈ q → 0 ≤ x ∧ x < N ∧ see x = true
 ss : see s = true
 cs : ∀ (j : Nat) x,j < k → L[j]? = some x → pm x = true → see x.dst = true
 ct : q.length + unseen N see + 1 ≤ F.length + N
theorem FInv.start (hF : ∀ x,x ∈ F → 0 ≤ x ∧ x < N) : FInv a pm F N (fun t => decide (t ∈ F)) F := by
 refine ⟨fun t h => .base t (of_decide_eq_true h),fun x hx => decide_eq_true hx,fun t h hn => absurd (of_decide_eq_true h) hn,fun x hx => ⟨(hF x hx).1,(hF x hx).2,decide_eq_true hx⟩,?_⟩
 have : unseen N (fun t => decide (t ∈ F)) ≤ N := by
  have := List.countP_le_length (p := fun t : Nat => !(fun t => decide (t ∈ F)) (t : Int)) (l := List.range N)
  simpa [unseen] using this
 omega
theorem FInv.pop {see : Int → Bool} {s : Int} {q : List Int} (h : FInv a pm F N see (s :: q)) (L : List Ed) : FMid a pm F N s L 0 see q :=
 ⟨h.so,h.fr,fun t ht hn hs => h.cl t ht (by simp [hs,hn]),fun x hx => h.qs x (by simp [hx]),(h.qs s (by simp)).2.2,fun j x hj => absurd hj (by omega),by have := h.ct; simp only [List.length_cons] at this; omega⟩
theorem FMid.skip {s : Int} {L : List Ed} {k : Nat} {see : Int → Bool} {q : List Int} (h : FMid a pm F N s L k see q) {x : Ed} (hx : L[k]? = some x) (hs : see x.dst = true ∨ pm x = false) : FMid a pm F N s L (k + 1) see q :=
 ⟨h.so,h.fr,h.cl,h.qs,h.ss,fun j y hj hy hp => by
  by_cases e : j = k
  · subst e; rw [hx] at hy; cases hy
    rcases hs with g | g
    · exact g
    · rw [g] at hp; cases hp
  · exact h.cs j y (by omega) hy hp,h.ct⟩
theorem FMid.push {s : Int} {L : List Ed} {k : Nat} {see : Int → Bool} {q : List Int} (h : FMid a pm F N s L k see q) (hL : ∀ x,x ∈ L → x ∈ a.ed ∧ x.src = s) {x : Ed} (hx : L[k]? = some x) (hp : pm x = true) (h0 : 0 ≤ x.dst) (h1 : x.dst < N) (hn : see x.dst = false) :
 FMid a pm F N s L (k + 1) (fun t => decide (t = x.dst) || see t) (q ++ [x.dst]) := by
 obtain ⟨hxe,hxs⟩ := hL x (List.mem_of_getElem? hx)
 refine ⟨fun t ht => ?_,fun y hy => ?_,fun t ht hn2 hts y hy hys hyp => ?_,fun y hy => ?_,?_,fun j y hj hy hyp => ?_,?_⟩
 · simp only [Bool.or_eq_true,decide_eq_true_eq] at ht
   rcases ht with rfl | ht
   · exact .step x (by rw [hxs]; exact h.so s h.ss) hxe hp
   · exact h.so t ht
 · simp [h.fr y hy]
 · simp only [Bool.or_eq_true,decide_eq_true_eq] at ht
   rcases ht with rfl | ht
   · exact absurd (by simp) hn2
   · simp [h.cl t ht (fun g => hn2 (by simp [g])) hts y hy hys hyp]
 · rcases List.mem_append.1 hy with g | g
   · have := h.qs y g
     exact ⟨this.1,this.2.1,by simp [this.2.2]⟩
   · simp at g; subst g
     exact ⟨h0,h1,by simp⟩
 · simp [h.ss]
 · by_cases e : j = k
   · subst e; rw [hx] at hy; cases hy
     simp
   · simp [h.cs j y (by omega) hy hyp]
 · have h2 := unseen_set h0 h1 hn
   have h3 := h.ct
   rw [List.length_append]
   simp only [List.length_singleton]
   omega
theorem FMid.fin {s : Int} {L : List Ed} {see : Int → Bool} {q : List Int} (h : FMid a pm F N s L L.length see q) (hL : ∀ x,x ∈ a.ed → x.src = s → x ∈ L) : FInv a pm F N see q := by
 refine ⟨h.so,h.fr,fun t ht hn x hx hxs hp => ?_,h.qs,by have := h.ct; omega⟩
 by_cases e : t = s
 · subst e
   obtain ⟨j,hj,rfl⟩ := List.mem_iff_getElem.1 (hL x hx hxs)
   exact h.cs j _ hj (List.getElem?_eq_getElem hj) hp
 · exact h.cl t ht hn e x hx hxs hp
theorem FInv.end_ {see : Int → Bool} (h : FInv a pm F N see []) (t : Int) : see t = true ↔ Fwd a pm F t := by
 refine ⟨h.so t,fun g => ?_⟩
 induction g with
 | base x hx => exact h.fr x hx
 | step x _ hx hp ih => exact h.cl _ ih (by simp) x hx rfl hp
end
end
section
attribute [local go_sem] Oper.semAt_some

def cellLen (w : World) (g : Nat) : Nat := match w.cell? ⟨g,0,none⟩ with
 | some v => lenOf v
 | none => 0
theorem cellLen_of {w : World} {g T : Nat} {v : Value} (h : BlkAt w g T [v]) : cellLen w g = lenOf v := by
 have := BlkAt.cell h 0
 simp only [List.getElem?_cons_zero] at this
 simp only [cellLen,this]
theorem unseen_cnt (N : Nat) (see : Int → Bool) : unseen N see = N - cntT (fun t => see (t : Int)) N := by
 unfold unseen cntT
 have h := List.length_eq_countP_add_countP (p := fun t : Nat => see (t : Int)) (l := List.range N)
 simp only [List.length_range,← List.countP_eq_length_filter] at h ⊢
 simp only [Bool.not_eq_true,Bool.decide_eq_false] at h
 omega
def GivesFw (a : Au) (pm : Ed → Bool) (F : List Int) (w : World) (e : Ending) (w' : World) : Prop := ∃ (g : Nat) (see : Int → Bool),e = .returned (.slice (some ⟨g,0,none⟩) a.n.toNat a.n.toNat) ∧ Hid (Sep w.heap.size w [eBlk g 4 (mkB a.n.toNat fun t => see (t : Int))] w') ∧ Hid (∀ t,see t = true ↔ Fwd a pm F t)
set_option maxHeartbeats 8000000 in
theorem forward_c (a : Au) (p : AuP) (g0 : Nat) (AF : Option Addr) (cF : Nat) (F : List Int) (gp : Nat) (lbp : Array Value) (ep : ∀ args w,(callFunc gp args).run Tryz.prog w = .ok (.enter gp args) w) (pm : Ed → Bool) (W0 w : World)
 (hr : a.Right) (hA : EdsAt W0 p.A3 a.ed) (hc : a.ed.length ≤ p.c3) (hF : ∀ x,x ∈ F → 0 ≤ x ∧ x < a.n) (hFA : IntsAt w AF F) (hFl : F.length ≤ 4096) (hg : Sep W0.heap.size W0 [eBlk g0 3 (mkI (a.n.toNat + 1) fun j => (fstV a.ed j : Int))] w)
 (hp : ∀ V x,Below w.heap.size w V → x ∈ a.ed → Calls Tryz.prog gp (#[.agg x.cells.toArray] ++ lbp) V (Ret (.bool (pm x)) V)) :
 Calls Tryz.prog 99 #[.agg (grCells a p g0).toArray,.slice AF F.length cF,.func (.func gp) #[] lbp] w (GivesFw a pm F w) := by
 have h0 := hr.n0
 have hn := hr.n1
 have HR := Lib.hid hr
 have HA := Lib.hid hA
 have HCP := Lib.hid hc
 have HG := Lib.hid hg
 have HP := Lib.hid hp
 have HF := Lib.hid hF
 have HFA := Lib.hid hFA
 obtain ⟨al,n,mr,ed⟩ := a
 obtain ⟨A1,c1,A2,c2,A3,c3⟩ := p
 obtain ⟨N,rfl⟩ := Int.eq_ofNat_of_zero_le h0
 dsimp only [grCells] at HR HA HCP HG HP HF hn h0 ⊢
 rw [Int.toNat_natCast] at HG ⊢
 have SK : Hid (Sep W0.heap.size W0 [eBlk g0 3 (mkI (N + 1) fun j => (fstV ed j : Int)),eKeep w W0.heap.size g0] w) := HG.out.keep
 clear hr hA hc hg hp h0 hF hFA
 refine calls_marks Tryz.func99 rfl ?_
 simp only [Tryz.ntmps99,List.size_toArray,List.length_cons,List.length_nil,Nat.reduceAdd,Nat.reduceSub,Array.replicate_succ,Array.replicate_zero,List.push_toArray,List.append_toArray,List.nil_append,List.cons_append]
 obtain ⟨gg,hgg⟩ : ∃ g,g = w.heap.size := ⟨_,rfl⟩
 obtain ⟨pb,hpb⟩ : ∃ g,g = w.heap.size + 1 := ⟨_,rfl⟩
 go_upto_region 1 with fail
 rw [← hpb,← hgg]
 refine wp_world (fun W => Sep W0.heap.size W0 [eBlk pb 143 [.func (.func gp) #[] lbp],eBlk gg 140 [.slice A1 al.length c1,.int .i64 (N : Int),.slice A2 mr.length c2,.slice A3 ed.length c3,.slice (some ⟨g0,0,none⟩) (N + 1) (N + 1)],eBlk g0 3 (mkI (N + 1) fun j => (fstV ed j : Int)),eKeep w W0.heap.size g0] W) ((SK.out.alloc' 140 [.slice A1 al.length c1,.int .i64 (N : Int),.slice A2 mr.length c2,.slice A3 ed.length c3,.slice (some ⟨g0,0,none⟩) (N + 1) (N + 1)] rfl hgg).alloc' 143 [.func (.func gp) #[] lbp] rfl (by rw [hpb]; simp)) fun W1 S' => ?_
 have S1 := Lib.hid S'
 clear S' SK hgg hpb
 have K1 := Lib.hid (HG.out.kept S1.out (i := 2) (j := 3) rfl rfl)
 have b0 := qkC S1.out 1 rfl 0 rfl
 have b1 := qkC S1.out 1 rfl 1 rfl
 have b2 := qkC S1.out 1 rfl 2 rfl
 have b3 := qkC S1.out 1 rfl 3 rfl
 go_wp2_with fail
 refine (flags_c ⟨al,(N : Int),mr,ed⟩ ⟨A1,c1,A2,c2,A3,c3⟩ AF cF F W1 HF.out (Int.natCast_nonneg _) hn (HFA.out.below IntE.stays K1.out) (by omega)).mono ?_
 rintro e w2 ⟨gs,rfl,TT⟩
 dsimp only
 rw [Int.toNat_natCast] at TT ⊢
 have HGS : Hid (w.heap.size ≤ gs) := Nat.le_trans K1.out.size (TT.out.ge _ (List.mem_cons_self) gs (by simp [eBlk]))
 have S2 : Hid (Sep W0.heap.size W0 ([eBlk gs 4 (mkB N (fun s => decide ((s : Int) ∈ F))),eBlk pb 143 [.func (.func gp) #[] lbp],eBlk gg 140 [.slice A1 al.length c1,.int .i64 (N : Int),.slice A2 mr.length c2,.slice A3 ed.length c3,.slice (some ⟨g0,0,none⟩) (N + 1) (N + 1)],eBlk g0 3 (mkI (N + 1) fun j => (fstV ed j : Int)),eKeep w W0.heap.size g0]) w2) := S1.out.news TT.out
 clear TT S1 K1 b0 b1 b2 b3
 obtain ⟨sn,hsn⟩ : ∃ g,g = w2.heap.size := ⟨_,rfl⟩
 go_upto_region 2 with fail
 rw [← hsn]
 refine wp_world (fun W => Sep W0.heap.size W0 [eBlk sn 133 [.slice (some ⟨gs,0,none⟩) N N],eBlk gs 4 (mkB N (fun s => decide ((s : Int) ∈ F))),eBlk pb 143 [.func (.func gp) #[] lbp],eBlk gg 140 [.slice A1 al.length c1,.int .i64 (N : Int),.slice A2 mr.length c2,.slice A3 ed.length c3,.slice (some ⟨g0,0,none⟩) (N + 1) (N + 1)],eBlk g0 3 (mkI (N + 1) fun j => (fstV ed j : Int)),eKeep w W0.heap.size g0] W) (S2.out.alloc' 133 [.slice (some ⟨gs,0,none⟩) N N] rfl hsn) fun W3 S' => ?_
 have S3 := Lib.hid S'
 clear S' S2 hsn
 have K3 := Lib.hid (HG.out.kept S3.out (i := 4) (j := 5) rfl rfl)
 go_wp2_with fail
 refine (cloneO_c AF cF F W3 (HFA.out.below IntE.stays K3.out) (by omega)).mono ?_
 rintro e w4 ⟨vq,rfl,O,hb⟩
 have S4' := (S3.out.newI O.out hb).asQ 0 rfl
 obtain ⟨AQ,cQ,hvq,hcq⟩ := S4'.formQ 0 rfl
 subst hvq
 have S4 : Hid (Sep W0.heap.size W0 ([eQ F (.slice AQ F.length cQ),eBlk sn 133 [.slice (some ⟨gs,0,none⟩) N N],eBlk gs 4 (mkB N (fun s => decide ((s : Int) ∈ F))),eBlk pb 143 [.func (.func gp) #[] lbp],eBlk gg 140 [.slice A1 al.length c1,.int .i64 (N : Int),.slice A2 mr.length c2,.slice A3 ed.length c3,.slice (some ⟨g0,0,none⟩) (N + 1) (N + 1)],eBlk g0 3 (mkI (N + 1) fun j => (fstV ed j : Int)),eKeep w W0.heap.size g0]) w4) := S4'
 clear S4' S3 K3 O hb hcq
 obtain ⟨qb,hqb⟩ : ∃ g,g = w4.heap.size := ⟨_,rfl⟩
 go_upto_block 0 with fail
 rw [← hqb]
 refine wp_world (fun W => Sep W0.heap.size W0 ([eBlk qb 31 [.slice AQ F.length cQ],eQ F (.slice AQ F.length cQ),eBlk sn 133 [.slice (some ⟨gs,0,none⟩) N N],eBlk gs 4 (mkB N (fun s => decide ((s : Int) ∈ F))),eBlk gg 140 [.slice A1 al.length c1,.int .i64 (N : Int),.slice A2 mr.length c2,.slice A3 ed.length c3,.slice (some ⟨g0,0,none⟩) (N + 1) (N + 1)],eBlk pb 143 [.func (.func gp) #[] lbp],eBlk g0 3 (mkI (N + 1) fun j => (fstV ed j : Int)),eKeep w W0.heap.size g0] ++ mksE []) W) ((S4.out.alloc' 31 [.slice AQ F.length cQ] rfl hqb).pick [0,1,2,3,5,4,6,7] (by decide)) fun W5 S' => ?_
 have S5 := Lib.hid S'
 clear S' S4 hqb
 have LB : Hid (∀ see q,FInv ⟨al,(N : Int),mr,ed⟩ pm F N see q → q.length ≤ 8192) := fun see q h => by have := h.ct; omega
 go_wp2_with fail
 obtain ⟨LI,hLI⟩ : ∃ LI : Act → World → Prop,Hid (∀ a' wr,LI a' wr ↔ (∃ (see : Int → Bool) (q : List Int) (AQ : Option Addr) (cQ : Nat) (Ds : List Nat),
  (Hid (FInv ⟨al,(N : Int),mr,ed⟩ pm F N see q) ∧ Hid (Sep W0.heap.size W0 ([eBlk qb 31 [.slice AQ q.length cQ],eQ q (.slice AQ q.length cQ),eBlk sn 133 [.slice (some ⟨gs,0,none⟩) N N],eBlk gs 4 (mkB N (fun t => see (t : Int))),eBlk gg 140 [.slice A1 al.length c1,.int .i64 (N : Int),.slice A2 mr.length c2,.slice A3 ed.length c3,.slice (some ⟨g0,0,none⟩) (N + 1) (N + 1)],eBlk pb 143 [.func (.func gp) #[] lbp],eBlk g0 3 (mkI (N + 1) fun j => (fstV ed j : Int)),eKeep w W0.heap.size g0] ++ mksE Ds) wr)) ∧ ∃ u : Nat → Value,a' = { tmps := #[u 0,u 1,u 2,.pointer (some ⟨gg,0,none⟩),u 4,.pointer (some ⟨pb,0,none⟩),u 6,.pointer (some ⟨sn,0,none⟩),.pointer (some ⟨qb,0,none⟩),u 9,u 10,u 11,u 12,u 13,u 14,u 15,u 16,u 17,u 18,u 19,u 20,u 21,u 22,u 23,u 24,u 25,u 26,u 27,u 28,u 29,u 30,u 31,u 32,u 33,u 34,u 35,u 36,u 37,u 38,u 39,u 40,u 41,u 42,u 43,u 44,u 45,u 46,u 47,u 48,u 49],defers := mksD Ds })) := ⟨_,fun _ _ => Iff.rfl⟩
 refine wp_loop LI (fun a' wr => (N - wT wr gs N) + cellLen wr qb) ?_ ?_
 · exact (hLI.out _ _).2 ⟨fun t => decide (t ∈ F),F,AQ,cQ,[],⟨FInv.start HF.out,S5.out⟩,fr_of (fun u => #[u 0,u 1,u 2,.pointer (some ⟨gg,0,none⟩),u 4,.pointer (some ⟨pb,0,none⟩),u 6,.pointer (some ⟨sn,0,none⟩),.pointer (some ⟨qb,0,none⟩),u 9,u 10,u 11,u 12,u 13,u 14,u 15,u 16,u 17,u 18,u 19,u 20,u 21,u 22,u 23,u 24,u 25,u 26,u 27,u 28,u 29,u 30,u 31,u 32,u 33,u 34,u 35,u 36,u 37,u 38,u 39,u 40,u 41,u 42,u 43,u 44,u 45,u 46,u 47,u 48,u 49]) rfl⟩
 · clear S5
   rintro a' wr hLW
   obtain ⟨see,q,AQ,cQ,Ds,⟨FI,S⟩,u,rfl⟩ := (hLI.out _ _).1 hLW
   clear hLW
   have cq := BlkAt.cell (S.out.get 0 rfl) 0
   simp only [List.getElem?_cons_zero] at cq
   have HB0 : Hid ((N - wT wr gs N) + cellLen wr qb = unseen N see + q.length) := by
    rw [Hid,wT_of (S.out.get 3 rfl),cellLen_of (S.out.get 0 rfl),← unseen_cnt]; rfl
   cases q with
   | nil =>
     have snc := BlkAt.cell (S.out.get 2 rfl) 0
     simp only [List.getElem?_cons_zero] at snc
     go_wp2_with fail
     refine ret_marks Ds S.out fun w' S5 => ?_
     have BK := HG.out.kept S5 (i := 6) (j := 7) rfl rfl
     refine ⟨.slice (some ⟨gs,0,none⟩) N N,by simp [results,Tryz.results99,go_sem],?_⟩
     exact ⟨gs,see,rfl,(Sep.here w).new1 BK _ (S5.get 3 rfl) (fun g hg => by simp [eBlk] at hg; subst hg; exact HGS.out),fun t => FI.out.end_ t⟩
   | cons x q =>
     obtain ⟨s,rfl⟩ := Int.eq_ofNat_of_zero_le (FI.out.qs x (by simp)).1
     have hsN : s < N := by have := (FI.out.qs _ (List.mem_cons_self)).2.1; omega
     have MI : Hid (FMid ⟨al,(N : Int),mr,ed⟩ pm F N s (outOf ed s) 0 see q) := FI.out.pop _
     have hql := LB.out _ _ FI.out
     obtain ⟨gq,oq,y,hAe,hbq,hy,cq0⟩ := IntsAt.at (l := (s : Int) :: q) (Sep.intsQ S.out 1 rfl) (k := 0) (by simp)
     simp at hy
     subst hy
     subst hAe
     rw [Nat.add_zero] at cq0
     have hcap := OwnO.cap (S.out.get 1 rfl)
     obtain ⟨AT2,hAT2,S1'⟩ := S.out.tailQ (enc := encI) (k := 1) (fun _ => rfl) 1 rfl
     have S1 : Hid (Sep W0.heap.size W0 ([eBlk qb 31 [.slice (some ⟨gq,oq,none⟩) ((s : Int) :: q).length cQ],eQ q (.slice (some AT2) q.length (cQ - 1)),eBlk sn 133 [.slice (some ⟨gs,0,none⟩) N N],eBlk gs 4 (mkB N (fun t => see (t : Int))),eBlk gg 140 [.slice A1 al.length c1,.int .i64 (N : Int),.slice A2 mr.length c2,.slice A3 ed.length c3,.slice (some ⟨g0,0,none⟩) (N + 1) (N + 1)],eBlk pb 143 [.func (.func gp) #[] lbp],eBlk g0 3 (mkI (N + 1) fun j => (fstV ed j : Int)),eKeep w W0.heap.size g0] ++ mksE Ds) wr) := S1'
     simp only [List.length_cons] at hql hcap S1 HB0 cq ⊢
     clear FI hbq S1' S
     have qf := BlkAt.free (S1.out.get 0 rfl) 0
     have S2 : Hid (Sep W0.heap.size W0 ([eBlk qb 31 [.slice (some AT2) q.length (cQ - 1)],eQ q (.slice (some AT2) q.length (cQ - 1)),eBlk sn 133 [.slice (some ⟨gs,0,none⟩) N N],eBlk gs 4 (mkB N (fun t => see (t : Int))),eBlk gg 140 [.slice A1 al.length c1,.int .i64 (N : Int),.slice A2 mr.length c2,.slice A3 ed.length c3,.slice (some ⟨g0,0,none⟩) (N + 1) (N + 1)],eBlk pb 143 [.func (.func gp) #[] lbp],eBlk g0 3 (mkI (N + 1) fun j => (fstV ed j : Int)),eKeep w W0.heap.size g0] ++ mksE Ds) (wr.setCell ⟨qb,0,none⟩ (.slice (some AT2) q.length (cQ - 1)))) := S1.out.set 0 rfl 0 (.slice (some AT2) q.length (cQ - 1))
     go_upto_region 5 with fail
     go_cut [9] from 23 to 24 (fun v wx => v = .int .i64 (s : Int) ∧ wx = wr.setCell ⟨qb,0,none⟩ (.slice (some AT2) q.length (cQ - 1)))
     case first =>
      by_cases h1c : cQ = 1
      · rw [if_pos h1c] at hAT2
        cases hAT2
        subst h1c
        have hq0 : Hid (q.length = 0) := by show q.length = 0; omega
        go_wp2_with fail
        go_meet
        exact ⟨rfl,by rw [hq0.out]⟩
      · rw [if_neg h1c] at hAT2
        cases hAT2
        go_wp2_with fail
        go_meet
        exact ⟨rfl,by first | rfl | (simp; done) | (simp; omega)⟩
     case rest =>
      obtain ⟨rfl,rfl⟩ := hcut
      clear cq cq0 hAT2 hcap S1 qf
      go_upto_region 6 with fail
      refine wp_world (fun W => Sep W0.heap.size W0 ([eBlk qb 31 [.slice (some AT2) q.length (cQ - 1)],eQ q (.slice (some AT2) q.length (cQ - 1)),eBlk sn 133 [.slice (some ⟨gs,0,none⟩) N N],eBlk gs 4 (mkB N (fun t => see (t : Int))),eBlk gg 140 [.slice A1 al.length c1,.int .i64 (N : Int),.slice A2 mr.length c2,.slice A3 ed.length c3,.slice (some ⟨g0,0,none⟩) (N + 1) (N + 1)],eBlk pb 143 [.func (.func gp) #[] lbp],eBlk g0 3 (mkI (N + 1) fun j => (fstV ed j : Int)),eKeep w W0.heap.size g0] ++ mksE Ds) W) S2.out fun W12 S' => ?_
      have S12 := Lib.hid S'
      clear S' S2
      have b0 := qkC S12.out 4 rfl 0 rfl
      have b1 := qkC S12.out 4 rfl 1 rfl
      have b2 := qkC S12.out 4 rfl 2 rfl
      have b3 := qkC S12.out 4 rfl 3 rfl
      have b4 := qkC S12.out 4 rfl 4 rfl
      have ES := Lib.hid (edgesSeq_c ⟨al,(N : Int),mr,ed⟩ ⟨A1,c1,A2,c2,A3,c3⟩ g0 s W12)
      dsimp only [grCells] at ES
      rw [Int.toNat_natCast] at ES
      go_wp2_with fail
      refine ES.out.mono ?_
      rintro e w13 ⟨gx,bs,rfl,TT⟩
      have S13 : Hid (Sep W0.heap.size W0 ([eBlk bs 3 [.int .i64 (s : Int)],eBlk gx 140 [.slice A1 al.length c1,.int .i64 (N : Int),.slice A2 mr.length c2,.slice A3 ed.length c3,.slice (some ⟨g0,0,none⟩) (N + 1) (N + 1)],eBlk qb 31 [.slice (some AT2) q.length (cQ - 1)],eQ q (.slice (some AT2) q.length (cQ - 1)),eBlk sn 133 [.slice (some ⟨gs,0,none⟩) N N],eBlk gs 4 (mkB N (fun t => see (t : Int))),eBlk gg 140 [.slice A1 al.length c1,.int .i64 (N : Int),.slice A2 mr.length c2,.slice A3 ed.length c3,.slice (some ⟨g0,0,none⟩) (N + 1) (N + 1)],eBlk pb 143 [.func (.func gp) #[] lbp],eBlk g0 3 (mkI (N + 1) fun j => (fstV ed j : Int)),eKeep w W0.heap.size g0] ++ mksE Ds) w13) := S12.out.news TT.out
      clear TT S12 ES b0 b1 b2 b3 b4
      go_wp2_with fail
      obtain ⟨RR,hRR⟩ : ∃ RR : Nat → List Ent → Prop,Hid (∀ t es,RR t es ↔ (∃ (see' : Int → Bool) (q' : List Int) (AQ' : Option Addr) (cQ' : Nat),Hid (FMid ⟨al,(N : Int),mr,ed⟩ pm F N s (outOf ed s) t see' q') ∧ Hid (q'.length + unseen N see' = q.length + unseen N see) ∧ es = [eBlk bs 3 [.int .i64 (s : Int)],eBlk gx 140 [.slice A1 al.length c1,.int .i64 (N : Int),.slice A2 mr.length c2,.slice A3 ed.length c3,.slice (some ⟨g0,0,none⟩) (N + 1) (N + 1)],eBlk qb 31 [.slice AQ' q'.length cQ'],eQ q' (.slice AQ' q'.length cQ'),eBlk sn 133 [.slice (some ⟨gs,0,none⟩) N N],eBlk gs 4 (mkB N (fun t => see' (t : Int))),eBlk gg 140 [.slice A1 al.length c1,.int .i64 (N : Int),.slice A2 mr.length c2,.slice A3 ed.length c3,.slice (some ⟨g0,0,none⟩) (N + 1) (N + 1)],eBlk pb 143 [.func (.func gp) #[] lbp],eBlk g0 3 (mkI (N + 1) fun j => (fstV ed j : Int)),eKeep w W0.heap.size g0] ++ mksE Ds)) := ⟨_,fun _ _ => Iff.rfl⟩
      refine wp_rangeFunc_upd1 (enc := fun x : Ed => .agg x.cells.toArray) (rfl) (fun _ _ => rfl) (T := fun _ => []) 0 (edges_iter ⟨al,(N : Int),mr,ed⟩ ⟨A1,c1,A2,c2,A3,c3⟩ g0 gx bs s W0.heap.size 0 W0 _ HR.out HA.out rfl hsN HCP.out) RR
       (fun _ _ => False) S13.out ((hRR.out _ _).2 ⟨see,q,some AT2,cQ - 1,MI.out,rfl,rfl⟩) (fun k es hes => ⟨trivial,?_⟩)
       (fun a x b => { tmps := (a.tmps.setIfInBounds 28 (.agg x.cells.toArray)).setIfInBounds 10 (.pointer (some ⟨b,0,none⟩)),defers := [] }) (fun x b => [eBlk b 76 x.cells]) ?_ ?_ ?_ ?_
      · obtain ⟨see',q',AQ',cQ',_,_,rfl⟩ := (hRR.out _ _).1 hes
        intro e he
        simp only [List.mem_cons,List.not_mem_nil,or_false] at he
        rcases he with rfl | rfl | rfl
        · exact List.mem_of_getElem? (i := 0) rfl
        · exact List.mem_of_getElem? (i := 1) rfl
        · exact List.mem_of_getElem? (i := 8) rfl
      · clear S13 MI
        rintro l eL eD k x es1 W KK hx hes SW hK
        obtain ⟨see',q',AQ',cQ',_,_,rfl⟩ := (hRR.out _ _).1 hes
        have HK2 := Lib.hid hK
        have S1 := Lib.hid SW
        clear hK SW
        simp only [List.setIfInBounds_toArray,List.set_cons_succ,List.set_cons_zero,Ed.cells]
        gi_wp2
        exact HK2.out W.heap.size _ (Sep.third (S1.out.alloc 76 _))
      · clear S13 MI
        rintro l eL eD t x es1 bx W hx hes SW
        obtain ⟨see',q',AQ',cQ',B,CT,rfl⟩ := (hRR.out _ _).1 hes
        clear hes
        have hm := (mem_outOf.1 (List.mem_of_getElem? hx)).1
        have hxr := edge_next HR.out hm
        obtain ⟨ys,ye,d'⟩ := x
        obtain ⟨d,hd⟩ := Int.eq_ofNat_of_zero_le hxr.2.2.2.1
        dsimp only at hd
        subst hd
        have hdN : d < N := by have := hxr.2.2.2.2; dsimp only at this; omega
        have HX := Lib.hid hx
        have HM := Lib.hid hm
        have HOUT : Hid (∀ x,x ∈ outOf ed s → x ∈ ed ∧ x.src = s) := fun x hx => mem_outOf.1 hx
        have S1 : Hid (Sep W0.heap.size W0 ([eL,eD,eBlk bx 76 [.int .i64 ys,.int .i64 ye,.int .i64 (d : Int)],eBlk bs 3 [.int .i64 (s : Int)],eBlk gx 140 [.slice A1 al.length c1,.int .i64 (N : Int),.slice A2 mr.length c2,.slice A3 ed.length c3,.slice (some ⟨g0,0,none⟩) (N + 1) (N + 1)],eBlk qb 31 [.slice AQ' q'.length cQ'],eQ q' (.slice AQ' q'.length cQ'),eBlk sn 133 [.slice (some ⟨gs,0,none⟩) N N],eBlk gs 4 (mkB N (fun t => see' (t : Int))),eBlk gg 140 [.slice A1 al.length c1,.int .i64 (N : Int),.slice A2 mr.length c2,.slice A3 ed.length c3,.slice (some ⟨g0,0,none⟩) (N + 1) (N + 1)],eBlk pb 143 [.func (.func gp) #[] lbp],eBlk g0 3 (mkI (N + 1) fun j => (fstV ed j : Int)),eKeep w W0.heap.size g0] ++ mksE Ds) W) := SW
        clear SW hx hm hxr
        have b2 := qkC S1.out 2 rfl 2 rfl
        have snc := qkC S1.out 7 rfl 0 rfl
        have gsc := (BlkAt.cell (S1.out.get 8 rfl) d).trans (mkB_get hdN)
        obtain ⟨v,hv⟩ : ∃ v,v = see' (d : Int) := ⟨_,rfl⟩
        rw [← hv] at gsc
        have HV := Lib.hid hv
        clear hv
        dsimp only [Ed.cells]
        simp only [List.setIfInBounds_toArray,List.set_cons_succ,List.set_cons_zero]
        cases v
        case true =>
         have B2 := Lib.hid (B.out.skip HX.out (.inl HV.out.symm))
         gi_upto_region 8 with fail
         refine wpIn_region_list (by kernel_rfl) (fun _ _ h => h) ?_
         go_wp2_with fail
         gi_wp2
         exact ⟨_,(hRR.out _ _).2 ⟨see',q',AQ',cQ',B2.out,CT.out,rfl⟩,S1.out.drop3⟩
        case false =>
         have BK := Lib.hid (HG.out.kept S1.out (i := 11) (j := 12) rfl rfl)
         obtain ⟨pv,hpv⟩ : ∃ z,z = pm ⟨ys,ye,(d : Int)⟩ := ⟨_,rfl⟩
         have CP := Lib.hid (HP.out W ⟨ys,ye,(d : Int)⟩ BK.out HM.out)
         rw [← hpv] at CP
         have HPV := Lib.hid hpv
         have b0 := qkC S1.out 2 rfl 0 rfl
         have b1 := qkC S1.out 2 rfl 1 rfl
         have pbc := qkC S1.out 10 rfl 0 rfl
         clear hpv
         gi_wp2
         refine ⟨trivial,rfl,(CallsIn.inRound l (callsIn_wide.2 CP.out)).mono ?_⟩
         rintro e w5 ⟨rfl,hb⟩
         have S2 := Lib.hid (S1.out.next hb)
         clear hb CP S1 b0 b1 b2 snc gsc pbc
         cases pv
         case false =>
          have B2 := Lib.hid (B.out.skip HX.out (.inr HPV.out.symm))
          gi_wp2
          exact ⟨_,(hRR.out _ _).2 ⟨see',q',AQ',cQ',B2.out,CT.out,rfl⟩,S2.out.drop3⟩
         case true =>
          have B3 : Hid (FMid ⟨al,(N : Int),mr,ed⟩ pm F N s (outOf ed s) (t + 1) (fun t : Int => decide (t = (d : Int)) || see' t) (q' ++ [(d : Int)])) := B.out.push HOUT.out HX.out HPV.out.symm (Int.natCast_nonneg _) (by simp only; omega) HV.out.symm
          have CT3 : Hid ((q' ++ [(d : Int)]).length + unseen N (fun t : Int => decide (t = (d : Int)) || see' t) = q.length + unseen N see) := by
           have h1 := unseen_set (N := N) (see := see') (d := (d : Int)) (Int.natCast_nonneg d) (by omega) HV.out.symm
           have h2 := CT.out
           rw [Hid,List.length_append,List.length_singleton]
           omega
          have hln : q'.length ≤ 8192 := by have := B.out.ct; omega
          have HLN := Lib.hid hln
          clear hln
          have b2 := qkC S2.out 2 rfl 2 rfl
          have snc := qkC S2.out 7 rfl 0 rfl
          have gsc := (BlkAt.cell (S2.out.get 8 rfl) d).trans (mkB_get hdN)
          have gsf := BlkAt.free (S2.out.get 8 rfl) d
          have S3 : Hid (Sep W0.heap.size W0 ([eL,eD,eBlk bx 76 [.int .i64 ys,.int .i64 ye,.int .i64 (d : Int)],eBlk bs 3 [.int .i64 (s : Int)],eBlk gx 140 [.slice A1 al.length c1,.int .i64 (N : Int),.slice A2 mr.length c2,.slice A3 ed.length c3,.slice (some ⟨g0,0,none⟩) (N + 1) (N + 1)],eBlk qb 31 [.slice AQ' q'.length cQ'],eQ q' (.slice AQ' q'.length cQ'),eBlk sn 133 [.slice (some ⟨gs,0,none⟩) N N],eBlk gs 4 (mkB N (fun t : Nat => decide ((t : Int) = (d : Int)) || see' (t : Int))),eBlk gg 140 [.slice A1 al.length c1,.int .i64 (N : Int),.slice A2 mr.length c2,.slice A3 ed.length c3,.slice (some ⟨g0,0,none⟩) (N + 1) (N + 1)],eBlk pb 143 [.func (.func gp) #[] lbp],eBlk g0 3 (mkI (N + 1) fun j => (fstV ed j : Int)),eKeep w W0.heap.size g0] ++ mksE Ds) (w5.setCell ⟨gs,d,none⟩ (.bool true))) := by
           have h := S2.out.set 8 rfl d (.bool true)
           have e : (mkB N fun t => decide (t = d) || see' (t : Int)) = mkB N (fun t : Nat => decide ((t : Int) = (d : Int)) || see' (t : Int)) := mkB_congr fun t _ => by
            have : ((t : Int) = (d : Int)) ↔ t = d := by omega
            simp only [this]
           rw [mkB_set,e] at h
           exact h
          gi_upto_region 10 with fail
          refine wpIn_world (fun V => Sep W0.heap.size W0 ([eL,eD,eBlk bx 76 [.int .i64 ys,.int .i64 ye,.int .i64 (d : Int)],eBlk bs 3 [.int .i64 (s : Int)],eBlk gx 140 [.slice A1 al.length c1,.int .i64 (N : Int),.slice A2 mr.length c2,.slice A3 ed.length c3,.slice (some ⟨g0,0,none⟩) (N + 1) (N + 1)],eBlk qb 31 [.slice AQ' q'.length cQ'],eQ q' (.slice AQ' q'.length cQ'),eBlk sn 133 [.slice (some ⟨gs,0,none⟩) N N],eBlk gs 4 (mkB N (fun t : Nat => decide ((t : Int) = (d : Int)) || see' (t : Int))),eBlk gg 140 [.slice A1 al.length c1,.int .i64 (N : Int),.slice A2 mr.length c2,.slice A3 ed.length c3,.slice (some ⟨g0,0,none⟩) (N + 1) (N + 1)],eBlk pb 143 [.func (.func gp) #[] lbp],eBlk g0 3 (mkI (N + 1) fun j => (fstV ed j : Int)),eKeep w W0.heap.size g0] ++ mksE Ds) V) S3.out fun W6 S' => ?_
          have S4 := Lib.hid S'
          clear S' S3 S2 b2 snc gsc gsf
          have b2 := qkC S4.out 2 rfl 2 rfl
          have qbc := qkC S4.out 5 rfl 0 rfl
          have hln2 := HLN.out
          refine wpIn_region_list (by kernel_rfl) (fun _ _ h => h) ?_
          go_wp2_with (at_builtin; refine wpList_pushQ (enc := encI) (k := 1) (fun _ => rfl) rfl _ _ 31 rfl (S4.out.alloc 3 [.int .i64 (d : Int)]) 7 rfl Tryz.underlying31 _ 8 intInfo rfl (by decide) rfl (d : Int) _ rfl (one_cell _ _ [_] _ (by simp)) (encI_one _) (by omega) (by decide) ?_)
          intro A3' c3' w7 S5
          have S6 : Hid (Sep W0.heap.size W0 ([eL,eD,eBlk bx 76 [.int .i64 ys,.int .i64 ye,.int .i64 (d : Int)],eBlk bs 3 [.int .i64 (s : Int)],eBlk gx 140 [.slice A1 al.length c1,.int .i64 (N : Int),.slice A2 mr.length c2,.slice A3 ed.length c3,.slice (some ⟨g0,0,none⟩) (N + 1) (N + 1)],eBlk qb 31 [.slice AQ' q'.length cQ'],eQ (q' ++ [(d : Int)]) (.slice A3' (q'.length + 1) c3'),eBlk sn 133 [.slice (some ⟨gs,0,none⟩) N N],eBlk gs 4 (mkB N (fun t : Nat => decide ((t : Int) = (d : Int)) || see' (t : Int))),eBlk gg 140 [.slice A1 al.length c1,.int .i64 (N : Int),.slice A2 mr.length c2,.slice A3 ed.length c3,.slice (some ⟨g0,0,none⟩) (N + 1) (N + 1)],eBlk pb 143 [.func (.func gp) #[] lbp],eBlk g0 3 (mkI (N + 1) fun j => (fstV ed j : Int)),eKeep w W0.heap.size g0] ++ mksE Ds) w7) := S5.drop1
          clear S5 b2 qbc
          have qbc := qkC S6.out 5 rfl 0 rfl
          have qbf := BlkAt.free (S6.out.get 5 rfl) 0
          have S7 : Hid (Sep W0.heap.size W0 ([eL,eD,eBlk bx 76 [.int .i64 ys,.int .i64 ye,.int .i64 (d : Int)],eBlk bs 3 [.int .i64 (s : Int)],eBlk gx 140 [.slice A1 al.length c1,.int .i64 (N : Int),.slice A2 mr.length c2,.slice A3 ed.length c3,.slice (some ⟨g0,0,none⟩) (N + 1) (N + 1)],eBlk qb 31 [.slice A3' (q' ++ [(d : Int)]).length c3'],eQ (q' ++ [(d : Int)]) (.slice A3' (q' ++ [(d : Int)]).length c3'),eBlk sn 133 [.slice (some ⟨gs,0,none⟩) N N],eBlk gs 4 (mkB N (fun t : Nat => decide ((t : Int) = (d : Int)) || see' (t : Int))),eBlk gg 140 [.slice A1 al.length c1,.int .i64 (N : Int),.slice A2 mr.length c2,.slice A3 ed.length c3,.slice (some ⟨g0,0,none⟩) (N + 1) (N + 1)],eBlk pb 143 [.func (.func gp) #[] lbp],eBlk g0 3 (mkI (N + 1) fun j => (fstV ed j : Int)),eKeep w W0.heap.size g0] ++ mksE Ds) (w7.setCell ⟨qb,0,none⟩ (.slice A3' (q'.length + 1) c3'))) := by
           have h := S6.out.set 5 rfl 0 (.slice A3' (q'.length + 1) c3')
           rw [show (q' ++ [(d : Int)]).length = q'.length + 1 by simp]
           exact h
          go_wp2_with fail
          gi_wp2
          exact ⟨_,(hRR.out _ _).2 ⟨(fun t : Int => decide (t = (d : Int)) || see' t),q' ++ [(d : Int)],A3',c3',B3.out,CT3.out,rfl⟩,S7.out.drop3⟩
      · clear S13 MI
        rintro D t es1 W hD hes SW
        obtain ⟨see',q',AQ',cQ',B,CT,rfl⟩ := (hRR.out _ _).1 hes
        clear hes
        subst hD
        have B2 : Hid (FInv ⟨al,(N : Int),mr,ed⟩ pm F N see' q') := B.out.fin fun x hx hs => mem_outOf.2 ⟨hx,hs⟩
        have S1 : Hid (Sep W0.heap.size W0 ([eBlk qb 31 [.slice AQ' q'.length cQ'],eQ q' (.slice AQ' q'.length cQ'),eBlk sn 133 [.slice (some ⟨gs,0,none⟩) N N],eBlk gs 4 (mkB N (fun t => see' (t : Int))),eBlk gg 140 [.slice A1 al.length c1,.int .i64 (N : Int),.slice A2 mr.length c2,.slice A3 ed.length c3,.slice (some ⟨g0,0,none⟩) (N + 1) (N + 1)],eBlk pb 143 [.func (.func gp) #[] lbp],eBlk g0 3 (mkI (N + 1) fun j => (fstV ed j : Int)),eKeep w W0.heap.size g0] ++ mksE (D :: Ds)) W) := (Sep.marked SW).drop1.drop1
        have HM2 : Hid ((N - wT W gs N) + cellLen W qb < unseen N see + (q.length + 1)) := by
         have h1 := CT.out
         rw [Hid,wT_of (S1.out.get 3 rfl),cellLen_of (S1.out.get 0 rfl),← unseen_cnt]
         show unseen N see' + q'.length < _
         omega
        clear SW B
        change Exit.inBlock 2 _ _ { tmps := _,defers := mksD (D :: Ds) } W
        go_wp2_with fail
        refine ⟨(hLI.out _ _).2 ⟨see',q',AQ',cQ',D :: Ds,⟨B2.out,S1.out⟩,fr_of (fun u => #[u 0,u 1,u 2,.pointer (some ⟨gg,0,none⟩),u 4,.pointer (some ⟨pb,0,none⟩),u 6,.pointer (some ⟨sn,0,none⟩),.pointer (some ⟨qb,0,none⟩),u 9,u 10,u 11,u 12,u 13,u 14,u 15,u 16,u 17,u 18,u 19,u 20,u 21,u 22,u 23,u 24,u 25,u 26,u 27,u 28,u 29,u 30,u 31,u 32,u 33,u 34,u 35,u 36,u 37,u 38,u 39,u 40,u 41,u 42,u 43,u 44,u 45,u 46,u 47,u 48,u 49]) rfl⟩,?_⟩
        show (N - wT W gs N) + cellLen W qb < (N - wT wr gs N) + cellLen wr qb
        rw [HB0.out]
        exact HM2.out
      · intro D c es1 W h
        exact h.elim
set_option maxHeartbeats 1000000 in
theorem anyEdge_c (x : Ed) (w : World) : Calls Tryz.prog 80 (#[.agg x.cells.toArray] ++ #[]) w (Ret (.bool true) w) := by
 obtain ⟨x1,x2,x3⟩ := x
 dsimp only [Ed.cells]
 simp only [Array.append_empty]
 go_enter Tryz.func80,Tryz.ntmps80
 go_wp2_with fail
 go_ret
 exact ⟨rfl,by first | exact Below.refl _ _ | exact Below.new _ _⟩
set_option maxHeartbeats 2000000 in
theorem reachable_c (a : Au) (p : AuP) (g0 : Nat) (W0 w : World)
 (hr : a.Right) (hpos : 0 < a.n) (hA : EdsAt W0 p.A3 a.ed) (hc : a.ed.length ≤ p.c3) (hg : Sep W0.heap.size W0 [eBlk g0 3 (mkI (a.n.toNat + 1) fun j => (fstV a.ed j : Int))] w) :
 Calls Tryz.prog 76 #[.agg (grCells a p g0).toArray] w (GivesFw a (fun _ => true) [0] w) := by
 have h0 := hr.n0
 have hn := hr.n1
 have HR := Lib.hid hr
 have HA := Lib.hid hA
 have HCP := Lib.hid hc
 have HG := Lib.hid hg
 obtain ⟨al,n,mr,ed⟩ := a
 obtain ⟨A1,c1,A2,c2,A3,c3⟩ := p
 obtain ⟨N,rfl⟩ := Int.eq_ofNat_of_zero_le h0
 dsimp only [grCells] at HR HA HCP HG hn h0 hpos ⊢
 rw [Int.toNat_natCast] at HG ⊢
 have SK : Hid (Sep W0.heap.size W0 [eBlk g0 3 (mkI (N + 1) fun j => (fstV ed j : Int)),eKeep w W0.heap.size g0] w) := HG.out.keep
 have hz : ((N : Int) == 0) = false := beq_eq_false_iff_ne.2 (by omega)
 clear hr hA hc hg h0
 go_enter Tryz.func76,Tryz.ntmps76
 obtain ⟨gg,hgg⟩ : ∃ g,g = w.heap.size := ⟨_,rfl⟩
 go_upto_region 1 with fail
 rw [← hgg]
 refine wp_world (fun W => Sep W0.heap.size W0 [eBlk gg 140 [.slice A1 al.length c1,.int .i64 (N : Int),.slice A2 mr.length c2,.slice A3 ed.length c3,.slice (some ⟨g0,0,none⟩) (N + 1) (N + 1)],eBlk g0 3 (mkI (N + 1) fun j => (fstV ed j : Int)),eKeep w W0.heap.size g0] W) (SK.out.alloc' 140 [.slice A1 al.length c1,.int .i64 (N : Int),.slice A2 mr.length c2,.slice A3 ed.length c3,.slice (some ⟨g0,0,none⟩) (N + 1) (N + 1)] rfl hgg) fun W1 S' => ?_
 have S1 := Lib.hid S'
 clear S' SK hgg
 have b0 := qkC S1.out 0 rfl 0 rfl
 have b1 := qkC S1.out 0 rfl 1 rfl
 have b2 := qkC S1.out 0 rfl 2 rfl
 have b3 := qkC S1.out 0 rfl 3 rfl
 have b4 := qkC S1.out 0 rfl 4 rfl
 go_wp2_with fail
 obtain ⟨sl,hsl⟩ : ∃ g,g = W1.heap.size := ⟨_,rfl⟩
 rw [← hsl]
 refine calls_world (fun W => Sep W0.heap.size W0 [eBlk sl 3 [.int .i64 0],eBlk gg 140 [.slice A1 al.length c1,.int .i64 (N : Int),.slice A2 mr.length c2,.slice A3 ed.length c3,.slice (some ⟨g0,0,none⟩) (N + 1) (N + 1)],eBlk g0 3 (mkI (N + 1) fun j => (fstV ed j : Int)),eKeep w W0.heap.size g0] W) (S1.out.alloc' 3 [.int .i64 0] rfl hsl) fun W2 S' => ?_
 have S2 := Lib.hid S'
 clear S' S1 hsl b0 b1 b2 b3 b4
 have BK := Lib.hid (HG.out.kept S2.out (i := 2) (j := 3) rfl rfl)
 have FC := forward_c ⟨al,(N : Int),mr,ed⟩ ⟨A1,c1,A2,c2,A3,c3⟩ g0 (some ⟨sl,0,none⟩) 1 [0] 80 #[] (fun args w => by rfl) (fun _ => true) W0 W2 HR.out HA.out HCP.out (by intro x hx; simp at hx; subst hx; exact ⟨Int.le_refl _,hpos⟩) (IntsAt.blk [0] (S2.out.get 0 rfl)) (by simp) (S2.out.pick [2] (by decide)) (fun V x _ _ => anyEdge_c x V)
 dsimp only [grCells] at FC
 rw [Int.toNat_natCast] at FC
 refine FC.mono ?_
 rintro e w3 ⟨g,see,rfl,TT,HS⟩
 have T3 := Lib.hid (((Sep.here w).next BK.out).news TT.out)
 clear TT BK S2 FC
 dsimp only
 rw [Int.toNat_natCast] at T3 ⊢
 go_wp2_with fail
 go_ret
 exact ⟨g,see,rfl,T3.out,HS.out⟩
def GivesRc (a : Au) (w : World) (e : Ending) (w' : World) : Prop := ∃ (A : Option Addr) (c : Nat) (R : List Int),e = .returned (.tuple #[.slice A R.length c,.int .i64 0]) ∧ Hid (Sep w.heap.size w [eInts R (.slice A R.length c)] w') ∧ Hid (∀ t,t ∈ R ↔ 0 ≤ t ∧ ∃ u,rn a u = t) ∧ R.length ≤ a.n.toNat
theorem mkV_mem {X : Nat → Bool} {k : Nat} {x : Int} : x ∈ mkV X k ↔ ∃ s : Nat,x = s ∧ s < k ∧ X s = true := by
 simp only [mkV,List.mem_map,List.mem_filter,List.mem_range]
 constructor
 · rintro ⟨s,⟨h1,h2⟩,rfl⟩
   exact ⟨s,rfl,h1,h2⟩
 · rintro ⟨s,rfl,h1,h2⟩
   exact ⟨s,⟨h1,h2⟩,rfl⟩
end
end Go.Proofs.YtimdepdbcdbikaaGreat
