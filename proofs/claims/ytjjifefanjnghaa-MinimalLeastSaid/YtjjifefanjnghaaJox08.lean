/-
  What the row leans on.
-/
import Derived.Test.YtjjifefanjnghaaJox07
import Derived.Test.YtjjifefanjnghaaBas08
import Derived.Test.YtjjifefanjnghaaBas10
import Derived.Test.YtjjifefanjnghaaJox01
import Derived.Test.YtjjifefanjnghaaBas09
import Derived.Test.YtjjifefanjnghaaJox03
import Derived.Deep.RegionHeld3
import Derived.Deep.CutBlock
import Derived.Deep.DeepCutAuto
set_option linter.unusedSimpArgs false
set_option linter.unusedVariables false
namespace Go.Proofs.Ytjjifefanjnghaa
open Go.RowKit
set_option maxRecDepth 100000
section

structure Pw where
 x : Int
 y : Int
 w : List Int
def Pw.pr (p : Pw) : Int × Int := (p.x,p.y)
theorem Bfs.shortW {α : Type} {stp : α → Int → α} {s0 : α} {dead : α → Prop} {evs : List Int} {i k : Nat} {vs : List α} {ws : List (List Int)} (h : Bfs stp s0 dead evs i k vs ws) : ∀ (j : Nat) (w : List Int),ws[j]? = some w → w.length ≤ j := by
 intro j;induction j using Nat.strongRecOn with
 | ind j ih =>
   intro w hw;by_cases h0 : j = 0
   · subst h0; rw [h.zw] at hw; cases hw; simp
   · obtain ⟨b,u,e,_,hb,hu,rfl⟩ := h.pre j w (by omega) hw;have := ih b hb u hu;simp; omega
structure LInv (a b : Au) (s0 : Int × Int) (i k t : Nat) (l : List Pw) : Prop where
 bfs : Bfs (stp2 a b) s0 dead2 ev32 i k (l.map Pw.pr) (l.map Pw.w)
 nd : (l.map Pw.pr).Nodup
 rg : ∀ v,v ∈ l → -1 ≤ v.x ∧ v.x < a.n ∧ -1 ≤ v.y ∧ v.y < b.n
 al : ∀ v,v ∈ l → v.pr ≠ (-1,-1)
 no : ∀ (j : Nat) v,j < t → (l.map Pw.pr)[j]? = some v → pdV a b v = false
section
variable {a b : Au} {s0 : Int × Int} {i k t : Nat} {l : List Pw}
theorem LInv.start (x y : Int) (hx : -1 ≤ x ∧ x < a.n) (hy : -1 ≤ y ∧ y < b.n) (hd : (x,y) ≠ (-1,-1)) : LInv a b (x,y) 0 0 0 [⟨x,y,[]⟩] :=
 ⟨Bfs.start,by simp,fun v hv => by
  simp at hv; subst hv
  simp only; omega,fun v hv => by
  simp at hv; subst hv; exact hd,fun j v h => absurd h (by omega)⟩
theorem LInv.len (h : LInv a b s0 i k t l) (ha : a.Right) (hb : b.Right) : l.length ≤ (a.n.toNat + 2) * (b.n.toNat + 2) := by
 have h1 := nodup_lenN ((a.n.toNat + 2) * (b.n.toNat + 2)) ((l.map Pw.pr).map fun q => (q.1 + 1).toNat * (b.n.toNat + 2) + (q.2 + 1).toNat) ?_ ?_
 · simpa using h1
 · rw [List.nodup_iff_pairwise_ne,List.pairwise_map];refine List.Pairwise.imp_of_mem ?_ (List.nodup_iff_pairwise_ne.1 h.nd);intro p q hp hq hne hc;obtain ⟨v,hv,rfl⟩ := List.mem_map.1 hp;obtain ⟨u,hu,rfl⟩ := List.mem_map.1 hq;have r1 := h.rg v hv;have r2 := h.rg u hu;have n1 := hb.n0;simp only [Pw.pr] at hc hne;have e2 : (v.y + 1).toNat < b.n.toNat + 2 := by omega
   have e3 : (u.y + 1).toNat < b.n.toNat + 2 := by omega
   have e4 : (v.x + 1).toNat = (u.x + 1).toNat := by
    have m1 := Nat.div_eq_of_lt e2;have m2 := Nat.div_eq_of_lt e3;have := congrArg (· / (b.n.toNat + 2)) hc;rw [Nat.mul_comm,Nat.mul_add_div (by omega),m1,Nat.mul_comm,Nat.mul_add_div (by omega),m2] at this;omega
   rw [e4] at hc;exact hne (by rw [Prod.mk.injEq]; omega)
 · intro x hx;obtain ⟨q,hq,rfl⟩ := List.mem_map.1 hx;obtain ⟨v,hv,rfl⟩ := List.mem_map.1 hq;have r1 := h.rg v hv;have n0 := ha.n0;have n1 := hb.n0;simp only [Pw.pr];have e1 : (v.x + 1).toNat + 1 ≤ a.n.toNat + 2 := by omega
   have e2 : (v.y + 1).toNat < b.n.toNat + 2 := by omega
   have := Nat.mul_le_mul_right (b.n.toNat + 2) e1;rw [Nat.succ_mul] at this;omega
theorem LInv.word (h : LInv a b s0 i k t l) {j : Nat} {p : Pw} (hp : l[j]? = some p) : p.w.length ≤ j := h.bfs.shortW j p.w (by rw [List.getElem?_map,hp]; rfl)
theorem LInv.skip (h : LInv a b s0 i k t l) {v : Pw} (hv : l[i]? = some v) (hk : k < 32) (hs : stp2 a b v.pr (k : Int) = (-1,-1) ∨ stp2 a b v.pr (k : Int) ∈ l.map Pw.pr) : LInv a b s0 i (k + 1) t l :=
 ⟨h.bfs.skip ev32_incr (v := v.pr) (by rw [List.getElem?_map,hv]; rfl) (ev32_get hk) (hs.imp id fun g => by
  obtain ⟨j,hj,e⟩ := List.mem_iff_getElem.1 g;exact ⟨j,by rw [List.getElem?_eq_getElem hj,e]⟩),h.nd,h.rg,h.al,h.no⟩
theorem LInv.push (ha : a.Right) (hb : b.Right) (h : LInv a b s0 i k t l) (ht : t ≤ l.length) {v : Pw} (hv : l[i]? = some v) (hk : k < 32) (h1 : ¬ stp2 a b v.pr (k : Int) = (-1,-1)) (h2 : ¬ stp2 a b v.pr (k : Int) ∈ l.map Pw.pr) :
 LInv a b s0 i (k + 1) t (l ++ [⟨(stp2 a b v.pr (k : Int)).1,(stp2 a b v.pr (k : Int)).2,v.w ++ [(k : Int)]⟩]) := by
 have hv' : (l.map Pw.pr)[i]? = some v.pr := by rw [List.getElem?_map,hv]; rfl
 have hw' : (l.map Pw.w)[i]? = some v.w := by rw [List.getElem?_map,hv]; rfl
 refine ⟨?_,?_,fun u hu => ?_,fun u hu => ?_,fun j u hj hu => ?_⟩
 · rw [List.map_append,List.map_append];exact h.bfs.push ev32_incr hv' (ev32_get hk) hw'
 · rw [List.map_append];refine List.nodup_append.2 ⟨h.nd,by simp,fun p hp q hq => ?_⟩;simp at hq
   rintro rfl;refine h2 ?_;rw [hq] at hp;exact hp
 · rcases List.mem_append.1 hu with g | g
   · exact h.rg u g
   · simp at g; subst g
     have := ha.to_cases v.x k;have := hb.to_cases v.y k;have := ha.n0;have := hb.n0;simp only [stp2,Pw.pr];omega
 · rcases List.mem_append.1 hu with g | g
   · exact h.al u g
   · simp at g; subst g
     intro hc;exact h1 (by rw [← hc]; simp [Pw.pr])
 · rw [List.map_append,List.getElem?_append_left (by simp; omega)] at hu;exact h.no j u hj hu
theorem LInv.next (h : LInv a b s0 i 32 t l) : LInv a b s0 (i + 1) 0 t l := ⟨Bfs.next (by rw [ev32_len]; exact h.bfs),h.nd,h.rg,h.al,h.no⟩
theorem LInv.test (h : LInv a b s0 i k i l) {v : Pw} (hv : l[i]? = some v) (hp : pdV a b v.pr = false) : LInv a b s0 i k (i + 1) l :=
 ⟨h.bfs,h.nd,h.rg,h.al,fun j u hj hu => by
  by_cases e : j = i
  · subst e;rw [List.getElem?_map,hv] at hu;cases hu; exact hp
  · exact h.no j u (by omega) hu⟩
theorem LInv.least (ha : a.Right) (hb : b.Right) (h : LInv a b s0 i k i l) {v : Pw} (hv : l[i]? = some v) (hp : pdV a b v.pr = true) : LeastW (LeadsTo (stp2 a b) s0 ev32 (fun q => pdV a b q = true)) v.w :=
 h.bfs.least (dead2_step ha hb) (P := fun q => pdV a b q = true) (fun s hs => by unfold dead2 at hs; subst hs; simp [pdV_dead]) (fun j u hj hu => by rw [h.no j u hj hu]; simp) (show (l.map Pw.pr)[i]? = some v.pr by rw [List.getElem?_map,hv]; rfl) (show (l.map Pw.w)[i]? = some v.w by rw [List.getElem?_map,hv]; rfl) hp
theorem LInv.none_ (ha : a.Right) (hb : b.Right) (h : LInv a b s0 l.length k l.length l) (u : List Int) : ¬ LeadsTo (stp2 a b) s0 ev32 (fun q => pdV a b q = true) u :=
 h.bfs.none_ (dead2_step ha hb) (P := fun q => pdV a b q = true) (fun s hs => by unfold dead2 at hs; subst hs; simp [pdV_dead]) (by simp) (fun j v hv => by
  have hj := (List.getElem?_eq_some_iff.1 hv).1;rw [h.no j v (by simpa using hj) hv]; simp) u
end
theorem stp2_out {a b : Au} (ha : a.Right) (hb : b.Right) (s : Int × Int) (e : Int) (h : ¬ e ∈ unionS a.al b.al) : stp2 a b s e = (-1,-1) := by
 have f : ∀ c : Au,c.Right → ¬ e ∈ c.al → ∀ t,toV (stepOf c.ed) t e = -1 := fun c hc hn t => by
  rw [← hc.next];rcases hc.next_cases t e with g | ⟨_,_,x,hx,_,x2,_⟩
  · exact g
  · obtain ⟨j,hj,hjx⟩ := List.mem_iff_getElem.1 hx;have := (hc.ed j hj x (by rw [List.getElem?_eq_getElem hj,hjx])).2.2.2.2.1;rw [x2] at this;exact absurd this hn
 simp only [stp2];rw [f a ha (fun g => h (mem_unionS.2 (.inl g))),f b hb (fun g => h (mem_unionS.2 (.inr g)))]
theorem fold_dead {a b : Au} (ha : a.Right) (hb : b.Right) : ∀ (w : List Int),w.foldl (stp2 a b) (-1,-1) = (-1,-1)
 | [] => rfl
 | e :: w => by
   rw [List.foldl_cons,dead2_step ha hb (-1,-1) e rfl];exact fold_dead ha hb w
theorem DistW.uniq {a b : Au} {x y : Int} {f g : Bool} {l m : List Int} (h : DistW a b x y f l) (k : DistW a b x y g m) : f = g ∧ l = m := by
 rcases h with ⟨rfl,h⟩ | ⟨rfl,rfl,h⟩
 · rcases k with ⟨rfl,k⟩ | ⟨rfl,rfl,k⟩
   · exact ⟨rfl,h.uniq k⟩
   · exact absurd h.is (k _)
 · rcases k with ⟨rfl,k⟩ | ⟨rfl,rfl,k⟩
   · exact absurd k.is (h _)
   · exact ⟨rfl,rfl⟩
end
def Agree (a b : Au) (x y : Int) (w : List Int) : Prop := (0 ≤ runV a.ed x w ↔ 0 ≤ runV b.ed y w) ∧ (runV a.ed x w ∈ a.mr ↔ runV b.ed y w ∈ b.mr)
theorem Au.Right.run_out {a : Au} (h : a.Right) (w : List Int) {s : Int} (hs : s = -1 ∨ 0 ≤ s) : runV a.ed s w = -1 ∨ 0 ≤ runV a.ed s w := by
 rcases hs with rfl | hs
 · exact .inl (runV_neg _ (by decide) w)
 · exact h.run_cases w s hs
theorem next_dead {a : Au} (h : a.Right) (e : Int) : toV (stepOf a.ed) (-1) e = -1 := by
 have h2 : stp2 a a (-1,-1) e = (-1,-1) := dead2_step h h (-1,-1) e rfl;exact (Prod.mk.inj h2).1
theorem fold2 {a b : Au} (ha : a.Right) (hb : b.Right) : ∀ (w : List Int) (x y : Int),x = -1 ∨ 0 ≤ x → y = -1 ∨ 0 ≤ y → w.foldl (stp2 a b) (x,y) = (runV a.ed x w,runV b.ed y w)
 | [],x,y,_,_ => rfl
 | e :: w,x,y,hx,hy => by
   have f : ∀ c : Au,c.Right → ∀ t,t = -1 ∨ 0 ≤ t → runV c.ed (toV (stepOf c.ed) t e) w = runV c.ed t (e :: w) := fun c hc t ht => by
    rcases ht with rfl | ht
    · rw [next_dead hc e,runV_neg _ (by decide),runV_neg _ (by decide)]
    · rw [runV_cons ht,hc.next]
   have g : ∀ c : Au,c.Right → ∀ t,toV (stepOf c.ed) t e = -1 ∨ 0 ≤ toV (stepOf c.ed) t e := fun c hc t => (hc.to_cases t e).imp id And.left;rw [List.foldl_cons];show w.foldl (stp2 a b) (toV (stepOf a.ed) x e,toV (stepOf b.ed) y e) = _
   rw [fold2 ha hb w _ _ (g a ha x) (g b hb y),f a ha x hx,f b hb y hy]
theorem pd_over {a b : Au} (ha : a.Right) (hb : b.Right) : ∀ (w : List Int) (s : Int × Int),pdV a b (w.foldl (stp2 a b) s) = true → ∀ e,e ∈ w → e ∈ unionS a.al b.al
 | [],s,_,e,he => by cases he
 | x :: r,s,h,e,he => by
   rw [List.foldl_cons] at h;rcases List.mem_cons.1 he with rfl | g
   · by_cases hm : e ∈ unionS a.al b.al
     · exact hm
     · rw [stp2_out ha hb s e hm,fold_dead ha hb,pdV_dead] at h;cases h
   · exact pd_over ha hb r _ h e g
theorem pdV_agree {a b : Au} (ha : a.Right) (hb : b.Right) {r s : Int} (hr : r = -1 ∨ 0 ≤ r) (hs : s = -1 ∨ 0 ≤ s) : pdV a b (r,s) = true ↔ ¬ ((0 ≤ r ↔ 0 ≤ s) ∧ (r ∈ a.mr ↔ s ∈ b.mr)) := by
 have m : ∀ c : Au,c.Right → ¬ (-1 : Int) ∈ c.mr := fun c hc h => by have := hc.mem h; omega
 have ma := m a ha;have mb := m b hb;unfold pdV
 rcases hr with rfl | hr <;> rcases hs with rfl | hs
 · simp [ma,mb]
 · have e : ¬ (((-1 : Int),s) = (-1,-1)) := fun h => by have := (Prod.mk.inj h).2; omega
   rw [if_neg e];simp only [decide_true,Bool.true_or,true_iff];exact fun h => by have := h.1.2 hs; omega
 · have e : ¬ ((r,(-1 : Int)) = (-1,-1)) := fun h => by have := (Prod.mk.inj h).1; omega
   rw [if_neg e];simp only [decide_true,Bool.or_true,Bool.true_or,true_iff];exact fun h => by have := h.1.1 hr; omega
 · have e : ¬ ((r,s) = (-1,-1)) := fun h => by have := (Prod.mk.inj h).1; omega
   rw [if_neg e];have e1 : decide (r = -1) = false := decide_eq_false (by omega);have e2 : decide (s = -1) = false := decide_eq_false (by omega);simp only [e1,e2,Bool.false_or];by_cases h1 : r ∈ a.mr <;> by_cases h2 : s ∈ b.mr <;> simp [h1,h2,hr,hs]
theorem leads_tell {a b : Au} (ha : a.Right) (hb : b.Right) {x y : Int} (hx : x = -1 ∨ 0 ≤ x) (hy : y = -1 ∨ 0 ≤ y) (w : List Int) : LeadsTo (stp2 a b) (x,y) (unionS a.al b.al) (fun q => pdV a b q = true) w ↔ ¬ Agree a b x y w := by
 have h := pdV_agree ha hb (ha.run_out w hx) (hb.run_out w hy);have h2 := fold2 ha hb w x y hx hy;constructor
 · rintro ⟨_,h1⟩;have h1 : pdV a b (w.foldl (stp2 a b) (x,y)) = true := h1;rw [h2] at h1;exact h.1 h1
 · intro h1;have h3 : pdV a b (w.foldl (stp2 a b) (x,y)) = true := by rw [h2]; exact h.2 h1
   exact ⟨pd_over ha hb w _ h3,h3⟩
theorem DistW.cases {a b : Au} (ha : a.Right) (hb : b.Right) {x y : Int} (hx : x = -1 ∨ 0 ≤ x) (hy : y = -1 ∨ 0 ≤ y) {f : Bool} {l : List Int} (h : DistW a b x y f l) : f = true ∧ LeastW (fun w => ¬ Agree a b x y w) l ∨ f = false ∧ l = [] ∧ ∀ u,Agree a b x y u := by
 rcases h with ⟨h1,h2⟩ | ⟨h1,h2,h3⟩
 · exact .inl ⟨h1,h2.congr (fun w => leads_tell ha hb hx hy w)⟩
 · exact .inr ⟨h1,h2,fun u => Classical.byContradiction fun g => h3 u ((leads_tell ha hb hx hy u).2 g)⟩
section
section
variable {a b : Au}
theorem au_eq (h : a.Right) (k : b.Right) (hal : a.al = b.al) (hn : a.n = b.n) (hrn : ∀ w,rn a w = rn b w) (hget0 : ∀ s : Int,0 ≤ s → s < a.n → ∃ w,rn a w = s) (hmk : ∀ w,rn a w ∈ a.mr ↔ rn b w ∈ b.mr) : a = b := by
 have hget : ∀ s : Int,0 ≤ s → s < a.n → ∃ w,rn a w = s ∧ rn b w = s := fun s h0 h1 => by
  obtain ⟨w,hw⟩ := hget0 s h0 h1;exact ⟨w,hw,by rw [← hrn]; exact hw⟩
 have hmr : a.mr = b.mr := by
  refine Rises.ext (R := fun x y : Int => x < y) (fun x => by omega) (fun x y => by omega) h.mr.incr k.mr.incr fun x => ⟨fun hx => ?_,fun hx => ?_⟩
  · obtain ⟨w,e1,e2⟩ := hget x (h.mem hx).1 (h.mem hx).2;rw [← e2];exact (hmk w).1 (by rw [e1]; exact hx)
  · obtain ⟨w,e1,e2⟩ := hget x (k.mem hx).1 (by rw [hn]; exact (k.mem hx).2);rw [← e1];exact (hmk w).2 (by rw [e2]; exact hx)
 have hnx : ∀ s e : Int,0 ≤ s → s < a.n → nextV a.ed s e = nextV b.ed s e := by
  intro s e h0 h1;obtain ⟨w,e1,e2⟩ := hget s h0 h1;have := hrn (w ++ [e]);rw [rn_snoc a w e (by omega),rn_snoc b w e (by omega),e1,e2] at this;exact this
 have edg : ∀ {c : Au},c.Right → ∀ {x : Ed},x ∈ c.ed → nextV c.ed x.src x.ev = x.dst ∧ 0 ≤ x.src ∧ x.src < c.n ∧ 0 ≤ x.dst := by
  intro c hc x hx;obtain ⟨j,hj,hjx⟩ := List.mem_iff_getElem.1 hx;have := hc.ed j hj x (by rw [List.getElem?_eq_getElem hj,hjx]);refine ⟨?_,this.1,this.2.1,this.2.2.1⟩;unfold nextV
  cases hf : c.ed.find? (fun y => decide (y.src = x.src) && decide (y.ev = x.ev)) with
  | none =>
    rw [List.find?_eq_none] at hf;have := hf x hx;simp at this
  | some y =>
    have h1 := List.mem_of_find?_eq_some hf;have h2 := List.find?_some hf;simp only [Bool.and_eq_true,decide_eq_true_eq] at h2;rw [hc.uniq h1 hx h2.1 h2.2];rfl
 have back : ∀ {c d : Au},c.Right → d.Right → (∀ s e : Int,0 ≤ s → s < c.n → nextV c.ed s e = nextV d.ed s e) → ∀ x,x ∈ c.ed → x ∈ d.ed := by
  intro c d hc hd he x hx;obtain ⟨h1,h2,h3,h4⟩ := edg hc hx;rw [he _ _ h2 h3] at h1;rcases hd.next_cases x.src x.ev with g | ⟨_,_,y,hy,y1,y2,y3⟩
  · omega
  · obtain rfl : y = x := by
     obtain ⟨p,q,r⟩ := x;obtain ⟨p',q',r'⟩ := y;simp only at y1 y2 y3 h1
     rw [y1,y2,y3,h1]
    exact hy
 have hed : a.ed = b.ed := by
  refine Rises.ext (R := edLt) (fun x h => by unfold edLt at h; omega) (fun x y h h' => by unfold edLt at h h'; omega) h.rises k.rises fun x => ⟨back h k hnx x,back k h (fun s e h0 h1 => (hnx s e h0 (by rw [hn]; exact h1)).symm) x⟩
 obtain ⟨al,n,mr,ed⟩ := a;obtain ⟨al',n',mr',ed'⟩ := b;simp only at hal hn hmr hed
 rw [hal,hn,hmr,hed]
def AlikG (G L : List Int → Prop) (u v : List Int) : Prop := ∀ x,(G (u ++ x) ↔ G (v ++ x)) ∧ (L (u ++ x) ↔ L (v ++ x))
def FstG (G L : List Int → Prop) (w : List Int) : Prop := G w ∧ ∀ v,G v → AlikG G L v w → sle w v
structure MinG (m : Au) (G L : List Int → Prop) : Prop where
 rt : m.Right
 num : Num m.ed m.n
 gen : ∀ w,0 ≤ rn m w ↔ G w
 mkd : ∀ w,rn m w ∈ m.mr ↔ L w
 ds : ∀ i j : Int,0 ≤ i → i < m.n → 0 ≤ j → j < m.n → Eqv m i j → i = j
theorem MinG.alik {m : Au} {G L : List Int → Prop} (h : MinG m G L) {u v : List Int} (hu : 0 ≤ rn m u) (hv : 0 ≤ rn m v) : rn m u = rn m v ↔ AlikG G L u v := by
 constructor
 · intro e x;rw [← h.gen,← h.gen,← h.mkd,← h.mkd,rn_app,rn_app,e];exact ⟨Iff.rfl,Iff.rfl⟩
 · intro e;rcases h.rt.rn_cases u with k | k
   · omega
   rcases h.rt.rn_cases v with k' | k'
   · omega
   refine h.ds _ _ k.1 k.2 k'.1 k'.2 fun w => ?_;have := e w;rw [← h.gen,← h.gen,← h.mkd,← h.mkd,rn_app,rn_app] at this;exact this
theorem MinG.fst {m : Au} {G L : List Int → Prop} (h : MinG m G L) {ws : List (List Int)} (hl : ws.length = m.n.toNat) (hw : ∀ (i : Nat) (w : List Int),ws[i]? = some w → LeastW (fun v => rn m v = (i : Int)) w) (w : List Int) : w ∈ ws ↔ FstG G L w := by
 constructor
 · intro hm;obtain ⟨i,hi,rfl⟩ := List.mem_iff_getElem.1 hm;have k := hw i _ (List.getElem?_eq_getElem hi);have h0 : 0 ≤ rn m ws[i] := by rw [k.is]; omega
   refine ⟨(h.gen _).1 h0,fun v hv ha => k.le v ?_⟩;rw [← k.is];exact (h.alik ((h.gen v).2 hv) h0).2 ha
 · rintro ⟨hv,hle⟩;have h0 := (h.gen w).2 hv;rcases h.rt.rn_cases w with k | k
   · omega
   obtain ⟨i,hi⟩ := Int.eq_ofNat_of_zero_le k.1;have hil : i < ws.length := by omega
   have g := hw i _ (List.getElem?_eq_getElem hil);have h1 : 0 ≤ rn m ws[i] := by rw [g.is]; omega
   have e1 : sle w ws[i] := hle _ ((h.gen _).1 h1) ((h.alik h1 h0).1 (by rw [g.is,hi]));have e2 : sle ws[i] w := g.le w hi;rw [e1.antisymm e2];exact List.getElem_mem _
theorem MinG.uniq {G L : List Int → Prop} (h : MinG a G L) (k : MinG b G L) (hal : a.al = b.al) : a = b := by
 obtain ⟨wa,la,asa,ha⟩ := h.num.ws h.rt;obtain ⟨wb,lb,asb,hb⟩ := k.num.ws k.rt;obtain rfl : wa = wb := Rises.ext slt.irrefl (fun _ _ h => slt.asymm h) asa asb fun w => (h.fst la ha w).trans (k.fst lb hb w).symm
 have hn : a.n = b.n := by have := h.rt.n0; have := k.rt.n0; omega
 have hrn : ∀ w,rn a w = rn b w := by
  intro w;rcases h.rt.rn_cases w with g | g
  · rcases k.rt.rn_cases w with g' | g'
    · rw [g,g']
    · have := (h.gen w).2 ((k.gen w).1 g'.1); omega
  · obtain ⟨i,hi⟩ := Int.eq_ofNat_of_zero_le g.1;have hil : i < wa.length := by omega
    have e1 := ha i _ (List.getElem?_eq_getElem hil);have e2 := hb i _ (List.getElem?_eq_getElem hil);have h1 : 0 ≤ rn a wa[i] := by rw [e1.is]; omega
    have h2 : 0 ≤ rn b wa[i] := by rw [e2.is]; omega
    have h3 := (k.gen w).2 ((h.gen w).1 g.1);have := (k.alik h3 h2).2 ((h.alik g.1 h1).1 (by rw [hi,e1.is]));rw [hi,this,e2.is]
 refine au_eq h.rt k.rt hal hn hrn (fun s h0 h1 => ?_) (fun w => (h.mkd w).trans (k.mkd w).symm);obtain ⟨i,rfl⟩ := Int.eq_ofNat_of_zero_le h0;have hil : i < wa.length := by omega
 exact ⟨_,(ha i _ (List.getElem?_eq_getElem hil)).is⟩
theorem Mini.g {m : Au} (h : Mini a m) : MinG m (fun w => 0 ≤ rn a w) (fun w => rn a w ∈ a.mr) := ⟨h.rt,h.num,h.gen,h.mkd,h.ds⟩
theorem MinG.congr {m : Au} {G L G' L' : List Int → Prop} (h : MinG m G L) (e1 : ∀ w,G w ↔ G' w) (e2 : ∀ w,L w ↔ L' w) : MinG m G' L' := ⟨h.rt,h.num,fun w => (h.gen w).trans (e1 w),fun w => (h.mkd w).trans (e2 w),h.ds⟩
end
def swV (p q i : Int) : Int := if i = p then q else if i = q then p else i
def exMi (a : Au) (p q : Int) (i : Nat) (l : List Int) : List Int := (l.filter fun m => decide (m = swV p q i)).map fun _ => (i : Int)
def exM (a : Au) (p q : Int) (k : Nat) : List Int := (List.range k).flatMap fun i => exMi a p q i a.mr
def exEi (p q : Int) (i : Nat) (l : List Ed) : List Ed := (l.filter fun y => decide (y.src = swV p q i)).map fun y => ⟨i,y.ev,swV p q y.dst⟩
def exE (a : Au) (p q : Int) (k : Nat) : List Ed := (List.range k).flatMap fun i => exEi p q i a.ed
def swA (a : Au) (p q : Int) : Au := ⟨a.al,a.n,exM a p q a.n.toNat,exE a p q a.n.toNat⟩
section
variable {a : Au} {p q : Int}
end
end
section
theorem canon_uniq {c d : List Int} {m k : Nat} {E : Nat → Nat → Prop} (hc : Canon c m) (hd : Canon d k) (hl : c.length = d.length)
 (ec : ∀ i j : Nat,i < c.length → j < c.length → (c[i]? = c[j]? ↔ E i j)) (ed : ∀ i j : Nat,i < d.length → j < d.length → (d[i]? = d[j]? ↔ E i j)) : c = d := by
 have key : ∀ s : Nat,s < c.length → c[s]? = d[s]? := by
  intro s;induction s using Nat.strongRecOn with
  | _ s ih =>
    intro hs;by_cases h : ∃ t,t < s ∧ c[t]? = c[s]?
    · obtain ⟨t,ht,h⟩ := h;have h2 := (ed t s (by omega) (by omega)).2 ((ec t s (by omega) hs).1 h);rw [← h,ih t ht (by omega),h2]
    · have hx := List.getElem?_eq_getElem hs;have hy := List.getElem?_eq_getElem (show s < d.length by omega);obtain ⟨x,hx2⟩ : ∃ x,c[s] = x := ⟨_,rfl⟩;obtain ⟨y,hy2⟩ : ∃ y,d[s]'(by omega) = y := ⟨_,rfl⟩;rw [hx2] at hx;rw [hy2] at hy;have x0 := (hc.rg s x hx).1;have y0 := (hd.rg s y hy).1;obtain ⟨xn,rfl⟩ := Int.eq_ofNat_of_zero_le x0;obtain ⟨yn,rfl⟩ := Int.eq_ofNat_of_zero_le y0;rcases Nat.lt_trichotomy xn yn with g | g | g
      · exfalso
        obtain ⟨t,ht,h3⟩ := hd.cn s _ hy xn (by omega);exact h ⟨t,ht,by rw [ih t ht (by omega),h3,hx]⟩
      · rw [hx,hy,g]
      · exfalso
        obtain ⟨t,ht,h3⟩ := hc.cn s _ hx yn (by omega);have h4 : d[t]? = d[s]? := by rw [← ih t ht (by omega),h3,hy]
        exact h ⟨t,ht,(ec t s (by omega) hs).2 ((ed t s (by omega) (by omega)).1 h4)⟩
 refine List.ext_getElem? fun s => ?_;by_cases hs : s < c.length
 · exact key s hs
 · rw [List.getElem?_eq_none (by omega),List.getElem?_eq_none (by omega)]
section
variable {a : Au}
def outA (a : Au) (s : Int) (l : List Int) : List (Int × Int) := l.filterMap fun e => if 0 ≤ nextV a.ed s e then some (e,nextV a.ed s e) else none
theorem Au.Right.ev_al {a : Au} (hr : a.Right) {s e : Int} (h : 0 ≤ nextV a.ed s e) : e ∈ a.al := by
 rcases hr.next_cases s e with g | ⟨_,_,x,hx,x1,x2,x3⟩
 · omega
 · obtain ⟨p,hp,hpx⟩ := List.mem_iff_getElem.1 hx;have := (hr.ed p hp x (by rw [List.getElem?_eq_getElem hp,hpx])).2.2.2.2.1;rw [x2] at this;exact this
structure Clz (a : Au) (c : List Int) (m : Nat) : Prop where
 can : Canon c m
 eq : ∀ i j : Nat,i < c.length → j < c.length → (c[i]? = c[j]? ↔ Eqv a i j)
theorem Eqv.trans {a : Au} {i j k : Int} (h : Eqv a i j) (g : Eqv a j k) : Eqv a i k := fun w => ⟨(h w).1.trans (g w).1,(h w).2.trans (g w).2⟩
theorem Clz.start (a : Au) : Clz a [] 0 := ⟨⟨by simp,by simp,by simp⟩,by simp⟩
theorem Clz.old {c : List Int} {m k : Nat} {x : Int} (h : Clz a c m) (hk : c[k]? = some x) (he : Eqv a k (c.length : Nat)) : Clz a (c ++ [x]) m := by
 have hkl := (List.getElem?_eq_some_iff.1 hk).1;refine ⟨⟨fun s y hy => ?_,fun y hy => ?_,fun s y hy z hz => ?_⟩,fun i j hi hj => ?_⟩
 · rcases getElem?_snoc hy with hy | ⟨_,rfl⟩
   · exact h.can.rg s y hy
   · exact h.can.rg k _ hk
 · obtain ⟨s,hs⟩ := h.can.on y hy;exact ⟨s,by rw [List.getElem?_append_left (List.getElem?_eq_some_iff.1 hs).1]; exact hs⟩
 · rcases getElem?_snoc hy with hy | ⟨hs,rfl⟩
   · obtain ⟨t,ht,h2⟩ := h.can.cn s y hy z hz;exact ⟨t,ht,by rw [List.getElem?_append_left (List.getElem?_eq_some_iff.1 h2).1]; exact h2⟩
   · obtain ⟨t,ht,h2⟩ := h.can.cn k _ hk z hz;exact ⟨t,by omega,by rw [List.getElem?_append_left (List.getElem?_eq_some_iff.1 h2).1]; exact h2⟩
 · have g : ∀ i : Nat,i < c.length → ((c ++ [x])[i]? = c[i]?) := fun i hi => List.getElem?_append_left hi;have gl : (c ++ [x])[c.length]? = some x := by simp
   simp only [List.length_append,List.length_singleton] at hi hj;by_cases h1 : i < c.length
   · by_cases h2 : j < c.length
     · rw [g i h1,g j h2]; exact h.eq i j h1 h2
     · obtain rfl : j = c.length := by omega
       rw [g i h1,gl,← hk,h.eq i k h1 hkl];exact ⟨fun q => q.trans he,fun q => q.trans he.symm⟩
   · obtain rfl : i = c.length := by omega
     by_cases h2 : j < c.length
     · rw [g j h2,gl,← hk,h.eq k j hkl h2];exact ⟨fun q => he.symm.trans q,fun q => he.trans q⟩
     · obtain rfl : j = c.length := by omega
       exact ⟨fun _ => Eqv.refl _ _,fun _ => rfl⟩
theorem Clz.new {c : List Int} {m : Nat} (h : Clz a c m) (hn : ∀ k : Nat,k < c.length → ¬ Eqv a k (c.length : Nat)) : Clz a (c ++ [(m : Int)]) (m + 1) := by
 refine ⟨⟨fun s y hy => ?_,fun y hy => ?_,fun s y hy z hz => ?_⟩,fun i j hi hj => ?_⟩
 · rcases getElem?_snoc hy with hy | ⟨_,rfl⟩
   · have := h.can.rg s y hy; omega
   · omega
 · by_cases hym : y < m
   · obtain ⟨s,hs⟩ := h.can.on y hym;exact ⟨s,by rw [List.getElem?_append_left (List.getElem?_eq_some_iff.1 hs).1]; exact hs⟩
   · obtain rfl : y = m := by omega
     exact ⟨c.length,by simp⟩
 · rcases getElem?_snoc hy with hy | ⟨hs,rfl⟩
   · obtain ⟨t,ht,h2⟩ := h.can.cn s y hy z hz;exact ⟨t,ht,by rw [List.getElem?_append_left (List.getElem?_eq_some_iff.1 h2).1]; exact h2⟩
   · obtain ⟨t,h2⟩ := h.can.on z (by omega);have := (List.getElem?_eq_some_iff.1 h2).1;exact ⟨t,by omega,by rw [List.getElem?_append_left this]; exact h2⟩
 · have g : ∀ i : Nat,i < c.length → ((c ++ [(m : Int)])[i]? = c[i]?) := fun i hi => List.getElem?_append_left hi;have gl : (c ++ [(m : Int)])[c.length]? = some (m : Int) := by simp
   have ne : ∀ i : Nat,i < c.length → c[i]? ≠ some (m : Int) := fun i hi hh => by have := h.can.rg i _ hh; omega
   simp only [List.length_append,List.length_singleton] at hi hj;by_cases h1 : i < c.length
   · by_cases h2 : j < c.length
     · rw [g i h1,g j h2]; exact h.eq i j h1 h2
     · obtain rfl : j = c.length := by omega
       rw [g i h1,gl];exact ⟨fun q => absurd q (ne i h1),fun q => absurd q (hn i h1)⟩
   · obtain rfl : i = c.length := by omega
     by_cases h2 : j < c.length
     · rw [g j h2,gl];exact ⟨fun q => absurd q.symm (ne j h2),fun q => absurd q.symm (hn j h2)⟩
     · obtain rfl : j = c.length := by omega
       exact ⟨fun _ => Eqv.refl _ _,fun _ => rfl⟩
end
end
section
section
variable {a : Au} {c : List Int}
def RefS (a : Au) (c : List Int) (x y : Int) : Prop := (x ∈ a.mr ↔ y ∈ a.mr) ∧ ∀ e,e ∈ a.al → (0 ≤ nextV a.ed x e ↔ 0 ≤ nextV a.ed y e) ∧ (0 ≤ nextV a.ed x e → clsV c (nextV a.ed x e) = clsV c (nextV a.ed y e))
theorem mem_sig (hr : a.Right) {s : Nat} {p : Int × Int} : p ∈ (outOf a.ed s).map (fun x => (x.ev,clsV c x.dst)) ↔ p.1 ∈ a.al ∧ 0 ≤ nextV a.ed s p.1 ∧ p.2 = clsV c (nextV a.ed s p.1) := by
 obtain ⟨e,z⟩ := p;rw [List.mem_map];constructor
 · rintro ⟨x,hx,h⟩;obtain ⟨hm,hs⟩ := mem_outOf.1 hx;simp only [Prod.mk.injEq] at h;obtain ⟨rfl,rfl⟩ := h;have h1 := edge_next hr hm;rw [hs] at h1;have h0 : 0 ≤ nextV a.ed s x.ev := by rw [h1.1]; exact h1.2.2.2.1
   exact ⟨hr.ev_al h0,h0,by rw [h1.1]⟩
 · rintro ⟨_,h0,h2⟩;dsimp only at h0 h2;rcases hr.next_cases (s : Int) e with g | ⟨_,_,x,hx,x1,x2,x3⟩
   · omega
   · exact ⟨x,mem_outOf.2 ⟨hx,x1⟩,by rw [x2,h2,x3]⟩
theorem same1_iff (hr : a.Right) (i j : Nat) : Same1 a c i j ↔ RefS a c i j := by
 unfold Same1 RefS
 refine and_congr Iff.rfl ⟨fun h e he => ?_,fun h => ?_⟩
 · have key : ∀ i j : Nat,(sigV a c i).2 = (sigV a c j).2 → 0 ≤ nextV a.ed i e → 0 ≤ nextV a.ed j e ∧ clsV c (nextV a.ed i e) = clsV c (nextV a.ed j e) := fun i j h h0 => by
    have h1 : (e,clsV c (nextV a.ed i e)) ∈ (sigV a c i).2 := (mem_sig hr).2 ⟨he,h0,rfl⟩;rw [h] at h1;obtain ⟨_,h2,h3⟩ := (mem_sig hr).1 h1;exact ⟨h2,h3⟩
   exact ⟨⟨fun h0 => (key i j h h0).1,fun h0 => (key j i h.symm h0).1⟩,fun h0 => (key i j h h0).2⟩
 · refine Rises.ext (R := fun x y : Int × Int => x.1 < y.1) (fun x h => by omega) (fun x y h h' => by omega) (sig_rises hr c i) (sig_rises hr c j) fun p => ?_;refine ((mem_sig (c := c) hr).trans ?_).trans (mem_sig (c := c) hr).symm;constructor
   · rintro ⟨h1,h2,h3⟩;exact ⟨h1,(h p.1 h1).1.1 h2,h3.trans ((h p.1 h1).2 h2)⟩
   · rintro ⟨h1,h2,h3⟩;have h4 := (h p.1 h1).1.2 h2;exact ⟨h1,h4,h3.trans ((h p.1 h1).2 h4).symm⟩
theorem RefS.symm {x y : Int} (h : RefS a c x y) : RefS a c y x :=
 ⟨h.1.symm,fun e he => ⟨(h.2 e he).1.symm,fun h0 => ((h.2 e he).2 ((h.2 e he).1.2 h0)).symm⟩⟩
def RefC (a : Au) (c : List Int) : Prop := ∀ x y : Nat,x < c.length → y < x → c[x]? = c[y]? → RefS a c x y
structure NumE (m : Au) (G L : List Int → Prop) (E : List Int → List Int → Prop) : Prop where
 rt : m.Right
 num : Num m.ed m.n
 gen : ∀ w,0 ≤ rn m w ↔ G w
 mkd : ∀ w,rn m w ∈ m.mr ↔ L w
 eq : ∀ u v,0 ≤ rn m u → 0 ≤ rn m v → (rn m u = rn m v ↔ E u v)
def FstE (G : List Int → Prop) (E : List Int → List Int → Prop) (w : List Int) : Prop := G w ∧ ∀ v,G v → E v w → sle w v
theorem NumE.fst {m : Au} {G L : List Int → Prop} {E : List Int → List Int → Prop} (h : NumE m G L E) {ws : List (List Int)} (hl : ws.length = m.n.toNat) (hw : ∀ (i : Nat) (w : List Int),ws[i]? = some w → LeastW (fun v => rn m v = (i : Int)) w) (w : List Int) : w ∈ ws ↔ FstE G E w := by
 constructor
 · intro hm;obtain ⟨i,hi,rfl⟩ := List.mem_iff_getElem.1 hm;have k := hw i _ (List.getElem?_eq_getElem hi);have h0 : 0 ≤ rn m ws[i] := by rw [k.is]; omega
   refine ⟨(h.gen _).1 h0,fun v hv ha => k.le v ?_⟩;rw [← k.is];exact (h.eq _ _ ((h.gen v).2 hv) h0).2 ha
 · rintro ⟨hv,hle⟩;have h0 := (h.gen w).2 hv;rcases h.rt.rn_cases w with k | k
   · omega
   obtain ⟨i,hi⟩ := Int.eq_ofNat_of_zero_le k.1;have hil : i < ws.length := by omega
   have g := hw i _ (List.getElem?_eq_getElem hil);have h1 : 0 ≤ rn m ws[i] := by rw [g.is]; omega
   have e1 : sle w ws[i] := hle _ ((h.gen _).1 h1) ((h.eq _ _ h1 h0).1 (by rw [g.is,hi]));have e2 : sle ws[i] w := g.le w hi;rw [e1.antisymm e2];exact List.getElem_mem _
theorem NumE.uniq {m k : Au} {G L : List Int → Prop} {E : List Int → List Int → Prop} (h : NumE m G L E) (g : NumE k G L E) (hal : m.al = k.al) : m = k := by
 obtain ⟨wa,la,asa,ha⟩ := h.num.ws h.rt;obtain ⟨wb,lb,asb,hb⟩ := g.num.ws g.rt;obtain rfl : wa = wb := Rises.ext slt.irrefl (fun _ _ h => slt.asymm h) asa asb fun w => (h.fst la ha w).trans (g.fst lb hb w).symm
 have hn : m.n = k.n := by have := h.rt.n0; have := g.rt.n0; omega
 have hrn : ∀ w,rn m w = rn k w := by
  intro w;rcases h.rt.rn_cases w with q | q
  · rcases g.rt.rn_cases w with q' | q'
    · rw [q,q']
    · have := (h.gen w).2 ((g.gen w).1 q'.1); omega
  · obtain ⟨i,hi⟩ := Int.eq_ofNat_of_zero_le q.1;have hil : i < wa.length := by omega
    have e1 := ha i _ (List.getElem?_eq_getElem hil);have e2 := hb i _ (List.getElem?_eq_getElem hil);have h1 : 0 ≤ rn m wa[i] := by rw [e1.is]; omega
    have h2 : 0 ≤ rn k wa[i] := by rw [e2.is]; omega
    have h3 := (g.gen w).2 ((h.gen w).1 q.1);have := (g.eq _ _ h3 h2).2 ((h.eq _ _ q.1 h1).1 (by rw [hi,e1.is]));rw [hi,this,e2.is]
 refine au_eq h.rt g.rt hal hn hrn (fun s h0 h1 => ?_) (fun w => (h.mkd w).trans (g.mkd w).symm);obtain ⟨i,rfl⟩ := Int.eq_ofNat_of_zero_le h0;have hil : i < wa.length := by omega
 exact ⟨_,(ha i _ (List.getElem?_eq_getElem hil)).is⟩
theorem Mrg.num (hr : a.Right) (hn : 0 < a.n) (hl : c.length = a.n.toNat) (hc : ConsV a c) {m : Au} (h : Mrg a c m) : NumE m (fun w => 0 ≤ rn a w) (fun w => rn a w ∈ a.mr) (fun u v => clsV c (rn a u) = clsV c (rn a v)) := by
 obtain ⟨hal,⟨h0,_⟩ | ⟨fs,B,hfs,hm⟩⟩ := h
 · omega
 have hcs : ∀ v v' : Int,0 ≤ v ∧ v < a.n → 0 ≤ v' ∧ v' < a.n → clsV c v = clsV c v' → RefS a c v v' := fun v v' hv hv' hk => by
  have e1 : v.toNat < c.length := by omega
  have e2 : v'.toNat < c.length := by omega
  have h1 : c[v.toNat]? = c[v'.toNat]? := by
   unfold clsV at hk
   rw [getD_lt _ e1,getD_lt _ e2] at hk;rw [List.getElem?_eq_getElem e1,List.getElem?_eq_getElem e2,hk]
  have := (same1_iff hr _ _).1 (hc v.toNat v'.toNat e1 e2 h1);rwa [Int.toNat_of_nonneg hv.1,Int.toNat_of_nonneg hv'.1] at this
 have CG : Cong (fun v : Int => 0 ≤ v ∧ v < a.n) (clsV c) (outK a fun _ => true) := by
  refine ⟨fun v hv e t h => ?_,fun v v' hv hv' hk e t h => ?_,fun v _ => outK_ups hr _ v⟩
  · obtain ⟨h1,h2,_⟩ := (mem_outK hr hv.1).1 h;rcases hr.next_cases v e with g | g
    · omega
    · omega
  · obtain ⟨h1,h2,_⟩ := (mem_outK hr hv.1).1 h;have h0 : 0 ≤ nextV a.ed v e := by rw [h1]; exact h2
    obtain ⟨k1,k2⟩ := (hcs v v' hv hv' hk).2 e (hr.ev_al h0);have h3 := k1.1 h0;exact ⟨_,(mem_outK hr hv'.1).2 ⟨rfl,h3,rfl⟩,by rw [← k2 h0,h1]⟩
 have hst : a.st = 0 := if_neg (by omega);have hrun := B.run CG ⟨Int.le_refl _,hn⟩ hfs;have hR : ∀ w,runS (outK a fun _ => true) 0 w = if 0 ≤ rn a w then some (rn a w) else none := fun w => by
  rw [runS_outK hr _ w 0 (Int.le_refl _),runK_all hr w 0 (Int.le_refl _)];unfold rn
  rw [hst]
 have both : ∀ w,(rn m w = -1 ∧ ¬ 0 ≤ rn a w) ∨ ∃ (d : Nat) (u : Int),rn m w = d ∧ fs[d]? = some u ∧ (0 ≤ rn a w ∧ rn a w < a.n) ∧ clsV c u = clsV c (rn a w) := fun w => by
  have hw := hR w;rcases hrun w with ⟨g1,g2⟩ | ⟨d,u,t,g1,g2,g3,g4,g5⟩
  · rw [g2] at hw;refine .inl ⟨g1,fun h => ?_⟩;rw [if_pos h] at hw; cases hw
  · rw [g3] at hw;split at hw
    · rename_i h
      obtain rfl := Option.some.inj hw;exact .inr ⟨d,u,g1,g2,g5,g4⟩
    · cases hw
 refine ⟨B.rt,B.num,fun w => ?_,fun w => ?_,fun u v hu hv => ?_⟩
 · rcases both w with ⟨g1,g2⟩ | ⟨d,u,g1,g2,g3,g4⟩
   · exact ⟨fun h => by omega,fun h => absurd h g2⟩
   · exact ⟨fun _ => g3.1,fun _ => by omega⟩
 · rcases both w with ⟨g1,g2⟩ | ⟨d,u,g1,g2,g3,g4⟩
   · constructor
     · intro h; have := (B.rt.mem h).1; omega
     · intro h; exact absurd (hr.mem h).1 g2
   · rw [g1,hm];have := (hcs u _ (hfs u (List.mem_of_getElem? g2)) g3 g4).1;constructor
     · rintro ⟨v,h1,h2⟩;rw [g2] at h1; cases h1;exact this.1 h2
     · intro h; exact ⟨u,g2,this.2 h⟩
 · rcases both u with ⟨g1,_⟩ | ⟨d,x,g1,g2,g3,g4⟩
   · omega
   rcases both v with ⟨k1,_⟩ | ⟨d',y,k1,k2,k3,k4⟩
   · omega
   rw [g1,k1,← g4,← k4];constructor
   · intro h;obtain rfl : d = d' := by omega
     rw [g2] at k2; cases k2; rfl
   · intro h;rw [B.nd d d' x y g2 k2 h]
theorem Mrg.uniq (hr : a.Right) (hn : 0 < a.n) (hl : c.length = a.n.toNat) (hc : ConsV a c) {m k : Au} (h : Mrg a c m) (g : Mrg a c k) : m = k :=
 NumE.uniq (h.num hr hn hl hc) (g.num hr hn hl hc) (by rw [h.1,g.1])
end
end
section
section
variable {a m : Au}
theorem CanOf.num (hr : a.Right) (hn : 0 < a.n) (h : CanOf a m) : NumE m (fun w => 0 ≤ rn a w) (fun w => rn a w ∈ a.mr) (fun u v => rn a u = rn a v) := by
 obtain ⟨hal,⟨h0,_⟩ | ⟨fs,B,hfs,hm⟩⟩ := h
 · omega
 have CG : Cong (fun v : Int => 0 ≤ v ∧ v < a.n) id (outK a fun _ => true) := by
  refine ⟨fun v hv e t h => ?_,fun v v' hv hv' hk e t h => ?_,fun v _ => outK_ups hr _ v⟩
  · obtain ⟨h1,h2,_⟩ := (mem_outK hr hv.1).1 h;rcases hr.next_cases v e with g | g
    · omega
    · omega
  · obtain rfl : v = v' := hk;exact ⟨t,h,rfl⟩
 have hst : a.st = 0 := if_neg (by omega);have hrun := B.run CG ⟨Int.le_refl _,hn⟩ hfs;have hR : ∀ w,runS (outK a fun _ => true) 0 w = if 0 ≤ rn a w then some (rn a w) else none := fun w => by
  rw [runS_outK hr _ w 0 (Int.le_refl _),runK_all hr w 0 (Int.le_refl _)];unfold rn
  rw [hst]
 have both : ∀ w,(rn m w = -1 ∧ ¬ 0 ≤ rn a w) ∨ ∃ (d : Nat) (u : Int),rn m w = d ∧ fs[d]? = some u ∧ (0 ≤ rn a w ∧ rn a w < a.n) ∧ u = rn a w := fun w => by
  have hw := hR w;rcases hrun w with ⟨g1,g2⟩ | ⟨d,u,t,g1,g2,g3,g4,g5⟩
  · rw [g2] at hw;refine .inl ⟨g1,fun h => ?_⟩;rw [if_pos h] at hw; cases hw
  · rw [g3] at hw;split at hw
    · rename_i h
      obtain rfl := Option.some.inj hw;exact .inr ⟨d,u,g1,g2,g5,g4⟩
    · cases hw
 refine ⟨B.rt,B.num,fun w => ?_,fun w => ?_,fun u v hu hv => ?_⟩
 · rcases both w with ⟨g1,g2⟩ | ⟨d,u,g1,g2,g3,g4⟩
   · exact ⟨fun h => by omega,fun h => absurd h g2⟩
   · exact ⟨fun _ => g3.1,fun _ => by omega⟩
 · rcases both w with ⟨g1,g2⟩ | ⟨d,u,g1,g2,g3,g4⟩
   · constructor
     · intro h; have := (B.rt.mem h).1; omega
     · intro h; exact absurd (hr.mem h).1 g2
   · rw [g1,hm];subst g4;constructor
     · rintro ⟨v,h1,h2⟩;rw [g2] at h1; cases h1;exact h2
     · intro h; exact ⟨_,g2,h⟩
 · rcases both u with ⟨g1,_⟩ | ⟨d,x,g1,g2,g3,g4⟩
   · omega
   rcases both v with ⟨k1,_⟩ | ⟨d',y,k1,k2,k3,k4⟩
   · omega
   rw [g1,k1,← g4,← k4];constructor
   · intro h;obtain rfl : d = d' := by omega
     rw [g2] at k2; cases k2; rfl
   · intro h;rw [B.nd d d' x y g2 k2 h]
theorem CanOf.same (hr : a.Right) (hn : 0 < a.n) (hnum : Num a.ed a.n) (h : CanOf a m) : a = m :=
 NumE.uniq (E := fun u v => rn a u = rn a v) ⟨hr,hnum,fun _ => Iff.rfl,fun _ => Iff.rfl,fun _ _ _ _ => Iff.rfl⟩ (h.num hr hn) h.1.symm
end
end
def Ent.and (e f : Ent) : Ent where
 foot := e.foot ++ f.foot
 ok w := e.ok w ∧ f.ok w
 lt w h g hg := (List.mem_append.1 hg).elim (e.lt w h.1 g) (f.lt w h.2 g)
 turn w w' h hg := ⟨e.turn w w' h.1 fun g k => hg g (List.mem_append_left _ k),f.turn w w' h.2 fun g k => hg g (List.mem_append_right _ k)⟩
structure PrV where
 x : Int
 y : Int
 A : Option Addr
 n : Nat
 c : Nat
def PrV.cells (p : PrV) : List Value := [.int .i64 p.x,.int .i64 p.y,.slice p.A p.n p.c]
def WdAt (fs : List Nat) (w : World) (r : PrV) (wd : List Int) : Prop := r.n = wd.length ∧ ((r.A = none ∧ wd = [] ∧ r.c = 0) ∨ ∃ g,r.A = some ⟨g,0,none⟩ ∧ g ∈ fs ∧ ∀ j x,wd[j]? = some x → w.cell? ⟨g,j,none⟩ = some (.int .i64 x))
def eWds (fs : List Nat) (raw : List PrV) (l : List Pw) : Ent where
 foot := fs
 ok w := raw.length = l.length ∧ (∀ g,g ∈ fs → g < w.heap.size) ∧ ∀ (i : Nat) (r : PrV) (p : Pw),raw[i]? = some r → l[i]? = some p → r.x = p.x ∧ r.y = p.y ∧ WdAt fs w r p.w
 lt w h := h.2.1
 turn w w' h hg := by
  refine ⟨h.1,fun g hk => ?_,fun i r p hr hp => ?_⟩
  · have h1 := hg g hk;have h2 := h.2.1 g hk;rw [Array.getElem?_eq_getElem h2] at h1;exact (Array.getElem?_eq_some_iff.1 h1).1
  · obtain ⟨h1,h2,h3,h4⟩ := h.2.2 i r p hr hp;refine ⟨h1,h2,h3,h4.imp id fun ⟨g,e,hm,hc⟩ => ⟨g,e,hm,fun j x hx => ?_⟩⟩;exact (World.cell?_of_block (a := ⟨g,_,none⟩) (hg g hm)).trans (hc j x hx)
theorem WdAt.ints {fs : List Nat} {w : World} {r : PrV} {wd : List Int} (h : WdAt fs w r wd) (hfs : ∀ g,g ∈ fs → g < w.heap.size) : IntsAt w r.A wd := by
 intro hne;rcases h.2 with ⟨_,h2,_⟩ | ⟨g,hA,hm,hc⟩
 · exact absurd h2 hne
 · refine ⟨g,0,hA,hfs g hm,fun i x hx => ⟨[.int .i64 x],rfl,rfl,fun j v hj => ?_⟩⟩;cases j with
   | zero => simp at hj; subst hj; simpa using hc i x hx
   | succ j => simp at hj
def eBox (t : Nat) (a : Au) (p : AuP) : Ent := (eBlk t 25 [.slice p.A1 a.al.length p.c1,.int .i64 a.n,.slice p.A2 a.mr.length p.c2,.slice p.A3 a.ed.length p.c3]).and ((eInts a.al (.slice p.A1 a.al.length p.c1)).and ((eInts a.mr (.slice p.A2 a.mr.length p.c2)).and (eEds a.ed (.slice p.A3 a.ed.length p.c3))))
theorem Sep.box {n : Nat} {w0 w : World} {t : Nat} {a : Au} {p : AuP} {es : List Ent} (S : Sep n w0 (eBlk t 25 [.slice p.A1 a.al.length p.c1,.int .i64 a.n,.slice p.A2 a.mr.length p.c2,.slice p.A3 a.ed.length p.c3] :: eInts a.al (.slice p.A1 a.al.length p.c1) :: eInts a.mr (.slice p.A2 a.mr.length p.c2) :: eEds a.ed (.slice p.A3 a.ed.length p.c3) :: es) w) : Sep n w0 (eBox t a p :: es) w := by
 have ap := S.ap;simp only [List.pairwise_cons] at ap;refine ⟨S.fro,fun x hx => ?_,fun x hx => ?_,List.pairwise_cons.2 ⟨fun x hx g hg => ?_,ap.2.2.2.2⟩⟩
 · rcases List.mem_cons.1 hx with rfl | hx
   · exact ⟨S.ok _ (by simp),S.ok _ (by simp),S.ok _ (by simp),S.ok _ (by simp)⟩
   · exact S.ok x (by simp [hx])
 · rcases List.mem_cons.1 hx with rfl | hx
   · intro g hg;rcases List.mem_append.1 hg with h | h
     · exact S.ge _ (by simp) g h
     rcases List.mem_append.1 h with h | h
     · exact S.ge (eInts a.al (.slice p.A1 a.al.length p.c1)) (by simp) g h
     rcases List.mem_append.1 h with h | h
     · exact S.ge (eInts a.mr (.slice p.A2 a.mr.length p.c2)) (by simp) g h
     · exact S.ge (eEds a.ed (.slice p.A3 a.ed.length p.c3)) (by simp) g h
   · exact S.ge x (by simp [hx])
 · rcases List.mem_append.1 hg with h | h
   · exact ap.1 x (by simp [hx]) g h
   rcases List.mem_append.1 h with h | h
   · exact ap.2.1 x (by simp [hx]) g h
   rcases List.mem_append.1 h with h | h
   · exact ap.2.2.1 x (by simp [hx]) g h
   · exact ap.2.2.2.1 x hx g h
theorem eBox.at {t : Nat} {a : Au} {p : AuP} {w : World} (h : (eBox t a p).ok w) (hl : Lens a) : Au.At w a p :=
 ⟨OwnI.ints h.2.1,OwnI.ints h.2.2.1,Own.reads (enc := Ed.cells) (k := 3) (T := 70) (B := 0) (fun _ => rfl) h.2.2.2,hl.1,hl.2.1,hl.2.2⟩
theorem eBox.caps {t : Nat} {a : Au} {p : AuP} {w : World} (h : (eBox t a p).ok w) : Caps a p := ⟨Own.cap h.2.1,Own.cap h.2.2.1,Own.cap h.2.2.2⟩
theorem BlkAt.rng {b o T : Nat} {l cs : List Value} {w : World} (h : BlkAt w b T l) (hs : ∀ (j : Nat) v,cs[j]? = some v → l[o + j]? = some v) : w.rangeAt b o cs := fun j v hv => (h.cell (o + j)).trans (hs j v hv)
theorem Sm4.cells_len {d : Sm4} (h : d.Ok) : d.cells.length = 26 := by simp [Sm4.cells,h.l]
theorem Sm4.info {d : Sm4} (h : d.Ok) : (Try.prog.info? 46).map (·.size) = some d.cells.length := by rw [Sm4.cells_len h]; kernel_rfl
theorem DistW.of {a : Au} {x y r : Int} {f : Bool} {l : List Int} (ha : a.Right) (hi : InSt a x y) (h : (r ≠ 0 ∧ l = [] ∧ f = false ∧ (ChkErr a r ∨ a.Right ∧ r = 2 ∧ ¬ InSt a x y)) ∨ (r = 0 ∧ a.Right ∧ InSt a x y ∧ DistW a a x y f l)) : r = 0 ∧ DistW a a x y f l := by
 rcases h with ⟨h1,_,_,h | ⟨_,_,h⟩⟩ | ⟨h1,_,_,h⟩
 · exact absurd (h.uniq (ChkErr.of_right ha)) h1
 · exact absurd hi h
 · exact ⟨h1,h⟩
section
attribute [local go_sem] Oper.semAt_some

def lookV (s : Bool) (raw : List PrV) (x y : Int) (u : Nat) : Bool := s || (raw.take u).any fun r => r.x == x && r.y == y
def GivesL8 (a b : Au) (x y : Int) (w : World) (e : Ending) (w' : World) : Prop := ∃ (A : Option Addr) (c : Nat) (l : List Int) (f : Bool),e = .returned (.tuple #[.slice A l.length c,.bool f]) ∧ Hid (IntsAt w' A l) ∧ Below w.heap.size w w' ∧ Hid (DistW a b x y f l ∧ l.length ≤ 1000000)
end
section
attribute [local go_sem] Oper.semAt_some
end
section
attribute [local go_sem] Oper.semAt_some

def shE (x : Ed) : Ed := ⟨x.src,x.ev + 1,x.dst⟩
def GivesSh (l : List Ed) (w : World) (e : Ending) (w' : World) : Prop := ∃ A c,e = .returned (.slice A (l.map shE).length c) ∧ (SepW w [eEds (l.map shE) (.slice A (l.map shE).length c)] w')
end
section
attribute [local go_sem] Oper.semAt_some

theorem Au.Right.st_rg {a : Au} (h : a.Right) : -1 ≤ a.st ∧ a.st < a.n ∨ a.st = -1 := by
 have := h.n0;unfold Au.st
 split <;> omega
def GivesE8 (a b : Au) (w : World) (e : Ending) (w' : World) : Prop := ∃ (A : Option Addr) (c : Nat) (l : List Int) (f : Bool),e = .returned (.tuple #[.bool (!f),.slice A l.length c]) ∧ Hid (IntsAt w' A l) ∧ Below w.heap.size w w' ∧ Hid (DistW a b a.st b.st f l ∧ l.length ≤ 1000000)
end
section
attribute [local go_sem] Oper.semAt_some

def GivesCR (a : Au) (w : World) (e : Ending) (w' : World) : Prop := ∃ (A : Option Addr) (k : Nat) (c : List Int) (m : Nat),e = .returned (.slice A c.length k) ∧ Hid (c.length = a.n.toNat ∧ Clz a c m) ∧ (SepW w [eInts c (.slice A c.length k)] w')
end
section
attribute [local go_sem] Oper.semAt_some

def GivesRM (a : Au) (pa : AuP) (c : List Int) (w : World) (e : Ending) (w' : World) : Prop := ∃ (m : Au) (A2 A3 : Option Addr) (c2 c3 : Nat),e = .returned (m.val ⟨pa.A1,pa.c1,A2,c2,A3,c3⟩) ∧ (SepW w [eInts m.mr (.slice A2 m.mr.length c2),eEds m.ed (.slice A3 m.ed.length c3)] w') ∧ Hid (Lens m) ∧ Hid (m.al = a.al ∧ Mrg a c m)
end
section
attribute [local go_sem] Oper.semAt_some

def GivesSw (a : Au) (pa : AuP) (p q : Int) (w : World) (e : Ending) (w' : World) : Prop := ∃ (A2 A3 : Option Addr) (c2 c3 : Nat),e = .returned ((swA a p q).val ⟨pa.A1,pa.c1,A2,c2,A3,c3⟩) ∧ (SepW w [eInts (swA a p q).mr (.slice A2 (swA a p q).mr.length c2),eEds (swA a p q).ed (.slice A3 (swA a p q).ed.length c3)] w')
end
theorem Sm4.need {d : Sm4} (h : d.Ok) : (d.au.n.toNat + 2) * (d.au.n.toNat + 2) ≤ 1000000 := by
 have h1 := d.n_rg h;have e : d.au.n.toNat + 2 ≤ 8 := by
  show (d.n : Int).toNat + 2 ≤ 8
  omega
 exact Nat.le_trans (Nat.mul_le_mul e e) (by decide)
def eLs (a : Au) (p : AuP) : Ent := (eInts a.al (.slice p.A1 a.al.length p.c1)).and ((eInts a.mr (.slice p.A2 a.mr.length p.c2)).and (eEds a.ed (.slice p.A3 a.ed.length p.c3)))
theorem Sep.ls {n : Nat} {w0 w : World} {a : Au} {p : AuP} (S : Sep n w0 (eAu a p) w) : Sep n w0 [eLs a p] w := by
 refine ⟨S.fro,fun x hx => ?_,fun x hx => ?_,by simp⟩
 · simp only [List.mem_singleton] at hx; subst hx;exact ⟨S.get 0 rfl,S.get 1 rfl,S.get 2 rfl⟩
 · simp only [List.mem_singleton] at hx; subst hx;intro g hg;rcases List.mem_append.1 hg with h | h
   · exact S.ge _ (List.mem_of_getElem? (i := 0) (l := eAu a p) rfl) g h
   rcases List.mem_append.1 h with h | h
   · exact S.ge _ (List.mem_of_getElem? (i := 1) (l := eAu a p) rfl) g h
   · exact S.ge _ (List.mem_of_getElem? (i := 2) (l := eAu a p) rfl) g h
theorem eLs.at {a : Au} {p : AuP} {w : World} (h : (eLs a p).ok w) (hl : Lens a) : Au.At w a p :=
 ⟨OwnI.ints h.1,OwnI.ints h.2.1,Own.reads (enc := Ed.cells) (k := 3) (T := 70) (B := 0) (fun _ => rfl) h.2.2,hl.1,hl.2.1,hl.2.2⟩
theorem eLs.caps {a : Au} {p : AuP} {w : World} (h : (eLs a p).ok w) : Caps a p := ⟨Own.cap h.1,Own.cap h.2.1,Own.cap h.2.2⟩
theorem eLs.none_ {n : Nat} {w0 w : World} {a : Au} {p : AuP} {es : List Ent} (i : Nat) (S : Sep n w0 es w) (hi : es[i]? = some (eLs a p)) : Sep n w0 (es.set i (eLs ⟨[],0,[],[]⟩ ⟨none,0,none,0,none,0⟩)) w :=
 S.as i hi _ (fun h => ⟨Own.nil w,Own.nil w,Own.nil w⟩) (fun g hg => by
  rcases List.mem_append.1 hg with h | h
  · simp [eOwn,Value.ownBlock] at h
  · rcases List.mem_append.1 h with h | h <;> simp [eOwn,Value.ownBlock] at h)
structure Good4 (a : Au) : Prop where
 rt : a.Right
 ln : Lens a
 n : a.n.toNat ≤ 6
 ev : ∀ x,x ∈ a.ed → 0 ≤ x.ev ∧ x.ev ≤ 3
 ed : a.ed.length ≤ 100000
theorem Good4.none_ : Good4 ⟨[],0,[],[]⟩ :=
 ⟨⟨fun i x hi hx => by simp at hx,Int.le_refl _,by simp,fun i x hi hx => by simp at hx,fun i hi => by simp at hi⟩,⟨by simp,by simp,by simp⟩,by simp,by simp,by simp⟩
structure Good5 (a : Au) : Prop where
 rt : a.Right
 ln : Lens a
 n : a.n.toNat ≤ 6
theorem Good4.g5 {a : Au} (h : Good4 a) : Good5 a := ⟨h.rt,h.ln,h.n⟩
theorem Good5.need {a b : Au} (h : Good5 a) (g : Good5 b) : (a.n.toNat + 2) * (b.n.toNat + 2) ≤ 1000000 :=
 Nat.le_trans (Nat.mul_le_mul (show a.n.toNat + 2 ≤ 8 by have := h.n; omega) (show b.n.toNat + 2 ≤ 8 by have := g.n; omega)) (by decide)
theorem LeastW.nil {P : List Int → Prop} {l : List Int} (h : LeastW P l) (h0 : P []) : l = [] := by
 rcases h.le [] h0 with (h | h) | h
 · simp at h
 · exact List.eq_nil_of_length_eq_zero (by simpa using h.1)
 · exact h

theorem kx_right {a : Au} (ha : a.Right) {w w' : World} {e : Ending} (h : GivesKX a w e w') : ∃ g c m,e = .returned (.tuple #[.slice (some ⟨g,0,none⟩) a.n.toNat a.n.toNat,.int .i64 0]) ∧ (SepW w [eBlk g 3 (c.map (Value.int .i64))] w') ∧ Hid (c.length = a.n.toNat ∧ Clz a c m) := by
 obtain ⟨r,hr,⟨h1,_⟩ | ⟨_,g,c,m,h2,h3,h4⟩⟩ := h
 · exact absurd (hr.uniq (ChkErr.of_right ha)) h1
 · exact ⟨g,c,m,h2,h3,h4.out.1,⟨h4.out.2.1,h4.out.2.2⟩⟩
theorem im_right {a : Au} (ha : a.Right) {w w' : World} {e : Ending} (h : GivesIM a w e w') : ∃ (f : Bool) (m : Au),e = .returned (.tuple #[.bool f,.int .i64 0]) ∧ Below w.heap.size w w' ∧ Hid (MinB a m ∧ (f = true ↔ a = m)) := by
 obtain ⟨r,f,hr,he,hb,⟨h1,_⟩ | ⟨h0,m,h2,h3⟩⟩ := h
 · exact absurd (hr.uniq (ChkErr.of_right ha)) h1
 · subst h0;exact ⟨f,m,he,hb,h2,h3⟩
theorem Clz.uniq {a : Au} {c d : List Int} {m k : Nat} (h : Clz a c m) (g : Clz a d k) (hl : c.length = d.length) : c = d := canon_uniq h.can g.can hl h.eq g.eq
theorem MinB.uniq {a m k : Au} (ha : a.Right) (h : MinB a m) (g : MinB a k) : m = k := MinG.uniq (h.mini ha).g (g.mini ha).g (by rw [(h.mini ha).al,(g.mini ha).al])
theorem classes_count {a m : Au} {c : List Int} {k : Nat} (ha : a.Right) (h0 : 0 < a.n) (hl : c.length = a.n.toNat) (hcz : Clz a c k) (hcons : ConsV a c) (hm : MinB a m) {R D : List Int} (hR : ∀ t,t ∈ R ↔ 0 ≤ t ∧ ∃ w,rn a w = t) (hD : D.Nodup) (hmem : ∀ y,y ∈ D ↔ ∃ t,t ∈ R ∧ y = clsV c t) : (D.length : Int) = m.n := by
 obtain ⟨c',k',l',can',eq',mg⟩ := hm;obtain rfl : c' = c := Clz.uniq (a := a) ⟨can',eq'⟩ hcz (by rw [l',hl]);have num := mg.num ha h0 hl hcons;obtain ⟨ws,hwl,_,hw⟩ := num.num.ws num.rt;have m0 := num.rt.n0;have at_ : ∀ (i : Nat) (hi : i < ws.length),rn m ws[i] = (i : Int) := fun i hi => (hw i _ (List.getElem?_eq_getElem hi)).is;obtain ⟨Fs,hFs⟩ : ∃ Fs,Fs = ws.map fun w => clsV c' (rn a w) := ⟨_,rfl⟩
 have nd : Fs.Nodup := by
  rw [hFs,List.Nodup,List.pairwise_map,List.pairwise_iff_getElem];intro i j hi hj hij h;have h1 := at_ i hi;have h2 := at_ j hj;have := (num.eq ws[i] ws[j] (by rw [h1]; omega) (by rw [h2]; omega)).2 h;omega
 have mem : ∀ y,y ∈ Fs ↔ y ∈ D := fun y => by
  rw [hmem,hFs,List.mem_map];constructor
  · rintro ⟨w,hw2,rfl⟩;obtain ⟨i,hi,rfl⟩ := List.mem_iff_getElem.1 hw2;exact ⟨_,(hR _).2 ⟨(num.gen _).1 (by rw [at_ i hi]; omega),_,rfl⟩,rfl⟩
  · rintro ⟨t,ht,rfl⟩;obtain ⟨t0,w,rfl⟩ := (hR t).1 ht;have g0 := (num.gen w).2 t0;rcases num.rt.rn_cases w with g | g
    · omega
    · obtain ⟨i,hi⟩ := Int.eq_ofNat_of_zero_le g.1;have hil : i < ws.length := by omega
      exact ⟨ws[i],List.getElem_mem hil,(num.eq _ _ (by rw [at_ i hil]; omega) g0).1 (by rw [at_ i hil,hi])⟩
 have hp : Fs.Perm D := (List.perm_ext_iff_of_nodup nd hD).2 mem;have := hp.length_eq;rw [hFs,List.length_map] at this;omega
section
inductive Fwd (a : Au) (pm : Ed → Bool) (F : List Int) : Int → Prop
 | base (x : Int) : x ∈ F → Fwd a pm F x
 | step (x : Ed) : Fwd a pm F x.src → x ∈ a.ed → pm x = true → Fwd a pm F x.dst
def unseen (N : Nat) (see : Int → Bool) : Nat := (List.range N).countP fun t : Nat => !see (t : Int)
theorem unseen_set {N : Nat} {see : Int → Bool} {d : Int} (h0 : 0 ≤ d) (h1 : d < N) (hd : see d = false) : unseen N (fun t => decide (t = d) || see t) + 1 = unseen N see := by
 obtain ⟨k,rfl⟩ := Int.eq_ofNat_of_zero_le h0;have hk : k < N := by omega
 have key : ∀ n : Nat,unseen n (fun t => decide (t = (k : Int)) || see t) + (if k < n then 1 else 0) = unseen n see := by
  intro n;induction n with
  | zero => simp [unseen]
  | succ n ih =>
    have e : ∀ f : Int → Bool,unseen (n + 1) f = unseen n f + (if f (n : Int) = false then 1 else 0) := fun f => by
     unfold unseen
     rw [List.range_succ,List.countP_append];cases hf : f (n : Int) <;> simp [hf]
    rw [e,e see,← ih];by_cases hn : n = k
    · subst hn;simp [hd]
    · have e1 : decide ((n : Int) = (k : Int)) = false := decide_eq_false (by omega);have e2 : (k < n + 1) ↔ (k < n) := by omega
      simp only [e1,Bool.false_or,e2];omega
 have := key N;rw [if_pos hk] at this;exact this
section
variable {a : Au} {pm : Ed → Bool} {F : List Int} {N : Nat}
structure FInv (a : Au) (pm : Ed → Bool) (F : List Int) (N : Nat) (see : Int → Bool) (q : List Int) : Prop where
 so : ∀ t,see t = true → Fwd a pm F t
 fr : ∀ x,x ∈ F → see x = true
 cl : ∀ t,see t = true → ¬ t ∈ q → ∀ x,x ∈ a.ed → x.src = t → pm x = true → see x.dst = true
 qs : ∀ x,x ∈ q → 0 ≤ x ∧ x < N ∧ see x = true
 ct : q.length + unseen N see ≤ F.length + N
structure FMid (a : Au) (pm : Ed → Bool) (F : List Int) (N : Nat) (s : Int) (L : List Ed) (k : Nat) (see : Int → Bool) (q : List Int) : Prop where
 so : ∀ t,see t = true → Fwd a pm F t
 fr : ∀ x,x ∈ F → see x = true
 cl : ∀ t,see t = true → ¬ t ∈ q → t ≠ s → ∀ x,x ∈ a.ed → x.src = t → pm x = true → see x.dst = true
 qs : ∀ x,x ∈ q → 0 ≤ x ∧ x < N ∧ see x = true
 ss : see s = true
 cs : ∀ (j : Nat) x,j < k → L[j]? = some x → pm x = true → see x.dst = true
 ct : q.length + unseen N see + 1 ≤ F.length + N
theorem FInv.start (hF : ∀ x,x ∈ F → 0 ≤ x ∧ x < N) : FInv a pm F N (fun t => decide (t ∈ F)) F := by
 refine ⟨fun t h => .base t (of_decide_eq_true h),fun x hx => decide_eq_true hx,fun t h hn => absurd (of_decide_eq_true h) hn,fun x hx => ⟨(hF x hx).1,(hF x hx).2,decide_eq_true hx⟩,?_⟩;have : unseen N (fun t => decide (t ∈ F)) ≤ N := by
  have := List.countP_le_length (p := fun t : Nat => !(fun t => decide (t ∈ F)) (t : Int)) (l := List.range N);simpa [unseen] using this
 omega
theorem FInv.pop {see : Int → Bool} {s : Int} {q : List Int} (h : FInv a pm F N see (s :: q)) (L : List Ed) : FMid a pm F N s L 0 see q :=
 ⟨h.so,h.fr,fun t ht hn hs => h.cl t ht (by simp [hs,hn]),fun x hx => h.qs x (by simp [hx]),(h.qs s (by simp)).2.2,fun j x hj => absurd hj (by omega),by have := h.ct; simp only [List.length_cons] at this; omega⟩
theorem FMid.skip {s : Int} {L : List Ed} {k : Nat} {see : Int → Bool} {q : List Int} (h : FMid a pm F N s L k see q) {x : Ed} (hx : L[k]? = some x) (hs : see x.dst = true ∨ pm x = false) : FMid a pm F N s L (k + 1) see q :=
 ⟨h.so,h.fr,h.cl,h.qs,h.ss,fun j y hj hy hp => by
  by_cases e : j = k
  · subst e; rw [hx] at hy; cases hy;rcases hs with g | g
    · exact g
    · rw [g] at hp; cases hp
  · exact h.cs j y (by omega) hy hp,h.ct⟩
theorem FMid.push {s : Int} {L : List Ed} {k : Nat} {see : Int → Bool} {q : List Int} (h : FMid a pm F N s L k see q) (hL : ∀ x,x ∈ L → x ∈ a.ed ∧ x.src = s) {x : Ed} (hx : L[k]? = some x) (hp : pm x = true) (h0 : 0 ≤ x.dst) (h1 : x.dst < N) (hn : see x.dst = false) :
 FMid a pm F N s L (k + 1) (fun t => decide (t = x.dst) || see t) (q ++ [x.dst]) := by
 obtain ⟨hxe,hxs⟩ := hL x (List.mem_of_getElem? hx);refine ⟨fun t ht => ?_,fun y hy => ?_,fun t ht hn2 hts y hy hys hyp => ?_,fun y hy => ?_,?_,fun j y hj hy hyp => ?_,?_⟩
 · simp only [Bool.or_eq_true,decide_eq_true_eq] at ht;rcases ht with rfl | ht
   · exact .step x (by rw [hxs]; exact h.so s h.ss) hxe hp
   · exact h.so t ht
 · simp [h.fr y hy]
 · simp only [Bool.or_eq_true,decide_eq_true_eq] at ht;rcases ht with rfl | ht
   · exact absurd (by simp) hn2
   · simp [h.cl t ht (fun g => hn2 (by simp [g])) hts y hy hys hyp]
 · rcases List.mem_append.1 hy with g | g
   · have := h.qs y g;exact ⟨this.1,this.2.1,by simp [this.2.2]⟩
   · simp at g; subst g
     exact ⟨h0,h1,by simp⟩
 · simp [h.ss]
 · by_cases e : j = k
   · subst e; rw [hx] at hy; cases hy;simp
   · simp [h.cs j y (by omega) hy hyp]
 · have h2 := unseen_set h0 h1 hn;have h3 := h.ct;rw [List.length_append];simp only [List.length_singleton];omega
theorem FMid.fin {s : Int} {L : List Ed} {see : Int → Bool} {q : List Int} (h : FMid a pm F N s L L.length see q) (hL : ∀ x,x ∈ a.ed → x.src = s → x ∈ L) : FInv a pm F N see q := by
 refine ⟨h.so,h.fr,fun t ht hn x hx hxs hp => ?_,h.qs,by have := h.ct; omega⟩;by_cases e : t = s
 · subst e;obtain ⟨j,hj,rfl⟩ := List.mem_iff_getElem.1 (hL x hx hxs);exact h.cs j _ hj (List.getElem?_eq_getElem hj) hp
 · exact h.cl t ht hn e x hx hxs hp
theorem FInv.end_ {see : Int → Bool} (h : FInv a pm F N see []) (t : Int) : see t = true ↔ Fwd a pm F t := by
 refine ⟨h.so t,fun g => ?_⟩;induction g with
 | base x hx => exact h.fr x hx
 | step x _ hx hp ih => exact h.cl _ ih (by simp) x hx rfl hp
theorem fwd_run (hr : a.Right) (h0 : 0 < a.n) (t : Int) : Fwd a (fun _ => true) [0] t ↔ 0 ≤ t ∧ ∃ w,rn a w = t := by
 have hst : a.st = 0 := if_neg (by omega);constructor
 · intro h;induction h with
   | base x hx => simp at hx; subst hx; exact ⟨Int.le_refl _,[],hst⟩
   | step x _ hx _ ih =>
     obtain ⟨h1,w,hw⟩ := ih;have he := edge_next hr hx;refine ⟨he.2.2.2.1,w ++ [x.ev],?_⟩;rw [rn_snoc a w x.ev (by rw [hw]; exact h1),hw,he.1]
 · rintro ⟨h1,w,rfl⟩;have key : ∀ (w : List Int),0 ≤ rn a w → Fwd a (fun _ => true) [0] (rn a w) := by
    intro w;induction hw : w.length generalizing w with
    | zero =>
      intro _;obtain rfl := List.eq_nil_of_length_eq_zero hw;rw [rn_nil,hst];exact .base 0 (by simp)
    | succ n ih =>
      intro h0;obtain ⟨u,e,rfl⟩ : ∃ u e,w = u ++ [e] := ⟨w.dropLast,w.getLast (fun g => by rw [g] at hw; simp at hw),(List.dropLast_concat_getLast _).symm⟩;have hu := rn_pre h0;have := ih u (by simp at hw; exact hw) hu;rw [rn_snoc a u e hu] at h0 ⊢;rcases hr.next_cases (rn a u) e with g | ⟨_,_,x,hx,x1,x2,x3⟩
      · omega
      · rw [← x3];exact .step x (by rw [x1]; exact this) hx rfl
   exact key w h1
end
end
end Go.Proofs.Ytjjifefanjnghaa
